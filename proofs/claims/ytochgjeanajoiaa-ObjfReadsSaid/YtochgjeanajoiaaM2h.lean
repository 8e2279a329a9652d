/- Written by hand (by a program of mine): the reference's Read (function 30). -/
import Derived.Test.YtochgjeanajoiaaM2q
import Derived.Test.YtochgjeanajoiaaM2rs
import Derived.Test.YtochgjeanajoiaaM2y
namespace Go.Proofs.Ytochgjeanajoiaa.HA
open Go.RowKit Go.Proofs.YtochgjeanajoiaaW.PrintWords Go.Proofs.YtochgjeanajoiaaW.PrintLast Go.Proofs.YtochgjeanajoiaaW.PrintMore
set_option linter.unusedVariables false
set_option linter.unusedSimpArgs false

def cotterref06_Read.f (s : ByteArray) : Option (ByteArray × List Int × List S32 × List S34 × Int) := if s.size ≤ 4611686018427387904 then some (readR (pBody s)) else none
theorem gB_keep {B : Nat} {w W W1 : World} {g : Nat} (h1 : Below B w W) (h2 : Below B w W1) (k : KeepBut W W1 g none) : W.grownBy W1 (some g) :=
  ⟨h2.os.trans h1.os.symm, h2.tape.trans h1.tape.symm, h2.output.trans h1.output.symm, k.1, fun i hi hne => k.2 i hi (fun e => hne (by rw [e])) (by simp)⟩
/-- The result's box, the object's, the reader. -/
structure RF (w W : World) (bo be g : Nat) (s : ByteArray) (p : Int) (bad : Bool) (code : ByteArray) (vd vy vr : Value) : Prop where
  bel : Below w.heap.size w W
  bo_ : w.heap.size ≤ bo
  be_ : w.heap.size ≤ be
  ne : bo ≠ be
  ho : W.heap[bo]? = some (.cells #[.string ⟨#[]⟩, .slice none 0 0, .slice none 0 0, .slice none 0 0] 30 (0, 0))
  he : W.heap[be]? = some (.cells #[.string code, vd, vy, vr] 30 (0, 0))
  hg : IsS123 w W g s p bad
variable {bo be g : Nat} {w W W1 : World} {s : ByteArray} {p : Int} {bad : Bool} {code : ByteArray} {vd vy vr : Value} {ld : List Int} {ly : List S32} {lr : List S34}
theorem RF.size (h : RF w W bo be g s p bad code vd vy vr) : w.heap.size ≤ W.heap.size := h.bel.size
theorem RF.blk (h : RF w W bo be g s p bad code vd vy vr) : W.heap[g]? = some (.cells #[.string s, .int .i64 p, .bool bad] 123 (0, 0)) := h.hg.1
theorem RF.ne_g (h : RF w W bo be g s p bad code vd vy vr) : bo ≠ g := blk_apart h.ho h.blk (by decide)
theorem RF.ne_eg (h : RF w W bo be g s p bad code vd vy vr) : be ≠ g := blk_apart h.he h.blk (by decide)
theorem RF.read (h : RF w W bo be g s p bad code vd vy vr) {p' : Int} {bad' : Bool} (hk : KeepBut W W1 g none) (hg : IsS123 w W1 g s p' bad') (hb : Below w.heap.size w W1) : RF w W1 bo be g s p' bad' code vd vy vr :=
  have hb2 := gB_keep h.bel hb hk
  ⟨hb, h.bo_, h.be_, h.ne, blk_grown h.ho hb2 (fun e => h.ne_g (Option.some.inj e)), blk_grown h.he hb2 (fun e => h.ne_eg (Option.some.inj e)), hg⟩
theorem RF.below (h : RF w W bo be g s p bad code vd vy vr) (hb : Below W.heap.size W W1) : RF w W1 bo be g s p bad code vd vy vr :=
  ⟨h.bel.trans (below_weaken' h.size hb), h.bo_, h.be_, h.ne, blk_below h.ho hb, blk_below h.he hb, h.hg.below hb⟩
theorem RF.set (h : RF w W bo be g s p bad code vd vy vr) (i : Nat) (u : Value) (code' : ByteArray) (cd' cy' cr' : Value) (e : (#[.string code, vd, vy, vr] : Array Value).setIfInBounds i u = #[.string code', cd', cy', cr']) : RF w (W.setCell ⟨be, i, none⟩ u) bo be g s p bad code' cd' cy' cr' :=
  ⟨h.bel.setCell h.be_ u, h.bo_, h.be_, h.ne, (Below.heap_setCell W _ u bo h.ne).trans h.ho, blk_put h.he i u e, h.hg.far (fun e => h.ne_eg e.symm) u⟩
theorem RF.row (h : RF w W bo be g s p bad code vd vy vr) {α : Type} {d : Kd α} {e : Nat} {v : Value} {xs : List α} {ok : Nat → Prop} (hr : d.R e W w.heap.size ok v xs) (h1 : e ≠ 30) (h2 : e ≠ 123) (hb : W.grownBy W1 v.ownBlock) : RF w W1 bo be g s p bad code vd vy vr :=
  ⟨h.bel.trans (gB_below hb h.size (fun k e => Kd.R_base hr k e)), h.bo_, h.be_, h.ne, blk_grown h.ho hb (Kd.R_ne hr h.ho h1), blk_grown h.he hb (Kd.R_ne hr h.he h1), h.hg.grown hb (Kd.R_ne hr h.blk h2)⟩
theorem RWs.keep (h : RWs w.heap.size W vd vy vr ld ly lr) (hx : RF w W bo be g s p bad code vd vy vr) (hk : KeepBut W W1 g none) (hb : Below w.heap.size w W1) : RWs w.heap.size W1 vd vy vr ld ly lr :=
  h.grown hx.blk (by decide) (by decide) (by decide) (gB_keep hx.bel hb hk)
theorem RWs.setE {vd' vy' vr' : Value} (h : RWs w.heap.size W vd' vy' vr' ld ly lr) (hx : RF w W bo be g s p bad code vd vy vr) (i : Nat) (u : Value) : RWs w.heap.size (W.setCell ⟨be, i, none⟩ u) vd' vy' vr' ld ly lr :=
  h.grown hx.he (by decide) (by decide) (by decide) (Lib.grownBy_setCell W be i u)
def ReadPost2 (w : World) (r : ByteArray × List Int × List S32 × List S34 × Int) (e : Ending) (w' : World) : Prop :=
  ∃ v1_ v2_ v3_ : Value, e = .returned (.tuple #[.agg #[.string r.1, v1_, v2_, v3_], .int .i64 r.2.2.2.2]) ∧ Kd.R (Kd.int .i64) 2 w' w.heap.size (fun _ => True) v1_ r.2.1 ∧ Kd.R k32 32 w' w.heap.size (fun _ => True) v2_ r.2.2.1 ∧ Kd.R k34 34 w' w.heap.size (fun _ => True) v3_ r.2.2.2.1 ∧ Below w.heap.size w w'
theorem RF.box {b : Nat} {c : Array Value} (h : RF w W bo be g s p bad code vd vy vr) (hc : W.heap[b]? = some (.cells c 34 (0, 0))) (hb0 : w.heap.size ≤ b) (hb : W.grownBy W1 (some b)) : RF w W1 bo be g s p bad code vd vy vr :=
  ⟨h.bel.trans (gB_below hb h.size (fun k e => by cases e; exact hb0)), h.bo_, h.be_, h.ne, blk_grown h.ho hb (fun e => blk_apart h.ho hc (by decide) (Option.some.inj e)), blk_grown h.he hb (fun e => blk_apart h.he hc (by decide) (Option.some.inj e)), h.hg.grown hb (fun e => blk_apart h.blk hc (by decide) (Option.some.inj e))⟩
theorem RWs.box {b : Nat} {c : Array Value} (h : RWs w.heap.size W vd vy vr ld ly lr) (hc : W.heap[b]? = some (.cells c 34 (0, 0))) (hne : some b ≠ vr.ownBlock) (hb : W.grownBy W1 (some b)) : RWs w.heap.size W1 vd vy vr ld ly lr :=
  ⟨Kd.R_grown1 h.d rfl hb (Kd.R_ne h.d hc (by decide)), Kd.R_grown1 h.y rfl hb (Kd.R_ne h.y hc (by decide)), Kd.R_grown1 h.r rfl hb hne⟩
theorem blk_keep {b t : Nat} {c : Array Value} (hx : RF w W bo be g s p bad code vd vy vr) (hc : W.heap[b]? = some (.cells c t (0, 0))) (ht : t ≠ 123) (hk : KeepBut W W1 g none) : W1.heap[b]? = some (.cells c t (0, 0)) :=
  hk.blk hc (blk_apart hc hx.blk ht) (by simp)
/-- The relations, of the form whose beginning has been read. -/
def pRels (s : ByteArray) : Option (List S34 × Nat) := (pFront ⟨#[67, 79, 84, 49]⟩ s).bind fun f => (pNum s 8000 f.2).bind fun n => pMany (pRel s) n.1 n.2
theorem pRels_start {s : ByteArray} {n : Nat} (h : ∀ r, ((pFront ⟨#[67, 79, 84, 49]⟩ s).map Prod.snd).bind (pNum s 8000) = some r → n = r.1) : pRels s = pFrom (pRel s) n [] ((((pFront ⟨#[67, 79, 84, 49]⟩ s).map Prod.snd).bind (pNum s 8000)).map Prod.snd) := by
  unfold pRels pFrom
  rcases hf : pFront ⟨#[67, 79, 84, 49]⟩ s with _ | f
  · rfl
  · rw [hf] at h
    simp only [Option.map_some, Option.bind_some] at h ⊢
    rcases hq : pNum s 8000 f.2 with _ | r
    · rfl
    · have := h r hq
      subst this
      simp only [Option.bind_some, Option.map_some, List.nil_append]
      rcases pMany (pRel s) r.1 r.2 with _ | q <;> rfl
theorem pBody_none {s : ByteArray} (h : pRels s = none) : pBody s = none := by
  rw [pBody_front]
  unfold pRels at h
  rcases hf : pFront ⟨#[67, 79, 84, 49]⟩ s with _ | f
  · rfl
  · rw [hf] at h
    simp only [Option.bind_some] at h ⊢
    rcases hq : pNum s 8000 f.2 with _ | r
    · rfl
    · rw [hq] at h
      simp only [Option.bind_some] at h ⊢
      rw [h]; rfl
theorem pBody_some {s : ByteArray} {l : List S34} {a : Nat} {code : ByteArray} {d : List Int} {y : List S32} (h : pRels s = some (l, a)) (hf : ∀ r, pFront ⟨#[67, 79, 84, 49]⟩ s = some r → (code, d, y) = r.1) : pBody s = if a = s.size ∧ checkOk code d y l = true then some (code, d, y, l) else none := by
  rw [pBody_front]
  unfold pRels at h
  obtain ⟨f, h1, h⟩ := Option.bind_eq_some_iff.1 h
  obtain ⟨n, h2, h⟩ := Option.bind_eq_some_iff.1 h
  have := hf f h1
  rw [h1]
  simp only [Option.bind_some]
  rw [h2]
  simp only [Option.bind_some]
  rw [h]
  simp only [Option.bind_some, ← this]
theorem rread_results {tmps : Array Value} {bo : Nat} {c : ByteArray} {v1 v2 v3 : Value} {n : Int} {W : World} (h2 : tmps[2]? = some (.pointer (some ⟨bo, 0, none⟩))) (h3 : tmps[3]? = some (.int .i64 n))
    (ho : W.heap[bo]? = some (.cells #[.string c, v1, v2, v3] 30 (0, 0))) (o1 : v1.oneCell' = true) (o2 : v2.oneCell' = true) (o3 : v3.oneCell' = true) :
    (results Try.f30 tmps).run Try.prog W = .ok (.tuple #[.agg #[.string c, v1, v2, v3], .int .i64 n]) W := by
  have q0 := (blk_cell ho 0).trans rfl
  have q1 := (blk_cell ho 1).trans rfl
  have q2 := (blk_cell ho 2).trans rfl
  have q3 := (blk_cell ho 3).trans rfl
  have hu30 := Try.underlying30
  simp [results, Try.results30, h2, h3, go_sem, q0, q1, q2, q3]

set_option maxRecDepth 100000 in
set_option maxHeartbeats 16000000 in
theorem rread_calls (a0 : ByteArray) (w : World) (hs : a0.size ≤ 4611686018427387904) :
    Calls Try.prog 30 #[.string a0] w (ReadPost2 w (readR (pBody a0))) := by
  obtain ⟨k0, code, d0, l0, p0, bad0, hf0, st0, rf0, ld0, ll0⟩ := front_q (mark := ⟨#[67, 79, 84, 49]⟩) hs
  obtain ⟨n4, p4, bad4, hf4, g4, st4, rf4⟩ := num_q (most := 8000) (k := 40) hs (Nat.le_refl _) (by omega) st0
  have HF0 := Aside0.mk hf0; have RF0 := Aside0.mk rf0; have HF4 := Aside0.mk (show cotterref06_Reader_Number.f 40 a0 p0 bad0 8000 = some ((n4 : Int), a0, p4, bad4) from hf4); have ST4 := Aside0.mk st4
  have PS := Aside0.mk (pRels_start rf4)
  obtain ⟨o4, ho4⟩ : ∃ o4, o4 = (((pFront ⟨#[67, 79, 84, 49]⟩ a0).map Prod.snd).bind (pNum a0 8000)).map Prod.snd := ⟨_, rfl⟩
  rw [← ho4] at ST4 PS
  clear hf0 rf0 hf4 st4 rf4 st0 ho4
  have hu30 := Try.underlying30
  have hu34 := Try.underlying34
  have hu123 := Try.underlying123
  go_enter Try.func30, Try.ntmps30
  go_wp2_with (first
    | ((with_reducible refine gate_dst (N := 2) rfl ?_); refine box_event ?hg (N := 2) ?hd (cs := #[.string ⟨#[]⟩, .slice none 0 0, .slice none 0 0, .slice none 0 0]) (t := 30) ?hr ?_; (case hd => rfl); (case hg => rfl); (case hr => first | (go_simp; done) | (go_simp; rfl)); go_must (intro bo hg w_bo hbox hb; have G1 := Aside0.mk (show w.heap.size ≤ bo from by rw [hg]; exact Nat.le_refl _); have K1 := Aside0.mk hbox; have L1 := Aside0.mk hb; clear hg hbox hb))
    | ((with_reducible refine gate_dst (N := 11) rfl ?_); refine box_event ?hg (N := 11) ?hd (cs := #[.string a0, .int .i64 0, .bool false]) (t := 123) ?hr ?_; (case hd => rfl); (case hg => rfl); (case hr => first | (go_simp; done) | (go_simp; rfl)); go_must (intro g hg w_g hbox hb; have G2 := Aside0.mk (show w.heap.size ≤ g from by rw [hg]; exact L1.out.size); have K2 := Aside0.mk hbox; have K1' := Aside0.mk (blk_below K1.out hb); have L2 := Aside0.mk (below_step L1.out hb); clear hg hbox hb K1 L1))
    | ((with_reducible refine gate_dst (N := 5) rfl ?_); refine box_event ?hg (N := 5) ?hd (cs := #[.string ⟨#[]⟩, .slice none 0 0, .slice none 0 0, .slice none 0 0]) (t := 30) ?hr ?_; (case hd => rfl); (case hg => rfl); (case hr => first | (go_simp; done) | (go_simp; rfl)); go_must (intro be hg w_be hbox hb; have G3 := Aside0.mk (show w.heap.size ≤ be from by rw [hg]; exact L2.out.size); have NE := Aside0.mk (show bo ≠ be from by rw [hg]; exact Nat.ne_of_lt (blk_lt K1'.out)); have HX := Aside0.mk (RF.mk (w := w) (below_step L2.out hb) G1.out G3.out NE.out (blk_below K1'.out hb) hbox ⟨blk_below K2.out hb, G2.out⟩); have HR := Aside0.mk (RWs.nil w.heap.size w_be); clear hg hbox hb K1' K2 L2 NE; have q0 := (blk_cell HX.out.he 0).trans rfl; have q1 := (blk_cell HX.out.he 1).trans rfl; have q2 := (blk_cell HX.out.he 2).trans rfl; have z0 := blk_frozen HX.out.he 0; have z1 := blk_frozen HX.out.he 1; have z2 := blk_frozen HX.out.he 2))
    | (go_at_call 72; go_must (refine (cotterref06_Reader_Front.calls k0 g a0 0 false ⟨#[67, 79, 84, 49]⟩ code d0 l0 a0 p0 bad0 w _ HX.out.hg HX.out.bel HF0.out).mono ?_; rintro e w1 ⟨v1, v2, rfl, hv1, hv2, hI, hB, hk⟩; have HX1 := Aside0.mk (HX.out.read hk hI hB); have HV1 := Aside0.mk (Kd.R_lower hv1 HX.out.size); have HV2 := Aside0.mk (Kd.R_lower hv2 HX.out.size); clear hv1 hv2 hI hB hk q0 q1 q2 z0 z1 z2 HX HR; obtain ⟨A1, c1, rfl⟩ := Kd.R_slice HV1.out; obtain ⟨A2, c2, rfl⟩ := Kd.R_slice HV2.out; have HX := HX1; clear HX1; have q0 := (blk_cell HX.out.he 0).trans rfl; have q1 := (blk_cell HX.out.he 1).trans rfl; have q2 := (blk_cell HX.out.he 2).trans rfl; have z0 := blk_frozen HX.out.he 0; have z1 := blk_frozen HX.out.he 1; have z2 := blk_frozen HX.out.he 2))
    | (go_at_call 73; go_must (have HX3 := Aside0.mk (((HX.out.set 0 (.string code) code _ _ _ rfl).set 1 (.slice A1 d0.length c1) code _ _ _ rfl).set 2 (.slice A2 l0.length c2) code _ _ _ rfl); have HR0 : RWs w.heap.size w1 (.slice A1 d0.length c1) (.slice A2 l0.length c2) (.slice none 0 0) d0 l0 [] := ⟨HV1.out, HV2.out, Kd.R_nil _ _ _ _ _⟩; have HR3 := Aside0.mk (((HR0.setE HX.out 0 (.string code)).setE (HX.out.set 0 (.string code) code _ _ _ rfl) 1 (.slice A1 d0.length c1)).setE ((HX.out.set 0 (.string code) code _ _ _ rfl).set 1 (.slice A1 d0.length c1) code _ _ _ rfl) 2 (.slice A2 l0.length c2)); clear HR0 HX HV1 HV2 q0 q1 q2 z0 z1 z2; (with_reducible refine (cotterref06_Reader_Number.calls 40 g a0 p0 bad0 8000 (n4 : Int) a0 p4 bad4 w _ HX3.out.hg HX3.out.bel HF4.out).mono ?_); rintro e w4 ⟨rfl, hI, hB, hk⟩; have HX := Aside0.mk (HX3.out.read hk hI hB); have HR := Aside0.mk (HR3.out.keep HX3.out hk hB); clear HX3 HR3 hI hB hk)))
  go_loopw [7] (fun i wr => ∃ (lr : List S34) (vr : Value) (o : Option Nat) (p : Int) (bad : Bool), i = .int .i64 (lr.length : Int) ∧ lr.length ≤ n4 ∧ Aside0 (St a0 o p bad) ∧ Aside0 (pRels a0 = pFrom (pRel a0) (n4 - lr.length) lr o) ∧ Aside0 (RF w wr bo be g a0 p bad code (.slice A1 d0.length c1) (.slice A2 l0.length c2) vr) ∧ Aside0 (RWs w.heap.size wr (.slice A1 d0.length c1) (.slice A2 l0.length c2) vr d0 l0 lr)) (fun i _ => n4 - (intOf i).toNat)
  case atStart => exact ⟨[], _, o4, p4, bad4, rfl, Nat.zero_le _, ST4, PS, HX, HR⟩
  case round =>
    clear HX HR ST4 PS HF0 HF4
    obtain ⟨lr, vr, o, p, bad, rfl, hlr, ST, PS, HX, HR⟩ := hrel
    obtain ⟨A3, c3, rfl⟩ := Kd.R_slice HR.out.r
    have q0 := (blk_cell HX.out.he 0).trans rfl
    have q1 := (blk_cell HX.out.he 1).trans rfl
    have q2 := (blk_cell HX.out.he 2).trans rfl
    have q3 := (blk_cell HX.out.he 3).trans rfl
    have z0 := blk_frozen HX.out.he 0
    have z1 := blk_frozen HX.out.he 1
    have z2 := blk_frozen HX.out.he 2
    have z3 := blk_frozen HX.out.he 3
    have r0 := (blk_cell HX.out.blk 0).trans rfl
    have r1 := (blk_cell HX.out.blk 1).trans rfl
    have r2 := (blk_cell HX.out.blk 2).trans rfl
    by_cases hgo : lr.length < n4 ∧ bad = false
    · obtain ⟨hlt, rfl⟩ := hgo
      obtain ⟨a, rfl, rfl, ha⟩ : ∃ a : Nat, o = some a ∧ p = (a : Int) ∧ a ≤ a0.size := by
        rcases ST.out with ⟨a, h1, h2, h3, h4⟩ | ⟨h1, h2, h3⟩
        · exact ⟨a, h1, h2, h4⟩
        · cases h2
      obtain ⟨x1, p1, b1, f1, g1, s1, t1⟩ := num_q (most := 65536) (k := 40) hs (Nat.le_refl _) (by omega) (St.some ha)
      obtain ⟨x2, p2, b2, f2, s2, t2⟩ := one_q hs s1
      obtain ⟨x3, p3, b3, f3, g3, s3, t3⟩ := num_q (most := 28) (k := 40) hs (Nat.le_refl _) (by omega) s2
      obtain ⟨x4, p5, b5, f4, g5, s5, t5, _⟩ := bytes_q (n := x3) hs (by omega) s3
      obtain ⟨x5, p6, b6, f5, s6, t6⟩ := wide_q (k := 10) hs (Nat.le_refl _) s5
      obtain ⟨e1, e2⟩ := rel_key t1 t2 t3 t5 t6
      rw [← e1] at s6
      have ST6 := Aside0.mk s6
      have PS6 : Aside0 (pRels a0 = pFrom (pRel a0) (n4 - (lr ++ [(⟨(x1 : Int), x2, x4, x5⟩ : S34)]).length) (lr ++ [⟨(x1 : Int), x2, x4, x5⟩]) ((pRel a0 a).map Prod.snd)) := Aside0.mk (by
        rw [PS.out, show n4 - lr.length = (n4 - (lr ++ [(⟨(x1 : Int), x2, x4, x5⟩ : S34)]).length) + 1 from by rw [List.length_append, List.length_singleton]; omega, pFrom_step e2])
      have F1 := Aside0.mk (show cotterref06_Reader_Number.f 40 a0 (a : Int) false 65536 = some ((x1 : Int), a0, p1, b1) from f1); have F2 := Aside0.mk f2; have F3 := Aside0.mk (show cotterref06_Reader_Number.f 40 a0 p2 b2 28 = some ((x3 : Int), a0, p3, b3) from f3); have F4 := Aside0.mk f4; have F5 := Aside0.mk f5
      clear f1 f2 f3 f4 f5 s1 s2 s3 s5 s6 t1 t2 t3 t5 t6 e1 e2 g5 ST PS q0 q1 q2 q3 z0 z1 z2 z3
      have ta : True := trivial
      go_wp2_with (first
        | (go_at_call 73; have _t := ta; go_must ((with_reducible refine (cotterref06_Reader_Number.calls 40 g a0 (a : Int) false 65536 (x1 : Int) a0 p1 b1 w _ HX.out.hg HX.out.bel F1.out).mono ?_); rintro e wa ⟨rfl, hI, hB, hk⟩; have HXn := Aside0.mk (HX.out.read hk hI hB); have HRn := Aside0.mk (HR.out.keep HX.out hk hB); clear HX HR hI hB hk; have HX := HXn; have HR := HRn; clear HXn HRn; have tb : True := trivial; clear ta))
        | (go_at_call 74; go_must (have _t := tb; have hb := below_alloc (Below.refl wa.heap.size wa) (.cells #[.int .i64 (x1 : Int), .int .i64 0, .string ⟨#[]⟩, .int .i64 0] 34); have BX := Aside0.mk (blk_new wa (.cells #[.int .i64 (x1 : Int), .int .i64 0, .string ⟨#[]⟩, .int .i64 0] 34)); have BXG := Aside0.mk HX.out.size; have hnb : be ≠ wa.heap.size := Nat.ne_of_lt (blk_lt HX.out.he); have NEB : Aside0 (some wa.heap.size ≠ (Value.slice A3 lr.length c3).ownBlock) := Aside0.mk (Kd.R_ne_new HR.out.r 0); have HXn := Aside0.mk (HX.out.below hb); have HRn := Aside0.mk (HR.out.below hb); clear HX HR hb tb; have HX := HXn; have HR := HRn; clear HXn HRn; (with_reducible refine (cotterref06_Reader_One.calls g a0 p1 b1 x2 a0 p2 b2 w _ HX.out.hg HX.out.bel F2.out).mono ?_); rintro e wn ⟨rfl, hI, hB, hk⟩; have HXn := Aside0.mk (HX.out.read hk hI hB); have HRn := Aside0.mk (HR.out.keep HX.out hk hB); have BXn := Aside0.mk (blk_keep HX.out BX.out (by decide) hk); clear BX; have BX := BXn; clear BXn; clear HX HR hI hB hk; have HX := HXn; have HR := HRn; clear HXn HRn; have s0 := (blk_cell BX.out 0).trans rfl; have s1 := (blk_cell BX.out 1).trans rfl; have s2 := (blk_cell BX.out 2).trans rfl; have s3 := (blk_cell BX.out 3).trans rfl; have y1 := blk_frozen BX.out 1; have y2 := blk_frozen BX.out 2; have y3 := blk_frozen BX.out 3))
        | (go_at_call 73; go_must (have BXs := Aside0.mk (blk_put BX.out 1 (.int .i64 x2) rfl); have HXs := Aside0.mk (HX.out.box BX.out BXG.out (Lib.grownBy_setCell _ wa.heap.size 1 (.int .i64 x2))); have HRs := Aside0.mk (HR.out.box BX.out NEB.out (Lib.grownBy_setCell _ wa.heap.size 1 (.int .i64 x2))); clear BX HX HR s0 s1 s2 s3 y1 y2 y3; have BX := BXs; have HX := HXs; have HR := HRs; clear BXs HXs HRs; (with_reducible refine (cotterref06_Reader_Number.calls 40 g a0 p2 b2 28 (x3 : Int) a0 p3 b3 w _ HX.out.hg HX.out.bel F3.out).mono ?_); rintro e wn ⟨rfl, hI, hB, hk⟩; have HXn := Aside0.mk (HX.out.read hk hI hB); have HRn := Aside0.mk (HR.out.keep HX.out hk hB); have BXn := Aside0.mk (blk_keep HX.out BX.out (by decide) hk); clear BX; have BX := BXn; clear BXn; clear HX HR hI hB hk; have HX := HXn; have HR := HRn; clear HXn HRn; have s0 := (blk_cell BX.out 0).trans rfl; have s1 := (blk_cell BX.out 1).trans rfl; have s2 := (blk_cell BX.out 2).trans rfl; have s3 := (blk_cell BX.out 3).trans rfl; have y1 := blk_frozen BX.out 1; have y2 := blk_frozen BX.out 2; have y3 := blk_frozen BX.out 3))
        | (go_at_call 75; go_must ((with_reducible refine (cotterref06_Reader_Bytes.calls g a0 p3 b3 (x3 : Int) x4 a0 p5 b5 w _ HX.out.hg HX.out.bel F4.out).mono ?_); rintro e wn ⟨rfl, hI, hB, hk⟩; have HXn := Aside0.mk (HX.out.read hk hI hB); have HRn := Aside0.mk (HR.out.keep HX.out hk hB); have BXn := Aside0.mk (blk_keep HX.out BX.out (by decide) hk); clear BX; have BX := BXn; clear BXn; clear HX HR hI hB hk; have HX := HXn; have HR := HRn; clear HXn HRn; clear s0 s1 s2 s3 y1 y2 y3; have s0 := (blk_cell BX.out 0).trans rfl; have s1 := (blk_cell BX.out 1).trans rfl; have s2 := (blk_cell BX.out 2).trans rfl; have s3 := (blk_cell BX.out 3).trans rfl; have y1 := blk_frozen BX.out 1; have y2 := blk_frozen BX.out 2; have y3 := blk_frozen BX.out 3))
        | (go_at_call 76; go_must (have BXs := Aside0.mk (blk_put BX.out 2 (.string x4) rfl); have HXs := Aside0.mk (HX.out.box BX.out BXG.out (Lib.grownBy_setCell _ wa.heap.size 2 (.string x4))); have HRs := Aside0.mk (HR.out.box BX.out NEB.out (Lib.grownBy_setCell _ wa.heap.size 2 (.string x4))); clear BX HX HR s0 s1 s2 s3 y1 y2 y3; have BX := BXs; have HX := HXs; have HR := HRs; clear BXs HXs HRs; (with_reducible refine (cotterref06_Reader_Wide.calls 10 g a0 p5 b5 x5 a0 p6 b6 w _ HX.out.hg HX.out.bel F5.out).mono ?_); rintro e wn ⟨rfl, hI, hB, hk⟩; have HXn := Aside0.mk (HX.out.read hk hI hB); have HRn := Aside0.mk (HR.out.keep HX.out hk hB); have BXn := Aside0.mk (blk_keep HX.out BX.out (by decide) hk); clear BX; have BX := BXn; clear BXn; clear HX HR hI hB hk; have HX := HXn; have HR := HRn; clear HXn HRn; have s0 := (blk_cell BX.out 0).trans rfl; have s1 := (blk_cell BX.out 1).trans rfl; have s2 := (blk_cell BX.out 2).trans rfl; have s3 := (blk_cell BX.out 3).trans rfl; have y1 := blk_frozen BX.out 1; have y2 := blk_frozen BX.out 2; have y3 := blk_frozen BX.out 3; have q0 := (blk_cell HX.out.he 0).trans rfl; have q1 := (blk_cell HX.out.he 1).trans rfl; have q2 := (blk_cell HX.out.he 2).trans rfl; have q3 := (blk_cell HX.out.he 3).trans rfl; have z0 := blk_frozen HX.out.he 0; have z1 := blk_frozen HX.out.he 1; have z2 := blk_frozen HX.out.he 2; have z3 := blk_frozen HX.out.he 3))
        | (at_builtin; go_must (have BXs := Aside0.mk (blk_put BX.out 3 (.int .i64 x5) rfl); have HXs := Aside0.mk (HX.out.box BX.out BXG.out (Lib.grownBy_setCell _ wa.heap.size 3 (.int .i64 x5))); have HRs := Aside0.mk (HR.out.box BX.out NEB.out (Lib.grownBy_setCell _ wa.heap.size 3 (.int .i64 x5))); clear BX HX HR s0 s1 s2 s3 y1 y2 y3; have BX := BXs; have HX := HXs; have HR := HRs; clear BXs HXs HRs; refine Kd.R_append k34 (w0 := w) w.heap.size rfl _ _ 28 34 (.agg #[(.int .i64 0), (.int .i64 0), (.string ⟨#[]⟩), (.int .i64 0)]) 40 rfl Try.underlying28 info34 rfl (by decide) (by decide) (.slice A3 lr.length c3) lr ⟨(x1 : Int), x2, x4, x5⟩ [.int .i64 (x1 : Int), .int .i64 x2, .string x4, .int .i64 x5] (fun _ => True) (fun _ => False) rfl (by first | rfl | (simp [Act.eval]; done)) (k34_mkM _ _ _ ⟨(x1 : Int), x2, x4, x5⟩) (fun _ h => h.elim) (fun _ _ => trivial) HR.out.r HX.out.bel HX.out.size (by omega) ?_; intro v9 w9 hr9 _ hg9 _; clear q0 q1 q2 q3 z0 z1 z2 z3; obtain ⟨A9, c9, rfl⟩ := Kd.R_slice hr9; have HXn := Aside0.mk (HX.out.row HR.out.r (by decide) (by decide) hg9); have HRn := Aside0.mk (HR.out.app_r hr9 hg9); clear HX HR hr9 hg9 BX NEB; have HX := HXn; have HR := HRn; clear HXn HRn; have q0 := (blk_cell HX.out.he 0).trans rfl; have q1 := (blk_cell HX.out.he 1).trans rfl; have q2 := (blk_cell HX.out.he 2).trans rfl; have q3 := (blk_cell HX.out.he 3).trans rfl; have z0 := blk_frozen HX.out.he 0; have z1 := blk_frozen HX.out.he 1; have z2 := blk_frozen HX.out.he 2; have z3 := blk_frozen HX.out.he 3)))
      have hlen : (lr ++ [(⟨(x1 : Int), x2, x4, x5⟩ : S34)]).length = lr.length + 1 := by simp
      go_roundw
      case rel =>
        have HXs := HX.out.set 3 (.slice A9 (lr.length + 1) c9) code _ _ _ rfl
        have HRs := HR.out.setE HX.out 3 (.slice A9 (lr.length + 1) c9)
        rw [hlen] at HRs
        exact ⟨lr ++ [⟨(x1 : Int), x2, x4, x5⟩], .slice A9 (lr.length + 1) c9, _, p6, b6, by rw [hlen]; go_num, by omega, ST6, PS6, ⟨HXs⟩, ⟨HRs⟩⟩
      case measure => simp [intOf]; omega
    · by_cases hb : bad = true
      · subst hb
        have HV : Aside0 (readR (pBody a0) = (⟨#[]⟩, [], [], [], 9)) := Aside0.mk (by
          obtain rfl : o = none := by
            rcases ST.out with ⟨a, h1, h2, h3, h4⟩ | ⟨h1, h2, h3⟩
            · cases h3
            · exact h1
          rw [pBody_none (PS.out.trans pFrom_none)]; rfl)
        clear ST PS
        by_cases hlt : lr.length < n4
        all_goals
          go_wp2_with (first
            | ((with_reducible refine gate_store (p := 2) rfl ?_); go_must (refine row_event rfl 30 _ _ rfl bo #[.string ⟨#[]⟩, .slice none 0 0, .slice none 0 0, .slice none 0 0] _ (by rfl) (by rfl) HX.out.ho (by kernel_rfl) (by rfl) (by kernel_rfl) ?_; intro wz hz hgz hBz; have ZO := Aside0.mk hz; have ZB := Aside0.mk (HX.out.bel.trans (hBz _ HX.out.bo_)); have ZR := Aside0.mk (HR.out.grown HX.out.ho (by decide) (by decide) (by decide) hgz); clear hz hgz hBz q0 q1 q2 q3 z0 z1 z2 z3 r0 r1 r2 HX HR)))
          exact bodyPost_ret (v := .tuple #[.agg #[.string ⟨#[]⟩, .slice none 0 0, .slice none 0 0, .slice none 0 0], .int .i64 9]) (rread_results rfl rfl ZO.out rfl rfl rfl) rfl (by rw [HV.out]; exact ⟨_, _, _, rfl, Kd.R_nil _ _ _ _ _, Kd.R_nil _ _ _ _ _, Kd.R_nil _ _ _ _ _, ZB.out⟩)
      · obtain rfl : bad = false := by simpa using hb
        obtain rfl : n4 = lr.length := by
          rcases Nat.lt_or_ge lr.length n4 with h | h
          · exact absurd ⟨h, rfl⟩ hgo
          · omega
        obtain ⟨a, rfl, rfl, ha⟩ : ∃ a : Nat, o = some a ∧ p = (a : Int) ∧ a ≤ a0.size := by
          rcases ST.out with ⟨a, h1, h2, h3, h4⟩ | ⟨h1, h2, h3⟩
          · exact ⟨a, h1, h2, h4⟩
          · cases h2
        have hps := PS.out
        rw [Nat.sub_self, pFrom_zero] at hps
        have HPB := Aside0.mk (pBody_some hps RF0.out)
        obtain ⟨_, hl1, hc1⟩ := Kd.R_reads' HR.out.d
        obtain ⟨_, hl2, hc2⟩ := Kd.R_reads' HR.out.y
        obtain ⟨_, hl3, hc3⟩ := Kd.R_reads' HR.out.r
        have HL1 := Aside0.mk hl1; have HL2 := Aside0.mk hl2; have HL3 := Aside0.mk hl3
        have HC1 := Aside0.mk hc1; have HC2 := Aside0.mk hc2; have HC3 := Aside0.mk hc3
        clear hps PS ST hgo hb hl1 hl2 hl3 hc1 hc2 hc3
        by_cases hae : a = a0.size
        · by_cases hok : checkOk code d0 l0 lr = true
          · obtain ⟨km, hkm⟩ := May_f code d0 l0 lr (by omega) (by omega)
            rw [hok] at hkm
            have HK := Aside0.mk hkm
            have HV : Aside0 (readR (pBody a0) = (code, d0, l0, lr, 0)) := Aside0.mk (by rw [HPB.out, if_pos ⟨hae, hok⟩]; rfl)
            clear hkm hok HPB
            have d1 : ((a : Int) = (a0.size : Int)) := by omega
            have d2 : ((a : Int) == (a0.size : Int)) = true := by simp; omega
            have d3 : ((a : Int) != (a0.size : Int)) = false := by simp; omega
            clear hae
            go_wp2_with (first
              | (go_at_call 59; go_must (refine (cotterref06_May.calls _ _ _ _ _ _ _ _ _ _ _ _ _ HC1.out HL1.out HC2.out HL2.out HC3.out HL3.out HK.out).mono ?_; rintro e w2 ⟨rfl, hb⟩; have HXn := Aside0.mk (HX.out.below hb); have HRn := Aside0.mk (HR.out.below hb); clear HX HR hb q0 q1 q2 q3 z0 z1 z2 z3 r0 r1 r2; have HX := HXn; have HR := HRn; clear HXn HRn; have q0 := (blk_cell HX.out.he 0).trans rfl; have q1 := (blk_cell HX.out.he 1).trans rfl; have q2 := (blk_cell HX.out.he 2).trans rfl; have q3 := (blk_cell HX.out.he 3).trans rfl; have z0 := blk_frozen HX.out.he 0; have z1 := blk_frozen HX.out.he 1; have z2 := blk_frozen HX.out.he 2; have z3 := blk_frozen HX.out.he 3; have r0 := (blk_cell HX.out.blk 0).trans rfl; have r1 := (blk_cell HX.out.blk 1).trans rfl; have r2 := (blk_cell HX.out.blk 2).trans rfl))
              | ((with_reducible refine gate_store (p := 2) rfl ?_); go_must (refine row_event rfl 30 _ _ rfl bo #[.string code, .slice A1 d0.length c1, .slice A2 l0.length c2, .slice A3 lr.length c3] _ (by rfl) (by rfl) HX.out.ho (by kernel_rfl) (by rfl) (by kernel_rfl) ?_; intro wz hz hgz hBz; have ZO := Aside0.mk hz; have ZB := Aside0.mk (HX.out.bel.trans (hBz _ HX.out.bo_)); have ZR := Aside0.mk (HR.out.grown HX.out.ho (by decide) (by decide) (by decide) hgz); clear hz hgz hBz q0 q1 q2 q3 z0 z1 z2 z3 r0 r1 r2 HX HR)))
            exact bodyPost_ret (v := .tuple #[.agg #[.string code, .slice A1 d0.length c1, .slice A2 l0.length c2, .slice A3 lr.length c3], .int .i64 0]) (rread_results rfl rfl ZO.out rfl rfl rfl) rfl (by rw [HV.out]; exact ⟨_, _, _, rfl, ZR.out.d, ZR.out.y, ZR.out.r, ZB.out⟩)
          · obtain ⟨km, hkm⟩ := May_f code d0 l0 lr (by omega) (by omega)
            have hok' : checkOk code d0 l0 lr = false := by simpa using hok
            rw [hok'] at hkm
            have HK := Aside0.mk hkm
            have HV : Aside0 (readR (pBody a0) = (⟨#[]⟩, [], [], [], 9)) := Aside0.mk (by rw [HPB.out, if_neg (fun h => hok h.2)]; rfl)
            clear hkm hok hok' HPB
            have d1 : ((a : Int) = (a0.size : Int)) := by omega
            have d2 : ((a : Int) == (a0.size : Int)) = true := by simp; omega
            have d3 : ((a : Int) != (a0.size : Int)) = false := by simp; omega
            clear hae
            go_wp2_with (first
              | (go_at_call 59; go_must (refine (cotterref06_May.calls _ _ _ _ _ _ _ _ _ _ _ _ _ HC1.out HL1.out HC2.out HL2.out HC3.out HL3.out HK.out).mono ?_; rintro e w2 ⟨rfl, hb⟩; have HXn := Aside0.mk (HX.out.below hb); have HRn := Aside0.mk (HR.out.below hb); clear HX HR hb q0 q1 q2 q3 z0 z1 z2 z3 r0 r1 r2; have HX := HXn; have HR := HRn; clear HXn HRn; have q0 := (blk_cell HX.out.he 0).trans rfl; have q1 := (blk_cell HX.out.he 1).trans rfl; have q2 := (blk_cell HX.out.he 2).trans rfl; have q3 := (blk_cell HX.out.he 3).trans rfl; have z0 := blk_frozen HX.out.he 0; have z1 := blk_frozen HX.out.he 1; have z2 := blk_frozen HX.out.he 2; have z3 := blk_frozen HX.out.he 3; have r0 := (blk_cell HX.out.blk 0).trans rfl; have r1 := (blk_cell HX.out.blk 1).trans rfl; have r2 := (blk_cell HX.out.blk 2).trans rfl))
              | ((with_reducible refine gate_store (p := 2) rfl ?_); go_must (refine row_event rfl 30 _ _ rfl bo #[.string ⟨#[]⟩, .slice none 0 0, .slice none 0 0, .slice none 0 0] _ (by rfl) (by rfl) HX.out.ho (by kernel_rfl) (by rfl) (by kernel_rfl) ?_; intro wz hz hgz hBz; have ZO := Aside0.mk hz; have ZB := Aside0.mk (HX.out.bel.trans (hBz _ HX.out.bo_)); have ZR := Aside0.mk (HR.out.grown HX.out.ho (by decide) (by decide) (by decide) hgz); clear hz hgz hBz q0 q1 q2 q3 z0 z1 z2 z3 r0 r1 r2 HX HR)))
            exact bodyPost_ret (v := .tuple #[.agg #[.string ⟨#[]⟩, .slice none 0 0, .slice none 0 0, .slice none 0 0], .int .i64 9]) (rread_results rfl rfl ZO.out rfl rfl rfl) rfl (by rw [HV.out]; exact ⟨_, _, _, rfl, Kd.R_nil _ _ _ _ _, Kd.R_nil _ _ _ _ _, Kd.R_nil _ _ _ _ _, ZB.out⟩)
        · have HV : Aside0 (readR (pBody a0) = (⟨#[]⟩, [], [], [], 9)) := Aside0.mk (by rw [HPB.out, if_neg (fun h => hae h.1)]; rfl)
          have d1 : ¬ ((a : Int) = (a0.size : Int)) := by omega
          have d2 : ((a : Int) == (a0.size : Int)) = false := by simp; omega
          have d3 : ((a : Int) != (a0.size : Int)) = true := by simp; omega
          clear hae HPB
          go_wp2_with (first
            | ((with_reducible refine gate_store (p := 2) rfl ?_); go_must (refine row_event rfl 30 _ _ rfl bo #[.string ⟨#[]⟩, .slice none 0 0, .slice none 0 0, .slice none 0 0] _ (by rfl) (by rfl) HX.out.ho (by kernel_rfl) (by rfl) (by kernel_rfl) ?_; intro wz hz hgz hBz; have ZO := Aside0.mk hz; have ZB := Aside0.mk (HX.out.bel.trans (hBz _ HX.out.bo_)); have ZR := Aside0.mk (HR.out.grown HX.out.ho (by decide) (by decide) (by decide) hgz); clear hz hgz hBz q0 q1 q2 q3 z0 z1 z2 z3 r0 r1 r2 HX HR)))
          exact bodyPost_ret (v := .tuple #[.agg #[.string ⟨#[]⟩, .slice none 0 0, .slice none 0 0, .slice none 0 0], .int .i64 9]) (rread_results rfl rfl ZO.out rfl rfl rfl) rfl (by rw [HV.out]; exact ⟨_, _, _, rfl, Kd.R_nil _ _ _ _ _, Kd.R_nil _ _ _ _ _, Kd.R_nil _ _ _ _ _, ZB.out⟩)
theorem cotterref06_Read.calls (a0 : ByteArray) (r1 : ByteArray) (r2 : List Int) (r3 : List S32) (r4 : List S34) (r5 : Int) (w : World) (h : cotterref06_Read.f a0 = some (r1, r2, r3, r4, r5)) :
    Calls Try.prog 30 #[.string a0] w fun e w' => ∃ v1_ v2_ v3_ : Value, e = .returned (.tuple #[.agg #[.string r1, v1_, v2_, v3_], .int .i64 r5]) ∧ Kd.R (Kd.int .i64) 2 w' w.heap.size (fun _ => True) v1_ r2 ∧ Kd.R k32 32 w' w.heap.size (fun _ => True) v2_ r3 ∧ Kd.R k34 34 w' w.heap.size (fun _ => True) v3_ r4 ∧ Below w.heap.size w w' := by
  unfold cotterref06_Read.f at h
  by_cases hs : a0.size ≤ 4611686018427387904
  · rw [if_pos hs] at h
    have := rread_calls a0 w hs
    rw [Option.some.inj h] at this
    exact this
  · rw [if_neg hs] at h; cases h
end Go.Proofs.Ytochgjeanajoiaa.HA
