/- Written by hand: the ends of objf.Read (function 29): the deferred closure, the results. -/
import Derived.Test.YtochgjeanajoiaaM2rs
namespace Go.Proofs.Ytochgjeanajoiaa.HA
open Go.RowKit Go.Proofs.YtochgjeanajoiaaW.PrintWords Go.Proofs.YtochgjeanajoiaaW.PrintLast Go.Proofs.YtochgjeanajoiaaW.PrintMore
set_option linter.unusedVariables false
set_option linter.unusedSimpArgs false

/-- What is asked of an ending of Read. -/
def ReadPost (w : World) (r : ByteArray × List Int × List S32 × List S34 × Int) (e : Ending) (w' : World) : Prop :=
  ∃ v1_ v2_ v3_ : Value, e = .returned (.tuple #[.agg #[.string r.1, v1_, v2_, v3_], .int .i64 r.2.2.2.2]) ∧ Kd.R (Kd.int .i64) 2 w' w.heap.size (fun _ => True) v1_ r.2.1 ∧ Kd.R k32 32 w' w.heap.size (fun _ => True) v2_ r.2.2.1 ∧ Kd.R k34 34 w' w.heap.size (fun _ => True) v3_ r.2.2.2.1 ∧ Below w.heap.size w w'
theorem read_results {tmps : Array Value} {bo be : Nat} {c : ByteArray} {v1 v2 v3 : Value} {n : Int} {W : World} (h2 : tmps[2]? = some (.pointer (some ⟨bo, 0, none⟩))) (h3 : tmps[3]? = some (.pointer (some ⟨be, 0, none⟩)))
    (ho : W.heap[bo]? = some (.cells #[.string c, v1, v2, v3] 30 (0, 0))) (he : W.heap[be]? = some (.cells #[.int .i64 n] 37 (0, 0))) (o1 : v1.oneCell' = true) (o2 : v2.oneCell' = true) (o3 : v3.oneCell' = true) :
    (results Try.f29 tmps).run Try.prog W = .ok (.tuple #[.agg #[.string c, v1, v2, v3], .int .i64 n]) W := by
  have q0 := (blk_cell ho 0).trans rfl
  have q1 := (blk_cell ho 1).trans rfl
  have q2 := (blk_cell ho 2).trans rfl
  have q3 := (blk_cell ho 3).trans rfl
  have q4 := (blk_cell he 0).trans rfl
  have hu30 := Try.underlying30
  simp [results, Try.results29, h2, h3, go_sem, q0, q1, q2, q3, q4]

def readD (bo be : Nat) : Deferred := { target := .fn (.func 66) #[.pointer (some ⟨bo, 0, none⟩), .pointer (some ⟨be, 0, none⟩)], args := #[] }
theorem one_slice {e B : Nat} {α : Type} {d : Kd α} {W : World} {ok : Nat → Prop} {v : Value} {xs : List α} (h : d.R e W B ok v xs) : v.oneCell' = true := (Kd.R_val h).2
theorem read_end {s : ByteArray} {r : ByteArray × List Int × List S32 × List S34 × Int} {w W : World} {bo be : Nat} {v1 v2 v3 : Value} {tmps : Array Value} (h2 : tmps[2]? = some (.pointer (some ⟨bo, 0, none⟩))) (h3 : tmps[3]? = some (.pointer (some ⟨be, 0, none⟩)))
    (ho : W.heap[bo]? = some (.cells #[.string r.1, v1, v2, v3] 30 (0, 0))) (he : W.heap[be]? = some (.cells #[.int .i64 r.2.2.2.2] 37 (0, 0))) (hR : RWs w.heap.size W v1 v2 v3 r.2.1 r.2.2.1 r.2.2.2.1) (hb : Below w.heap.size w W) :
    Leaves Try.prog Try.f29 tmps (ReadPost w r) [] .returning W :=
  ⟨_, read_results h2 h3 ho he (one_slice hR.d) (one_slice hR.y) (one_slice hR.r), v1, v2, v3, rfl, hR.d, hR.y, hR.r, hb⟩
theorem read_ret {r : ByteArray × List Int × List S32 × List S34 × Int} {w W : World} {bo be : Nat} {v1 v2 v3 : Value} {tmps : Array Value} (h2 : tmps[2]? = some (.pointer (some ⟨bo, 0, none⟩))) (h3 : tmps[3]? = some (.pointer (some ⟨be, 0, none⟩)))
    (ho : W.heap[bo]? = some (.cells #[.string r.1, v1, v2, v3] 30 (0, 0))) (he : W.heap[be]? = some (.cells #[.int .i64 r.2.2.2.2] 37 (0, 0))) (hR : RWs w.heap.size W v1 v2 v3 r.2.1 r.2.2.1 r.2.2.2.1) (hb : Below w.heap.size w W) :
    Leaves Try.prog Try.f29 tmps (ReadPost w r) [readD bo be] .returning W := by
  unfold readD
  refine leaves_cons (f := 66) (args := #[.pointer (some ⟨bo, 0, none⟩), .pointer (some ⟨be, 0, none⟩)]) (by simp) (by simp [go_sem]) ?_
  refine (read1_idle bo be W).mono ?_
  rintro e u' w'' ⟨rfl, rfl, rfl⟩
  exact read_end (s := ⟨#[]⟩) h2 h3 ho he hR hb
theorem read_fail {s : ByteArray} {r : ByteArray × List Int × List S32 × List S34 × Int} {w W W1 : World} {bo be g a : Nat} {code : ByteArray} {cd cy cr : Value} {tmps : Array Value} (h2 : tmps[2]? = some (.pointer (some ⟨bo, 0, none⟩))) (h3 : tmps[3]? = some (.pointer (some ⟨be, 0, none⟩)))
    (hX : RBx w.heap.size w W bo be g s a code cd cy cr) (hb : W.grownBy W1 (some g)) (hF : readR (pBody s) = r) (hN : pBody s = none) :
    Leaves Try.prog Try.f29 tmps (ReadPost w r) [readD bo be] (.panicking lackL) W1 := by
  rw [hN] at hF
  subst hF
  unfold readD
  refine leaves_cons (f := 66) (args := #[.pointer (some ⟨bo, 0, none⟩), .pointer (some ⟨be, 0, none⟩)]) (by simp) (by simp [go_sem]) ?_
  refine (read1_lack bo be _ _ W1 (blk_grown hX.ho hb (fun e => hX.ne_g (Option.some.inj e))) (blk_grown hX.he hb (fun e => hX.ne_eg (Option.some.inj e))) rfl hX.ne_be).mono ?_
  rintro e u' w'' ⟨rfl, rfl, ho, he, hB⟩
  have hb1 : Below w.heap.size w w'' := (hX.bel.trans (gB_below hb hX.size (fun k e => by cases e; exact hX.g_))).trans (hB _ hX.bo_ hX.be_)
  exact read_end (s := ⟨#[]⟩) (r := readR none) h2 h3 ho he (RWs.nil _ _) hb1
/-- The end that answers that there is none. -/
theorem read_zero {s : ByteArray} {r : ByteArray × List Int × List S32 × List S34 × Int} {w W : World} {bo be : Nat} {x : Value} {tmps : Array Value} (h2 : tmps[2]? = some (.pointer (some ⟨bo, 0, none⟩))) (h3 : tmps[3]? = some (.pointer (some ⟨be, 0, none⟩)))
    (ho : W.heap[bo]? = some (.cells #[.string ⟨#[]⟩, .slice none 0 0, .slice none 0 0, .slice none 0 0] 30 (0, 0))) (he : W.heap[be]? = some (.cells #[x] 37 (0, 0))) (hb : Below w.heap.size w W) (hbe : w.heap.size ≤ be) (hF : readR (pBody s) = r) (hN : pBody s = none) :
    Leaves Try.prog Try.f29 tmps (ReadPost w r) [readD bo be] .returning (W.setCell ⟨be, 0, none⟩ (.int .i64 9)) := by
  rw [hN] at hF
  subst hF
  have hne := blk_apart ho he (by decide)
  exact read_ret (r := readR none) h2 h3 ((Below.heap_setCell W ⟨be, 0, none⟩ _ bo hne).trans ho) (blk_put he 0 _ rfl) (RWs.nil _ _) (hb.setCell hbe _)
theorem pBody_of {s m : ByteArray} {a1 : Nat} (h : pTake s 4 0 = some (m, a1)) : pBody s = if m.toList = ([67, 79, 84, 49] : List UInt8) then pRest s a1 else none := by unfold pBody; rw [h]; rfl
theorem leaves_congr {P : Program} {fn : Func} {t1 t2 : Array Value} {R : Ending → World → Prop} (h : ∀ W, (results fn t1).run P W = (results fn t2).run P W) : ∀ (ds : List Deferred) (u : FrameMode) (w : World), Leaves P fn t1 R ds u w → Leaves P fn t2 R ds u w := by
  intro ds
  induction ds with
  | nil =>
    intro u w hl
    cases u with
    | run => exact hl
    | returning => obtain ⟨v, hr, hR⟩ := hl; exact ⟨v, (h w) ▸ hr, hR⟩
    | panicking chain => exact hl
  | cons d ds ih =>
    intro u w hl
    obtain ⟨h1, fv, cap, f, args, h2, h3, h4⟩ := hl
    refine ⟨h1, fv, cap, f, args, h2, h3, h4.mono ?_⟩
    intro e u' w' he
    cases e with
    | returned v => exact ih _ _ he
    | panicked chain => exact ih _ _ he
    | outgrown => exact he
theorem results29_congr {t1 t2 : Array Value} (h2 : t1[2]? = t2[2]?) (h3 : t1[3]? = t2[3]?) (W : World) : (results Try.f29 t1).run Try.prog W = (results Try.f29 t2).run Try.prog W := by
  have e2 : t1.getD 2 undef = t2.getD 2 undef := by simp [Array.getD_eq_getD_getElem?, h2]
  have e3 : t1.getD 3 undef = t2.getD 3 undef := by simp [Array.getD_eq_getD_getElem?, h3]
  unfold results
  rw [Try.results29]
  simp only [Array.mapM_eq_mapM_toList, List.mapM_cons, List.mapM_nil, e2, e3]
theorem read_put {R : Ending → World → Prop} {N : Nat} (h2 : N ≠ 2) (h3 : N ≠ 3) {c : List PanicEntry} {a : Act} {v : Value} {w : World} (h : bodyPostD Try.prog Try.f29 R (.panic c) (a.put (some N) v) w) : bodyPostD Try.prog Try.f29 R (.panic c) a w := by
  unfold bodyPostD at h ⊢
  refine leaves_congr (results29_congr ?_ ?_) _ _ _ h
  · simp only [Act.put]; rw [Array.getElem?_setIfInBounds_ne h2]
  · simp only [Act.put]; rw [Array.getElem?_setIfInBounds_ne h3]
/-- The row of a variadic's one value, as a step of a region that draws. -/
theorem slice_step {P : Program} {ops : Array Oper} {o : Oper} {a : Act} {Q : Exit → Act → World → Prop} {Kc : Act → World → Prop} {W : World} (cs : Array Value) (t : TypeId) (hw : Region.wanted o (yielded ops a.tmps) = true)
    (hrun : (execOp a.eval o).run P W = .ok (.value (.slice (some ⟨W.heap.size, 0, none⟩) 1 1)) (W.alloc (.cells cs t (0, 0)))) (h : Kc (a.put o.dst (.slice (some ⟨W.heap.size, 0, none⟩) 1 1)) (W.alloc (.cells cs t (0, 0)))) : if Region.wanted o (yielded ops a.tmps) = true then Oper.wp P o a W Kc Q else Kc (a.put o.dst undef) W :=
  event_step hw hrun h
end Go.Proofs.Ytochgjeanajoiaa.HA
