/- Written by hand: live of the statements of layer 02. -/
import Derived.Test.YtochgjeanajoiaaM7i
import Derived.Test.YtochgjeanajoiaaM7j
namespace Go.Proofs.Ytochgjeanajoiaa.HA.Mem
open Go.Proofs.YtochgjeanajoiaaW
open Go.RowKit Go.WideMaps Go.Maps Go.Proofs.YtochgjeanajoiaaW.PrintWords Go.Proofs.YtochgjeanajoiaaW.PrintLast Go.Proofs.YtochgjeanajoiaaW.PrintMore
set_option linter.unusedVariables false
set_option linter.unusedSimpArgs false
theorem slice_event {P : Program} {ops : Array Oper} {rest : List Oper} {o : Oper} {a : Act} {Q : Exit → Act → World → Prop} {W : World} (hgd : o.guard = none) {N : Tmp} (_hd : o.dst = some N) {cs : Array Value} {t : TypeId} {n : Nat}
    (hrun : (execOp a.eval o).run P W = .ok (.value (.slice (some ⟨W.heap.size, 0, none⟩) n n)) (W.alloc (.cells cs t (0, 0))))
    (h : ∀ g, g = W.heap.size → ∀ w1, w1.heap[g]? = some (.cells cs t (0, 0)) → Below W.heap.size W w1 → wpList P ops Q rest (a.put o.dst (.slice (some ⟨g, 0, none⟩) n n)) w1) : wpList P ops Q (o :: rest) a W :=
  Kd.event_run hgd hrun (h _ rfl _ (blk_new W _) (below_alloc (Below.refl _ _) _))
def liveL : List Rg := [⟨0, [5, 6], true⟩, ⟨64, [7], false⟩]
theorem ints_C {w : World} {g : Nat} {l : List Int} (hl : l.length ≤ 1000) (hg : w.heap[g]? = some (.cells ((l.map (Value.int .i64)).toArray) 2 (0, 0))) : (Kd.int .i64).C w (some ⟨g, 0, none⟩) l.length l := by
  refine Kd.C_of_reads (d := (0 : Int)) ⟨rfl, by omega, fun _ => ⟨⟨g, 0, none⟩, rfl, fun i hi => ?_⟩⟩
  have := blk_cell hg i
  rw [show (⟨g, 0, none⟩ : Addr).add i = ⟨g, i, none⟩ from add_plain _ _]
  refine this.trans ?_
  simp [hi]
theorem live_C {w : World} {ga gb gc : Nat} (h1 : w.heap[ga]? = some (.cells #[.int .i64 5, .int .i64 6] 2 (0, 0))) (h2 : w.heap[gb]? = some (.cells #[.int .i64 7] 2 (0, 0)))
    (h3 : w.heap[gc]? = some (.cells #[.int .i64 0, .slice (some ⟨ga, 0, none⟩) 2 2, .bool true, .int .i64 64, .slice (some ⟨gb, 0, none⟩) 1 1, .bool false] 59 (0, 0))) : Kd.C k59 w (some ⟨gc, 0, none⟩) liveL.length liveL := by
  have k1 := ints_C (l := [5, 6]) (by simp) h1
  have k2 := ints_C (l := [7]) (by simp) h2
  refine ⟨rfl, by simp [liveL], fun _ => ⟨⟨gc, 0, none⟩, rfl, fun j p hj => ?_⟩⟩
  match j, hj with
  | 0, hj =>
    cases hj
    refine ⟨_, rfl, k59_mk (x := ⟨0, [5, 6], true⟩) (c := 2) (by simp) k1, fun i u hu => ?_⟩
    rw [show (⟨gc, 0, none⟩ : Addr).add (0 * k59.sz + i) = ⟨gc, i, none⟩ from by rw [show 0 * k59.sz + i = i from by simp]; exact add_plain _ _, blk_cell h3 i]
    match i, hu with
    | 0, hu => exact hu
    | 1, hu => exact hu
    | 2, hu => exact hu
  | 1, hj =>
    cases hj
    refine ⟨_, rfl, k59_mk (x := ⟨64, [7], false⟩) (c := 1) (by simp) k2, fun i u hu => ?_⟩
    rw [show (⟨gc, 0, none⟩ : Addr).add (1 * k59.sz + i) = ⟨gc, 3 + i, none⟩ from by rw [show 1 * k59.sz + i = 3 + i from by simp [show k59.sz = 3 from rfl]]; exact add_plain _ _, blk_cell h3 (3 + i)]
    match i, hu with
    | 0, hu => exact hu
    | 1, hu => exact hu
    | 2, hu => exact hu
theorem live_new (w : World) (c : Nat) (A : Option Addr) (hr : Kd.C k59 w A 2 liveL) : Calls Try.prog 32 #[.slice A 2 c] w fun e w' => ∃ g, e = .returned (.tuple #[.pointer (some ⟨g, 0, none⟩), .int .i64 0]) ∧ MemAt w.heap.size (fun k => w.heap.size ≤ k) w' g 0 ⟨liveL, [], []⟩ ∧ Below w.heap.size w w' := by
  refine (new_calls liveL A c w hr).mono ?_
  rintro e w' ⟨⟨h, _⟩ | ⟨_, g, he, hm⟩, hb⟩
  · exact absurd h (by decide)
  · exact ⟨g, he, hm, hb⟩
theorem live_ok : ∀ r ∈ liveL, regOk r = true := by decide
theorem live_load1 (b g : Nat) (w : World) (hm : MemAt b (fun k => b ≤ k) w g 0 ⟨liveL, [], []⟩) : Calls Try.prog 33 #[.pointer (some ⟨g, 0, none⟩), .int .i64 8] w fun e w' => e = .returned (.tuple #[.int .i64 6, .int .i64 0]) ∧ MemAt b (fun k => b ≤ k) w' g 1 ⟨liveL, [8], []⟩ ∧ Turn (fun k => b ≤ k) w w' :=
  load_calls b _ g 0 ⟨liveL, [], []⟩ 8 w hm live_ok (by decide) (by decide)
theorem live_load2 (b g : Nat) (w : World) (hm : MemAt b (fun k => b ≤ k) w g 1 ⟨liveL, [8], []⟩) : Calls Try.prog 33 #[.pointer (some ⟨g, 0, none⟩), .int .i64 16] w fun e w' => e = .returned (.tuple #[.int .i64 0, .int .i64 11]) ∧ MemAt b (fun k => b ≤ k) w' g 2 ⟨liveL, [8], []⟩ ∧ Turn (fun k => b ≤ k) w w' :=
  load_calls b _ g 1 ⟨liveL, [8], []⟩ 16 w hm live_ok (by decide) (by decide)
theorem live_store (b g : Nat) (w : World) (hm : MemAt b (fun k => b ≤ k) w g 2 ⟨liveL, [8], []⟩) : Calls Try.prog 34 #[.pointer (some ⟨g, 0, none⟩), .int .i64 64, .int .i64 1] w fun e w' => e = .returned (.int .i64 11) ∧ MemAt b (fun k => b ≤ k) w' g 3 ⟨liveL, [8], []⟩ ∧ Turn (fun k => b ≤ k) w w' :=
  store_calls b _ g 2 ⟨liveL, [8], []⟩ 64 1 w hm live_ok (by decide) (by decide)
theorem live_foot (b g : Nat) (w : World) (hm : MemAt b (fun k => b ≤ k) w g 3 ⟨liveL, [8], []⟩) (hb : b ≤ w.heap.size) : Calls Try.prog 38 #[.pointer (some ⟨g, 0, none⟩)] w fun e w' => ∃ A1 c1 A2 c2, e = .returned (.agg #[.slice A1 1 c1, .slice A2 0 c2]) ∧ (Kd.int .i64).C w' A1 1 [8] ∧ (Kd.int .i64).C w' A2 0 [] ∧ Turn (fun k => b ≤ k) w w' := by
  refine (Foot_calls b _ g 3 ⟨liveL, [8], []⟩ w hm (by decide) hb).mono ?_
  rintro e w' ⟨v1, v2, N, rfl, _, h1, h2, _, ht⟩
  obtain ⟨A1, c1, rfl⟩ := Kd.R_slice h1
  obtain ⟨A2, c2, rfl⟩ := Kd.R_slice h2
  exact ⟨A1, c1, A2, c2, rfl, (Kd.R_reads' h1).2.2, (Kd.R_reads' h2).2.2, ht⟩
theorem live_same (A1 A2 : Option Addr) (c1 c2 g : Nat) (w : World) (h1 : (Kd.int .i64).C w A1 1 [8]) (h2 : (Kd.int .i64).C w A2 0 []) (hg : w.heap[g]? = some (.cells #[.int .i64 8] 2 (0, 0))) : Calls Try.prog 39 #[.agg #[.slice A1 1 c1, .slice A2 0 c2], .agg #[.slice (some ⟨g, 0, none⟩) 1 1, .slice none 0 0]] w fun e w' => e = .returned (.bool true) ∧ Below w.heap.size w w' :=
  samefoot_calls A1 A2 (some ⟨g, 0, none⟩) none c1 c2 1 0 [8] [] [8] [] w h1 h2 (ints_C (l := [8]) (by simp) hg) (Kd.C_nil _ _)
set_option maxRecDepth 100000 in
set_option maxHeartbeats 8000000 in
theorem live_calls (w : World) : Calls Try.prog 31 #[] w fun e w' => e = .returned (.bool true) ∧ Below w.heap.size w w' := by
  have HB := Aside0.mk (Below.refl w.heap.size w)
  have hu59 := Try.underlying59
  have hu75 := Try.underlying75
  have t1 : True := trivial
  have t2 : True := trivial
  go_enter Try.func31, Try.ntmps31
  go_wp2_with (first
    | ((with_reducible refine gate_dst (N := 9) rfl ?_); refine slice_event ?hg (N := 9) ?hd (cs := #[.int .i64 5, .int .i64 6]) (t := 2) (n := 2) ?hr ?_; (case hd => rfl); (case hg => rfl); (case hr => first | (go_simp; done) | (go_simp; rfl)); go_loud (intro ga hgq wga hbox hb; have Kga := Aside0.mk hbox; have HBn := Aside0.mk (below_step HB.out hb); clear hgq hbox hb HB ; have HB := HBn; clear HBn; ))
    | ((with_reducible refine gate_dst (N := 11) rfl ?_); refine slice_event ?hg (N := 11) ?hd (cs := #[.int .i64 7]) (t := 2) (n := 1) ?hr ?_; (case hd => rfl); (case hg => rfl); (case hr => first | (go_simp; done) | (go_simp; rfl)); go_loud (intro gb hgq wgb hbox hb; have Kgan := Aside0.mk (blk_below Kga.out hb); have Kgb := Aside0.mk hbox; have HBn := Aside0.mk (below_step HB.out hb); clear hgq hbox hb HB Kga; have HB := HBn; clear HBn; have Kga := Kgan; clear Kgan;))
    | ((with_reducible refine gate_dst (N := 13) rfl ?_); refine slice_event ?hg (N := 13) ?hd (cs := #[.int .i64 0, .slice (some ⟨ga, 0, none⟩) 2 2, .bool true, .int .i64 64, .slice (some ⟨gb, 0, none⟩) 1 1, .bool false]) (t := 59) (n := 2) ?hr ?_; (case hd => rfl); (case hg => rfl); (case hr => first | (go_simp; done) | (go_simp; rfl)); go_loud (intro gc hgq wgc hbox hb; have Kgan := Aside0.mk (blk_below Kga.out hb); have Kgbn := Aside0.mk (blk_below Kgb.out hb); have Kgc := Aside0.mk hbox; have HBn := Aside0.mk (below_step HB.out hb); clear hgq hbox hb HB Kga Kgb; have HB := HBn; clear HBn; have Kga := Kgan; clear Kgan; have Kgb := Kgbn; clear Kgbn;))
    | (go_at_call 32; go_loud (refine (live_new _ 2 (some ⟨gc, 0, none⟩) (live_C Kga.out Kgb.out Kgc.out)).mono ?_; rintro e wn ⟨g, rfl, hm, hb⟩; have HM := Aside0.mk hm; have HBB := Aside0.mk (below_size HB.out); have HBS := Aside0.mk hb.size; have HBn := Aside0.mk (below_step HB.out hb); clear hm hb HB Kga Kgb Kgc; have HB := HBn; clear HBn))
    | (go_at_call 33; have _t := t1; go_loud ((with_reducible refine (live_load1 _ g _ HM.out).mono ?_); rintro e wx ⟨rfl, hm, ht⟩; have HMn := Aside0.mk hm; have HSn := Aside0.mk (Nat.le_trans HBS.out ht.size); have HBn := Aside0.mk (HB.out.trans (ht.below (fun k hk => Nat.le_trans HBB.out hk) (below_size HB.out))); clear HM HB hm ht t1; clear HBS; have HBS := HSn; clear HSn; have HM := HMn; have HB := HBn; clear HMn HBn))
    | (go_at_call 33; have _t := t2; go_loud ((with_reducible refine (live_load2 _ g _ HM.out).mono ?_); rintro e wy ⟨rfl, hm, ht⟩; have HMn := Aside0.mk hm; have HSn := Aside0.mk (Nat.le_trans HBS.out ht.size); have HBn := Aside0.mk (HB.out.trans (ht.below (fun k hk => Nat.le_trans HBB.out hk) (below_size HB.out))); clear HM HB hm ht t2; clear HBS; have HBS := HSn; clear HSn; have HM := HMn; have HB := HBn; clear HMn HBn))
    | (go_at_call 34; go_loud ((with_reducible refine (live_store _ g _ HM.out).mono ?_); rintro e wz ⟨rfl, hm, ht⟩; have HMn := Aside0.mk hm; have HSn := Aside0.mk (Nat.le_trans HBS.out ht.size); have HBn := Aside0.mk (HB.out.trans (ht.below (fun k hk => Nat.le_trans HBB.out hk) (below_size HB.out))); clear HM HB hm ht; clear HBS; have HBS := HSn; clear HSn; have HM := HMn; have HB := HBn; clear HMn HBn))
    | (go_at_call 38; go_loud ((with_reducible refine (live_foot _ g _ HM.out ?hbs).mono ?_); (case hbs => exact HBS.out); rintro e wf ⟨A1, c1, A2, c2, rfl, h1, h2, ht⟩; have HC1 := Aside0.mk h1; have HC2 := Aside0.mk h2; have HBn := Aside0.mk (HB.out.trans (ht.below (fun k hk => Nat.le_trans HBB.out hk) (below_size HB.out))); clear HM HB h1 h2 ht; have HB := HBn; clear HBn))
    | (go_at_call 39; go_loud (have ha := below_alloc (Below.refl wf.heap.size wf) (.cells #[.int .i64 8] 2 (0, 0)); refine (live_same A1 A2 c1 c2 _ _ (Kd.C_below HC1.out ha) (Kd.C_below HC2.out ha) (blk_new wf _)).mono ?_; rintro e wg ⟨rfl, hb⟩; have HBn := Aside0.mk (below_step (below_step HB.out ha) hb); clear HB hb ha; have HB := HBn; clear HBn)))
  go_ret
  exact ⟨rfl, HB.out⟩
end Go.Proofs.Ytochgjeanajoiaa.HA.Mem
