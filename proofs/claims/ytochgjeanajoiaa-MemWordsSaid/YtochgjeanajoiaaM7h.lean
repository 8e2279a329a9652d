/- Written by hand: slices.Sorted(maps.Keys(m)) at a map of addresses; foot and Foot of package mem. -/
import Derived.Test.YtochgjeanajoiaaM7g
import Derived.Test.YtochgjeanajoiaaM7s
namespace Go.Proofs.Ytochgjeanajoiaa.HA.Mem
open Go.RowKit Go.WideMaps Go.Maps Go.Sort Go.Shelf Go.Proofs.YtochgjeanajoiaaW.PrintWords Go.Proofs.YtochgjeanajoiaaW.PrintLast Go.Proofs.YtochgjeanajoiaaW.PrintMore
set_option linter.unusedVariables false
set_option linter.unusedSimpArgs false

theorem sortsA (m : Nat) : AnyZI.SortsIn Try.prog Try.sortedA_ren Fence.wide m :=
  ⟨fun blk off cap ss W hH hblk hsz => callsIn_wide.2 (AnyM.slices_Sort_int Try.sortA blk off cap ss W hH hblk hsz),
   fun p cap W => callsIn_wide.2 (AnyM.slices_Sort_int_none Try.sortA p cap W)⟩
theorem keys_calls (mb : Option Nat) (w : World) : Calls Try.prog 107 #[.map mb] w fun e w' => e = .returned (.func (.func 114) #[] #[.pointer (some ⟨w.heap.size, 0, none⟩)]) ∧ w' = w.alloc (.cells #[.map mb] 126) :=
  (callsIn_wide (n := 5)).1 (AnyZI.keys_in Try.keysA Fence.wide 5 trivial rfl mb w)
theorem rising_perm {l ss : List Int} (h : Rising l) (hp : ss.Perm l) : ss.mergeSort (fun x y => decide (x ≤ y)) = l := by
  have e := mergeSort_of_perm_i hp
  have h1 : l.mergeSort (fun x y => decide (x ≤ y)) = l := by
    apply List.mergeSort_of_pairwise
    exact h.imp (fun {a b} hab => by simp; omega)
  exact e.trans h1
theorem keys_perm {W : World} {b n : Nat} {D : DataW Unit} {l : List Int} (hown : W.ownsMap Try.prog 2 (plainElem Try.prog 3) b n D) (hh : ∀ a, has D (kz a) = true ↔ a ∈ l) (hl : Rising l) : l.Perm (intKeys D) := by
  obtain ⟨es, hD, hpw, _⟩ := hown.entries law2
  obtain ⟨es', hD', hko⟩ := hown.keysOf
  obtain rfl : es = es' := by rw [hD] at hD'; simpa using hD'
  subst hD
  exact perm_intKeys hpw (fun p hp => by obtain ⟨v, hv⟩ := hko p hp; obtain ⟨x, _, hx, _⟩ := Maps.keyOf_i64 Try.underlying2 hv; exact ⟨x, hx⟩) (hl.imp (fun hab => by omega)) (fun x => (hh x).symm)
theorem sorted_calls (b n g0 : Nat) (l : List Int) (w : World) (hm : TMap w b n l) (hn : n ≤ 1000000000) (hg : w.heap[g0]? = some (.cells #[.map (some b)] 126 (0, 0))) :
    Calls Try.prog 106 #[.func (.func 114) #[] #[.pointer (some ⟨g0, 0, none⟩)]] w fun e w' => ∃ v, e = .returned v ∧ (Kd.int .i64).R 2 w' w.heap.size (fun k => w.heap.size ≤ k) v l ∧ Below w.heap.size w w' := by
  obtain ⟨D, hown, hh, hl⟩ := hm
  have hsz := hown.size_le
  have hmax : Maps.size D ≤ maxLen := by unfold maxLen; omega
  have hbytes : Maps.size D * 8 ≤ 140737488355328 := by omega
  have hseq : SeqGives Fence.wide 2 Try.prog 114 #[.pointer (some ⟨g0, 0, none⟩)] encZ (fun ss => ss.Perm (intKeys D)) (Maps.size D) w :=
    AnyZI.keys_gives (ρ := Try.keysA_ren) { Try.keysA with } Fence.wide _ trivial rfl (by omega) g0 b n D w (blk_lt hg) ((blk_cell hg 0).trans rfl) hown
  have cS := AnyZI.sorted_in Try.sortedA Fence.wide 5 trivial trivial trivial trivial rfl (by omega) (sortsA _) (enters_of Try.func113 (by kernel_rfl) rfl) 114 #[.pointer (some ⟨g0, 0, none⟩)] trivial (enters_of Try.func114 (by kernel_rfl) rfl) _ _ hmax hbytes _ hseq
  change CallsIn _ _ Try.prog 106 _ _ _ at cS
  refine (callsIn_wide (n := 5)).1 (cS.mono ?_)
  rintro e w' ⟨v, ss, rfl, hS, hrow, _, hb⟩
  have hp := keys_perm hown hh hl
  have hse := rising_perm hl (hS.trans hp.symm)
  have hlen : ss.length = l.length := (hS.trans hp.symm).length_eq
  rw [hse, hlen] at hrow
  refine ⟨v, rfl, Kd.R_of_own hrow (fun k hk => ?_), hb⟩
  rcases hrow.2 with ⟨rfl, _⟩ | ⟨g, cap, cur, rfl, h1, _⟩
  · simp [Value.ownBlock] at hk
  · simp only [Value.ownBlock, Option.some.injEq] at hk
    omega
/-- A store of a whole struct, as a step of a region that draws. -/
theorem row_step {P : Program} {ops : Array Oper} {o : Oper} {a : Act} {Q : Exit → Act → World → Prop} {Kc : Act → World → Prop} {W : World} (hgd : o.guard = none) (ty : TypeId) (x y : Operand) (ho : o.op = .store ty x y)
    (g : Nat) (cells old : Array Value) (hx : a.eval x = .pointer (some ⟨g, 0, none⟩)) (hy : a.eval y = .agg cells) (hg : W.heap[g]? = some (.cells old ty (0, 0))) (hi : (P.info? ty).map (·.size) = some cells.size)
    (hold : old.size = cells.size) (h1 : cells.all (·.oneCell') = true) (hw : Region.wanted o (yielded ops a.tmps) = true)
    (hd : o.dst = none) (h : ∀ w1, w1.heap[g]? = some (.cells cells ty (0, 0)) → W.grownBy w1 (some g) → Kc a w1) : if Region.wanted o (yielded ops a.tmps) = true then Oper.wp P o a W Kc Q else Kc (a.put o.dst undef) W := by
  rw [if_pos hw]
  refine wp_store_row ty x y ho g cells hx hy ty old hg hi hold h1 ?_
  rw [hd]
  exact h _ (setRow_heap W g old cells ty _ hg) ⟨rfl, rfl, rfl, by simp, fun k _ hk => setRow_other W g k cells (fun e => hk (by rw [e]))⟩
def R88.T1 : Bool × List (List Nat × List Nat) := (true, [([], []), ([0], [0]), ([1], [1]), ([2], [2]), ([3], [3]), ([4, 4], [4]), ([], []), ([6], [6]), ([7], [7]), ([8], [8]), ([9, 5], [9]), ([10, 10], [10]), ([5, 11], [5, 11]), ([12, 11, 0, 1, 2, 3, 4, 5, 6, 7, 8, 9, 10, 11, 12], [12])])
def R88.B1 : List Nat := [0, 1, 3, 7, 15, 31, 0, 64, 192, 448, 1023, 2047, 4095, 8191]
theorem R88.tab1 : rtab .any (opsOf Try.f88 1) = R88.T1 := by kernel_rfl
theorem R88.bits1 : waitsOk R88.T1.2 R88.B1 = true := by kernel_rfl
set_option maxRecDepth 100000 in
set_option maxHeartbeats 8000000 in
theorem foot_calls (g b1 b2 n : Nat) (rv : Value) (l1 l2 : List Int) (w : World) (hg : w.heap[g]? = some (.cells #[.map (some b1), .map (some b2), rv] 131 (0, 0))) (h1 : TMap w b1 n l1) (h2 : TMap w b2 n l2) (hn : n ≤ 1000000000) :
    Calls Try.prog 88 #[.pointer (some ⟨g, 0, none⟩)] w fun e w' => ∃ v1 v2, e = .returned (.agg #[v1, v2]) ∧ (Kd.int .i64).R 2 w' w.heap.size (fun k => w.heap.size ≤ k) v1 l1 ∧ (Kd.int .i64).R 2 w' w.heap.size (fun k => w.heap.size ≤ k) v2 l2 ∧ Below w.heap.size w w' := by
  have HGw := Aside0.mk hg
  have T1w := Aside0.mk h1
  have T2w := Aside0.mk h2
  have hu128 := Try.underlying128
  have hu75 := Try.underlying75
  clear hg h1 h2
  go_enter Try.func88, Try.ntmps88
  go_wp2_with (first
    | ((with_reducible refine gate_dst (N := 2) rfl ?_); refine box_event ?hg (N := 2) ?hd (cs := #[.slice none 0 0, .slice none 0 0]) (t := 75) ?hr ?_; (case hd => rfl); (case hg => rfl); (case hr => first | (go_simp; done) | (go_simp; rfl)); go_loud (intro gf hgf w1 hbox hb; have HB := Aside0.mk (below_drew hb); have HG := Aside0.mk (blk_drew (blk_below HGw.out hb)); have HF := Aside0.mk (blk_drew hbox); have T1 := Aside0.mk (TMap.kept (W1 := w1.drew) T1w.out (Below.block hb _ T1w.out.lt)); have T2 := Aside0.mk (TMap.kept (W1 := w1.drew) T2w.out (Below.block hb _ T2w.out.lt)); have HGF := Aside0.mk hgf; clear hb hbox hgf HGw T1w T2w)))
  refine start_ (n := 14) (S := fun w' => w'.cell? ⟨g, 0, none⟩ = some (.map (some b1)) ∧ w'.cell? ⟨g, 1, none⟩ = some (.map (some b2))) (ds := [13]) #[false, false, false, false, false, false, false, false, false, false, false, false, false, false] (by kernel_rfl) rfl rfl ?_ (fun hHeld => ?_)
  case refine_1 => exact ⟨(blk_cell HG.out 0).trans rfl, (blk_cell HG.out 1).trans rfl⟩
  refine with_tabW R88.tab1 R88.bits1 (fun HT_ HW_ => ?_)
  refine pure_ (i := 0) (N := some 3) (v := ?_) (a' := ?_) #[true, false, false, false, false, false, false, false, false, false, false, false, false, false] rfl rfl (any_of HT_.out (by kernel_rfl)) (fun _ _ _ h => h) (Or.inl ⟨by rfl, ?_⟩) ?_ ?_
  rotate_left
  · intro w'
    go_simp
    with_reducible rfl
  rotate_left
  · simp only [Act.put, List.setIfInBounds_toArray, List.set_cons_zero, List.set_cons_succ, i64_w, i32_w]
    rfl
  refine pure_ (i := 1) (N := some 4) (v := ?_) (a' := ?_) #[true, true, false, false, false, false, false, false, false, false, false, false, false, false] rfl rfl (any_of HT_.out (by kernel_rfl)) (fun _ _ _ h => h) (Or.inl ⟨by rfl, ?_⟩) ?_ ?_
  rotate_left
  · intro w'
    go_simp
    with_reducible rfl
  rotate_left
  · simp only [Act.put, List.setIfInBounds_toArray, List.set_cons_zero, List.set_cons_succ, i64_w, i32_w]
    rfl
  refine pure_ (i := 2) (N := some 5) (v := ?_) (a' := ?_) #[true, true, true, false, false, false, false, false, false, false, false, false, false, false] rfl rfl (any_of HT_.out (by kernel_rfl)) (fun _ _ _ h => h) (Or.inl ⟨by rfl, ?_⟩) ?_ ?_
  rotate_left
  · intro w'
    go_simp
    with_reducible rfl
  rotate_left
  · simp only [Act.put, List.setIfInBounds_toArray, List.set_cons_zero, List.set_cons_succ, i64_w, i32_w]
    rfl
  refine take_ (i := 3) (N := some 6) (v := ?_) (a' := ?_) #[true, true, true, true, false, false, false, false, false, false, false, false, false, false] rfl rfl (take_ofW HT_.out HW_.out (by kernel_rfl)) (fun _ _ _ h => h) (Or.inl ⟨by rfl, ?_⟩) hHeld ?_ ?_
  rotate_left
  · rintro w' ⟨s0, s1⟩
    go_simp
    with_reducible rfl
  rotate_left
  · simp only [Act.put, List.setIfInBounds_toArray, List.set_cons_zero, List.set_cons_succ, i64_w, i32_w]
    rfl
  refine pure_ (i := 6) (N := some 9) (v := ?_) (a' := ?_) #[true, true, true, true, false, false, true, false, false, false, false, false, false, false] rfl rfl (any_of HT_.out (by kernel_rfl)) (fun _ _ _ h => h) (Or.inl ⟨by rfl, ?_⟩) ?_ ?_
  rotate_left
  · intro w'
    go_simp
    with_reducible rfl
  rotate_left
  · simp only [Act.put, List.setIfInBounds_toArray, List.set_cons_zero, List.set_cons_succ, i64_w, i32_w]
    rfl
  refine pure_ (i := 7) (N := some 10) (v := ?_) (a' := ?_) #[true, true, true, true, false, false, true, true, false, false, false, false, false, false] rfl rfl (any_of HT_.out (by kernel_rfl)) (fun _ _ _ h => h) (Or.inl ⟨by rfl, ?_⟩) ?_ ?_
  rotate_left
  · intro w'
    go_simp
    with_reducible rfl
  rotate_left
  · simp only [Act.put, List.setIfInBounds_toArray, List.set_cons_zero, List.set_cons_succ, i64_w, i32_w]
    rfl
  refine pure_ (i := 8) (N := some 11) (v := ?_) (a' := ?_) #[true, true, true, true, false, false, true, true, true, false, false, false, false, false] rfl rfl (any_of HT_.out (by kernel_rfl)) (fun _ _ _ h => h) (Or.inl ⟨by rfl, ?_⟩) ?_ ?_
  rotate_left
  · intro w'
    go_simp
    with_reducible rfl
  rotate_left
  · simp only [Act.put, List.setIfInBounds_toArray, List.set_cons_zero, List.set_cons_succ, i64_w, i32_w]
    rfl
  refine take_ (i := 9) (N := some 12) (v := ?_) (a' := ?_) #[true, true, true, true, false, false, true, true, true, true, false, false, false, false] rfl rfl (take_ofW HT_.out HW_.out (by kernel_rfl)) (fun _ _ _ h => h) (Or.inl ⟨by rfl, ?_⟩) hHeld ?_ ?_
  rotate_left
  · rintro w' ⟨s0, s1⟩
    go_simp
    with_reducible rfl
  rotate_left
  · simp only [Act.put, List.setIfInBounds_toArray, List.set_cons_zero, List.set_cons_succ, i64_w, i32_w]
    rfl
  refine one_ (i := 4) (N := some 7) #[true, true, true, true, true, false, true, true, true, true, false, false, false, false] rfl rfl (one_of HT_.out (by kernel_rfl)) (by decide) (fun K hK => ?_)
  refine goes_ Try.func107 (by kernel_rfl) rfl #[.map (some b1)] (by rfl) rfl rfl (by simp only [List.map_toArray, List.map_cons, List.map_nil]; rfl) ?_
  refine (keys_calls (some b1) _).mono ?_
  rintro e w2 ⟨rfl, hw2⟩
  have hbx : Below w1.drew.heap.size w1.drew w2 := hw2 ▸ below_alloc (Below.refl _ _) _
  have K1 := Aside0.mk (show w2.heap[w1.drew.heap.size]? = some (.cells #[.map (some b1)] 126 (0, 0)) from hw2 ▸ blk_new _ _)
  clear hw2
  have HBn := Aside0.mk (below_step HB.out hbx)
  have HGn := Aside0.mk (blk_below HG.out hbx)
  have HFn := Aside0.mk (blk_below HF.out hbx)
  have T1n := Aside0.mk (T1.out.kept (Below.block hbx _ T1.out.lt))
  have T2n := Aside0.mk (T2.out.kept (Below.block hbx _ T2.out.lt))
  clear HB HG HF T1 T2
  have HB := HBn
  have HG := HGn
  have HF := HFn
  have T1 := T1n
  have T2 := T2n
  clear HBn HGn HFn T1n T2n
  clear hbx
  refine ⟨_, rfl, ?_⟩
  refine hK.out _ _ ⟨(blk_cell HG.out 0).trans rfl, (blk_cell HG.out 1).trans rfl⟩ (fun hHeld => ?_)
  clear hK K
  refine norm_ (a' := ?_) ?_ ?_
  rotate_left
  · show Act.put _ (some 7) _ = _
    simp only [Act.put, List.setIfInBounds_toArray, List.set_cons_zero, List.set_cons_succ, i64_w, i32_w]
    try rfl
  refine one_ (i := 5) (N := some 8) #[true, true, true, true, true, true, true, true, true, true, false, false, false, false] rfl rfl (one_of HT_.out (by kernel_rfl)) (by decide) (fun K hK => ?_)
  refine goes_ Try.func106 (by kernel_rfl) rfl #[.func (.func 114) #[] #[.pointer (some ⟨w1.drew.heap.size, 0, none⟩)]] (by rfl) rfl rfl (by simp only [List.map_toArray, List.map_cons, List.map_nil]; rfl) ?_
  refine (sorted_calls b1 n w1.drew.heap.size _ _ T1.out hn K1.out).mono ?_
  rintro e w3 ⟨v1, rfl, hv, hb2⟩
  have V1 := Aside0.mk (Kd.R_mono (Kd.R_lower hv (below_size HB.out)) (fun j hj => (Nat.le_trans (below_size HB.out) hj : w.heap.size ≤ j)))
  clear hv K1
  have HBn := Aside0.mk (below_step HB.out hb2)
  have HGn := Aside0.mk (blk_below HG.out hb2)
  have HFn := Aside0.mk (blk_below HF.out hb2)
  have T1n := Aside0.mk (T1.out.kept (Below.block hb2 _ T1.out.lt))
  have T2n := Aside0.mk (T2.out.kept (Below.block hb2 _ T2.out.lt))
  clear HB HG HF T1 T2
  have HB := HBn
  have HG := HGn
  have HF := HFn
  have T1 := T1n
  have T2 := T2n
  clear HBn HGn HFn T1n T2n
  clear hb2
  obtain ⟨A1, c1, rfl⟩ := Kd.R_slice V1.out
  refine ⟨_, rfl, ?_⟩
  refine hK.out _ _ ⟨(blk_cell HG.out 0).trans rfl, (blk_cell HG.out 1).trans rfl⟩ (fun hHeld => ?_)
  clear hK K
  refine norm_ (a' := ?_) ?_ ?_
  rotate_left
  · show Act.put _ (some 8) _ = _
    simp only [Act.put, List.setIfInBounds_toArray, List.set_cons_zero, List.set_cons_succ, i64_w, i32_w]
    try rfl
  refine one_ (i := 10) (N := some 13) #[true, true, true, true, true, true, true, true, true, true, true, false, false, false] rfl rfl (one_of HT_.out (by kernel_rfl)) (by decide) (fun K hK => ?_)
  refine goes_ Try.func107 (by kernel_rfl) rfl #[.map (some b2)] (by rfl) rfl rfl (by simp only [List.map_toArray, List.map_cons, List.map_nil]; rfl) ?_
  refine (keys_calls (some b2) _).mono ?_
  rintro e w4 ⟨rfl, hw2⟩
  have hbx : Below w3.heap.size w3 w4 := hw2 ▸ below_alloc (Below.refl _ _) _
  have K2 := Aside0.mk (show w4.heap[w3.heap.size]? = some (.cells #[.map (some b2)] 126 (0, 0)) from hw2 ▸ blk_new _ _)
  clear hw2
  have HBn := Aside0.mk (below_step HB.out hbx)
  have HGn := Aside0.mk (blk_below HG.out hbx)
  have HFn := Aside0.mk (blk_below HF.out hbx)
  have T1n := Aside0.mk (T1.out.kept (Below.block hbx _ T1.out.lt))
  have T2n := Aside0.mk (T2.out.kept (Below.block hbx _ T2.out.lt))
  have V1n := Aside0.mk (Kd.R_below V1.out hbx)
  clear HB HG HF T1 T2 V1
  have HB := HBn
  have HG := HGn
  have HF := HFn
  have T1 := T1n
  have T2 := T2n
  have V1 := V1n
  clear HBn HGn HFn T1n T2n V1n
  clear hbx
  refine ⟨_, rfl, ?_⟩
  refine hK.out _ _ ⟨(blk_cell HG.out 0).trans rfl, (blk_cell HG.out 1).trans rfl⟩ (fun hHeld => ?_)
  clear hK K
  refine norm_ (a' := ?_) ?_ ?_
  rotate_left
  · show Act.put _ (some 13) _ = _
    simp only [Act.put, List.setIfInBounds_toArray, List.set_cons_zero, List.set_cons_succ, i64_w, i32_w]
    try rfl
  refine one_ (i := 11) (N := some 14) #[true, true, true, true, true, true, true, true, true, true, true, true, false, false] rfl rfl (one_of HT_.out (by kernel_rfl)) (by decide) (fun K hK => ?_)
  refine goes_ Try.func106 (by kernel_rfl) rfl #[.func (.func 114) #[] #[.pointer (some ⟨w3.heap.size, 0, none⟩)]] (by rfl) rfl rfl (by simp only [List.map_toArray, List.map_cons, List.map_nil]; rfl) ?_
  refine (sorted_calls b2 n w3.heap.size _ _ T2.out hn K2.out).mono ?_
  rintro e w5 ⟨v2, rfl, hv, hb2⟩
  have V2 := Aside0.mk (Kd.R_mono (Kd.R_lower hv (below_size HB.out)) (fun j hj => (Nat.le_trans (below_size HB.out) hj : w.heap.size ≤ j)))
  clear hv K2
  have HBn := Aside0.mk (below_step HB.out hb2)
  have HGn := Aside0.mk (blk_below HG.out hb2)
  have HFn := Aside0.mk (blk_below HF.out hb2)
  have T1n := Aside0.mk (T1.out.kept (Below.block hb2 _ T1.out.lt))
  have T2n := Aside0.mk (T2.out.kept (Below.block hb2 _ T2.out.lt))
  have V1n := Aside0.mk (Kd.R_below V1.out hb2)
  clear HB HG HF T1 T2 V1
  have HB := HBn
  have HG := HGn
  have HF := HFn
  have T1 := T1n
  have T2 := T2n
  have V1 := V1n
  clear HBn HGn HFn T1n T2n V1n
  clear hb2
  obtain ⟨A2, c2, rfl⟩ := Kd.R_slice V2.out
  refine ⟨_, rfl, ?_⟩
  refine hK.out _ _ ⟨(blk_cell HG.out 0).trans rfl, (blk_cell HG.out 1).trans rfl⟩ (fun hHeld => ?_)
  clear hK K
  refine norm_ (a' := ?_) ?_ ?_
  rotate_left
  · show Act.put _ (some 14) _ = _
    simp only [Act.put, List.setIfInBounds_toArray, List.set_cons_zero, List.set_cons_succ, i64_w, i32_w]
    try rfl
  refine pure_ (i := 12) (N := some 15) (v := ?_) (a' := ?_) #[true, true, true, true, true, true, true, true, true, true, true, true, true, false] rfl rfl (any_of HT_.out (by kernel_rfl)) (fun _ _ _ h => h) (Or.inl ⟨by rfl, ?_⟩) ?_ ?_
  rotate_left
  · intro w'
    go_simp
    with_reducible rfl
  rotate_left
  · simp only [Act.put, List.setIfInBounds_toArray, List.set_cons_zero, List.set_cons_succ, i64_w, i32_w]
    rfl
  refine last_ (i := 13) (N := none) #[true, true, true, true, true, true, true, true, true, true, true, true, true, true] rfl rfl (one_of HT_.out (by kernel_rfl)) (by decide) (fun K hK => ?_)
  refine row_step rfl 75 _ _ rfl gf #[.slice A1 l1.length c1, .slice A2 l2.length c2] #[.slice none 0 0, .slice none 0 0] (by rfl) (by rfl) HF.out (by kernel_rfl) (by rfl) (by kernel_rfl) (by rfl) rfl ?_
  intro w6 hw6 hg6
  refine hK.out _ _ ?_
  clear hK K
  refine done_ (done_of HT_.out (by kernel_rfl)) ?_

  go_wp2
  refine bodyPost_ret (v := .agg #[.slice A1 l1.length c1, .slice A2 l2.length c2]) (results_single rfl (.cell gf 75 _ (0, 0) _ rfl hw6 Try.underlying75 rfl (by kernel_rfl) .nil)) rfl ?_
  have hgf : w.heap.size ≤ gf := by rw [HGF.out]; exact Nat.le_refl _
  have hgx := HGF.out
  have hR : ∀ {v : Value} {l : List Int}, (Kd.int .i64).R 2 w5 w.heap.size (fun k => w.heap.size ≤ k) v l → (Kd.int .i64).R 2 w6 w.heap.size (fun k => w.heap.size ≤ k) v l := fun h =>
    Kd.R_mono (Kd.R_grown (Kd.R_types h HF.out (by decide)) hg6 (fun k hk e => hk.2 (Option.some.inj e))) (fun k hk => hk.1)
  exact ⟨_, _, rfl, hR V1.out, hR V2.out, HB.out.trans ((Turn.of_grown (S := fun k => k = gf) hg6 (fun k hk => (Option.some.inj hk).symm)).below (fun k hk => by rw [hk]; exact hgf) (below_size HB.out))⟩
end Go.Proofs.Ytochgjeanajoiaa.HA.Mem
