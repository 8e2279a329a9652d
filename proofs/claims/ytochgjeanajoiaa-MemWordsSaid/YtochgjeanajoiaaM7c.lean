/- Written by hand: the closure of New, ContainsFunc over it, Clone, word. -/
import Derived.Test.YtochgjeanajoiaaM7b
namespace Go.Proofs.Ytochgjeanajoiaa.HA.Mem
open Go.RowKit Go.WideMaps Go.Maps Go.Proofs.YtochgjeanajoiaaW.PrintWords Go.Proofs.YtochgjeanajoiaaW.PrintLast Go.Proofs.YtochgjeanajoiaaW.PrintMore
set_option linter.unusedVariables false
set_option linter.unusedSimpArgs false

def R79.T1 : Bool × List (List Nat × List Nat) := (true, [([], []), ([0], [0]), ([], []), ([2], [2]), ([1, 3], [1, 3]), ([4, 3], [4]), ([5], [5]), ([6, 5], [5, 6]), ([5], [5]), ([8, 5, 5], [5, 8]), ([7, 9, 5], [5, 7, 9]), ([5, 10], [5, 10]), ([11, 9, 0, 1, 2, 3, 4, 5, 6, 7, 8, 9, 10, 11], [11])])
def R79.B1 : List Nat := [0, 1, 0, 4, 15, 31, 63, 127, 63, 319, 1023, 2047, 4095]
theorem R79.tab1 : rtab .any (opsOf Try.f79 1) = R79.T1 := by kernel_rfl
theorem R79.bits1 : waitsOk R79.T1.2 R79.B1 = true := by kernel_rfl
theorem if_un {x : Bool} {A B : Prop} (h : x = false) (hB : B) : if x = true then A else B := by rw [h]; exact hB
theorem keep6 {a0 a1 a2 a3 a4 a5 : Addr} {v0 v1 v2 v3 v4 v5 : Value} {w0 W W1 : World} (h : W.cell? a0 = some v0 ∧ W.cell? a1 = some v1 ∧ W.cell? a2 = some v2 ∧ W.cell? a3 = some v3 ∧ W.cell? a4 = some v4 ∧ W.cell? a5 = some v5 ∧ Aside0 (Below w0.heap.size w0 W)) (hb : Below W.heap.size W W1) :
    W1.cell? a0 = some v0 ∧ W1.cell? a1 = some v1 ∧ W1.cell? a2 = some v2 ∧ W1.cell? a3 = some v3 ∧ W1.cell? a4 = some v4 ∧ W1.cell? a5 = some v5 ∧ Aside0 (Below w0.heap.size w0 W1) :=
  ⟨pw_cell_below hb h.1, pw_cell_below hb h.2.1, pw_cell_below hb h.2.2.1, pw_cell_below hb h.2.2.2.1, pw_cell_below hb h.2.2.2.2.1, pw_cell_below hb h.2.2.2.2.2.1, ⟨below_step h.2.2.2.2.2.2.out hb⟩⟩
set_option maxRecDepth 100000 in
set_option maxHeartbeats 4000000 in
theorem clo_calls (g : Nat) (rb ob : Int) (A A' : Option Addr) (n c n' c' : Nat) (wr wr' : Bool) (w : World) (hg : w.heap[g]? = some (.cells #[.int .i64 rb, .slice A n c, .bool wr] 59 (0, 0)))
    (hb : 0 ≤ rb ∧ rb ≤ 1099511627776) (hn : n ≤ 65536) (hb' : 0 ≤ ob ∧ ob ≤ 1099511627776) (hn' : n' ≤ 65536) :
    Calls Try.prog 79 #[.agg #[.int .i64 ob, .slice A' n' c', .bool wr'], .pointer (some ⟨g, 0, none⟩)] w fun e w' => e = .returned (.bool (decide (rb < ob + 8 * n') && decide (ob < rb + 8 * n))) ∧ Below w.heap.size w w' := by
  have hu59 := Try.underlying59
  have g0 := (blk_cell hg 0).trans rfl
  have g1 := (blk_cell hg 1).trans rfl
  have g2 := (blk_cell hg 2).trans rfl
  have hc0 := below_alloc (Below.refl w.heap.size w) (.cells #[.int .i64 ob, .slice A' n' c', .bool wr'] 59 (0, 0))
  go_enter Try.func79, Try.ntmps79
  go_wp2_with (first
    | ((with_reducible refine gate_dst (N := 2) rfl ?_); refine box_event ?hg (N := 2) ?hd (cs := #[.int .i64 ob, .slice A' n' c', .bool wr']) (t := 59) ?hr ?_; (case hd => rfl); (case hg => rfl); (case hr => first | (go_simp; done) | (go_simp; rfl)); intro gb hgb w1 hbox hb; have HB := Aside0.mk hb; have f0 := (blk_cell (blk_below hg hb) 0).trans rfl; have f1 := (blk_cell (blk_below hg hb) 1).trans rfl; have f2 := (blk_cell (blk_below hg hb) 2).trans rfl; have k0 := (blk_cell hbox 0).trans rfl; have k1 := (blk_cell hbox 1).trans rfl; have k2 := (blk_cell hbox 2).trans rfl; clear hg hb hbox hgb g0 g1 g2))
  have hs : ∀ x, decide (rb < ob + 8 * n') = x → True := fun _ _ => trivial
  cases h1 : decide (rb < ob + 8 * n')
  case true =>
    go_region_held3 (fun w' => w'.cell? ⟨g, 0, none⟩ = some (.int .i64 rb) ∧ w'.cell? ⟨g, 1, none⟩ = some (.slice A n c) ∧ w'.cell? ⟨g, 2, none⟩ = some (.bool wr) ∧ w'.cell? ⟨gb, 0, none⟩ = some (.int .i64 ob) ∧ w'.cell? ⟨gb, 1, none⟩ = some (.slice A' n' c') ∧ w'.cell? ⟨gb, 2, none⟩ = some (.bool wr') ∧ Aside0 (Below w.heap.size w w'))
      (first
        | assumption
        | exact ⟨f0, f1, f2, k0, k1, k2, ⟨below_drew HB.out⟩⟩
        | exact keep6 ‹_› hb1)
      (first | (go_at_call 80; refine (end_calls _ _ _ _ _ _ ‹_› ‹_›).mono ?_; rintro e w1 ⟨rfl, hb1⟩))
    all_goals
      go_wp2
      go_ret
      refine ⟨?_, Aside0.out (And.right (And.right (And.right (And.right (And.right (And.right ‹_›))))))⟩
      simp only [h1, Bool.true_and]
      rfl
  case false =>
    refine start_ (n := 13) (S := fun w' => w'.cell? ⟨g, 0, none⟩ = some (.int .i64 rb) ∧ w'.cell? ⟨g, 1, none⟩ = some (.slice A n c) ∧ w'.cell? ⟨g, 2, none⟩ = some (.bool wr) ∧ w'.cell? ⟨gb, 0, none⟩ = some (.int .i64 ob) ∧ w'.cell? ⟨gb, 1, none⟩ = some (.slice A' n' c') ∧ w'.cell? ⟨gb, 2, none⟩ = some (.bool wr') ∧ Aside0 (Below w.heap.size w w')) (ds := []) #[false, false, false, false, false, false, false, false, false, false, false, false, false] (by kernel_rfl) rfl rfl ?_ (fun hHeld => ?_)
    case refine_1 => exact ⟨f0, f1, f2, k0, k1, k2, ⟨below_drew HB.out⟩⟩
    refine with_tabW R79.tab1 R79.bits1 (fun HT_ HW_ => ?_)
    refine pure_ (i := 0) (N := some 4) (v := ?_) (a' := ?_) #[true, false, false, false, false, false, false, false, false, false, false, false, false] rfl rfl (any_of HT_.out (by kernel_rfl)) (fun _ _ _ h => h) (Or.inl ⟨by rfl, ?_⟩) ?_ ?_
    rotate_left
    · intro w'
      go_simp
      with_reducible rfl
    rotate_left
    · simp only [Act.put, List.setIfInBounds_toArray, List.set_cons_zero, List.set_cons_succ, i64_w, i32_w]
      rfl
    refine take_ (i := 1) (N := some 5) (v := ?_) (a' := ?_) #[true, true, false, false, false, false, false, false, false, false, false, false, false] rfl rfl (take_ofW HT_.out HW_.out (by kernel_rfl)) (fun _ _ _ h => h) (Or.inl ⟨by rfl, ?_⟩) hHeld ?_ ?_
    rotate_left
    · rintro w' ⟨s0, s1, s2, s3, s4, s5, s6⟩
      go_simp
      with_reducible rfl
    rotate_left
    · simp only [Act.put, List.setIfInBounds_toArray, List.set_cons_zero, List.set_cons_succ, i64_w, i32_w]
      rfl
    refine take_ (i := 2) (N := some 6) (v := ?_) (a' := ?_) #[true, true, true, false, false, false, false, false, false, false, false, false, false] rfl rfl (take_ofW HT_.out HW_.out (by kernel_rfl)) (fun _ _ _ h => h) (Or.inl ⟨by rfl, ?_⟩) hHeld ?_ ?_
    rotate_left
    · rintro w' ⟨s0, s1, s2, s3, s4, s5, s6⟩
      go_simp
      with_reducible rfl
    rotate_left
    · simp only [Act.put, List.setIfInBounds_toArray, List.set_cons_zero, List.set_cons_succ, i64_w, i32_w]
      rfl
    refine one_ (i := 3) (N := some 7) #[true, true, true, true, false, false, false, false, false, false, false, false, false] rfl rfl (one_of HT_.out (by kernel_rfl)) (by decide) (fun K hK => ?_)
    refine goes_ Try.func80 (by kernel_rfl) rfl #[.agg #[.int .i64 ob, .slice A' n' c', .bool wr']] (by rfl) rfl rfl (by simp only [List.map_toArray, List.map_cons, List.map_nil]; rfl) ?_
    with_reducible refine (end_calls ob A' n' c' wr' _ hb' hn').mono ?_
    rintro e w2 ⟨rfl, hb1⟩
    refine ⟨_, rfl, ?_⟩
    refine hK.out _ _ (keep6 hHeld hb1) (fun hHeld => ?_)
    clear hK K
    refine norm_ (a' := ?_) ?_ ?_
    rotate_left
    · show Act.put _ (some 7) _ = _
      simp only [Act.put, List.setIfInBounds_toArray, List.set_cons_zero, List.set_cons_succ, i64_w, i32_w]
      try rfl
    refine pure_ (i := 4) (N := some 8) (v := ?_) (a' := ?_) #[true, true, true, true, true, false, false, false, false, false, false, false, false] rfl rfl (any_of HT_.out (by kernel_rfl)) (fun _ _ _ h => h) (Or.inl ⟨by rfl, ?_⟩) ?_ ?_
    rotate_left
    · intro w'
      go_simp
      with_reducible rfl
    rotate_left
    · simp only [Act.put, List.setIfInBounds_toArray, List.set_cons_zero, List.set_cons_succ, i64_w, i32_w, h1]
      rfl
    refine pure_ (i := 5) (N := some 9) (v := ?_) (a' := ?_) #[true, true, true, true, true, true, false, false, false, false, false, false, false] rfl rfl (any_of HT_.out (by kernel_rfl)) (fun _ _ _ h => h) (Or.inl ⟨by rfl, ?_⟩) ?_ ?_
    rotate_left
    · intro w'
      go_simp
      with_reducible rfl
    rotate_left
    · simp only [Act.put, List.setIfInBounds_toArray, List.set_cons_zero, List.set_cons_succ, i64_w, i32_w]
      rfl
    refine pure_ (i := 6) (N := some 10) (v := undef) (a' := ?_) #[true, true, true, true, true, true, true, false, false, false, false, false, false] rfl rfl (any_of HT_.out (by kernel_rfl)) (fun _ _ _ h => h) (Or.inr ⟨by rfl, rfl⟩) ?_ ?_
    rotate_left
    · simp only [Act.put, List.setIfInBounds_toArray, List.set_cons_zero, List.set_cons_succ, i64_w, i32_w]
      rfl
    refine pure_ (i := 7) (N := some 11) (v := undef) (a' := ?_) #[true, true, true, true, true, true, true, true, false, false, false, false, false] rfl rfl (any_of HT_.out (by kernel_rfl)) (fun _ _ _ h => h) (Or.inr ⟨by rfl, rfl⟩) ?_ ?_
    rotate_left
    · simp only [Act.put, List.setIfInBounds_toArray, List.set_cons_zero, List.set_cons_succ, i64_w, i32_w]
      rfl
    refine pure_ (i := 8) (N := some 12) (v := undef) (a' := ?_) #[true, true, true, true, true, true, true, true, true, false, false, false, false] rfl rfl (any_of HT_.out (by kernel_rfl)) (fun _ _ _ h => h) (Or.inr ⟨by rfl, rfl⟩) ?_ ?_
    rotate_left
    · simp only [Act.put, List.setIfInBounds_toArray, List.set_cons_zero, List.set_cons_succ, i64_w, i32_w]
      rfl
    refine one_ (i := 9) (N := some 13) #[true, true, true, true, true, true, true, true, true, true, false, false, false] rfl rfl (one_of HT_.out (by kernel_rfl)) (by decide) (fun K hK => ?_)
    refine if_un (by rfl) ?_
    refine hK.out _ _ hHeld (fun hHeld => ?_)
    clear hK K
    refine norm_ (a' := ?_) ?_ ?_
    rotate_left
    · show Act.put _ (some 13) _ = _
      simp only [Act.put, List.setIfInBounds_toArray, List.set_cons_zero, List.set_cons_succ, i64_w, i32_w]
      try rfl
    refine pure_ (i := 10) (N := some 14) (v := undef) (a' := ?_) #[true, true, true, true, true, true, true, true, true, true, true, false, false] rfl rfl (any_of HT_.out (by kernel_rfl)) (fun _ _ _ h => h) (Or.inr ⟨by rfl, rfl⟩) ?_ ?_
    rotate_left
    · simp only [Act.put, List.setIfInBounds_toArray, List.set_cons_zero, List.set_cons_succ, i64_w, i32_w]
      rfl
    refine pure_ (i := 11) (N := some 15) (v := ?_) (a' := ?_) #[true, true, true, true, true, true, true, true, true, true, true, true, false] rfl rfl (any_of HT_.out (by kernel_rfl)) (fun _ _ _ h => h) (Or.inl ⟨by rfl, ?_⟩) ?_ ?_
    rotate_left
    · intro w'
      go_simp
      with_reducible rfl
    rotate_left
    · simp only [Act.put, List.setIfInBounds_toArray, List.set_cons_zero, List.set_cons_succ, i64_w, i32_w]
      rfl
    refine pure_ (i := 12) (N := some 3) (v := ?_) (a' := ?_) #[true, true, true, true, true, true, true, true, true, true, true, true, true] rfl rfl (any_of HT_.out (by kernel_rfl)) (fun _ _ _ h => h) (Or.inl ⟨by rfl, ?_⟩) ?_ ?_
    rotate_left
    · intro w'
      go_simp
      with_reducible rfl
    rotate_left
    · simp only [Act.put, List.setIfInBounds_toArray, List.set_cons_zero, List.set_cons_succ, i64_w, i32_w]
      rfl
    refine done_ (done_of HT_.out (by kernel_rfl)) ?_

    go_wp2
    go_ret
    refine ⟨by simp only [h1, Bool.false_and]; rfl, Aside0.out (And.right (And.right (And.right (And.right (And.right (And.right ‹_›))))))⟩

/-! ### ContainsFunc over the closure of New -/
def nOf : Value → Int | .int _ q => q | _ => 0
def hit (r o : Rg) : Bool := decide (r.base < endR o) && decide (o.base < endR r)
theorem hit_true {x o : Rg} (h : x.base < o.base + 8 * o.words.length ∧ o.base < x.base + 8 * x.words.length) : hit x o = true := by
  unfold hit endR; simp [h.1, h.2]
theorem hit_false {x o : Rg} (h : ¬ (x.base < o.base + 8 * o.words.length ∧ o.base < x.base + 8 * x.words.length)) : hit x o = false := by
  unfold hit endR
  by_cases h1 : x.base < o.base + 8 * o.words.length
  · have : ¬ o.base < x.base + 8 * x.words.length := fun h2 => h ⟨h1, h2⟩
    simp [h1, this]
  · simp [h1]
theorem apart_hit (r o : Rg) : apartR r o = !hit r o := rfl
theorem regOk_iff {r : Rg} (h : regOk r = true) : (0 ≤ r.base ∧ r.base ≤ 1099511627776) ∧ r.base % 8 = 0 ∧ r.words.length ≤ 65536 := by
  simp only [regOk, decide_eq_true_eq] at h; exact ⟨⟨h.1, h.2.1⟩, h.2.2⟩
/-- A region's three cells. -/
structure RgAt (w : World) (ad : Addr) (x : Rg) (A : Option Addr) (c : Nat) : Prop where
  c0 : w.cell? ad = some (.int .i64 x.base)
  c1 : w.cell? ⟨ad.block, ad.off + 1, none⟩ = some (.slice A x.words.length c)
  c2 : w.cell? ⟨ad.block, ad.off + 2, none⟩ = some (.bool x.wr)
  len : x.words.length ≤ c
  words : (Kd.int .i64).C w A x.words.length x.words
def rdR (xs : List Rg) (i : Int) : Rg := xs.getD i.toNat zRg
theorem at_Rg {w : World} {A : Option Addr} {n : Nat} {xs : List Rg} (h : Kd.C k59 w A n xs) (i : Int) (h0 : 0 ≤ i) (h1 : i < n) : ∃ ad B c, A = some ad ∧ RgAt w (ad.add (i.toNat * 3)) (rdR xs i) B c := by
  obtain ⟨ad, cs, e, _, hK, hc0⟩ := Kd.C_get h zRg i h0 h1
  have hc : ∀ j u, cs[j]? = some u → w.cell? (ad.add (i.toNat * 3 + j)) = some u := hc0
  obtain ⟨B, c, rfl, hl, hw⟩ := k59_open hK
  exact ⟨ad, B, c, e, hc 0 _ rfl, by rw [← add_field _ _ 1 (by omega)]; exact hc 1 _ rfl, by rw [← add_field _ _ 2 (by omega)]; exact hc 2 _ rfl, hl, hw⟩
set_option maxRecDepth 100000 in
set_option maxHeartbeats 4000000 in
theorem index_calls (g : Nat) (x : Rg) (A B : Option Addr) (c cb : Nat) (xs : List Rg) (w : World) (hg : w.heap[g]? = some (.cells #[.int .i64 x.base, .slice B x.words.length cb, .bool x.wr] 59 (0, 0)))
    (hx : regOk x = true) (hr : Kd.C k59 w A xs.length xs) (hxs : ∀ o ∈ xs, regOk o = true) :
    Calls Try.prog 105 #[.slice A xs.length c, .func (.func 79) #[] #[.pointer (some ⟨g, 0, none⟩)]] w fun e w' => ∃ v : Int, e = .returned (.int .i64 v) ∧ decide (0 ≤ v) = xs.any (hit x) ∧ Below w.heap.size w w' := by
  have hu59 := Try.underlying59
  have HR := Aside0.mk hr
  have HG := Aside0.mk hg
  have HX := Aside0.mk (regOk_iff hx)
  have HS := Aside0.mk hxs
  have hlen : xs.length ≤ 9223372036854775807 := hr.2.1
  clear hr hg hx hxs
  go_enter Try.func105, Try.ntmps105
  go_wp2
  go_loopw [8] (fun i wr => ∃ k : Nat, k ≤ xs.length ∧ i = .int .i64 k ∧ Aside0 (∀ o ∈ xs.take k, hit x o = false) ∧ Aside0 (Below w.heap.size w wr)) (fun i _ => xs.length - (nOf i).toNat)
  case atStart => exact ⟨0, Nat.zero_le _, rfl, ⟨by simp⟩, ⟨Below.refl _ _⟩⟩
  case round =>
    obtain ⟨k, hk, rfl, HA, HB⟩ := hrel
    by_cases hlt : k < xs.length
    · obtain ⟨ad, C, cc, rfl, hat⟩ := at_Rg (Kd.C_below HR.out HB.out) (k : Int) (by omega) (by omega)
      obtain ⟨o, ho⟩ : ∃ o, xs[k]? = some o := ⟨_, List.getElem?_eq_getElem hlt⟩
      rw [show rdR xs (k : Int) = o from by simp [rdR, ho]] at hat
      have HO := Aside0.mk ho
      have HOK := Aside0.mk (regOk_iff (HS.out o (List.mem_of_getElem? ho)))
      obtain ⟨c0, c1, c2, _, _⟩ := hat
      simp only [Int.toNat_natCast] at c0 c1 c2
      clear ho
      go_wp2_with (first
        | (go_at_call 79; go_loud (refine (clo_calls g x.base o.base B C x.words.length cb o.words.length cc x.wr o.wr _ (blk_below HG.out HB.out) HX.out.1 HX.out.2.2 HOK.out.1 HOK.out.2.2).mono ?_; rintro e w1 ⟨rfl, hb1⟩; have HB1 := Aside0.mk (below_step HB.out hb1); clear hb1)))
      · go_ret
        refine ⟨k, rfl, ?_, HB1.out⟩
        have hh : hit x o = true := hit_true (by omega)
        have : xs.any (hit x) = true := List.any_eq_true.2 ⟨o, List.mem_of_getElem? HO.out, hh⟩
        rw [this]; simp
      · go_roundw
        case rel =>
          refine ⟨k + 1, by omega, by go_num, ⟨?_⟩, HB1⟩
          intro o' ho'
          rw [List.take_add_one, HO.out, List.mem_append] at ho'
          rcases ho' with ho' | ho'
          · exact HA.out o' ho'
          · simp only [Option.toList_some, List.mem_singleton] at ho'
            subst ho'
            exact hit_false (by omega)
        case measure => simp [nOf]; omega
    · obtain rfl : k = xs.length := by omega
      go_wp2
      go_ret
      refine ⟨-1, rfl, ?_, HB.out⟩
      have := HA.out
      rw [List.take_length] at this
      simpa using this

set_option maxRecDepth 100000 in
set_option maxHeartbeats 4000000 in
theorem contains_calls (g : Nat) (x : Rg) (A B : Option Addr) (c cb : Nat) (xs : List Rg) (w : World) (hg : w.heap[g]? = some (.cells #[.int .i64 x.base, .slice B x.words.length cb, .bool x.wr] 59 (0, 0)))
    (hx : regOk x = true) (hr : Kd.C k59 w A xs.length xs) (hxs : ∀ o ∈ xs, regOk o = true) :
    Calls Try.prog 78 #[.slice A xs.length c, .func (.func 79) #[] #[.pointer (some ⟨g, 0, none⟩)]] w fun e w' => e = .returned (.bool (xs.any (hit x))) ∧ Below w.heap.size w w' := by
  have HC := fun W (h1 : w = W) => index_calls g x A B c cb xs W (h1 ▸ hg) hx (h1 ▸ hr) hxs
  clear hr hg hx hxs
  go_enter Try.func78, Try.ntmps78
  go_wp2_with (first
    | (go_at_call 105; refine (HC _ rfl).mono ?_; rintro e w1 ⟨v, rfl, hv, hb1⟩; have HV := Aside0.mk hv; have HB := Aside0.mk hb1; clear hv hb1))
  go_ret
  refine ⟨?_, HB.out⟩
  rw [← HV.out]
  first | rfl | (simp; done)
end Go.Proofs.Ytochgjeanajoiaa.HA.Mem
