-- Written by this seat's own hook.py over the kit's print.py (with functions proved by hand)
import Derived.Test.YtochgjeanajoiaaHAK
namespace Go.Proofs.Ytochgjeanajoiaa.HA
open Go.RowKit Go.Proofs.YtochgjeanajoiaaW.PrintWords Go.Proofs.YtochgjeanajoiaaW.PrintLast Go.Proofs.YtochgjeanajoiaaW.PrintMore
attribute [local go_sem] max2_int min2_int max_two min_two max_three min_three max_four min_four   -- for this text's walks alone
set_option linter.unusedVariables false
set_option linter.unusedSimpArgs false

/-! ### cotterlaw06_small: function 21 -/
def cotterlaw06_small.f (a0_0 : ByteArray) (l0_1 : List Int) (l0_2 : List (S32)) (l0_3 : List (S34)) : Option (Bool) := some (decide ((l0_2.length : Int) ≤ 200))
set_option maxHeartbeats 8000000 in
set_option maxRecDepth 100000 in
theorem cotterlaw06_small.calls (a0_0 : ByteArray) (A0_1 : Option Addr) (c0_1 : Nat) (l0_1 : List Int) (A0_2 : Option Addr) (c0_2 : Nat) (l0_2 : List (S32)) (A0_3 : Option Addr) (c0_3 : Nat) (l0_3 : List (S34)) (r : Bool) (w : World) (hr0_1 : Kd.C (Kd.int .i64) w A0_1 l0_1.length l0_1) (hc0_1 : l0_1.length ≤ c0_1) (hr0_2 : Kd.C k32 w A0_2 l0_2.length l0_2) (hc0_2 : l0_2.length ≤ c0_2) (hr0_3 : Kd.C k34 w A0_3 l0_3.length l0_3) (hc0_3 : l0_3.length ≤ c0_3) (h : cotterlaw06_small.f a0_0 l0_1 l0_2 l0_3 = some r) :
    Calls Try.prog 21 #[.agg #[.string a0_0, .slice A0_1 l0_1.length c0_1, .slice A0_2 l0_2.length c0_2, .slice A0_3 l0_3.length c0_3]] w fun e w' => e = .returned (.bool r) ∧ Below w.heap.size w w' := by
  have hu30 := Try.underlying30
  have HR0_1 := Aside0.mk hr0_1
  have HC0_1 := Aside0.mk hc0_1
  clear hr0_1 hc0_1
  have HR0_2 := Aside0.mk hr0_2
  have HC0_2 := Aside0.mk hc0_2
  clear hr0_2 hc0_2
  have HR0_3 := Aside0.mk hr0_3
  have HC0_3 := Aside0.mk hc0_3
  clear hr0_3 hc0_3
  have HB := Aside0.mk (Below.refl w.heap.size w)
  have H : (some (decide ((l0_2.length : Int) ≤ 200))) = some r := h
  clear h
  obtain rfl := Option.some.inj H
  go_enter Try.func21, Try.ntmps21
  go_wp2_with (first | ((with_reducible refine gate_dst (N := 1) rfl ?_); refine box_event ?hg (N := 1) ?hd (cs := #[.string a0_0, .slice A0_1 l0_1.length c0_1, .slice A0_2 l0_2.length c0_2, .slice A0_3 l0_3.length c0_3]) (t := 30) ?hr ?_; (case hd => rfl); (case hg => rfl); (case hr => first | (go_simp; done) | (go_simp; rfl)); intro gb101 hg w2 hbox hb; have n0_ := Aside0.mk (below_step (by repeat (first | (with_reducible first | exact HB.out | apply below_alloc | apply pw_below_drewN | apply below_drew1) | exact HB.out)) hb); have n1_ := Aside0.mk (hbox); have n2_ := Aside0.mk ((by rw [hg]; exact (below_size (by repeat (first | (with_reducible first | exact HB.out | apply below_alloc | apply pw_below_drewN | apply below_drew1) | exact HB.out))) : w.heap.size ≤ gb101)); have n3_ := Aside0.mk ((by rw [hg]; exact (below_size (by repeat (first | (with_reducible first | exact HB.out | apply below_alloc | apply pw_below_drewN | apply below_drew1) | exact HB.out))) : w.heap.size ≤ gb101)); clear HB; have HB := n0_; have BK101 := n1_; have GW101 := n2_; have GE101 := n3_; clear n0_ n1_ n2_ n3_; clear hb hbox hg; have hcz3_0 : w2.cell? ⟨gb101, 0, none⟩ = some (.string a0_0) := (blk_cell BK101.out 0).trans rfl; have hcz3_1 : w2.cell? ⟨gb101, 1, none⟩ = some (.slice A0_1 l0_1.length c0_1) := (blk_cell BK101.out 1).trans rfl; have hcz3_2 : w2.cell? ⟨gb101, 2, none⟩ = some (.slice A0_2 l0_2.length c0_2) := (blk_cell BK101.out 2).trans rfl; have hcz3_3 : w2.cell? ⟨gb101, 3, none⟩ = some (.slice A0_3 l0_3.length c0_3) := (blk_cell BK101.out 3).trans rfl; have hfz3_0 := blk_frozen BK101.out 0; have hfz3_1 := blk_frozen BK101.out 1; have hfz3_2 := blk_frozen BK101.out 2; have hfz3_3 := blk_frozen BK101.out 3))
  go_ret
  exact ⟨by first | rfl | (simp [errW_none, errW_some] <;> rfl) | (simp [*, errW_none, errW_some] <;> rfl), by repeat (first | (with_reducible first | exact HB.out | apply below_alloc | apply pw_below_drewN | apply below_drew1 | refine below_set ?_ GE101.out) | exact HB.out)⟩

/-! ### word_put: function 110 -/
def word_put.l0 : Nat → List Int → Int → Option (List Int)
  | 0, _, _ => none
  | k + 1, x0, x1 => if x1 ≥ 128 then (if x0.length < 140737488355328 then (word_put.l0 k (x0 ++ [Go.bits .or .u8 ((x1) % 256) 128]) (x1 / 128)) else (none)) else (if x0.length < 140737488355328 then (some (x0 ++ [(x1) % 256])) else (none))
def word_put.f (k : Nat) (l0 : List Int) (a1 : Int) : Option (List Int) := word_put.l0 k l0 a1
theorem word_put.mono_l : ∀ k, (∀ y0 y1, LeO (word_put.l0 k y0 y1) (word_put.l0 (k + 1) y0 y1))
  | 0 => fun _ _ r h => by simp [word_put.l0] at h
  | k + 1 => by
    have ih0 := word_put.mono_l k
    · intro y0 y1
      unfold word_put.l0
      repeat' first
      | (with_reducible exact ih0 _ _)
      | (with_reducible exact LeO.refl _)
      | (with_reducible exact LeO.none _)
      | (with_reducible refine LeO.ite ?_ ?_)
      | (with_reducible refine LeO.bind ?_ (fun _ => ?_))
      | exact ih0 _ _
      | exact LeO.none _
      | refine LeO.ite ?_ ?_
      | refine LeO.bind ?_ (fun _ => ?_)
theorem word_put.mono : ∀ a0 a1 k, LeO (word_put.f k a0 a1) (word_put.f (k + 1) a0 a1) := by
  intro a0 a1 k
  have ih0 := word_put.mono_l k
  unfold word_put.f
  repeat' first
      | (with_reducible exact ih0 _ _)
      | (with_reducible exact LeO.refl _)
      | (with_reducible exact LeO.none _)
      | (with_reducible refine LeO.ite ?_ ?_)
      | (with_reducible refine LeO.bind ?_ (fun _ => ?_))
      | exact ih0 _ _
      | exact LeO.none _
      | refine LeO.ite ?_ ?_
      | refine LeO.bind ?_ (fun _ => ?_)
set_option maxHeartbeats 8000000 in
set_option maxRecDepth 100000 in
theorem word_put.calls (k : Nat) (P0_ : Nat → Prop) (u9000_ : Value) (l0 : List Int) (a1 : Int) (r : List Int) (w0 w : World) (hB : Below w0.heap.size w0 w) (ho0 : Kd.R (Kd.int .u8) 5 w w0.heap.size P0_ u9000_ l0) (h : word_put.f k l0 a1 = some r) :
    Calls Try.prog 110 #[u9000_, .int .u64 a1] w fun e w' => ∃ v0_ : Value, e = .returned (v0_) ∧ Kd.R (Kd.int .u8) 5 w' w0.heap.size (fun k_ => (P0_ k_ ∨ w.heap.size ≤ k_)) v0_ r ∧ Below w0.heap.size w0 w' ∧ Kept w w' (fun k_ => P0_ k_) := by
  have HO0 := Aside0.mk (show Kd.R (Kd.int .u8) 5 w w0.heap.size (fun k_ => (P0_ k_ ∨ w.heap.size ≤ k_)) u9000_ l0 from Kd.R_mono ho0 (fun k_ hk => (.inl hk)))
  have HK := Aside0.mk (Kept.refl w (fun k_ => P0_ k_))
  have HW0 := Aside0.mk hB.size
  have HB := Aside0.mk hB
  clear hB
  have H : (word_put.l0 k l0 a1) = some r := h
  clear h
  have H' := Aside0.mk H
  clear H
  go_enter Try.func110, Try.ntmps110
  go_wp2
  go_loopg [0, 1] k (fun kq v0 v1 w' => ∃ (x0_1 : List Int) (x1_1 : Int), v1 = .int .u64 x1_1 ∧ Aside0 (word_put.l0 kq x0_1 x1_1 = some r) ∧ Aside0 (kq ≤ k) ∧ Aside0 (Kd.R (Kd.int .u8) 5 w' w0.heap.size (fun k_ => (P0_ k_ ∨ w.heap.size ≤ k_)) v0 x0_1) ∧ Aside0 (Kept w w' (fun k_ => P0_ k_)) ∧ Aside0 (Below w0.heap.size w0 w'))
  case atStart => exact ⟨(l0), (a1), (by first | rfl | (simp; done) | (simp [*]; done)), H', ⟨Nat.le_refl _⟩, ⟨by (with_reducible repeat (first | apply Kd.R_alloc | apply Kd.R_drewN | apply Kd.R_drew)); exact HO0.out⟩, ⟨by repeat (first | (with_reducible first | exact HK.out | apply Kept.alloc | apply Kept.drewN | apply Kept.drew) | exact HK.out)⟩, ⟨by repeat (first | (with_reducible first | exact HB.out | apply below_alloc | apply pw_below_drewN | apply below_drew1) | exact HB.out)⟩⟩
  case round =>
    clear H'
    try clear c1
    try clear p2
    obtain ⟨x0_1, x1_1, rfl, HA, HK1, HO_0, HK, HB⟩ := hrel
    cases gk with
    | zero => exact absurd HA.out (by simp [word_put.l0])
    | succ k1 =>
      have H := HA.out
      clear HA
      simp only [word_put.l0] at H
      by_cases c3 : x1_1 ≥ 128
      · rw [if_pos c3] at H
        have c3b0 : decide (128 ≤ x1_1) = true := decide_eq_true c3
        clear c3
        by_cases c4 : x0_1.length < 140737488355328
        · rw [if_pos c4] at H
          have LMc4 := Aside0.mk c4
          clear c4
          obtain ⟨y101, hy101⟩ : ∃ y_ : List Int, y_ = (x0_1 ++ [Go.bits .or .u8 ((x1_1) % 256) 128]) := ⟨_, rfl⟩
          replace H : (word_put.l0 k1 y101 (x1_1 / 128)) = some r := by first | (rw [hy101]; with_reducible exact H) | (have H2_ := (Option.bind_some _ _).symm.trans H; rw [hy101]; with_reducible exact H2_) | (have H2_ := (Option.bind_some _ _).symm.trans H; with_reducible exact H2_) | with_reducible exact H | (rw [hy101]; exact H) | exact H
          have Ny101 := Aside0.mk hy101
          clear hy101
          have H' := Aside0.mk H
          clear H
          go_wp2_with (first | ((with_reducible refine gate_builtin (b := .append) (xs := #[.tmp 9, .tmp 13]) rfl ?_); at_builtin; refine Kd.R_append (Kd.int .u8) (w0 := w0) w0.heap.size rfl (.tmp 9) (.tmp 13) 91 5 (.int .u8 0) 1 rfl Try.underlying91 info5 rfl (by decide) (by omega) u0 x0_1 (Go.bits .or .u8 ((x1_1) % 256) 128) [.int .u8 (Go.bits .or .u8 ((x1_1) % 256) 128)] (fun k_ => (P0_ k_ ∨ w.heap.size ≤ k_)) (fun _ => False) rfl rfl ?aP (fun _ hk => hk.elim) ?aF ?aO ?aB ?aS ?aL ?_; (case aP => exact rfl); (case aB => exact (by repeat (first | (with_reducible first | exact HB.out | apply below_alloc | apply pw_below_drewN | apply below_drew1) | exact HB.out))); (case aF => exact (fun k_ hk => (.inr (Nat.le_trans (by first | exact HK.out.1 | exact (show Kept w _ (fun k_ => P0_ k_) from by repeat (first | (with_reducible first | exact HK.out | apply Kept.alloc | apply Kept.drewN | apply Kept.drew) | exact HK.out)).1) hk)))); (case aO => exact (by (with_reducible repeat (first | apply Kd.R_alloc | apply Kd.R_drewN | apply Kd.R_drew)); exact HO_0.out)); (case aS => exact (below_size (by repeat (first | (with_reducible first | exact HB.out | apply below_alloc | apply pw_below_drewN | apply below_drew1) | exact HB.out)))); (case aL => have := LMc4.out; omega); intro v102 w5 ho hb hg hat; rw [← Ny101.out] at ho; have n0_ := Aside0.mk (hb); have n1_ := Aside0.mk (Kept.of_grown (S := (fun k_ => P0_ k_)) hg (by repeat (first | (with_reducible first | exact HK.out | apply Kept.alloc | apply Kept.drewN | apply Kept.drew) | exact HK.out)) (fun k_ e_ => (HO_0.out.1 k_ e_))); have n2_ := Aside0.mk (ho); clear HB; clear HK; clear HO_0; have HB := n0_; have HK := n1_; have HO103 := n2_; clear n0_ n1_ n2_; clear ho hb hg hat))
          go_roundg k1
          case measure => have := HK1.out; omega
          case rel => exact ⟨(y101), (x1_1 / 128), (by first | rfl | (simp; done) | (simp [*]; done)), H', ⟨by have := HK1.out; omega⟩, ⟨by (with_reducible repeat (first | apply Kd.R_alloc | apply Kd.R_drewN | apply Kd.R_drew)); exact HO103.out⟩, ⟨by repeat (first | (with_reducible first | exact HK.out | apply Kept.alloc | apply Kept.drewN | apply Kept.drew) | exact HK.out)⟩, ⟨by repeat (first | (with_reducible first | exact HB.out | apply below_alloc | apply pw_below_drewN | apply below_drew1) | exact HB.out)⟩⟩
        · rw [if_neg c4] at H
          exact absurd H (by simp)
      · rw [if_neg c3] at H
        have c3b0 : decide (128 ≤ x1_1) = false := decide_eq_false c3
        clear c3
        by_cases c6 : x0_1.length < 140737488355328
        · rw [if_pos c6] at H
          have LMc6 := Aside0.mk c6
          clear c6
          obtain ⟨y104, hy104⟩ : ∃ y_ : List Int, y_ = (x0_1 ++ [(x1_1) % 256]) := ⟨_, rfl⟩
          replace H : (some y104) = some r := by first | (rw [hy104]; with_reducible exact H) | (have H2_ := (Option.bind_some _ _).symm.trans H; rw [hy104]; with_reducible exact H2_) | (have H2_ := (Option.bind_some _ _).symm.trans H; with_reducible exact H2_) | with_reducible exact H | (rw [hy104]; exact H) | exact H
          have Ny104 := Aside0.mk hy104
          clear hy104
          obtain rfl := Option.some.inj H
          go_wp2_with (first | ((with_reducible refine gate_builtin (b := .append) (xs := #[.tmp 15, .tmp 18]) rfl ?_); at_builtin; refine Kd.R_append (Kd.int .u8) (w0 := w0) w0.heap.size rfl (.tmp 15) (.tmp 18) 91 5 (.int .u8 0) 1 rfl Try.underlying91 info5 rfl (by decide) (by omega) u0 x0_1 ((x1_1) % 256) [.int .u8 ((x1_1) % 256)] (fun k_ => (P0_ k_ ∨ w.heap.size ≤ k_)) (fun _ => False) rfl rfl ?aP (fun _ hk => hk.elim) ?aF ?aO ?aB ?aS ?aL ?_; (case aP => exact rfl); (case aB => exact (by repeat (first | (with_reducible first | exact HB.out | apply below_alloc | apply pw_below_drewN | apply below_drew1) | exact HB.out))); (case aF => exact (fun k_ hk => (.inr (Nat.le_trans (by first | exact HK.out.1 | exact (show Kept w _ (fun k_ => P0_ k_) from by repeat (first | (with_reducible first | exact HK.out | apply Kept.alloc | apply Kept.drewN | apply Kept.drew) | exact HK.out)).1) hk)))); (case aO => exact (by (with_reducible repeat (first | apply Kd.R_alloc | apply Kd.R_drewN | apply Kd.R_drew)); exact HO_0.out)); (case aS => exact (below_size (by repeat (first | (with_reducible first | exact HB.out | apply below_alloc | apply pw_below_drewN | apply below_drew1) | exact HB.out)))); (case aL => have := LMc6.out; omega); intro v105 w7 ho hb hg hat; rw [← Ny104.out] at ho; have n0_ := Aside0.mk (hb); have n1_ := Aside0.mk (Kept.of_grown (S := (fun k_ => P0_ k_)) hg (by repeat (first | (with_reducible first | exact HK.out | apply Kept.alloc | apply Kept.drewN | apply Kept.drew) | exact HK.out)) (fun k_ e_ => (HO_0.out.1 k_ e_))); have n2_ := Aside0.mk (ho); clear HB; clear HK; clear HO_0; have HB := n0_; have HK := n1_; have HO106 := n2_; clear n0_ n1_ n2_; clear ho hb hg hat))
          go_ret
          exact ⟨_, by first | rfl | (simp [errW_none, errW_some] <;> rfl) | (simp [*, errW_none, errW_some] <;> rfl), by (with_reducible repeat (first | apply Kd.R_alloc | apply Kd.R_drewN | apply Kd.R_drew)); exact HO106.out, by repeat (first | (with_reducible first | exact HB.out | apply below_alloc | apply pw_below_drewN | apply below_drew1) | exact HB.out), by repeat (first | (with_reducible first | exact HK.out | apply Kept.alloc | apply Kept.drewN | apply Kept.drew) | exact HK.out)⟩
        · rw [if_neg c6] at H
          exact absurd H (by simp)

/-! ### word_Put: function 95 -/
def word_Put.f (k : Nat) (a0 : Int) : Option (ByteArray) := (word_put.f k ([] : List Int) a0).bind fun t101 => (some (strOfNums t101))
theorem word_Put.mono : ∀ a0 k, LeO (word_Put.f k a0) (word_Put.f (k + 1) a0) := by
  intro a0 k
  unfold word_Put.f
  repeat' first
      | (with_reducible exact word_put.mono _ _ _)
      | (with_reducible exact LeO.refl _)
      | (with_reducible exact LeO.none _)
      | (with_reducible refine LeO.ite ?_ ?_)
      | (with_reducible refine LeO.bind ?_ (fun _ => ?_))
      | exact word_put.mono _ _ _
      | exact LeO.none _
      | refine LeO.ite ?_ ?_
      | refine LeO.bind ?_ (fun _ => ?_)
set_option maxHeartbeats 8000000 in
set_option maxRecDepth 100000 in
theorem word_Put.calls (k : Nat) (a0 : Int) (r : ByteArray) (w : World) (h : word_Put.f k a0 = some r) :
    Calls Try.prog 95 #[.int .u64 a0] w fun e w' => e = .returned (.string r) ∧ Below w.heap.size w w' := by
  have HB := Aside0.mk (Below.refl w.heap.size w)
  have H : ((word_put.f k ([] : List Int) a0).bind fun t101 => (some (strOfNums t101))) = some r := h
  clear h
  replace H := Option.bind_eq_some_iff.mp H
  obtain ⟨t101, A20, H⟩ := H
  replace H : (some (strOfNums t101)) = some r := H
  have A2 := Aside0.mk A20
  clear A20
  obtain rfl := Option.some.inj H
  go_enter Try.func95, Try.ntmps95
  go_wp2_with (first | ((with_reducible refine gate_callee (f := 110) rfl ?_); refine goesL_ (some 4) rfl rfl Try.func110 (by kernel_rfl) rfl #[.slice none 0 0, .int .u64 a0] rfl (by (try simp only [List.map_toArray, List.map_cons, List.map_nil]); first | done | rfl | (simp only [List.length_drop, List.length_take]; rfl)) ?_; (refine (word_put.calls k (fun k_ => some k_ = (.slice none 0 0 : Value).ownBlock) (.slice none 0 0) ([] : List Int) a0 t101 w _ ?side1 ?side2 A2.out).mono ?_); (case side1 => repeat (first | (with_reducible first | exact HB.out | apply below_alloc | apply pw_below_drewN | apply below_drew1) | exact HB.out)); (case side2 => exact Kd.R_nil _ _ _ _ _); rintro e w3 ⟨v102, rfl, ho0, hb, hkp⟩; refine ⟨_, rfl, ?_⟩; have n0_ := Aside0.mk (Kd.R_mono (ok' := fun k_ => True) ho0 (fun k_ hk_ => trivial)); have n1_ := Aside0.mk (hb); clear HB; have HO103 := n0_; have HB := n1_; clear n0_ n1_; (try clear hb); (try clear hkp); (try clear ho0); have hcv4 := own_string (P := Try.prog) Try.underlying91 Try.underlying5 Try.underlying9 (Kd.own_of_R HO103.out)))
  go_ret
  exact ⟨by first | rfl | (simp [errW_none, errW_some] <;> rfl) | (simp [*, errW_none, errW_some] <;> rfl), by repeat (first | (with_reducible first | exact HB.out | apply below_alloc | apply pw_below_drewN | apply below_drew1) | exact HB.out)⟩

/-! ### word_Bytes: function 94 -/
mutual
def word_Bytes.j0 : Nat → Int → Int → Option (ByteArray × Int)
  | 0, _, _ => none
  | k + 1, x0, x1 => if 0 ≤ x1 then (if (x1 : Int).toNat ≤ 281474976710656 then ((some (List.replicate (x1 : Int).toNat 0 : List Int)).bind fun y101 => (word_Bytes.l0 k x0 y101 (y101.length : Int) 0)) else (none)) else (none)
def word_Bytes.l0 : Nat → Int → List Int → Int → Int → Option (ByteArray × Int)
  | 0, _, _, _, _ => none
  | k + 1, x0, x6, x28, x29 => if x29 < x28 then (if 0 ≤ (wrap64 (8 * x29)) then (if 0 ≤ x29 then (if x29 < (x6.length : Int) then (word_Bytes.l0 k x0 (x6.set (x29 : Int).toNat ((shr .i64 x0 (wrap64 (8 * x29))) % 256)) x28 (wrap64 (x29 + 1))) else (none)) else (none)) else (none)) else (some (strOfNums x6, 0))
end
def word_Bytes.f (k : Nat) (a0 : Int) (a1 : Int) : Option (ByteArray × Int) := if a1 = 1 then (if a0 = (wrap64 (IntKind.i8.wrap (a0))) then (word_Bytes.j0 k a0 a1) else (some ((⟨#[]⟩ : ByteArray), 7))) else (if a1 = 4 then (if a0 = (wrap64 (wrap32 (a0))) then (word_Bytes.j0 k a0 a1) else (some ((⟨#[]⟩ : ByteArray), 7))) else (if a1 = 8 then (word_Bytes.j0 k a0 a1) else (some ((⟨#[]⟩ : ByteArray), 1))))
theorem word_Bytes.mono_l : ∀ k, (∀ y0 y1, LeO (word_Bytes.j0 k y0 y1) (word_Bytes.j0 (k + 1) y0 y1)) ∧ (∀ y0 y1 y2 y3, LeO (word_Bytes.l0 k y0 y1 y2 y3) (word_Bytes.l0 (k + 1) y0 y1 y2 y3))
  | 0 => ⟨fun _ _ r h => by simp [word_Bytes.j0] at h, fun _ _ _ _ r h => by simp [word_Bytes.l0] at h⟩
  | k + 1 => by
    obtain ⟨ih0, ih1⟩ := word_Bytes.mono_l k
    refine ⟨?_, ?_⟩
    · intro y0 y1
      unfold word_Bytes.j0
      repeat' first
      | (with_reducible exact ih0 _ _)
      | (with_reducible exact ih1 _ _ _ _)
      | (with_reducible exact LeO.refl _)
      | (with_reducible exact LeO.none _)
      | (with_reducible refine LeO.ite ?_ ?_)
      | (with_reducible refine LeO.bind ?_ (fun _ => ?_))
      | exact ih0 _ _
      | exact ih1 _ _ _ _
      | exact LeO.none _
      | refine LeO.ite ?_ ?_
      | refine LeO.bind ?_ (fun _ => ?_)
    · intro y0 y1 y2 y3
      unfold word_Bytes.l0
      repeat' first
      | (with_reducible exact ih0 _ _)
      | (with_reducible exact ih1 _ _ _ _)
      | (with_reducible exact LeO.refl _)
      | (with_reducible exact LeO.none _)
      | (with_reducible refine LeO.ite ?_ ?_)
      | (with_reducible refine LeO.bind ?_ (fun _ => ?_))
      | exact ih0 _ _
      | exact ih1 _ _ _ _
      | exact LeO.none _
      | refine LeO.ite ?_ ?_
      | refine LeO.bind ?_ (fun _ => ?_)
theorem word_Bytes.mono : ∀ a0 a1 k, LeO (word_Bytes.f k a0 a1) (word_Bytes.f (k + 1) a0 a1) := by
  intro a0 a1 k
  obtain ⟨ih0, ih1⟩ := word_Bytes.mono_l k
  unfold word_Bytes.f
  repeat' first
      | (with_reducible exact ih0 _ _)
      | (with_reducible exact ih1 _ _ _ _)
      | (with_reducible exact LeO.refl _)
      | (with_reducible exact LeO.none _)
      | (with_reducible refine LeO.ite ?_ ?_)
      | (with_reducible refine LeO.bind ?_ (fun _ => ?_))
      | exact ih0 _ _
      | exact ih1 _ _ _ _
      | exact LeO.none _
      | refine LeO.ite ?_ ?_
      | refine LeO.bind ?_ (fun _ => ?_)
set_option maxHeartbeats 8000000 in
set_option maxRecDepth 100000 in
theorem word_Bytes.calls (k : Nat) (a0 : Int) (a1 : Int) (r1 : ByteArray) (r2 : Int) (w : World) (h : word_Bytes.f k a0 a1 = some (r1, r2)) :
    Calls Try.prog 94 #[.int .i64 a0, .int .i64 a1] w fun e w' => e = .returned (.tuple #[.string r1, .int .i64 r2]) ∧ Below w.heap.size w w' := by
  have HB := Aside0.mk (Below.refl w.heap.size w)
  have H : (if a1 = 1 then (if a0 = (wrap64 (IntKind.i8.wrap (a0))) then (word_Bytes.j0 k a0 a1) else (some ((⟨#[]⟩ : ByteArray), 7))) else (if a1 = 4 then (if a0 = (wrap64 (wrap32 (a0))) then (word_Bytes.j0 k a0 a1) else (some ((⟨#[]⟩ : ByteArray), 7))) else (if a1 = 8 then (word_Bytes.j0 k a0 a1) else (some ((⟨#[]⟩ : ByteArray), 1))))) = some (r1, r2) := h
  clear h
  have HC3 := Aside0.mk H
  clear H
  go_enter Try.func94, Try.ntmps94
  go_upto_block 0 with (fail)
  go_cut [] (fun wc => ∃ (kq : Nat), Aside0 (word_Bytes.j0 kq a0 a1 = some (r1, r2)) ∧ Aside0 (kq ≤ k) ∧ Aside0 (Below w.heap.size w wc))
  case first =>
    have H := HC3.out
    clear HC3
    by_cases c4 : a1 = 1
    · rw [if_pos c4] at H
      have c4b0 : (a1 == 1) = true := beq_iff_eq.mpr c4
      have c4b1 : (a1 != 1) = false := bne_eq_false_iff_eq.mpr c4
      clear c4
      (first | rw [c4b0] | (simp only [i64_w, i32_w]; rw [c4b0]) | skip)
      by_cases c5 : a0 = (wrap64 (IntKind.i8.wrap (a0)))
      · rw [if_pos c5] at H
        have c5b0 : (a0 == (wrap64 (IntKind.i8.wrap (a0)))) = true := beq_iff_eq.mpr c5
        have c5b1 : (a0 != (wrap64 (IntKind.i8.wrap (a0)))) = false := bne_eq_false_iff_eq.mpr c5
        clear c5
        have H' := Aside0.mk H
        clear H
        go_wp2
        go_meet
        case rel => exact ⟨_, H', ⟨by first | omega | exact Nat.le_refl _⟩, ⟨by repeat (first | (with_reducible first | exact HB.out | apply below_alloc | apply pw_below_drewN | apply below_drew1) | exact HB.out)⟩⟩
      · rw [if_neg c5] at H
        have c5b0 : (a0 == (wrap64 (IntKind.i8.wrap (a0)))) = false := beq_eq_false_iff_ne.mpr c5
        have c5b1 : (a0 != (wrap64 (IntKind.i8.wrap (a0)))) = true := bne_iff_ne.mpr c5
        simp only [Option.some.injEq, Prod.mk.injEq] at H
        obtain ⟨rfl, rfl⟩ := H
        go_wp2
        go_ret2
        exact ⟨by first | rfl | (simp [errW_none, errW_some] <;> rfl) | (simp [*, errW_none, errW_some] <;> rfl), by repeat (first | (with_reducible first | exact HB.out | apply below_alloc | apply pw_below_drewN | apply below_drew1) | exact HB.out)⟩
    · rw [if_neg c4] at H
      have c4b0 : (a1 == 1) = false := beq_eq_false_iff_ne.mpr c4
      have c4b1 : (a1 != 1) = true := bne_iff_ne.mpr c4
      (first | rw [c4b0] | (simp only [i64_w, i32_w]; rw [c4b0]) | skip)
      by_cases c6 : a1 = 4
      · rw [if_pos c6] at H
        have c6b0 : (a1 == 4) = true := beq_iff_eq.mpr c6
        have c6b1 : (a1 != 4) = false := bne_eq_false_iff_eq.mpr c6
        clear c6
        by_cases c7 : a0 = (wrap64 (wrap32 (a0)))
        · rw [if_pos c7] at H
          have c7b0 : (a0 == (wrap64 (wrap32 (a0)))) = true := beq_iff_eq.mpr c7
          have c7b1 : (a0 != (wrap64 (wrap32 (a0)))) = false := bne_eq_false_iff_eq.mpr c7
          clear c7
          have H' := Aside0.mk H
          clear H
          go_wp2
          go_meet
          case rel => exact ⟨_, H', ⟨by first | omega | exact Nat.le_refl _⟩, ⟨by repeat (first | (with_reducible first | exact HB.out | apply below_alloc | apply pw_below_drewN | apply below_drew1) | exact HB.out)⟩⟩
        · rw [if_neg c7] at H
          have c7b0 : (a0 == (wrap64 (wrap32 (a0)))) = false := beq_eq_false_iff_ne.mpr c7
          have c7b1 : (a0 != (wrap64 (wrap32 (a0)))) = true := bne_iff_ne.mpr c7
          simp only [Option.some.injEq, Prod.mk.injEq] at H
          obtain ⟨rfl, rfl⟩ := H
          go_wp2
          go_ret2
          exact ⟨by first | rfl | (simp [errW_none, errW_some] <;> rfl) | (simp [*, errW_none, errW_some] <;> rfl), by repeat (first | (with_reducible first | exact HB.out | apply below_alloc | apply pw_below_drewN | apply below_drew1) | exact HB.out)⟩
      · rw [if_neg c6] at H
        have c6b0 : (a1 == 4) = false := beq_eq_false_iff_ne.mpr c6
        have c6b1 : (a1 != 4) = true := bne_iff_ne.mpr c6
        by_cases c8 : a1 = 8
        · rw [if_pos c8] at H
          have c8b0 : (a1 == 8) = true := beq_iff_eq.mpr c8
          have c8b1 : (a1 != 8) = false := bne_eq_false_iff_eq.mpr c8
          clear c8
          have H' := Aside0.mk H
          clear H
          go_wp2
          go_meet
          case rel => exact ⟨_, H', ⟨by first | omega | exact Nat.le_refl _⟩, ⟨by repeat (first | (with_reducible first | exact HB.out | apply below_alloc | apply pw_below_drewN | apply below_drew1) | exact HB.out)⟩⟩
        · rw [if_neg c8] at H
          have c8b0 : (a1 == 8) = false := beq_eq_false_iff_ne.mpr c8
          have c8b1 : (a1 != 8) = true := bne_iff_ne.mpr c8
          simp only [Option.some.injEq, Prod.mk.injEq] at H
          obtain ⟨rfl, rfl⟩ := H
          go_wp2
          go_ret2
          exact ⟨by first | rfl | (simp [errW_none, errW_some] <;> rfl) | (simp [*, errW_none, errW_some] <;> rfl), by repeat (first | (with_reducible first | exact HB.out | apply below_alloc | apply pw_below_drewN | apply below_drew1) | exact HB.out)⟩
  case rest =>
    clear HC3
    try clear p2
    try clear p3
    try clear c4
    try clear c4b0
    try clear c4b1
    try clear c5
    try clear c5b0
    try clear c5b1
    try clear c6
    try clear c6b0
    try clear c6b1
    try clear p6
    try clear c7
    try clear c7b0
    try clear c7b1
    try clear c8
    try clear c8b0
    try clear c8b1
    obtain ⟨kq, HA, HJ2, HB⟩ := hcut
    cases kq with
    | zero => exact absurd HA.out (by simp [word_Bytes.j0])
    | succ kj2 =>
      have H := HA.out
      clear HA
      simp only [word_Bytes.j0] at H
      by_cases c9 : 0 ≤ a1
      · rw [if_pos c9] at H
        have c9b0 := eq_true c9
        have c9b1 : decide (0 ≤ a1) = true := decide_eq_true c9
        clear c9
        by_cases c10 : (a1 : Int).toNat ≤ 281474976710656
        · rw [if_pos c10] at H
          have c10b0 := eq_true c10
          have c10b1 : decide ((a1 : Int).toNat ≤ 281474976710656) = true := decide_eq_true c10
          clear c10
          obtain ⟨y101, hy101⟩ : ∃ y_ : List Int, y_ = (List.replicate (a1 : Int).toNat 0) := ⟨_, rfl⟩
          replace H : (word_Bytes.l0 kj2 a0 y101 (y101.length : Int) 0) = some (r1, r2) := by first | (rw [hy101]; with_reducible exact H) | (have H2_ := (Option.bind_some _ _).symm.trans H; rw [hy101]; with_reducible exact H2_) | (have H2_ := (Option.bind_some _ _).symm.trans H; with_reducible exact H2_) | with_reducible exact H | (rw [hy101]; exact H) | exact H
          have Ny101 := Aside0.mk hy101
          clear hy101
          have H' := Aside0.mk H
          clear H
          go_wp2_with (first | ((with_reducible refine gate_dst (N := 26) rfl ?_); refine Kd.R_make (Kd.int .u8) _ 5 rfl (N := 26) rfl 91 _ _ rfl a1 rfl rfl Try.underlying91 (.int .u8 0) 1 info5 rfl (by decide) (by omega) 0 (ok := fun _ => True) (okp := fun _ => True) rfl (fun _ hk => hk) trivial (of_decide_eq_true (by first | (with_reducible assumption) | assumption)) (Nat.le_trans (Nat.mul_le_mul_right _ (of_decide_eq_true (by first | (with_reducible assumption) | assumption) : a1.toNat ≤ 281474976710656)) (by omega)) (Below.refl _ _) (Nat.le_refl _) ?_; intro v102 w11 ho12 hb hg_ hnew_; clear hg_ hnew_; (first | rw [← Ny101.out] at ho12 | (simp only [Int.reduceToNat] at ho12; rw [← Ny101.out] at ho12)); have n0_ := Aside0.mk (Kd.R_lower ho12 (below_size (by repeat (first | (with_reducible first | exact HB.out | apply below_alloc | apply pw_below_drewN | apply below_drew1) | exact HB.out)))); have n1_ := Aside0.mk (below_step (by repeat (first | (with_reducible first | exact HB.out | apply below_alloc | apply pw_below_drewN | apply below_drew1) | exact HB.out)) hb); clear HB; have HO103 := n0_; have HB := n1_; clear n0_ n1_; clear hb ho12; obtain ⟨Ao13, co13, eo13⟩ := Kd.R_slice HO103.out; subst eo13))
          go_loopg [29] kj2 (fun kq v29 w' => ∃ (x6_2 : List Int) (x29_2 : Int), v29 = .int .i64 x29_2 ∧ Aside0 (word_Bytes.l0 kq a0 x6_2 (y101.length : Int) x29_2 = some (r1, r2)) ∧ Aside0 (kq ≤ kj2) ∧ Aside0 (Kd.R (Kd.int .u8) 5 w' w.heap.size (fun _ => True) (.slice Ao13 y101.length co13) x6_2) ∧ Aside0 (Below w.heap.size w w'))
          case atStart => exact ⟨(y101), (0), (by first | rfl | (simp; done) | (simp [*]; done)), H', ⟨Nat.le_refl _⟩, ⟨by (with_reducible repeat (first | apply Kd.R_alloc | apply Kd.R_drewN | apply Kd.R_drew)); exact HO103.out⟩, ⟨by repeat (first | (with_reducible first | exact HB.out | apply below_alloc | apply pw_below_drewN | apply below_drew1) | exact HB.out)⟩⟩
          case round =>
            clear H'
            try clear c1
            try clear p2
            try clear p3
            try clear c4
            try clear c4b0
            try clear c4b1
            try clear c5
            try clear c5b0
            try clear c5b1
            try clear c6
            try clear c6b0
            try clear c6b1
            try clear p6
            try clear c7
            try clear c7b0
            try clear c7b1
            try clear c8
            try clear c8b0
            try clear c8b1
            try clear c9
            try clear c9b0
            try clear c9b1
            try clear c10
            try clear c10b0
            try clear c10b1
            try clear p2
            try clear p3
            try clear p6
            obtain ⟨x6_2, x29_2, rfl, HA, HK2, HO_6, HB⟩ := hrel
            have hl6_2 := (Kd.R_reads' HO_6.out).1
            rw [hl6_2] at HO_6
            (try simp only [hl6_2])
            cases gk with
            | zero => exact absurd HA.out (by simp [word_Bytes.l0])
            | succ k2 =>
              have H := HA.out
              clear HA
              simp only [word_Bytes.l0] at H
              by_cases c14 : x29_2 < (y101.length : Int)
              · rw [if_pos c14] at H
                have c14b0 : decide (x29_2 < (y101.length : Int)) = true := decide_eq_true c14
                clear c14
                obtain ⟨ji15, hji15⟩ : ∃ j_ : Int, (wrap64 (8 * x29_2)) = j_ := ⟨_, rfl⟩
                replace H : (if 0 ≤ (ji15) then (if 0 ≤ x29_2 then (if x29_2 < (x6_2.length : Int) then (word_Bytes.l0 k2 a0 (x6_2.set (x29_2 : Int).toNat ((shr .i64 a0 (ji15)) % 256)) (y101.length : Int) (wrap64 (x29_2 + 1))) else (none)) else (none)) else (none)) = some (r1, r2) := by first | (rw [hji15] at H; exact H) | (simp only [hji15] at H ⊢; exact H)
                have hji15w : (IntKind.i64.wrap (8 * x29_2)) = ji15 := (i64_w _).trans hji15
                by_cases c16 : 0 ≤ (ji15)
                · rw [if_pos c16] at H
                  have c16b0 := eq_true c16
                  have c16b1 : decide (0 ≤ (ji15)) = true := decide_eq_true c16
                  clear c16
                  obtain ⟨ji17, hji17⟩ : ∃ j_ : Int, (shr .i64 a0 (ji15)) = j_ := ⟨_, rfl⟩
                  replace H : (if 0 ≤ x29_2 then (if x29_2 < (x6_2.length : Int) then (word_Bytes.l0 k2 a0 (x6_2.set (x29_2 : Int).toNat ((ji17) % 256)) (y101.length : Int) (wrap64 (x29_2 + 1))) else (none)) else (none)) = some (r1, r2) := by first | (rw [hji17] at H; exact H) | (simp only [hji17] at H ⊢; exact H)
                  have hji17_ : (a0 / 2 ^ min (ji15).toNat 64) = ji17 := hji17
                  have hji17z : (ji15) ≤ 64 → (a0 / 2 ^ (ji15).toNat) = ji17 := shr_small hji17
                  by_cases c18 : 0 ≤ x29_2
                  · rw [if_pos c18] at H
                    have c18b0 : decide (0 ≤ x29_2) = true := decide_eq_true c18
                    clear c18
                    by_cases c19 : x29_2 < (x6_2.length : Int)
                    · rw [if_pos c19] at H
                      have c19b0 : decide (x29_2 < (x6_2.length : Int)) = true := decide_eq_true c19
                      clear c19
                      obtain ⟨y104, hy104⟩ : ∃ y_ : List Int, y_ = (x6_2.set (x29_2 : Int).toNat ((ji17) % 256)) := ⟨_, rfl⟩
                      replace H : (word_Bytes.l0 k2 a0 y104 (y101.length : Int) (wrap64 (x29_2 + 1))) = some (r1, r2) := by first | (rw [hy104]; with_reducible exact H) | (have H2_ := (Option.bind_some _ _).symm.trans H; rw [hy104]; with_reducible exact H2_) | (have H2_ := (Option.bind_some _ _).symm.trans H; with_reducible exact H2_) | with_reducible exact H | (rw [hy104]; exact H) | exact H
                      have Ny104 := Aside0.mk hy104
                      clear hy104
                      have H' := Aside0.mk H
                      clear H
                      have p20 : 0 ≤ (x29_2 : Int) := of_decide_eq_true (by first | (with_reducible assumption) | assumption)
                      have q20 : (x29_2 : Int) < ((x6_2.length : Int) : Int) := of_decide_eq_true (by first | (with_reducible assumption) | assumption)
                      obtain ⟨go20, co20, eo20, gb20, gl20, cl20, HG20⟩ := Kd.R_form HO_6.out (by omega)
                      (first | cases eo20 | (injection eo20 with ea_ en_ ec_; (first | subst ea_ | (injection ea_ with ea_; subst ea_)); subst ec_; clear en_))
                      have GB20 := Aside0.mk gb20
                      have GG20 := Aside0.mk HG20
                      clear gb20 gl20 HG20
                      obtain ⟨hx20_0, hf20_0⟩ := Kd.R_celln 0 HO_6.out (x29_2 : Int) p20 q20
                      replace p20 := eq_true p20
                      replace q20 := eq_true q20
                      have HP21 := Kd.R_putg HO_6.out (x29_2 : Int) ((ji17) % 256)
                      go_wp2_with (first | ((with_reducible refine gate_store (t := 5) (p := 39) rfl ?_); refine store_event (t := 5) (p := 39) (v := ?vo_w22) (w1 := (wr.setCell ⟨go20, (x29_2 : Int).toNat, none⟩ (.int .u8 ((ji17) % 256)))) ?hg ?ho ?hn ?hr ?_; (case ho => rfl); (case hg => rfl); (case hn => rfl); (case hr => first | (go_simp; done) | (go_simp; rfl)); intro w22 hw; have hg : wr.grownBy w22 (some go20) := (by rw [hw]; exact HP21.2); have hp_ : Kd.R (Kd.int .u8) 5 w22 w.heap.size (fun _ => True) (.slice (some ⟨go20, 0, none⟩) x6_2.length co13) y104 := (by rw [hw, Ny104.out]; exact HP21.1); clear HP21; have n0_ := Aside0.mk (hp_); have n1_ := Aside0.mk ((by rw [hw]; exact below_set (HB.out) GB20.out : Below w.heap.size w w22)); clear HO_6; clear HB; have HO_6 := n0_; have HB := n1_; clear n0_ n1_; clear hg hw hp_))
                      (try simp only [← hl6_2])
                      go_roundg k2
                      case measure => have := HJ2.out; have := HK2.out; omega
                      case rel => exact ⟨(y104), (wrap64 (x29_2 + 1)), (by first | rfl | (simp; done) | (simp [*]; done)), H', ⟨by have := HJ2.out; have := HK2.out; omega⟩, ⟨by (try simp only [hl6_2]); (with_reducible repeat (first | apply Kd.R_alloc | apply Kd.R_drewN | apply Kd.R_drew)); exact HO_6.out⟩, ⟨by repeat (first | (with_reducible first | exact HB.out | apply below_alloc | apply pw_below_drewN | apply below_drew1) | exact HB.out)⟩⟩
                    · rw [if_neg c19] at H
                      exact absurd H (by simp)
                  · rw [if_neg c18] at H
                    exact absurd H (by simp)
                · rw [if_neg c16] at H
                  exact absurd H (by simp)
              · rw [if_neg c14] at H
                have c14b0 : decide (x29_2 < (y101.length : Int)) = false := decide_eq_false c14
                clear c14
                rw [hl6_2] at c14b0
                simp only [Option.some.injEq, Prod.mk.injEq] at H
                obtain ⟨rfl, rfl⟩ := H
                have hcv23 := own_string (P := Try.prog) Try.underlying91 Try.underlying5 Try.underlying9 (Kd.own_of_R HO_6.out)
                go_wp2
                go_ret2
                exact ⟨by first | rfl | (simp [errW_none, errW_some] <;> rfl) | (simp [*, errW_none, errW_some] <;> rfl), by repeat (first | (with_reducible first | exact HB.out | apply below_alloc | apply pw_below_drewN | apply below_drew1) | exact HB.out)⟩
        · rw [if_neg c10] at H
          exact absurd H (by simp)
      · rw [if_neg c9] at H
        exact absurd H (by simp)

end Go.Proofs.Ytochgjeanajoiaa.HA
