-- Written by this seat's own hook.py over the kit's print.py (with functions proved by hand)
import Derived.Test.YtochgjeanajoiaaHAK
namespace Go.Proofs.Ytochgjeanajoiaa.HA
open Go.RowKit Go.Proofs.YtochgjeanajoiaaW.PrintWords Go.Proofs.YtochgjeanajoiaaW.PrintLast Go.Proofs.YtochgjeanajoiaaW.PrintMore
attribute [local go_sem] max2_int min2_int max_two min_two max_three min_three max_four min_four   -- for this text's walks alone
set_option linter.unusedVariables false
set_option linter.unusedSimpArgs false

/-! ### cotterref06_named: function 97 -/
def cotterref06_named.f (a0 : ByteArray) : Option (Bool) := if (a0.size : Int) ≥ 1 then (some (decide ((a0.size : Int) ≤ 28))) else (some false)
set_option maxHeartbeats 8000000 in
set_option maxRecDepth 100000 in
theorem cotterref06_named.calls (a0 : ByteArray) (r : Bool) (w : World) (h : cotterref06_named.f a0 = some r) :
    Calls Try.prog 97 #[.string a0] w fun e w' => e = .returned (.bool r) ∧ Drawn0 w w' := by
  have H : (if (a0.size : Int) ≥ 1 then (some (decide ((a0.size : Int) ≤ 28))) else (some false)) = some r := h
  clear h
  by_cases c2 : (a0.size : Int) ≥ 1
  · rw [if_pos c2] at H
    have c2b0 : decide (1 ≤ (a0.size : Int)) = true := decide_eq_true c2
    have c2b1 : decide (1 ≤ a0.size) = true := decide_eq_true (by omega)
    clear c2
    obtain rfl := Option.some.inj H
    go_enter Try.func97, Try.ntmps97
    go_wp2
    go_ret
    exact ⟨by first | rfl | (simp; done) | (simp [*]; done), by repeat (first | exact Drawn0.refl _ | apply Drawn0.step)⟩
  · rw [if_neg c2] at H
    have c2b0 : decide (1 ≤ (a0.size : Int)) = false := decide_eq_false c2
    have c2b1 : decide (1 ≤ a0.size) = false := decide_eq_false (by omega)
    clear c2
    obtain rfl := Option.some.inj H
    go_enter Try.func97, Try.ntmps97
    go_wp2
    go_ret
    exact ⟨by first | rfl | (simp; done) | (simp [*]; done), by repeat (first | exact Drawn0.refl _ | apply Drawn0.step)⟩

/-! ### cotterref06_Syms: function 96 -/
mutual
def cotterref06_Syms.l0 : Nat → List (S32) → Int → Int → Int → Option (Bool)
  | 0, _, _, _, _ => none
  | k + 1, x0, x1, x2, x7 => if x7 < (x0.length : Int) then (if 0 ≤ x7 then ((cotterref06_named.f ((rd_T32 x0 x7).f0)).bind fun t103 => (if t103 = true then (if ((rd_T32 x0 x7).f1) < 1 then (cotterref06_Syms.j1 k x0 x1 x2 x7 true ((rd_T32 x0 x7).f0) ((rd_T32 x0 x7).f1) ((rd_T32 x0 x7).f2)) else (if ((rd_T32 x0 x7).f1) > 3 then (cotterref06_Syms.j1 k x0 x1 x2 x7 true ((rd_T32 x0 x7).f0) ((rd_T32 x0 x7).f1) ((rd_T32 x0 x7).f2)) else (if ((rd_T32 x0 x7).f2) < 0 then (cotterref06_Syms.j1 k x0 x1 x2 x7 true ((rd_T32 x0 x7).f0) ((rd_T32 x0 x7).f1) ((rd_T32 x0 x7).f2)) else (if ((rd_T32 x0 x7).f1) = 2 then (if ((rd_T32 x0 x7).f2) ≥ x2 then (cotterref06_Syms.j1 k x0 x1 x2 x7 true ((rd_T32 x0 x7).f0) ((rd_T32 x0 x7).f1) ((rd_T32 x0 x7).f2)) else (cotterref06_Syms.j1 k x0 x1 x2 x7 false ((rd_T32 x0 x7).f0) ((rd_T32 x0 x7).f1) ((rd_T32 x0 x7).f2))) else (cotterref06_Syms.j1 k x0 x1 x2 x7 (decide (((rd_T32 x0 x7).f2) ≥ x1)) ((rd_T32 x0 x7).f0) ((rd_T32 x0 x7).f1) ((rd_T32 x0 x7).f2)))))) else (cotterref06_Syms.j1 k x0 x1 x2 x7 true ((rd_T32 x0 x7).f0) ((rd_T32 x0 x7).f1) ((rd_T32 x0 x7).f2)))) else (none)) else (some true)
def cotterref06_Syms.j1 : Nat → List (S32) → Int → Int → Int → Bool → ByteArray → Int → Int → Option (Bool)
  | 0, _, _, _, _, _, _, _, _ => none
  | k + 1, x0, x1, x2, x7, x63, x103000, x103001, x103002 => if x63 = true then (some false) else (cotterref06_Syms.l1 k x0 x1 x2 x7 0 x103000 x103001 x103002)
def cotterref06_Syms.l1 : Nat → List (S32) → Int → Int → Int → Int → ByteArray → Int → Int → Option (Bool)
  | 0, _, _, _, _, _, _, _, _ => none
  | k + 1, x0, x1, x2, x7, x9, x103000, x103001, x103002 => if x9 < x7 then (if 0 ≤ x9 then (if x9 < (x0.length : Int) then (if ((rd_T32 x0 x9).f0).toList = x103000.toList then (some false) else (cotterref06_Syms.l1 k x0 x1 x2 x7 (wrap64 (x9 + 1)) x103000 x103001 x103002)) else (none)) else (none)) else (cotterref06_Syms.l0 k x0 x1 x2 (wrap64 (x7 + 1)))
end
def cotterref06_Syms.f (k : Nat) (l0 : List (S32)) (a1 : Int) (a2 : Int) : Option (Bool) := if (l0.length : Int) > 1000 then (some false) else (cotterref06_Syms.l0 k l0 a1 a2 0)
theorem cotterref06_Syms.mono_l : ∀ k, (∀ y0 y1 y2 y3, LeO (cotterref06_Syms.l0 k y0 y1 y2 y3) (cotterref06_Syms.l0 (k + 1) y0 y1 y2 y3)) ∧ (∀ y0 y1 y2 y3 y4 y5 y6 y7, LeO (cotterref06_Syms.j1 k y0 y1 y2 y3 y4 y5 y6 y7) (cotterref06_Syms.j1 (k + 1) y0 y1 y2 y3 y4 y5 y6 y7)) ∧ (∀ y0 y1 y2 y3 y4 y5 y6 y7, LeO (cotterref06_Syms.l1 k y0 y1 y2 y3 y4 y5 y6 y7) (cotterref06_Syms.l1 (k + 1) y0 y1 y2 y3 y4 y5 y6 y7))
  | 0 => ⟨fun _ _ _ _ r h => by simp [cotterref06_Syms.l0] at h, fun _ _ _ _ _ _ _ _ r h => by simp [cotterref06_Syms.j1] at h, fun _ _ _ _ _ _ _ _ r h => by simp [cotterref06_Syms.l1] at h⟩
  | k + 1 => by
    obtain ⟨ih0, ih1, ih2⟩ := cotterref06_Syms.mono_l k
    refine ⟨?_, ?_, ?_⟩
    · intro y0 y1 y2 y3
      unfold cotterref06_Syms.l0
      repeat' first
      | (with_reducible exact ih0 _ _ _ _)
      | (with_reducible exact ih1 _ _ _ _ _ _ _ _)
      | (with_reducible exact ih2 _ _ _ _ _ _ _ _)
      | (with_reducible exact LeO.refl _)
      | (with_reducible exact LeO.none _)
      | (with_reducible refine LeO.ite ?_ ?_)
      | (with_reducible refine LeO.bind ?_ (fun _ => ?_))
      | exact ih0 _ _ _ _
      | exact ih1 _ _ _ _ _ _ _ _
      | exact ih2 _ _ _ _ _ _ _ _
      | exact LeO.none _
      | refine LeO.ite ?_ ?_
      | refine LeO.bind ?_ (fun _ => ?_)
    · intro y0 y1 y2 y3 y4 y5 y6 y7
      unfold cotterref06_Syms.j1
      repeat' first
      | (with_reducible exact ih0 _ _ _ _)
      | (with_reducible exact ih1 _ _ _ _ _ _ _ _)
      | (with_reducible exact ih2 _ _ _ _ _ _ _ _)
      | (with_reducible exact LeO.refl _)
      | (with_reducible exact LeO.none _)
      | (with_reducible refine LeO.ite ?_ ?_)
      | (with_reducible refine LeO.bind ?_ (fun _ => ?_))
      | exact ih0 _ _ _ _
      | exact ih1 _ _ _ _ _ _ _ _
      | exact ih2 _ _ _ _ _ _ _ _
      | exact LeO.none _
      | refine LeO.ite ?_ ?_
      | refine LeO.bind ?_ (fun _ => ?_)
    · intro y0 y1 y2 y3 y4 y5 y6 y7
      unfold cotterref06_Syms.l1
      repeat' first
      | (with_reducible exact ih0 _ _ _ _)
      | (with_reducible exact ih1 _ _ _ _ _ _ _ _)
      | (with_reducible exact ih2 _ _ _ _ _ _ _ _)
      | (with_reducible exact LeO.refl _)
      | (with_reducible exact LeO.none _)
      | (with_reducible refine LeO.ite ?_ ?_)
      | (with_reducible refine LeO.bind ?_ (fun _ => ?_))
      | exact ih0 _ _ _ _
      | exact ih1 _ _ _ _ _ _ _ _
      | exact ih2 _ _ _ _ _ _ _ _
      | exact LeO.none _
      | refine LeO.ite ?_ ?_
      | refine LeO.bind ?_ (fun _ => ?_)
theorem cotterref06_Syms.mono : ∀ a0 a1 a2 k, LeO (cotterref06_Syms.f k a0 a1 a2) (cotterref06_Syms.f (k + 1) a0 a1 a2) := by
  intro a0 a1 a2 k
  obtain ⟨ih0, ih1, ih2⟩ := cotterref06_Syms.mono_l k
  unfold cotterref06_Syms.f
  repeat' first
      | (with_reducible exact ih0 _ _ _ _)
      | (with_reducible exact ih1 _ _ _ _ _ _ _ _)
      | (with_reducible exact ih2 _ _ _ _ _ _ _ _)
      | (with_reducible exact LeO.refl _)
      | (with_reducible exact LeO.none _)
      | (with_reducible refine LeO.ite ?_ ?_)
      | (with_reducible refine LeO.bind ?_ (fun _ => ?_))
      | exact ih0 _ _ _ _
      | exact ih1 _ _ _ _ _ _ _ _
      | exact ih2 _ _ _ _ _ _ _ _
      | exact LeO.none _
      | refine LeO.ite ?_ ?_
      | refine LeO.bind ?_ (fun _ => ?_)
set_option maxHeartbeats 8000000 in
set_option maxRecDepth 100000 in
theorem cotterref06_Syms.calls (k : Nat) (A0 : Option Addr) (c0 : Nat) (l0 : List (S32)) (a1 : Int) (a2 : Int) (r : Bool) (w : World) (hr0 : Kd.C k32 w A0 l0.length l0) (hc0 : l0.length ≤ c0) (h : cotterref06_Syms.f k l0 a1 a2 = some r) :
    Calls Try.prog 96 #[.slice A0 l0.length c0, .int .i64 a1, .int .i64 a2] w fun e w' => e = .returned (.bool r) ∧ Below w.heap.size w w' := by
  have hu32 := Try.underlying32
  have HR0 := Aside0.mk hr0
  have HC0 := Aside0.mk hc0
  clear hr0 hc0
  have HB := Aside0.mk (Below.refl w.heap.size w)
  have H : (if (l0.length : Int) > 1000 then (some false) else (cotterref06_Syms.l0 k l0 a1 a2 0)) = some r := h
  clear h
  by_cases c4 : (l0.length : Int) > 1000
  · rw [if_pos c4] at H
    have c4b0 : decide (1000 < (l0.length : Int)) = true := decide_eq_true c4
    have c4b1 : decide (1000 < l0.length) = true := decide_eq_true (by omega)
    clear c4
    obtain rfl := Option.some.inj H
    go_enter Try.func96, Try.ntmps96
    go_wp2
    repeat (go_quiet (fail); try go_wp2)
    go_ret
    exact ⟨by first | rfl | (simp [errW_none, errW_some] <;> rfl) | (simp [*, errW_none, errW_some] <;> rfl), by repeat (first | (with_reducible first | exact HB.out | apply below_alloc | apply pw_below_drewN | apply below_drew1) | exact HB.out)⟩
  · rw [if_neg c4] at H
    have c4b0 : decide (1000 < (l0.length : Int)) = false := decide_eq_false c4
    have c4b1 : decide (1000 < l0.length) = false := decide_eq_false (by omega)
    clear c4
    have H' := Aside0.mk H
    clear H
    go_enter Try.func96, Try.ntmps96
    go_wp2
    repeat (go_quiet (fail); try go_wp2)
    go_loopg [7] k (fun kq v7 w' => ∃ (x7_1 : Int), v7 = .int .i64 x7_1 ∧ Aside0 (cotterref06_Syms.l0 kq l0 a1 a2 x7_1 = some r) ∧ Aside0 (kq ≤ k) ∧ Aside0 (Below w.heap.size w w'))
    case atStart => exact ⟨(0), (by first | rfl | (simp; done) | (simp [*]; done)), H', ⟨Nat.le_refl _⟩, ⟨by repeat (first | (with_reducible first | exact HB.out | apply below_alloc | apply pw_below_drewN | apply below_drew1) | exact HB.out)⟩⟩
    case round =>
      clear H'
      try clear p2
      try clear c4
      try clear c4b0
      try clear c4b1
      obtain ⟨x7_1, rfl, HA, HK1, HB⟩ := hrel
      cases gk with
      | zero => exact absurd HA.out (by simp [cotterref06_Syms.l0])
      | succ k1 =>
        have H := HA.out
        clear HA
        simp only [cotterref06_Syms.l0] at H
        by_cases c5 : x7_1 < (l0.length : Int)
        · rw [if_pos c5] at H
          have c5b0 : decide (x7_1 < (l0.length : Int)) = true := decide_eq_true c5
          clear c5
          by_cases c6 : 0 ≤ x7_1
          · rw [if_pos c6] at H
            have c6b0 : decide (0 ≤ x7_1) = true := decide_eq_true c6
            clear c6
            have HC7 := Aside0.mk H
            clear H
            have p101 : 0 ≤ (x7_1 : Int) := of_decide_eq_true (by first | (with_reducible assumption) | assumption)
            have q101 : x7_1 < (l0.length : Int) := of_decide_eq_true (by first | (with_reducible assumption) | assumption)
            obtain ⟨ad101, e101, hx101_0, hx101_1, hx101_2⟩ := at_T32 HR0.out x7_1 p101 q101
            cases e101
            replace hx101_0 := (HB.out.cell (World.block_lt_of_cell? w _ hx101_0)).trans hx101_0
            replace hx101_1 := (HB.out.cell (World.block_lt_of_cell? w _ hx101_1)).trans hx101_1
            replace hx101_2 := (HB.out.cell (World.block_lt_of_cell? w _ hx101_2)).trans hx101_2
            replace p101 := eq_true p101
            replace q101 := eq_true q101
            go_upto_region 7 with (first | ((with_reducible refine gate_dst (N := 8) rfl ?_); refine box_event ?hg (N := 8) ?hd (cs := #[.string (⟨#[]⟩ : ByteArray), .int .i64 0, .int .i64 0]) (t := 32) ?hr ?_; (case hd => rfl); (case hg => rfl); (case hr => first | (go_simp; done) | (go_simp; rfl)); intro gb102 hg w8 hbox hb; have n0_ := Aside0.mk (below_step (by repeat (first | (with_reducible first | exact HB.out | apply below_alloc | apply pw_below_drewN | apply below_drew1) | exact HB.out)) hb); have n1_ := Aside0.mk (hbox); have n2_ := Aside0.mk ((by rw [hg]; exact (below_size (by repeat (first | (with_reducible first | exact HB.out | apply below_alloc | apply pw_below_drewN | apply below_drew1) | exact HB.out))) : w.heap.size ≤ gb102)); have n3_ := Aside0.mk ((by rw [hg]; exact (below_size (by repeat (first | (with_reducible first | exact HB.out | apply below_alloc | apply pw_below_drewN | apply below_drew1) | exact HB.out))) : w.heap.size ≤ gb102)); clear HB; have HB := n0_; have BK102 := n1_; have GW102 := n2_; have GE102 := n3_; clear n0_ n1_ n2_ n3_; clear hb hbox hg; have hcz9_0 : w8.cell? ⟨gb102, 0, none⟩ = some (.string (⟨#[]⟩ : ByteArray)) := (blk_cell BK102.out 0).trans rfl; have hcz9_1 : w8.cell? ⟨gb102, 1, none⟩ = some (.int .i64 0) := (blk_cell BK102.out 1).trans rfl; have hcz9_2 : w8.cell? ⟨gb102, 2, none⟩ = some (.int .i64 0) := (blk_cell BK102.out 2).trans rfl; have hfz9_0 := blk_frozen BK102.out 0; have hfz9_1 := blk_frozen BK102.out 1; have hfz9_2 := blk_frozen BK102.out 2))
            repeat (go_quiet (first | ((with_reducible refine gate_dst (N := 8) rfl ?_); refine box_event ?hg (N := 8) ?hd (cs := #[.string (⟨#[]⟩ : ByteArray), .int .i64 0, .int .i64 0]) (t := 32) ?hr ?_; (case hd => rfl); (case hg => rfl); (case hr => first | (go_simp; done) | (go_simp; rfl)); intro gb102 hg w8 hbox hb; have n0_ := Aside0.mk (below_step (by repeat (first | (with_reducible first | exact HB.out | apply below_alloc | apply pw_below_drewN | apply below_drew1) | exact HB.out)) hb); have n1_ := Aside0.mk (hbox); have n2_ := Aside0.mk ((by rw [hg]; exact (below_size (by repeat (first | (with_reducible first | exact HB.out | apply below_alloc | apply pw_below_drewN | apply below_drew1) | exact HB.out))) : w.heap.size ≤ gb102)); have n3_ := Aside0.mk ((by rw [hg]; exact (below_size (by repeat (first | (with_reducible first | exact HB.out | apply below_alloc | apply pw_below_drewN | apply below_drew1) | exact HB.out))) : w.heap.size ≤ gb102)); clear HB; have HB := n0_; have BK102 := n1_; have GW102 := n2_; have GE102 := n3_; clear n0_ n1_ n2_ n3_; clear hb hbox hg; have hcz9_0 : w8.cell? ⟨gb102, 0, none⟩ = some (.string (⟨#[]⟩ : ByteArray)) := (blk_cell BK102.out 0).trans rfl; have hcz9_1 : w8.cell? ⟨gb102, 1, none⟩ = some (.int .i64 0) := (blk_cell BK102.out 1).trans rfl; have hcz9_2 : w8.cell? ⟨gb102, 2, none⟩ = some (.int .i64 0) := (blk_cell BK102.out 2).trans rfl; have hfz9_0 := blk_frozen BK102.out 0; have hfz9_1 := blk_frozen BK102.out 1; have hfz9_2 := blk_frozen BK102.out 2)); go_upto_region 7 with (first | ((with_reducible refine gate_dst (N := 8) rfl ?_); refine box_event ?hg (N := 8) ?hd (cs := #[.string (⟨#[]⟩ : ByteArray), .int .i64 0, .int .i64 0]) (t := 32) ?hr ?_; (case hd => rfl); (case hg => rfl); (case hr => first | (go_simp; done) | (go_simp; rfl)); intro gb102 hg w8 hbox hb; have n0_ := Aside0.mk (below_step (by repeat (first | (with_reducible first | exact HB.out | apply below_alloc | apply pw_below_drewN | apply below_drew1) | exact HB.out)) hb); have n1_ := Aside0.mk (hbox); have n2_ := Aside0.mk ((by rw [hg]; exact (below_size (by repeat (first | (with_reducible first | exact HB.out | apply below_alloc | apply pw_below_drewN | apply below_drew1) | exact HB.out))) : w.heap.size ≤ gb102)); have n3_ := Aside0.mk ((by rw [hg]; exact (below_size (by repeat (first | (with_reducible first | exact HB.out | apply below_alloc | apply pw_below_drewN | apply below_drew1) | exact HB.out))) : w.heap.size ≤ gb102)); clear HB; have HB := n0_; have BK102 := n1_; have GW102 := n2_; have GE102 := n3_; clear n0_ n1_ n2_ n3_; clear hb hbox hg; have hcz9_0 : w8.cell? ⟨gb102, 0, none⟩ = some (.string (⟨#[]⟩ : ByteArray)) := (blk_cell BK102.out 0).trans rfl; have hcz9_1 : w8.cell? ⟨gb102, 1, none⟩ = some (.int .i64 0) := (blk_cell BK102.out 1).trans rfl; have hcz9_2 : w8.cell? ⟨gb102, 2, none⟩ = some (.int .i64 0) := (blk_cell BK102.out 2).trans rfl; have hfz9_0 := blk_frozen BK102.out 0; have hfz9_1 := blk_frozen BK102.out 1; have hfz9_2 := blk_frozen BK102.out 2)))
            (try simp only [Act.put, List.setIfInBounds_toArray, List.set_cons_zero, List.set_cons_succ])
            go_cut [63] (fun v63 wc => ∃ (kq : Nat) (x63_6 : Bool), v63 = .bool x63_6 ∧ Aside0 (cotterref06_Syms.j1 kq l0 a1 a2 x7_1 x63_6 ((rd_T32 l0 x7_1).f0) ((rd_T32 l0 x7_1).f1) ((rd_T32 l0 x7_1).f2) = some r) ∧ Aside0 (kq ≤ k1) ∧ Aside0 (wc.heap[gb102]? = some (.cells #[.string ((rd_T32 l0 x7_1).f0), .int .i64 ((rd_T32 l0 x7_1).f1), .int .i64 ((rd_T32 l0 x7_1).f2)] 32 (0, 0))) ∧ Aside0 (Below w.heap.size w wc))
            case first =>
              have H := HC7.out
              clear HC7
              replace H := Option.bind_eq_some_iff.mp H
              obtain ⟨t103, A100, H⟩ := H
              replace H : (if t103 = true then (if ((rd_T32 l0 x7_1).f1) < 1 then (cotterref06_Syms.j1 k1 l0 a1 a2 x7_1 true ((rd_T32 l0 x7_1).f0) ((rd_T32 l0 x7_1).f1) ((rd_T32 l0 x7_1).f2)) else (if ((rd_T32 l0 x7_1).f1) > 3 then (cotterref06_Syms.j1 k1 l0 a1 a2 x7_1 true ((rd_T32 l0 x7_1).f0) ((rd_T32 l0 x7_1).f1) ((rd_T32 l0 x7_1).f2)) else (if ((rd_T32 l0 x7_1).f2) < 0 then (cotterref06_Syms.j1 k1 l0 a1 a2 x7_1 true ((rd_T32 l0 x7_1).f0) ((rd_T32 l0 x7_1).f1) ((rd_T32 l0 x7_1).f2)) else (if ((rd_T32 l0 x7_1).f1) = 2 then (if ((rd_T32 l0 x7_1).f2) ≥ a2 then (cotterref06_Syms.j1 k1 l0 a1 a2 x7_1 true ((rd_T32 l0 x7_1).f0) ((rd_T32 l0 x7_1).f1) ((rd_T32 l0 x7_1).f2)) else (cotterref06_Syms.j1 k1 l0 a1 a2 x7_1 false ((rd_T32 l0 x7_1).f0) ((rd_T32 l0 x7_1).f1) ((rd_T32 l0 x7_1).f2))) else (cotterref06_Syms.j1 k1 l0 a1 a2 x7_1 (decide (((rd_T32 l0 x7_1).f2) ≥ a1)) ((rd_T32 l0 x7_1).f0) ((rd_T32 l0 x7_1).f1) ((rd_T32 l0 x7_1).f2)))))) else (cotterref06_Syms.j1 k1 l0 a1 a2 x7_1 true ((rd_T32 l0 x7_1).f0) ((rd_T32 l0 x7_1).f1) ((rd_T32 l0 x7_1).f2))) = some r := H
              have A10 := Aside0.mk A100
              clear A100
              by_cases c11 : t103 = true
              · subst c11
                have H1 : (if ((rd_T32 l0 x7_1).f1) < 1 then (cotterref06_Syms.j1 k1 l0 a1 a2 x7_1 true ((rd_T32 l0 x7_1).f0) ((rd_T32 l0 x7_1).f1) ((rd_T32 l0 x7_1).f2)) else (if ((rd_T32 l0 x7_1).f1) > 3 then (cotterref06_Syms.j1 k1 l0 a1 a2 x7_1 true ((rd_T32 l0 x7_1).f0) ((rd_T32 l0 x7_1).f1) ((rd_T32 l0 x7_1).f2)) else (if ((rd_T32 l0 x7_1).f2) < 0 then (cotterref06_Syms.j1 k1 l0 a1 a2 x7_1 true ((rd_T32 l0 x7_1).f0) ((rd_T32 l0 x7_1).f1) ((rd_T32 l0 x7_1).f2)) else (if ((rd_T32 l0 x7_1).f1) = 2 then (if ((rd_T32 l0 x7_1).f2) ≥ a2 then (cotterref06_Syms.j1 k1 l0 a1 a2 x7_1 true ((rd_T32 l0 x7_1).f0) ((rd_T32 l0 x7_1).f1) ((rd_T32 l0 x7_1).f2)) else (cotterref06_Syms.j1 k1 l0 a1 a2 x7_1 false ((rd_T32 l0 x7_1).f0) ((rd_T32 l0 x7_1).f1) ((rd_T32 l0 x7_1).f2))) else (cotterref06_Syms.j1 k1 l0 a1 a2 x7_1 (decide (((rd_T32 l0 x7_1).f2) ≥ a1)) ((rd_T32 l0 x7_1).f0) ((rd_T32 l0 x7_1).f1) ((rd_T32 l0 x7_1).f2)))))) = some r := by rw [if_pos rfl] at H; exact H
                clear H
                have H := H1
                clear H1
                by_cases c12 : ((rd_T32 l0 x7_1).f1) < 1
                · rw [if_pos c12] at H
                  have c12b0 : decide (((rd_T32 l0 x7_1).f1) < 1) = true := decide_eq_true c12
                  clear c12
                  (first | rw [c12b0] | (simp only [i64_w, i32_w]; rw [c12b0]) | skip)
                  have H' := Aside0.mk H
                  clear H
                  have hcz13_0 : w8.cell? ⟨gb102, 0, none⟩ = some (.string (⟨#[]⟩ : ByteArray)) := (blk_cell BK102.out 0).trans rfl
                  have hcz13_1 : w8.cell? ⟨gb102, 1, none⟩ = some (.int .i64 0) := (blk_cell BK102.out 1).trans rfl
                  have hcz13_2 : w8.cell? ⟨gb102, 2, none⟩ = some (.int .i64 0) := (blk_cell BK102.out 2).trans rfl
                  have hfz13_0 := blk_frozen BK102.out 0
                  have hfz13_1 := blk_frozen BK102.out 1
                  have hfz13_2 := blk_frozen BK102.out 2
                  go_wp2_with (first | (go_at_call 97; (with_reducible refine (cotterref06_named.calls ((rd_T32 l0 x7_1).f0) true _ A10.out).mono ?_); rintro e w' ⟨rfl, ⟨nd, rfl⟩⟩; (try first | exact ⟨rfl, _, World.drewN_drewN _ _ _⟩ | exact ⟨rfl, _, Eq.trans (World.drewN_drewN _ _ _) (congrArg (World.drewN _) (Nat.add_assoc _ _ _))⟩)))
                  repeat (go_quiet (first | (go_at_call 97; (with_reducible refine (cotterref06_named.calls ((rd_T32 l0 x7_1).f0) true _ A10.out).mono ?_); rintro e w' ⟨rfl, ⟨nd, rfl⟩⟩; (try first | exact ⟨rfl, _, World.drewN_drewN _ _ _⟩ | exact ⟨rfl, _, Eq.trans (World.drewN_drewN _ _ _) (congrArg (World.drewN _) (Nat.add_assoc _ _ _))⟩))); try go_wp2_with (first | (go_at_call 97; (with_reducible refine (cotterref06_named.calls ((rd_T32 l0 x7_1).f0) true _ A10.out).mono ?_); rintro e w' ⟨rfl, ⟨nd, rfl⟩⟩; (try first | exact ⟨rfl, _, World.drewN_drewN _ _ _⟩ | exact ⟨rfl, _, Eq.trans (World.drewN_drewN _ _ _) (congrArg (World.drewN _) (Nat.add_assoc _ _ _))⟩))))
                  go_meet
                  case rel => exact ⟨_, (true), (by first | rfl | (simp; done) | (simp [*]; done)), H', ⟨by have := HK1.out; first | omega | exact Nat.le_refl _⟩, ⟨by (with_reducible repeat (first | refine blk_drewN ?_ _ | refine blk_drew ?_ | refine blk_alloc ?_ _)); refine blk_put (cs := #[.string ((rd_T32 l0 x7_1).f0), .int .i64 ((rd_T32 l0 x7_1).f1), .int .i64 0]) ?_ 2 _ rfl; (with_reducible repeat (first | refine blk_drewN ?_ _ | refine blk_drew ?_ | refine blk_alloc ?_ _)); refine blk_put (cs := #[.string ((rd_T32 l0 x7_1).f0), .int .i64 0, .int .i64 0]) ?_ 1 _ rfl; (with_reducible repeat (first | refine blk_drewN ?_ _ | refine blk_drew ?_ | refine blk_alloc ?_ _)); refine blk_put (cs := #[.string (⟨#[]⟩ : ByteArray), .int .i64 0, .int .i64 0]) ?_ 0 _ rfl; (with_reducible repeat (first | refine blk_drewN ?_ _ | refine blk_drew ?_ | refine blk_alloc ?_ _)); exact BK102.out⟩, ⟨by repeat (first | (with_reducible first | exact HB.out | apply below_alloc | apply pw_below_drewN | apply below_drew1 | refine below_set ?_ GE102.out) | exact HB.out)⟩⟩
                · rw [if_neg c12] at H
                  have c12b0 : decide (((rd_T32 l0 x7_1).f1) < 1) = false := decide_eq_false c12
                  clear c12
                  (first | rw [c12b0] | (simp only [i64_w, i32_w]; rw [c12b0]) | skip)
                  by_cases c14 : ((rd_T32 l0 x7_1).f1) > 3
                  · rw [if_pos c14] at H
                    have c14b0 : decide (3 < ((rd_T32 l0 x7_1).f1)) = true := decide_eq_true c14
                    clear c14
                    have H' := Aside0.mk H
                    clear H
                    have hcz15_0 : w8.cell? ⟨gb102, 0, none⟩ = some (.string (⟨#[]⟩ : ByteArray)) := (blk_cell BK102.out 0).trans rfl
                    have hcz15_1 : w8.cell? ⟨gb102, 1, none⟩ = some (.int .i64 0) := (blk_cell BK102.out 1).trans rfl
                    have hcz15_2 : w8.cell? ⟨gb102, 2, none⟩ = some (.int .i64 0) := (blk_cell BK102.out 2).trans rfl
                    have hfz15_0 := blk_frozen BK102.out 0
                    have hfz15_1 := blk_frozen BK102.out 1
                    have hfz15_2 := blk_frozen BK102.out 2
                    go_wp2_with (first | (go_at_call 97; (with_reducible refine (cotterref06_named.calls ((rd_T32 l0 x7_1).f0) true _ A10.out).mono ?_); rintro e w' ⟨rfl, ⟨nd, rfl⟩⟩; (try first | exact ⟨rfl, _, World.drewN_drewN _ _ _⟩ | exact ⟨rfl, _, Eq.trans (World.drewN_drewN _ _ _) (congrArg (World.drewN _) (Nat.add_assoc _ _ _))⟩)))
                    repeat (go_quiet (first | (go_at_call 97; (with_reducible refine (cotterref06_named.calls ((rd_T32 l0 x7_1).f0) true _ A10.out).mono ?_); rintro e w' ⟨rfl, ⟨nd, rfl⟩⟩; (try first | exact ⟨rfl, _, World.drewN_drewN _ _ _⟩ | exact ⟨rfl, _, Eq.trans (World.drewN_drewN _ _ _) (congrArg (World.drewN _) (Nat.add_assoc _ _ _))⟩))); try go_wp2_with (first | (go_at_call 97; (with_reducible refine (cotterref06_named.calls ((rd_T32 l0 x7_1).f0) true _ A10.out).mono ?_); rintro e w' ⟨rfl, ⟨nd, rfl⟩⟩; (try first | exact ⟨rfl, _, World.drewN_drewN _ _ _⟩ | exact ⟨rfl, _, Eq.trans (World.drewN_drewN _ _ _) (congrArg (World.drewN _) (Nat.add_assoc _ _ _))⟩))))
                    go_meet
                    case rel => exact ⟨_, (true), (by first | rfl | (simp; done) | (simp [*]; done)), H', ⟨by have := HK1.out; first | omega | exact Nat.le_refl _⟩, ⟨by (with_reducible repeat (first | refine blk_drewN ?_ _ | refine blk_drew ?_ | refine blk_alloc ?_ _)); refine blk_put (cs := #[.string ((rd_T32 l0 x7_1).f0), .int .i64 ((rd_T32 l0 x7_1).f1), .int .i64 0]) ?_ 2 _ rfl; (with_reducible repeat (first | refine blk_drewN ?_ _ | refine blk_drew ?_ | refine blk_alloc ?_ _)); refine blk_put (cs := #[.string ((rd_T32 l0 x7_1).f0), .int .i64 0, .int .i64 0]) ?_ 1 _ rfl; (with_reducible repeat (first | refine blk_drewN ?_ _ | refine blk_drew ?_ | refine blk_alloc ?_ _)); refine blk_put (cs := #[.string (⟨#[]⟩ : ByteArray), .int .i64 0, .int .i64 0]) ?_ 0 _ rfl; (with_reducible repeat (first | refine blk_drewN ?_ _ | refine blk_drew ?_ | refine blk_alloc ?_ _)); exact BK102.out⟩, ⟨by repeat (first | (with_reducible first | exact HB.out | apply below_alloc | apply pw_below_drewN | apply below_drew1 | refine below_set ?_ GE102.out) | exact HB.out)⟩⟩
                  · rw [if_neg c14] at H
                    have c14b0 : decide (3 < ((rd_T32 l0 x7_1).f1)) = false := decide_eq_false c14
                    clear c14
                    by_cases c16 : ((rd_T32 l0 x7_1).f2) < 0
                    · rw [if_pos c16] at H
                      have c16b0 : decide (((rd_T32 l0 x7_1).f2) < 0) = true := decide_eq_true c16
                      clear c16
                      have H' := Aside0.mk H
                      clear H
                      have hcz17_0 : w8.cell? ⟨gb102, 0, none⟩ = some (.string (⟨#[]⟩ : ByteArray)) := (blk_cell BK102.out 0).trans rfl
                      have hcz17_1 : w8.cell? ⟨gb102, 1, none⟩ = some (.int .i64 0) := (blk_cell BK102.out 1).trans rfl
                      have hcz17_2 : w8.cell? ⟨gb102, 2, none⟩ = some (.int .i64 0) := (blk_cell BK102.out 2).trans rfl
                      have hfz17_0 := blk_frozen BK102.out 0
                      have hfz17_1 := blk_frozen BK102.out 1
                      have hfz17_2 := blk_frozen BK102.out 2
                      go_wp2_with (first | (go_at_call 97; (with_reducible refine (cotterref06_named.calls ((rd_T32 l0 x7_1).f0) true _ A10.out).mono ?_); rintro e w' ⟨rfl, ⟨nd, rfl⟩⟩; (try first | exact ⟨rfl, _, World.drewN_drewN _ _ _⟩ | exact ⟨rfl, _, Eq.trans (World.drewN_drewN _ _ _) (congrArg (World.drewN _) (Nat.add_assoc _ _ _))⟩)))
                      repeat (go_quiet (first | (go_at_call 97; (with_reducible refine (cotterref06_named.calls ((rd_T32 l0 x7_1).f0) true _ A10.out).mono ?_); rintro e w' ⟨rfl, ⟨nd, rfl⟩⟩; (try first | exact ⟨rfl, _, World.drewN_drewN _ _ _⟩ | exact ⟨rfl, _, Eq.trans (World.drewN_drewN _ _ _) (congrArg (World.drewN _) (Nat.add_assoc _ _ _))⟩))); try go_wp2_with (first | (go_at_call 97; (with_reducible refine (cotterref06_named.calls ((rd_T32 l0 x7_1).f0) true _ A10.out).mono ?_); rintro e w' ⟨rfl, ⟨nd, rfl⟩⟩; (try first | exact ⟨rfl, _, World.drewN_drewN _ _ _⟩ | exact ⟨rfl, _, Eq.trans (World.drewN_drewN _ _ _) (congrArg (World.drewN _) (Nat.add_assoc _ _ _))⟩))))
                      go_meet
                      case rel => exact ⟨_, (true), (by first | rfl | (simp; done) | (simp [*]; done)), H', ⟨by have := HK1.out; first | omega | exact Nat.le_refl _⟩, ⟨by (with_reducible repeat (first | refine blk_drewN ?_ _ | refine blk_drew ?_ | refine blk_alloc ?_ _)); refine blk_put (cs := #[.string ((rd_T32 l0 x7_1).f0), .int .i64 ((rd_T32 l0 x7_1).f1), .int .i64 0]) ?_ 2 _ rfl; (with_reducible repeat (first | refine blk_drewN ?_ _ | refine blk_drew ?_ | refine blk_alloc ?_ _)); refine blk_put (cs := #[.string ((rd_T32 l0 x7_1).f0), .int .i64 0, .int .i64 0]) ?_ 1 _ rfl; (with_reducible repeat (first | refine blk_drewN ?_ _ | refine blk_drew ?_ | refine blk_alloc ?_ _)); refine blk_put (cs := #[.string (⟨#[]⟩ : ByteArray), .int .i64 0, .int .i64 0]) ?_ 0 _ rfl; (with_reducible repeat (first | refine blk_drewN ?_ _ | refine blk_drew ?_ | refine blk_alloc ?_ _)); exact BK102.out⟩, ⟨by repeat (first | (with_reducible first | exact HB.out | apply below_alloc | apply pw_below_drewN | apply below_drew1 | refine below_set ?_ GE102.out) | exact HB.out)⟩⟩
                    · rw [if_neg c16] at H
                      have c16b0 : decide (((rd_T32 l0 x7_1).f2) < 0) = false := decide_eq_false c16
                      clear c16
                      by_cases c18 : ((rd_T32 l0 x7_1).f1) = 2
                      · rw [if_pos c18] at H
                        have c18b0 : (((rd_T32 l0 x7_1).f1) == 2) = true := beq_iff_eq.mpr c18
                        have c18b1 : (((rd_T32 l0 x7_1).f1) != 2) = false := bne_eq_false_iff_eq.mpr c18
                        clear c18
                        by_cases c19 : ((rd_T32 l0 x7_1).f2) ≥ a2
                        · rw [if_pos c19] at H
                          have c19b0 : decide (a2 ≤ ((rd_T32 l0 x7_1).f2)) = true := decide_eq_true c19
                          clear c19
                          have H' := Aside0.mk H
                          clear H
                          have hcz20_0 : w8.cell? ⟨gb102, 0, none⟩ = some (.string (⟨#[]⟩ : ByteArray)) := (blk_cell BK102.out 0).trans rfl
                          have hcz20_1 : w8.cell? ⟨gb102, 1, none⟩ = some (.int .i64 0) := (blk_cell BK102.out 1).trans rfl
                          have hcz20_2 : w8.cell? ⟨gb102, 2, none⟩ = some (.int .i64 0) := (blk_cell BK102.out 2).trans rfl
                          have hfz20_0 := blk_frozen BK102.out 0
                          have hfz20_1 := blk_frozen BK102.out 1
                          have hfz20_2 := blk_frozen BK102.out 2
                          go_wp2_with (first | (go_at_call 97; (with_reducible refine (cotterref06_named.calls ((rd_T32 l0 x7_1).f0) true _ A10.out).mono ?_); rintro e w' ⟨rfl, ⟨nd, rfl⟩⟩; (try first | exact ⟨rfl, _, World.drewN_drewN _ _ _⟩ | exact ⟨rfl, _, Eq.trans (World.drewN_drewN _ _ _) (congrArg (World.drewN _) (Nat.add_assoc _ _ _))⟩)))
                          repeat (go_quiet (first | (go_at_call 97; (with_reducible refine (cotterref06_named.calls ((rd_T32 l0 x7_1).f0) true _ A10.out).mono ?_); rintro e w' ⟨rfl, ⟨nd, rfl⟩⟩; (try first | exact ⟨rfl, _, World.drewN_drewN _ _ _⟩ | exact ⟨rfl, _, Eq.trans (World.drewN_drewN _ _ _) (congrArg (World.drewN _) (Nat.add_assoc _ _ _))⟩))); try go_wp2_with (first | (go_at_call 97; (with_reducible refine (cotterref06_named.calls ((rd_T32 l0 x7_1).f0) true _ A10.out).mono ?_); rintro e w' ⟨rfl, ⟨nd, rfl⟩⟩; (try first | exact ⟨rfl, _, World.drewN_drewN _ _ _⟩ | exact ⟨rfl, _, Eq.trans (World.drewN_drewN _ _ _) (congrArg (World.drewN _) (Nat.add_assoc _ _ _))⟩))))
                          go_meet
                          case rel => exact ⟨_, (true), (by first | rfl | (simp; done) | (simp [*]; done)), H', ⟨by have := HK1.out; first | omega | exact Nat.le_refl _⟩, ⟨by (with_reducible repeat (first | refine blk_drewN ?_ _ | refine blk_drew ?_ | refine blk_alloc ?_ _)); refine blk_put (cs := #[.string ((rd_T32 l0 x7_1).f0), .int .i64 ((rd_T32 l0 x7_1).f1), .int .i64 0]) ?_ 2 _ rfl; (with_reducible repeat (first | refine blk_drewN ?_ _ | refine blk_drew ?_ | refine blk_alloc ?_ _)); refine blk_put (cs := #[.string ((rd_T32 l0 x7_1).f0), .int .i64 0, .int .i64 0]) ?_ 1 _ rfl; (with_reducible repeat (first | refine blk_drewN ?_ _ | refine blk_drew ?_ | refine blk_alloc ?_ _)); refine blk_put (cs := #[.string (⟨#[]⟩ : ByteArray), .int .i64 0, .int .i64 0]) ?_ 0 _ rfl; (with_reducible repeat (first | refine blk_drewN ?_ _ | refine blk_drew ?_ | refine blk_alloc ?_ _)); exact BK102.out⟩, ⟨by repeat (first | (with_reducible first | exact HB.out | apply below_alloc | apply pw_below_drewN | apply below_drew1 | refine below_set ?_ GE102.out) | exact HB.out)⟩⟩
                        · rw [if_neg c19] at H
                          have c19b0 : decide (a2 ≤ ((rd_T32 l0 x7_1).f2)) = false := decide_eq_false c19
                          clear c19
                          have H' := Aside0.mk H
                          clear H
                          have hcz21_0 : w8.cell? ⟨gb102, 0, none⟩ = some (.string (⟨#[]⟩ : ByteArray)) := (blk_cell BK102.out 0).trans rfl
                          have hcz21_1 : w8.cell? ⟨gb102, 1, none⟩ = some (.int .i64 0) := (blk_cell BK102.out 1).trans rfl
                          have hcz21_2 : w8.cell? ⟨gb102, 2, none⟩ = some (.int .i64 0) := (blk_cell BK102.out 2).trans rfl
                          have hfz21_0 := blk_frozen BK102.out 0
                          have hfz21_1 := blk_frozen BK102.out 1
                          have hfz21_2 := blk_frozen BK102.out 2
                          go_wp2_with (first | (go_at_call 97; (with_reducible refine (cotterref06_named.calls ((rd_T32 l0 x7_1).f0) true _ A10.out).mono ?_); rintro e w' ⟨rfl, ⟨nd, rfl⟩⟩; (try first | exact ⟨rfl, _, World.drewN_drewN _ _ _⟩ | exact ⟨rfl, _, Eq.trans (World.drewN_drewN _ _ _) (congrArg (World.drewN _) (Nat.add_assoc _ _ _))⟩)))
                          repeat (go_quiet (first | (go_at_call 97; (with_reducible refine (cotterref06_named.calls ((rd_T32 l0 x7_1).f0) true _ A10.out).mono ?_); rintro e w' ⟨rfl, ⟨nd, rfl⟩⟩; (try first | exact ⟨rfl, _, World.drewN_drewN _ _ _⟩ | exact ⟨rfl, _, Eq.trans (World.drewN_drewN _ _ _) (congrArg (World.drewN _) (Nat.add_assoc _ _ _))⟩))); try go_wp2_with (first | (go_at_call 97; (with_reducible refine (cotterref06_named.calls ((rd_T32 l0 x7_1).f0) true _ A10.out).mono ?_); rintro e w' ⟨rfl, ⟨nd, rfl⟩⟩; (try first | exact ⟨rfl, _, World.drewN_drewN _ _ _⟩ | exact ⟨rfl, _, Eq.trans (World.drewN_drewN _ _ _) (congrArg (World.drewN _) (Nat.add_assoc _ _ _))⟩))))
                          go_meet
                          case rel => exact ⟨_, (false), (by first | rfl | (simp; done) | (simp [*]; done)), H', ⟨by have := HK1.out; first | omega | exact Nat.le_refl _⟩, ⟨by (with_reducible repeat (first | refine blk_drewN ?_ _ | refine blk_drew ?_ | refine blk_alloc ?_ _)); refine blk_put (cs := #[.string ((rd_T32 l0 x7_1).f0), .int .i64 ((rd_T32 l0 x7_1).f1), .int .i64 0]) ?_ 2 _ rfl; (with_reducible repeat (first | refine blk_drewN ?_ _ | refine blk_drew ?_ | refine blk_alloc ?_ _)); refine blk_put (cs := #[.string ((rd_T32 l0 x7_1).f0), .int .i64 0, .int .i64 0]) ?_ 1 _ rfl; (with_reducible repeat (first | refine blk_drewN ?_ _ | refine blk_drew ?_ | refine blk_alloc ?_ _)); refine blk_put (cs := #[.string (⟨#[]⟩ : ByteArray), .int .i64 0, .int .i64 0]) ?_ 0 _ rfl; (with_reducible repeat (first | refine blk_drewN ?_ _ | refine blk_drew ?_ | refine blk_alloc ?_ _)); exact BK102.out⟩, ⟨by repeat (first | (with_reducible first | exact HB.out | apply below_alloc | apply pw_below_drewN | apply below_drew1 | refine below_set ?_ GE102.out) | exact HB.out)⟩⟩
                      · rw [if_neg c18] at H
                        have c18b0 : (((rd_T32 l0 x7_1).f1) == 2) = false := beq_eq_false_iff_ne.mpr c18
                        have c18b1 : (((rd_T32 l0 x7_1).f1) != 2) = true := bne_iff_ne.mpr c18
                        have H' := Aside0.mk H
                        clear H
                        have hcz22_0 : w8.cell? ⟨gb102, 0, none⟩ = some (.string (⟨#[]⟩ : ByteArray)) := (blk_cell BK102.out 0).trans rfl
                        have hcz22_1 : w8.cell? ⟨gb102, 1, none⟩ = some (.int .i64 0) := (blk_cell BK102.out 1).trans rfl
                        have hcz22_2 : w8.cell? ⟨gb102, 2, none⟩ = some (.int .i64 0) := (blk_cell BK102.out 2).trans rfl
                        have hfz22_0 := blk_frozen BK102.out 0
                        have hfz22_1 := blk_frozen BK102.out 1
                        have hfz22_2 := blk_frozen BK102.out 2
                        go_wp2_with (first | (go_at_call 97; (with_reducible refine (cotterref06_named.calls ((rd_T32 l0 x7_1).f0) true _ A10.out).mono ?_); rintro e w' ⟨rfl, ⟨nd, rfl⟩⟩; (try first | exact ⟨rfl, _, World.drewN_drewN _ _ _⟩ | exact ⟨rfl, _, Eq.trans (World.drewN_drewN _ _ _) (congrArg (World.drewN _) (Nat.add_assoc _ _ _))⟩)))
                        repeat (go_quiet (first | (go_at_call 97; (with_reducible refine (cotterref06_named.calls ((rd_T32 l0 x7_1).f0) true _ A10.out).mono ?_); rintro e w' ⟨rfl, ⟨nd, rfl⟩⟩; (try first | exact ⟨rfl, _, World.drewN_drewN _ _ _⟩ | exact ⟨rfl, _, Eq.trans (World.drewN_drewN _ _ _) (congrArg (World.drewN _) (Nat.add_assoc _ _ _))⟩))); try go_wp2_with (first | (go_at_call 97; (with_reducible refine (cotterref06_named.calls ((rd_T32 l0 x7_1).f0) true _ A10.out).mono ?_); rintro e w' ⟨rfl, ⟨nd, rfl⟩⟩; (try first | exact ⟨rfl, _, World.drewN_drewN _ _ _⟩ | exact ⟨rfl, _, Eq.trans (World.drewN_drewN _ _ _) (congrArg (World.drewN _) (Nat.add_assoc _ _ _))⟩))))
                        go_meet
                        case rel => exact ⟨_, (decide (((rd_T32 l0 x7_1).f2) ≥ a1)), (by first | rfl | (simp; done) | (simp [*]; done)), H', ⟨by have := HK1.out; first | omega | exact Nat.le_refl _⟩, ⟨by (with_reducible repeat (first | refine blk_drewN ?_ _ | refine blk_drew ?_ | refine blk_alloc ?_ _)); refine blk_put (cs := #[.string ((rd_T32 l0 x7_1).f0), .int .i64 ((rd_T32 l0 x7_1).f1), .int .i64 0]) ?_ 2 _ rfl; (with_reducible repeat (first | refine blk_drewN ?_ _ | refine blk_drew ?_ | refine blk_alloc ?_ _)); refine blk_put (cs := #[.string ((rd_T32 l0 x7_1).f0), .int .i64 0, .int .i64 0]) ?_ 1 _ rfl; (with_reducible repeat (first | refine blk_drewN ?_ _ | refine blk_drew ?_ | refine blk_alloc ?_ _)); refine blk_put (cs := #[.string (⟨#[]⟩ : ByteArray), .int .i64 0, .int .i64 0]) ?_ 0 _ rfl; (with_reducible repeat (first | refine blk_drewN ?_ _ | refine blk_drew ?_ | refine blk_alloc ?_ _)); exact BK102.out⟩, ⟨by repeat (first | (with_reducible first | exact HB.out | apply below_alloc | apply pw_below_drewN | apply below_drew1 | refine below_set ?_ GE102.out) | exact HB.out)⟩⟩
              · replace c11 := Bool.eq_false_iff.mpr c11
                subst c11
                have H1 : (cotterref06_Syms.j1 k1 l0 a1 a2 x7_1 true ((rd_T32 l0 x7_1).f0) ((rd_T32 l0 x7_1).f1) ((rd_T32 l0 x7_1).f2)) = some r := by rw [if_neg (show ¬ (false = true) by decide)] at H; exact H
                clear H
                have H := H1
                clear H1
                have H' := Aside0.mk H
                clear H
                have hcz23_0 : w8.cell? ⟨gb102, 0, none⟩ = some (.string (⟨#[]⟩ : ByteArray)) := (blk_cell BK102.out 0).trans rfl
                have hcz23_1 : w8.cell? ⟨gb102, 1, none⟩ = some (.int .i64 0) := (blk_cell BK102.out 1).trans rfl
                have hcz23_2 : w8.cell? ⟨gb102, 2, none⟩ = some (.int .i64 0) := (blk_cell BK102.out 2).trans rfl
                have hfz23_0 := blk_frozen BK102.out 0
                have hfz23_1 := blk_frozen BK102.out 1
                have hfz23_2 := blk_frozen BK102.out 2
                go_wp2_with (first | (go_at_call 97; (with_reducible refine (cotterref06_named.calls ((rd_T32 l0 x7_1).f0) false _ A10.out).mono ?_); rintro e w' ⟨rfl, ⟨nd, rfl⟩⟩; (try first | exact ⟨rfl, _, World.drewN_drewN _ _ _⟩ | exact ⟨rfl, _, Eq.trans (World.drewN_drewN _ _ _) (congrArg (World.drewN _) (Nat.add_assoc _ _ _))⟩)))
                repeat (go_quiet (first | (go_at_call 97; (with_reducible refine (cotterref06_named.calls ((rd_T32 l0 x7_1).f0) false _ A10.out).mono ?_); rintro e w' ⟨rfl, ⟨nd, rfl⟩⟩; (try first | exact ⟨rfl, _, World.drewN_drewN _ _ _⟩ | exact ⟨rfl, _, Eq.trans (World.drewN_drewN _ _ _) (congrArg (World.drewN _) (Nat.add_assoc _ _ _))⟩))); try go_wp2_with (first | (go_at_call 97; (with_reducible refine (cotterref06_named.calls ((rd_T32 l0 x7_1).f0) false _ A10.out).mono ?_); rintro e w' ⟨rfl, ⟨nd, rfl⟩⟩; (try first | exact ⟨rfl, _, World.drewN_drewN _ _ _⟩ | exact ⟨rfl, _, Eq.trans (World.drewN_drewN _ _ _) (congrArg (World.drewN _) (Nat.add_assoc _ _ _))⟩))))
                go_meet
                case rel => exact ⟨_, (true), (by first | rfl | (simp; done) | (simp [*]; done)), H', ⟨by have := HK1.out; first | omega | exact Nat.le_refl _⟩, ⟨by (with_reducible repeat (first | refine blk_drewN ?_ _ | refine blk_drew ?_ | refine blk_alloc ?_ _)); refine blk_put (cs := #[.string ((rd_T32 l0 x7_1).f0), .int .i64 ((rd_T32 l0 x7_1).f1), .int .i64 0]) ?_ 2 _ rfl; (with_reducible repeat (first | refine blk_drewN ?_ _ | refine blk_drew ?_ | refine blk_alloc ?_ _)); refine blk_put (cs := #[.string ((rd_T32 l0 x7_1).f0), .int .i64 0, .int .i64 0]) ?_ 1 _ rfl; (with_reducible repeat (first | refine blk_drewN ?_ _ | refine blk_drew ?_ | refine blk_alloc ?_ _)); refine blk_put (cs := #[.string (⟨#[]⟩ : ByteArray), .int .i64 0, .int .i64 0]) ?_ 0 _ rfl; (with_reducible repeat (first | refine blk_drewN ?_ _ | refine blk_drew ?_ | refine blk_alloc ?_ _)); exact BK102.out⟩, ⟨by repeat (first | (with_reducible first | exact HB.out | apply below_alloc | apply pw_below_drewN | apply below_drew1 | refine below_set ?_ GE102.out) | exact HB.out)⟩⟩
            case rest =>
              clear HC7
              try clear c1
              try clear p1
              try clear q1
              try clear hx1
              try clear p2
              try clear c4
              try clear c4b0
              try clear c4b1
              try clear c5
              try clear c5b0
              try clear c6
              try clear c6b0
              try clear c9
              try clear p10
              try clear q10
              try clear hx10
              try clear c11
              try clear c12
              try clear c12b0
              try clear c14
              try clear c14b0
              try clear c16
              try clear c16b0
              try clear c18
              try clear c18b0
              try clear c18b1
              try clear c19
              try clear c19b0
              try clear hcz13_0
              try clear hcz13_1
              try clear hcz13_2
              try clear hcz15_0
              try clear hcz15_1
              try clear hcz15_2
              try clear hcz17_0
              try clear hcz17_1
              try clear hcz17_2
              try clear hcz20_0
              try clear hcz20_1
              try clear hcz20_2
              try clear hcz21_0
              try clear hcz21_1
              try clear hcz21_2
              try clear hcz22_0
              try clear hcz22_1
              try clear hcz22_2
              try clear hcz23_0
              try clear hcz23_1
              try clear hcz23_2
              try clear hcz9_0
              try clear hcz9_1
              try clear hcz9_2
              try clear hfz13_0
              try clear hfz13_1
              try clear hfz13_2
              try clear hfz15_0
              try clear hfz15_1
              try clear hfz15_2
              try clear hfz17_0
              try clear hfz17_1
              try clear hfz17_2
              try clear hfz20_0
              try clear hfz20_1
              try clear hfz20_2
              try clear hfz21_0
              try clear hfz21_1
              try clear hfz21_2
              try clear hfz22_0
              try clear hfz22_1
              try clear hfz22_2
              try clear hfz23_0
              try clear hfz23_1
              try clear hfz23_2
              try clear hfz9_0
              try clear hfz9_1
              try clear hfz9_2
              try clear hx101_0
              try clear hx101_1
              try clear hx101_2
              try clear p101
              try clear p2
              try clear q101
              obtain ⟨kq, x63_6, rfl, HA, HJ6, BK102, HB⟩ := hcut
              cases kq with
              | zero => exact absurd HA.out (by simp [cotterref06_Syms.j1])
              | succ kj6 =>
                have H := HA.out
                clear HA
                simp only [cotterref06_Syms.j1] at H
                by_cases c24 : x63_6 = true
                · subst c24
                  have H1 : (some false) = some r := by rw [if_pos rfl] at H; exact H
                  clear H
                  have H := H1
                  clear H1
                  obtain rfl := Option.some.inj H
                  go_wp2
                  repeat (go_quiet (fail); try go_wp2)
                  go_ret
                  exact ⟨by first | rfl | (simp [errW_none, errW_some] <;> rfl) | (simp [*, errW_none, errW_some] <;> rfl), by repeat (first | (with_reducible first | exact HB.out | apply below_alloc | apply pw_below_drewN | apply below_drew1 | refine below_set ?_ GE102.out) | exact HB.out)⟩
                · replace c24 := Bool.eq_false_iff.mpr c24
                  subst c24
                  have H1 : (cotterref06_Syms.l1 kj6 l0 a1 a2 x7_1 0 ((rd_T32 l0 x7_1).f0) ((rd_T32 l0 x7_1).f1) ((rd_T32 l0 x7_1).f2)) = some r := by rw [if_neg (show ¬ (false = true) by decide)] at H; exact H
                  clear H
                  have H := H1
                  clear H1
                  have H' := Aside0.mk H
                  clear H
                  go_wp2
                  repeat (go_quiet (fail); try go_wp2)
                  go_loopg [9] kj6 (fun kq v9 w' => ∃ (x9_3 : Int), v9 = .int .i64 x9_3 ∧ Aside0 (cotterref06_Syms.l1 kq l0 a1 a2 x7_1 x9_3 ((rd_T32 l0 x7_1).f0) ((rd_T32 l0 x7_1).f1) ((rd_T32 l0 x7_1).f2) = some r) ∧ Aside0 (kq ≤ kj6) ∧ Aside0 (w'.heap[gb102]? = some (.cells #[.string ((rd_T32 l0 x7_1).f0), .int .i64 ((rd_T32 l0 x7_1).f1), .int .i64 ((rd_T32 l0 x7_1).f2)] 32 (0, 0))) ∧ Aside0 (Below w.heap.size w w'))
                  case atStart => exact ⟨(0), (by first | rfl | (simp; done) | (simp [*]; done)), H', ⟨Nat.le_refl _⟩, ⟨by (with_reducible repeat (first | refine blk_drewN ?_ _ | refine blk_drew ?_ | refine blk_alloc ?_ _)); exact BK102.out⟩, ⟨by repeat (first | (with_reducible first | exact HB.out | apply below_alloc | apply pw_below_drewN | apply below_drew1 | refine below_set ?_ GE102.out) | exact HB.out)⟩⟩
                  case round =>
                    clear H'
                    try clear c1
                    try clear p1
                    try clear q1
                    try clear hx1
                    try clear c2
                    try clear p2
                    try clear c4
                    try clear c4b0
                    try clear c4b1
                    try clear c5
                    try clear c5b0
                    try clear c6
                    try clear c6b0
                    try clear c9
                    try clear p10
                    try clear q10
                    try clear hx10
                    try clear c11
                    try clear c12
                    try clear c12b0
                    try clear c14
                    try clear c14b0
                    try clear c16
                    try clear c16b0
                    try clear c18
                    try clear c18b0
                    try clear c18b1
                    try clear c19
                    try clear c19b0
                    try clear c24
                    try clear hcz13_0
                    try clear hcz13_1
                    try clear hcz13_2
                    try clear hcz15_0
                    try clear hcz15_1
                    try clear hcz15_2
                    try clear hcz17_0
                    try clear hcz17_1
                    try clear hcz17_2
                    try clear hcz20_0
                    try clear hcz20_1
                    try clear hcz20_2
                    try clear hcz21_0
                    try clear hcz21_1
                    try clear hcz21_2
                    try clear hcz22_0
                    try clear hcz22_1
                    try clear hcz22_2
                    try clear hcz23_0
                    try clear hcz23_1
                    try clear hcz23_2
                    try clear hcz9_0
                    try clear hcz9_1
                    try clear hcz9_2
                    try clear hfz13_0
                    try clear hfz13_1
                    try clear hfz13_2
                    try clear hfz15_0
                    try clear hfz15_1
                    try clear hfz15_2
                    try clear hfz17_0
                    try clear hfz17_1
                    try clear hfz17_2
                    try clear hfz20_0
                    try clear hfz20_1
                    try clear hfz20_2
                    try clear hfz21_0
                    try clear hfz21_1
                    try clear hfz21_2
                    try clear hfz22_0
                    try clear hfz22_1
                    try clear hfz22_2
                    try clear hfz23_0
                    try clear hfz23_1
                    try clear hfz23_2
                    try clear hfz9_0
                    try clear hfz9_1
                    try clear hfz9_2
                    try clear hx101_0
                    try clear hx101_1
                    try clear hx101_2
                    try clear p1
                    try clear p10
                    try clear p101
                    try clear p2
                    try clear q1
                    try clear q10
                    try clear q101
                    obtain ⟨x9_3, rfl, HA, HK3, BK102, HB⟩ := hrel
                    cases gk with
                    | zero => exact absurd HA.out (by simp [cotterref06_Syms.l1])
                    | succ k3 =>
                      have H := HA.out
                      clear HA
                      simp only [cotterref06_Syms.l1] at H
                      by_cases c25 : x9_3 < x7_1
                      · rw [if_pos c25] at H
                        have c25b0 : decide (x9_3 < x7_1) = true := decide_eq_true c25
                        clear c25
                        by_cases c26 : 0 ≤ x9_3
                        · rw [if_pos c26] at H
                          have c26b0 : decide (0 ≤ x9_3) = true := decide_eq_true c26
                          clear c26
                          by_cases c27 : x9_3 < (l0.length : Int)
                          · rw [if_pos c27] at H
                            have c27b0 : decide (x9_3 < (l0.length : Int)) = true := decide_eq_true c27
                            clear c27
                            by_cases c28 : ((rd_T32 l0 x9_3).f0).toList = ((rd_T32 l0 x7_1).f0).toList
                            · rw [if_pos c28] at H
                              have c28b0 : (((rd_T32 l0 x9_3).f0).toList == ((rd_T32 l0 x7_1).f0).toList) = true := beq_iff_eq.mpr c28
                              have c28b1 : (((rd_T32 l0 x9_3).f0).toList != ((rd_T32 l0 x7_1).f0).toList) = false := bne_eq_false_iff_eq.mpr c28
                              clear c28
                              obtain rfl := Option.some.inj H
                              have p104 : 0 ≤ (x9_3 : Int) := of_decide_eq_true (by first | (with_reducible assumption) | assumption)
                              have q104 : x9_3 < (l0.length : Int) := of_decide_eq_true (by first | (with_reducible assumption) | assumption)
                              obtain ⟨ad104, e104, hx104_0, hx104_1, hx104_2⟩ := at_T32 HR0.out x9_3 p104 q104
                              obtain rfl : ad101 = ad104 := (by injection e104)
                              replace hx104_0 := (HB.out.cell (World.block_lt_of_cell? w _ hx104_0)).trans hx104_0
                              replace hx104_1 := (HB.out.cell (World.block_lt_of_cell? w _ hx104_1)).trans hx104_1
                              replace hx104_2 := (HB.out.cell (World.block_lt_of_cell? w _ hx104_2)).trans hx104_2
                              replace p104 := eq_true p104
                              replace q104 := eq_true q104
                              have hcz29_0 : wr.cell? ⟨gb102, 0, none⟩ = some (.string ((rd_T32 l0 x7_1).f0)) := (blk_cell BK102.out 0).trans rfl
                              have hcz29_1 : wr.cell? ⟨gb102, 1, none⟩ = some (.int .i64 ((rd_T32 l0 x7_1).f1)) := (blk_cell BK102.out 1).trans rfl
                              have hcz29_2 : wr.cell? ⟨gb102, 2, none⟩ = some (.int .i64 ((rd_T32 l0 x7_1).f2)) := (blk_cell BK102.out 2).trans rfl
                              have hfz29_0 := blk_frozen BK102.out 0
                              have hfz29_1 := blk_frozen BK102.out 1
                              have hfz29_2 := blk_frozen BK102.out 2
                              go_wp2
                              repeat (go_quiet (fail); try go_wp2)
                              go_ret
                              exact ⟨by first | rfl | (simp [errW_none, errW_some] <;> rfl) | (simp [*, errW_none, errW_some] <;> rfl), by repeat (first | (with_reducible first | exact HB.out | apply below_alloc | apply pw_below_drewN | apply below_drew1 | refine below_set ?_ GE102.out) | exact HB.out)⟩
                            · rw [if_neg c28] at H
                              have c28b0 : (((rd_T32 l0 x9_3).f0).toList == ((rd_T32 l0 x7_1).f0).toList) = false := beq_eq_false_iff_ne.mpr c28
                              have c28b1 : (((rd_T32 l0 x9_3).f0).toList != ((rd_T32 l0 x7_1).f0).toList) = true := bne_iff_ne.mpr c28
                              have H' := Aside0.mk H
                              clear H
                              have p104 : 0 ≤ (x9_3 : Int) := of_decide_eq_true (by first | (with_reducible assumption) | assumption)
                              have q104 : x9_3 < (l0.length : Int) := of_decide_eq_true (by first | (with_reducible assumption) | assumption)
                              obtain ⟨ad104, e104, hx104_0, hx104_1, hx104_2⟩ := at_T32 HR0.out x9_3 p104 q104
                              obtain rfl : ad101 = ad104 := (by injection e104)
                              replace hx104_0 := (HB.out.cell (World.block_lt_of_cell? w _ hx104_0)).trans hx104_0
                              replace hx104_1 := (HB.out.cell (World.block_lt_of_cell? w _ hx104_1)).trans hx104_1
                              replace hx104_2 := (HB.out.cell (World.block_lt_of_cell? w _ hx104_2)).trans hx104_2
                              replace p104 := eq_true p104
                              replace q104 := eq_true q104
                              have hcz30_0 : wr.cell? ⟨gb102, 0, none⟩ = some (.string ((rd_T32 l0 x7_1).f0)) := (blk_cell BK102.out 0).trans rfl
                              have hcz30_1 : wr.cell? ⟨gb102, 1, none⟩ = some (.int .i64 ((rd_T32 l0 x7_1).f1)) := (blk_cell BK102.out 1).trans rfl
                              have hcz30_2 : wr.cell? ⟨gb102, 2, none⟩ = some (.int .i64 ((rd_T32 l0 x7_1).f2)) := (blk_cell BK102.out 2).trans rfl
                              have hfz30_0 := blk_frozen BK102.out 0
                              have hfz30_1 := blk_frozen BK102.out 1
                              have hfz30_2 := blk_frozen BK102.out 2
                              go_wp2
                              repeat (go_quiet (fail); try go_wp2)
                              go_roundg k3
                              case measure => have := HK1.out; have := HJ6.out; have := HK3.out; omega
                              case rel => exact ⟨(wrap64 (x9_3 + 1)), (by first | rfl | (simp; done) | (simp [*]; done)), H', ⟨by have := HK1.out; have := HJ6.out; have := HK3.out; omega⟩, ⟨by (with_reducible repeat (first | refine blk_drewN ?_ _ | refine blk_drew ?_ | refine blk_alloc ?_ _)); exact BK102.out⟩, ⟨by repeat (first | (with_reducible first | exact HB.out | apply below_alloc | apply pw_below_drewN | apply below_drew1 | refine below_set ?_ GE102.out) | exact HB.out)⟩⟩
                          · rw [if_neg c27] at H
                            exact absurd H (by simp)
                        · rw [if_neg c26] at H
                          exact absurd H (by simp)
                      · rw [if_neg c25] at H
                        have c25b0 : decide (x9_3 < x7_1) = false := decide_eq_false c25
                        clear c25
                        have H' := Aside0.mk H
                        clear H
                        go_wp2
                        repeat (go_quiet (fail); try go_wp2)
                        go_roundg k3
                        case measure => have := HK1.out; have := HJ6.out; have := HK3.out; omega
                        case rel => exact ⟨(wrap64 (x7_1 + 1)), (by first | rfl | (simp; done) | (simp [*]; done)), H', ⟨by have := HK1.out; have := HJ6.out; have := HK3.out; omega⟩, ⟨by repeat (first | (with_reducible first | exact HB.out | apply below_alloc | apply pw_below_drewN | apply below_drew1 | refine below_set ?_ GE102.out) | exact HB.out)⟩⟩
          · rw [if_neg c6] at H
            exact absurd H (by simp)
        · rw [if_neg c5] at H
          have c5b0 : decide (x7_1 < (l0.length : Int)) = false := decide_eq_false c5
          clear c5
          obtain rfl := Option.some.inj H
          go_wp2
          repeat (go_quiet (fail); try go_wp2)
          go_ret
          exact ⟨by first | rfl | (simp [errW_none, errW_some] <;> rfl) | (simp [*, errW_none, errW_some] <;> rfl), by repeat (first | (with_reducible first | exact HB.out | apply below_alloc | apply pw_below_drewN | apply below_drew1) | exact HB.out)⟩

/-! ### cotterref06_May: function 59 -/
mutual
def cotterref06_May.j0 : Nat → Bool → ByteArray → List Int → List (S32) → List (S34) → Option (Bool)
  | 0, _, _, _, _, _ => none
  | k + 1, x33, x102000, x102001, x102002, x102003 => if x33 = true then (some false) else (cotterref06_May.l0 k 0 0 x102000 x102001 x102002 x102003)
def cotterref06_May.l0 : Nat → Int → Int → ByteArray → List Int → List (S32) → List (S34) → Option (Bool)
  | 0, _, _, _, _, _, _ => none
  | k + 1, x3, x4, x102000, x102001, x102002, x102003 => if x4 < (x102003.length : Int) then (if 0 ≤ x4 then ((cotterref06_named.f ((rd_T34 x102003 x4).f2)).bind fun t105 => (if t105 = true then (if ((rd_T34 x102003 x4).f0) < x3 then (cotterref06_May.j2 k x4 true x102000 x102001 x102002 x102003 ((rd_T34 x102003 x4).f0) ((rd_T34 x102003 x4).f1) ((rd_T34 x102003 x4).f2) ((rd_T34 x102003 x4).f3)) else (cotterref06_May.j2 k x4 (decide (((rd_T34 x102003 x4).f0) > (wrap64 ((x102000.size : Int) - 4)))) x102000 x102001 x102002 x102003 ((rd_T34 x102003 x4).f0) ((rd_T34 x102003 x4).f1) ((rd_T34 x102003 x4).f2) ((rd_T34 x102003 x4).f3))) else (cotterref06_May.j2 k x4 true x102000 x102001 x102002 x102003 ((rd_T34 x102003 x4).f0) ((rd_T34 x102003 x4).f1) ((rd_T34 x102003 x4).f2) ((rd_T34 x102003 x4).f3)))) else (none)) else (some true)
def cotterref06_May.j2 : Nat → Int → Bool → ByteArray → List Int → List (S32) → List (S34) → Int → Int → ByteArray → Int → Option (Bool)
  | 0, _, _, _, _, _, _, _, _, _, _ => none
  | k + 1, x4, x64, x102000, x102001, x102002, x102003, x105000, x105001, x105002, x105003 => if x64 = true then (some false) else (if x105001 = 1 then (if x105003 = 0 then (cotterref06_May.l0 k (wrap64 (x105000 + 4)) (wrap64 (x4 + 1)) x102000 x102001 x102002 x102003) else (if x105001 = 2 then (if x105003 ≥ (-2147483648) then (if x105003 ≤ 2147483647 then (cotterref06_May.l0 k (wrap64 (x105000 + 4)) (wrap64 (x4 + 1)) x102000 x102001 x102002 x102003) else (some false)) else (some false)) else (some false))) else (if x105001 = 2 then (if x105003 ≥ (-2147483648) then (if x105003 ≤ 2147483647 then (cotterref06_May.l0 k (wrap64 (x105000 + 4)) (wrap64 (x4 + 1)) x102000 x102001 x102002 x102003) else (some false)) else (some false)) else (some false)))
end
def cotterref06_May.f (k : Nat) (a0_0 : ByteArray) (l0_1 : List Int) (l0_2 : List (S32)) (l0_3 : List (S34)) : Option (Bool) := if (a0_0.size : Int) > 65536 then (cotterref06_May.j0 k true a0_0 l0_1 l0_2 l0_3) else (if (l0_1.length : Int) > 4096 then (cotterref06_May.j0 k true a0_0 l0_1 l0_2 l0_3) else ((cotterref06_Syms.f k l0_2 (a0_0.size : Int) (l0_1.length : Int)).bind fun t102 => (if t102 = true then (cotterref06_May.j0 k (decide ((l0_3.length : Int) > 8000)) a0_0 l0_1 l0_2 l0_3) else (cotterref06_May.j0 k true a0_0 l0_1 l0_2 l0_3))))
theorem cotterref06_May.mono_l : ∀ k, (∀ y0 y1 y2 y3 y4, LeO (cotterref06_May.j0 k y0 y1 y2 y3 y4) (cotterref06_May.j0 (k + 1) y0 y1 y2 y3 y4)) ∧ (∀ y0 y1 y2 y3 y4 y5, LeO (cotterref06_May.l0 k y0 y1 y2 y3 y4 y5) (cotterref06_May.l0 (k + 1) y0 y1 y2 y3 y4 y5)) ∧ (∀ y0 y1 y2 y3 y4 y5 y6 y7 y8 y9, LeO (cotterref06_May.j2 k y0 y1 y2 y3 y4 y5 y6 y7 y8 y9) (cotterref06_May.j2 (k + 1) y0 y1 y2 y3 y4 y5 y6 y7 y8 y9))
  | 0 => ⟨fun _ _ _ _ _ r h => by simp [cotterref06_May.j0] at h, fun _ _ _ _ _ _ r h => by simp [cotterref06_May.l0] at h, fun _ _ _ _ _ _ _ _ _ _ r h => by simp [cotterref06_May.j2] at h⟩
  | k + 1 => by
    obtain ⟨ih0, ih1, ih2⟩ := cotterref06_May.mono_l k
    refine ⟨?_, ?_, ?_⟩
    · intro y0 y1 y2 y3 y4
      unfold cotterref06_May.j0
      repeat' first
      | (with_reducible exact ih0 _ _ _ _ _)
      | (with_reducible exact ih1 _ _ _ _ _ _)
      | (with_reducible exact ih2 _ _ _ _ _ _ _ _ _ _)
      | (with_reducible exact cotterref06_Syms.mono _ _ _ _)
      | (with_reducible exact LeO.refl _)
      | (with_reducible exact LeO.none _)
      | (with_reducible refine LeO.ite ?_ ?_)
      | (with_reducible refine LeO.bind ?_ (fun _ => ?_))
      | exact ih0 _ _ _ _ _
      | exact ih1 _ _ _ _ _ _
      | exact ih2 _ _ _ _ _ _ _ _ _ _
      | exact cotterref06_Syms.mono _ _ _ _
      | exact LeO.none _
      | refine LeO.ite ?_ ?_
      | refine LeO.bind ?_ (fun _ => ?_)
    · intro y0 y1 y2 y3 y4 y5
      unfold cotterref06_May.l0
      repeat' first
      | (with_reducible exact ih0 _ _ _ _ _)
      | (with_reducible exact ih1 _ _ _ _ _ _)
      | (with_reducible exact ih2 _ _ _ _ _ _ _ _ _ _)
      | (with_reducible exact cotterref06_Syms.mono _ _ _ _)
      | (with_reducible exact LeO.refl _)
      | (with_reducible exact LeO.none _)
      | (with_reducible refine LeO.ite ?_ ?_)
      | (with_reducible refine LeO.bind ?_ (fun _ => ?_))
      | exact ih0 _ _ _ _ _
      | exact ih1 _ _ _ _ _ _
      | exact ih2 _ _ _ _ _ _ _ _ _ _
      | exact cotterref06_Syms.mono _ _ _ _
      | exact LeO.none _
      | refine LeO.ite ?_ ?_
      | refine LeO.bind ?_ (fun _ => ?_)
    · intro y0 y1 y2 y3 y4 y5 y6 y7 y8 y9
      unfold cotterref06_May.j2
      repeat' first
      | (with_reducible exact ih0 _ _ _ _ _)
      | (with_reducible exact ih1 _ _ _ _ _ _)
      | (with_reducible exact ih2 _ _ _ _ _ _ _ _ _ _)
      | (with_reducible exact cotterref06_Syms.mono _ _ _ _)
      | (with_reducible exact LeO.refl _)
      | (with_reducible exact LeO.none _)
      | (with_reducible refine LeO.ite ?_ ?_)
      | (with_reducible refine LeO.bind ?_ (fun _ => ?_))
      | exact ih0 _ _ _ _ _
      | exact ih1 _ _ _ _ _ _
      | exact ih2 _ _ _ _ _ _ _ _ _ _
      | exact cotterref06_Syms.mono _ _ _ _
      | exact LeO.none _
      | refine LeO.ite ?_ ?_
      | refine LeO.bind ?_ (fun _ => ?_)
theorem cotterref06_May.mono : ∀ a0 a1 a2 a3 k, LeO (cotterref06_May.f k a0 a1 a2 a3) (cotterref06_May.f (k + 1) a0 a1 a2 a3) := by
  intro a0 a1 a2 a3 k
  obtain ⟨ih0, ih1, ih2⟩ := cotterref06_May.mono_l k
  unfold cotterref06_May.f
  repeat' first
      | (with_reducible exact ih0 _ _ _ _ _)
      | (with_reducible exact ih1 _ _ _ _ _ _)
      | (with_reducible exact ih2 _ _ _ _ _ _ _ _ _ _)
      | (with_reducible exact cotterref06_Syms.mono _ _ _ _)
      | (with_reducible exact LeO.refl _)
      | (with_reducible exact LeO.none _)
      | (with_reducible refine LeO.ite ?_ ?_)
      | (with_reducible refine LeO.bind ?_ (fun _ => ?_))
      | exact ih0 _ _ _ _ _
      | exact ih1 _ _ _ _ _ _
      | exact ih2 _ _ _ _ _ _ _ _ _ _
      | exact cotterref06_Syms.mono _ _ _ _
      | exact LeO.none _
      | refine LeO.ite ?_ ?_
      | refine LeO.bind ?_ (fun _ => ?_)
set_option maxHeartbeats 8000000 in
set_option maxRecDepth 100000 in
theorem cotterref06_May.calls (k : Nat) (a0_0 : ByteArray) (A0_1 : Option Addr) (c0_1 : Nat) (l0_1 : List Int) (A0_2 : Option Addr) (c0_2 : Nat) (l0_2 : List (S32)) (A0_3 : Option Addr) (c0_3 : Nat) (l0_3 : List (S34)) (r : Bool) (w : World) (hr0_1 : Kd.C (Kd.int .i64) w A0_1 l0_1.length l0_1) (hc0_1 : l0_1.length ≤ c0_1) (hr0_2 : Kd.C k32 w A0_2 l0_2.length l0_2) (hc0_2 : l0_2.length ≤ c0_2) (hr0_3 : Kd.C k34 w A0_3 l0_3.length l0_3) (hc0_3 : l0_3.length ≤ c0_3) (h : cotterref06_May.f k a0_0 l0_1 l0_2 l0_3 = some r) :
    Calls Try.prog 59 #[.agg #[.string a0_0, .slice A0_1 l0_1.length c0_1, .slice A0_2 l0_2.length c0_2, .slice A0_3 l0_3.length c0_3]] w fun e w' => e = .returned (.bool r) ∧ Below w.heap.size w w' := by
  have hu30 := Try.underlying30
  have hu34 := Try.underlying34
  have HR0_1 := Aside0.mk hr0_1
  have HC0_1 := Aside0.mk hc0_1
  clear hr0_1 hc0_1
  have HR0_2 := Aside0.mk hr0_2
  have HC0_2 := Aside0.mk hc0_2
  clear hr0_2 hc0_2
  have HR0_3 := Aside0.mk hr0_3
  have HC0_3 := Aside0.mk hc0_3
  clear hr0_3 hc0_3
  have HB := Aside0.mk (Below.refl w.heap.size w)
  have H : (if (a0_0.size : Int) > 65536 then (cotterref06_May.j0 k true a0_0 l0_1 l0_2 l0_3) else (if (l0_1.length : Int) > 4096 then (cotterref06_May.j0 k true a0_0 l0_1 l0_2 l0_3) else ((cotterref06_Syms.f k l0_2 (a0_0.size : Int) (l0_1.length : Int)).bind fun t102 => (if t102 = true then (cotterref06_May.j0 k (decide ((l0_3.length : Int) > 8000)) a0_0 l0_1 l0_2 l0_3) else (cotterref06_May.j0 k true a0_0 l0_1 l0_2 l0_3))))) = some r := h
  clear h
  have HC2 := Aside0.mk H
  clear H
  go_enter Try.func59, Try.ntmps59
  go_upto_region 1 with (first | ((with_reducible refine gate_dst (N := 1) rfl ?_); (try (refine gate_guard (by rfl) ?_; dsimp only)); refine box_event ?hg (N := 1) ?hd (cs := #[.string a0_0, .slice A0_1 l0_1.length c0_1, .slice A0_2 l0_2.length c0_2, .slice A0_3 l0_3.length c0_3]) (t := 30) ?hr ?_; (case hd => rfl); (case hg => rfl); (case hr => first | (go_simp; done) | (go_simp; rfl)); intro gb101 hg w3 hbox hb; have n0_ := Aside0.mk (below_step (by repeat (first | (with_reducible first | exact HB.out | apply below_alloc | apply pw_below_drewN | apply below_drew1) | exact HB.out)) hb); have n1_ := Aside0.mk (hbox); have n2_ := Aside0.mk ((by rw [hg]; exact (below_size (by repeat (first | (with_reducible first | exact HB.out | apply below_alloc | apply pw_below_drewN | apply below_drew1) | exact HB.out))) : w.heap.size ≤ gb101)); have n3_ := Aside0.mk ((by rw [hg]; exact (below_size (by repeat (first | (with_reducible first | exact HB.out | apply below_alloc | apply pw_below_drewN | apply below_drew1) | exact HB.out))) : w.heap.size ≤ gb101)); clear HB; have HB := n0_; have BK101 := n1_; have GW101 := n2_; have GE101 := n3_; clear n0_ n1_ n2_ n3_; clear hb hbox hg))
  (try simp only [Act.put, List.setIfInBounds_toArray, List.set_cons_zero, List.set_cons_succ])
  go_cut [33] (fun v33 wc => ∃ (kq : Nat) (x33_1 : Bool), v33 = .bool x33_1 ∧ Aside0 (cotterref06_May.j0 kq x33_1 a0_0 l0_1 l0_2 l0_3 = some r) ∧ Aside0 (kq ≤ k) ∧ Aside0 (wc.heap[gb101]? = some (.cells #[.string a0_0, (.slice A0_1 l0_1.length c0_1), (.slice A0_2 l0_2.length c0_2), (.slice A0_3 l0_3.length c0_3)] 30 (0, 0))) ∧ Aside0 (Below w.heap.size w wc))
  case first =>
    have H := HC2.out
    clear HC2
    by_cases c4 : (a0_0.size : Int) > 65536
    · rw [if_pos c4] at H
      have c4b0 : decide (65536 < (a0_0.size : Int)) = true := decide_eq_true c4
      have c4b1 : decide (65536 < a0_0.size) = true := decide_eq_true (by omega)
      clear c4
      (first | rw [c4b0] | (simp only [i64_w, i32_w]; rw [c4b0]) | skip)
      have H' := Aside0.mk H
      clear H
      have hcz5_0 : w3.cell? ⟨gb101, 0, none⟩ = some (.string a0_0) := (blk_cell BK101.out 0).trans rfl
      have hcz5_1 : w3.cell? ⟨gb101, 1, none⟩ = some (.slice A0_1 l0_1.length c0_1) := (blk_cell BK101.out 1).trans rfl
      have hcz5_2 : w3.cell? ⟨gb101, 2, none⟩ = some (.slice A0_2 l0_2.length c0_2) := (blk_cell BK101.out 2).trans rfl
      have hcz5_3 : w3.cell? ⟨gb101, 3, none⟩ = some (.slice A0_3 l0_3.length c0_3) := (blk_cell BK101.out 3).trans rfl
      have hfz5_0 := blk_frozen BK101.out 0
      have hfz5_1 := blk_frozen BK101.out 1
      have hfz5_2 := blk_frozen BK101.out 2
      have hfz5_3 := blk_frozen BK101.out 3
      go_wp2
      go_meet
      case rel => exact ⟨_, (true), (by first | rfl | (simp; done) | (simp [*]; done)), H', ⟨by first | omega | exact Nat.le_refl _⟩, ⟨by (with_reducible repeat (first | refine blk_drewN ?_ _ | refine blk_drew ?_ | refine blk_alloc ?_ _)); exact BK101.out⟩, ⟨by repeat (first | (with_reducible first | exact HB.out | apply below_alloc | apply pw_below_drewN | apply below_drew1 | refine below_set ?_ GE101.out) | exact HB.out)⟩⟩
    · rw [if_neg c4] at H
      have c4b0 : decide (65536 < (a0_0.size : Int)) = false := decide_eq_false c4
      have c4b1 : decide (65536 < a0_0.size) = false := decide_eq_false (by omega)
      clear c4
      (first | rw [c4b0] | (simp only [i64_w, i32_w]; rw [c4b0]) | skip)
      by_cases c6 : (l0_1.length : Int) > 4096
      · rw [if_pos c6] at H
        have c6b0 : decide (4096 < (l0_1.length : Int)) = true := decide_eq_true c6
        have c6b1 : decide (4096 < l0_1.length) = true := decide_eq_true (by omega)
        clear c6
        have H' := Aside0.mk H
        clear H
        have hcz7_0 : w3.cell? ⟨gb101, 0, none⟩ = some (.string a0_0) := (blk_cell BK101.out 0).trans rfl
        have hcz7_1 : w3.cell? ⟨gb101, 1, none⟩ = some (.slice A0_1 l0_1.length c0_1) := (blk_cell BK101.out 1).trans rfl
        have hcz7_2 : w3.cell? ⟨gb101, 2, none⟩ = some (.slice A0_2 l0_2.length c0_2) := (blk_cell BK101.out 2).trans rfl
        have hcz7_3 : w3.cell? ⟨gb101, 3, none⟩ = some (.slice A0_3 l0_3.length c0_3) := (blk_cell BK101.out 3).trans rfl
        have hfz7_0 := blk_frozen BK101.out 0
        have hfz7_1 := blk_frozen BK101.out 1
        have hfz7_2 := blk_frozen BK101.out 2
        have hfz7_3 := blk_frozen BK101.out 3
        go_wp2
        go_meet
        case rel => exact ⟨_, (true), (by first | rfl | (simp; done) | (simp [*]; done)), H', ⟨by first | omega | exact Nat.le_refl _⟩, ⟨by (with_reducible repeat (first | refine blk_drewN ?_ _ | refine blk_drew ?_ | refine blk_alloc ?_ _)); exact BK101.out⟩, ⟨by repeat (first | (with_reducible first | exact HB.out | apply below_alloc | apply pw_below_drewN | apply below_drew1 | refine below_set ?_ GE101.out) | exact HB.out)⟩⟩
      · rw [if_neg c6] at H
        have c6b0 : decide (4096 < (l0_1.length : Int)) = false := decide_eq_false c6
        have c6b1 : decide (4096 < l0_1.length) = false := decide_eq_false (by omega)
        clear c6
        replace H := Option.bind_eq_some_iff.mp H
        obtain ⟨t102, A80, H⟩ := H
        replace H : (if t102 = true then (cotterref06_May.j0 k (decide ((l0_3.length : Int) > 8000)) a0_0 l0_1 l0_2 l0_3) else (cotterref06_May.j0 k true a0_0 l0_1 l0_2 l0_3)) = some r := H
        have A8 := Aside0.mk A80
        clear A80
        by_cases c9 : t102 = true
        · subst c9
          have H1 : (cotterref06_May.j0 k (decide ((l0_3.length : Int) > 8000)) a0_0 l0_1 l0_2 l0_3) = some r := by rw [if_pos rfl] at H; exact H
          clear H
          have H := H1
          clear H1
          have H' := Aside0.mk H
          clear H
          have hcz10_0 : w3.cell? ⟨gb101, 0, none⟩ = some (.string a0_0) := (blk_cell BK101.out 0).trans rfl
          have hcz10_1 : w3.cell? ⟨gb101, 1, none⟩ = some (.slice A0_1 l0_1.length c0_1) := (blk_cell BK101.out 1).trans rfl
          have hcz10_2 : w3.cell? ⟨gb101, 2, none⟩ = some (.slice A0_2 l0_2.length c0_2) := (blk_cell BK101.out 2).trans rfl
          have hcz10_3 : w3.cell? ⟨gb101, 3, none⟩ = some (.slice A0_3 l0_3.length c0_3) := (blk_cell BK101.out 3).trans rfl
          have hfz10_0 := blk_frozen BK101.out 0
          have hfz10_1 := blk_frozen BK101.out 1
          have hfz10_2 := blk_frozen BK101.out 2
          have hfz10_3 := blk_frozen BK101.out 3
          go_wp2_with (first | (go_at_call 96; (with_reducible refine (cotterref06_Syms.calls k _ _ l0_2 (a0_0.size : Int) (l0_1.length : Int) true _ ?side1 ?side2 A8.out).mono ?_); (case side1 => repeat (first | exact (Kd.C_below HR0_2.out HB.out) | (with_reducible refine Kd.C_alloc ?_ _) | (with_reducible refine Kd.C_drewN ?_ _) | (with_reducible refine Kd.C_drew ?_))); (case side2 => exact HC0_2.out); rintro e w11 ⟨rfl, hb⟩; have n0_ := Aside0.mk (blk_below (g := gb101) (o := .cells #[.string a0_0, .slice A0_1 l0_1.length c0_1, .slice A0_2 l0_2.length c0_2, .slice A0_3 l0_3.length c0_3] 30 (0, 0)) (by (with_reducible repeat (first | refine blk_drewN ?_ _ | refine blk_drew ?_ | refine blk_alloc ?_ _)); exact BK101.out) hb); have n1_ := Aside0.mk (below_step (by repeat (first | (with_reducible first | exact HB.out | apply below_alloc | apply pw_below_drewN | apply below_drew1 | refine below_set ?_ GE101.out) | exact HB.out)) hb); clear BK101; clear HB; have BK101 := n0_; have HB := n1_; clear n0_ n1_; (try clear hb); (try clear hb2); (try clear hk); (try clear hi); have hcz12_0 : w11.cell? ⟨gb101, 0, none⟩ = some (.string a0_0) := (blk_cell BK101.out 0).trans rfl; have hcz12_1 : w11.cell? ⟨gb101, 1, none⟩ = some (.slice A0_1 l0_1.length c0_1) := (blk_cell BK101.out 1).trans rfl; have hcz12_2 : w11.cell? ⟨gb101, 2, none⟩ = some (.slice A0_2 l0_2.length c0_2) := (blk_cell BK101.out 2).trans rfl; have hcz12_3 : w11.cell? ⟨gb101, 3, none⟩ = some (.slice A0_3 l0_3.length c0_3) := (blk_cell BK101.out 3).trans rfl; have hfz12_0 := blk_frozen BK101.out 0; have hfz12_1 := blk_frozen BK101.out 1; have hfz12_2 := blk_frozen BK101.out 2; have hfz12_3 := blk_frozen BK101.out 3))
          go_meet
          case rel => exact ⟨_, (decide ((l0_3.length : Int) > 8000)), (by first | rfl | (simp; done) | (simp [*]; done)), H', ⟨by first | omega | exact Nat.le_refl _⟩, ⟨by (with_reducible repeat (first | refine blk_drewN ?_ _ | refine blk_drew ?_ | refine blk_alloc ?_ _)); exact BK101.out⟩, ⟨by repeat (first | (with_reducible first | exact HB.out | apply below_alloc | apply pw_below_drewN | apply below_drew1 | refine below_set ?_ GE101.out) | exact HB.out)⟩⟩
        · replace c9 := Bool.eq_false_iff.mpr c9
          subst c9
          have H1 : (cotterref06_May.j0 k true a0_0 l0_1 l0_2 l0_3) = some r := by rw [if_neg (show ¬ (false = true) by decide)] at H; exact H
          clear H
          have H := H1
          clear H1
          have H' := Aside0.mk H
          clear H
          have hcz13_0 : w3.cell? ⟨gb101, 0, none⟩ = some (.string a0_0) := (blk_cell BK101.out 0).trans rfl
          have hcz13_1 : w3.cell? ⟨gb101, 1, none⟩ = some (.slice A0_1 l0_1.length c0_1) := (blk_cell BK101.out 1).trans rfl
          have hcz13_2 : w3.cell? ⟨gb101, 2, none⟩ = some (.slice A0_2 l0_2.length c0_2) := (blk_cell BK101.out 2).trans rfl
          have hcz13_3 : w3.cell? ⟨gb101, 3, none⟩ = some (.slice A0_3 l0_3.length c0_3) := (blk_cell BK101.out 3).trans rfl
          have hfz13_0 := blk_frozen BK101.out 0
          have hfz13_1 := blk_frozen BK101.out 1
          have hfz13_2 := blk_frozen BK101.out 2
          have hfz13_3 := blk_frozen BK101.out 3
          go_wp2_with (first | (go_at_call 96; (with_reducible refine (cotterref06_Syms.calls k _ _ l0_2 (a0_0.size : Int) (l0_1.length : Int) false _ ?side1 ?side2 A8.out).mono ?_); (case side1 => repeat (first | exact (Kd.C_below HR0_2.out HB.out) | (with_reducible refine Kd.C_alloc ?_ _) | (with_reducible refine Kd.C_drewN ?_ _) | (with_reducible refine Kd.C_drew ?_))); (case side2 => exact HC0_2.out); rintro e w14 ⟨rfl, hb⟩; have n0_ := Aside0.mk (blk_below (g := gb101) (o := .cells #[.string a0_0, .slice A0_1 l0_1.length c0_1, .slice A0_2 l0_2.length c0_2, .slice A0_3 l0_3.length c0_3] 30 (0, 0)) (by (with_reducible repeat (first | refine blk_drewN ?_ _ | refine blk_drew ?_ | refine blk_alloc ?_ _)); exact BK101.out) hb); have n1_ := Aside0.mk (below_step (by repeat (first | (with_reducible first | exact HB.out | apply below_alloc | apply pw_below_drewN | apply below_drew1 | refine below_set ?_ GE101.out) | exact HB.out)) hb); clear BK101; clear HB; have BK101 := n0_; have HB := n1_; clear n0_ n1_; (try clear hb); (try clear hb2); (try clear hk); (try clear hi)))
          go_meet
          case rel => exact ⟨_, (true), (by first | rfl | (simp; done) | (simp [*]; done)), H', ⟨by first | omega | exact Nat.le_refl _⟩, ⟨by (with_reducible repeat (first | refine blk_drewN ?_ _ | refine blk_drew ?_ | refine blk_alloc ?_ _)); exact BK101.out⟩, ⟨by repeat (first | (with_reducible first | exact HB.out | apply below_alloc | apply pw_below_drewN | apply below_drew1 | refine below_set ?_ GE101.out) | exact HB.out)⟩⟩
  case rest =>
    clear HC2
    try clear p2
    try clear c4
    try clear c4b0
    try clear c4b1
    try clear c5
    try clear c6
    try clear c6b0
    try clear c6b1
    try clear c9
    try clear hcz10_0
    try clear hcz10_1
    try clear hcz10_2
    try clear hcz10_3
    try clear hcz12_0
    try clear hcz12_1
    try clear hcz12_2
    try clear hcz12_3
    try clear hcz13_0
    try clear hcz13_1
    try clear hcz13_2
    try clear hcz13_3
    try clear hcz5_0
    try clear hcz5_1
    try clear hcz5_2
    try clear hcz5_3
    try clear hcz7_0
    try clear hcz7_1
    try clear hcz7_2
    try clear hcz7_3
    try clear hfz10_0
    try clear hfz10_1
    try clear hfz10_2
    try clear hfz10_3
    try clear hfz12_0
    try clear hfz12_1
    try clear hfz12_2
    try clear hfz12_3
    try clear hfz13_0
    try clear hfz13_1
    try clear hfz13_2
    try clear hfz13_3
    try clear hfz5_0
    try clear hfz5_1
    try clear hfz5_2
    try clear hfz5_3
    try clear hfz7_0
    try clear hfz7_1
    try clear hfz7_2
    try clear hfz7_3
    obtain ⟨kq, x33_1, rfl, HA, HJ1, BK101, HB⟩ := hcut
    cases kq with
    | zero => exact absurd HA.out (by simp [cotterref06_May.j0])
    | succ kj1 =>
      have H := HA.out
      clear HA
      simp only [cotterref06_May.j0] at H
      by_cases c15 : x33_1 = true
      · subst c15
        have H1 : (some false) = some r := by rw [if_pos rfl] at H; exact H
        clear H
        have H := H1
        clear H1
        obtain rfl := Option.some.inj H
        go_wp2
        go_ret
        exact ⟨by first | rfl | (simp [errW_none, errW_some] <;> rfl) | (simp [*, errW_none, errW_some] <;> rfl), by repeat (first | (with_reducible first | exact HB.out | apply below_alloc | apply pw_below_drewN | apply below_drew1 | refine below_set ?_ GE101.out) | exact HB.out)⟩
      · replace c15 := Bool.eq_false_iff.mpr c15
        subst c15
        have H1 : (cotterref06_May.l0 kj1 0 0 a0_0 l0_1 l0_2 l0_3) = some r := by rw [if_neg (show ¬ (false = true) by decide)] at H; exact H
        clear H
        have H := H1
        clear H1
        have H' := Aside0.mk H
        clear H
        go_wp2
        go_loopg [3, 4] kj1 (fun kq v3 v4 w' => ∃ (x3_2 : Int) (x4_2 : Int), v3 = .int .i64 x3_2 ∧ v4 = .int .i64 x4_2 ∧ Aside0 (cotterref06_May.l0 kq x3_2 x4_2 a0_0 l0_1 l0_2 l0_3 = some r) ∧ Aside0 (kq ≤ kj1) ∧ Aside0 (w'.heap[gb101]? = some (.cells #[.string a0_0, (.slice A0_1 l0_1.length c0_1), (.slice A0_2 l0_2.length c0_2), (.slice A0_3 l0_3.length c0_3)] 30 (0, 0))) ∧ Aside0 (Below w.heap.size w w'))
        case atStart => exact ⟨(0), (0), (by first | rfl | (simp; done) | (simp [*]; done)), (by first | rfl | (simp; done) | (simp [*]; done)), H', ⟨Nat.le_refl _⟩, ⟨by (with_reducible repeat (first | refine blk_drewN ?_ _ | refine blk_drew ?_ | refine blk_alloc ?_ _)); exact BK101.out⟩, ⟨by repeat (first | (with_reducible first | exact HB.out | apply below_alloc | apply pw_below_drewN | apply below_drew1 | refine below_set ?_ GE101.out) | exact HB.out)⟩⟩
        case round =>
          clear H'
          try clear c1
          try clear p2
          try clear c4
          try clear c4b0
          try clear c4b1
          try clear c5
          try clear c6
          try clear c6b0
          try clear c6b1
          try clear c9
          try clear c15
          try clear hcz10_0
          try clear hcz10_1
          try clear hcz10_2
          try clear hcz10_3
          try clear hcz12_0
          try clear hcz12_1
          try clear hcz12_2
          try clear hcz12_3
          try clear hcz13_0
          try clear hcz13_1
          try clear hcz13_2
          try clear hcz13_3
          try clear hcz5_0
          try clear hcz5_1
          try clear hcz5_2
          try clear hcz5_3
          try clear hcz7_0
          try clear hcz7_1
          try clear hcz7_2
          try clear hcz7_3
          try clear hfz10_0
          try clear hfz10_1
          try clear hfz10_2
          try clear hfz10_3
          try clear hfz12_0
          try clear hfz12_1
          try clear hfz12_2
          try clear hfz12_3
          try clear hfz13_0
          try clear hfz13_1
          try clear hfz13_2
          try clear hfz13_3
          try clear hfz5_0
          try clear hfz5_1
          try clear hfz5_2
          try clear hfz5_3
          try clear hfz7_0
          try clear hfz7_1
          try clear hfz7_2
          try clear hfz7_3
          try clear p2
          obtain ⟨x3_2, x4_2, rfl, rfl, HA, HK2, BK101, HB⟩ := hrel
          cases gk with
          | zero => exact absurd HA.out (by simp [cotterref06_May.l0])
          | succ k2 =>
            have H := HA.out
            clear HA
            simp only [cotterref06_May.l0] at H
            by_cases c16 : x4_2 < (l0_3.length : Int)
            · rw [if_pos c16] at H
              have c16b0 : decide (x4_2 < (l0_3.length : Int)) = true := decide_eq_true c16
              clear c16
              by_cases c17 : 0 ≤ x4_2
              · rw [if_pos c17] at H
                have c17b0 : decide (0 ≤ x4_2) = true := decide_eq_true c17
                clear c17
                have HC18 := Aside0.mk H
                clear H
                have hcz19_0 : wr.cell? ⟨gb101, 0, none⟩ = some (.string a0_0) := (blk_cell BK101.out 0).trans rfl
                have hcz19_1 : wr.cell? ⟨gb101, 1, none⟩ = some (.slice A0_1 l0_1.length c0_1) := (blk_cell BK101.out 1).trans rfl
                have hcz19_2 : wr.cell? ⟨gb101, 2, none⟩ = some (.slice A0_2 l0_2.length c0_2) := (blk_cell BK101.out 2).trans rfl
                have hcz19_3 : wr.cell? ⟨gb101, 3, none⟩ = some (.slice A0_3 l0_3.length c0_3) := (blk_cell BK101.out 3).trans rfl
                have hfz19_0 := blk_frozen BK101.out 0
                have hfz19_1 := blk_frozen BK101.out 1
                have hfz19_2 := blk_frozen BK101.out 2
                have hfz19_3 := blk_frozen BK101.out 3
                have p103 : 0 ≤ (x4_2 : Int) := of_decide_eq_true (by first | (with_reducible assumption) | assumption)
                have q103 : x4_2 < (l0_3.length : Int) := of_decide_eq_true (by first | (with_reducible assumption) | assumption)
                obtain ⟨ad103, e103, hx103_0, hx103_1, hx103_2, hx103_3⟩ := at_T34 HR0_3.out x4_2 p103 q103
                cases e103
                replace hx103_0 := (HB.out.cell (World.block_lt_of_cell? w _ hx103_0)).trans hx103_0
                replace hx103_1 := (HB.out.cell (World.block_lt_of_cell? w _ hx103_1)).trans hx103_1
                replace hx103_2 := (HB.out.cell (World.block_lt_of_cell? w _ hx103_2)).trans hx103_2
                replace hx103_3 := (HB.out.cell (World.block_lt_of_cell? w _ hx103_3)).trans hx103_3
                replace p103 := eq_true p103
                replace q103 := eq_true q103
                go_upto_region 8 with (first | ((with_reducible refine gate_dst (N := 5) rfl ?_); (try (refine gate_guard (by rfl) ?_; dsimp only)); refine box_event ?hg (N := 5) ?hd (cs := #[.int .i64 0, .int .i64 0, .string (⟨#[]⟩ : ByteArray), .int .i64 0]) (t := 34) ?hr ?_; (case hd => rfl); (case hg => rfl); (case hr => first | (go_simp; done) | (go_simp; rfl)); intro gb104 hg w20 hbox hb; have n0_ := Aside0.mk (blk_below (g := gb101) (o := .cells #[.string a0_0, .slice A0_1 l0_1.length c0_1, .slice A0_2 l0_2.length c0_2, .slice (some ad103) l0_3.length c0_3] 30 (0, 0)) (by (with_reducible repeat (first | refine blk_drewN ?_ _ | refine blk_drew ?_ | refine blk_alloc ?_ _)); exact BK101.out) hb); have n1_ := Aside0.mk (below_step (by repeat (first | (with_reducible first | exact HB.out | apply below_alloc | apply pw_below_drewN | apply below_drew1 | refine below_set ?_ GE101.out) | exact HB.out)) hb); have n2_ := Aside0.mk (hbox); have n3_ := Aside0.mk ((by rw [hg]; exact (below_size (by repeat (first | (with_reducible first | exact HB.out | apply below_alloc | apply pw_below_drewN | apply below_drew1 | refine below_set ?_ GE101.out) | exact HB.out))) : w.heap.size ≤ gb104)); have n4_ := Aside0.mk ((by rw [hg]; exact (below_size (by repeat (first | (with_reducible first | exact HB.out | apply below_alloc | apply pw_below_drewN | apply below_drew1 | refine below_set ?_ GE101.out) | exact HB.out))) : w.heap.size ≤ gb104)); have n5_ := Aside0.mk ((by rw [hg]; exact Nat.ne_of_lt (blk_lt (g := gb101) (o := .cells #[.string a0_0, .slice A0_1 l0_1.length c0_1, .slice A0_2 l0_2.length c0_2, .slice (some ad103) l0_3.length c0_3] 30 (0, 0)) (by (with_reducible repeat (first | refine blk_drewN ?_ _ | refine blk_drew ?_ | refine blk_alloc ?_ _)); exact BK101.out)) : gb101 ≠ gb104)); have n6_ := Aside0.mk ((by rw [hg]; exact Nat.ne_of_gt (blk_lt (g := gb101) (o := .cells #[.string a0_0, .slice A0_1 l0_1.length c0_1, .slice A0_2 l0_2.length c0_2, .slice (some ad103) l0_3.length c0_3] 30 (0, 0)) (by (with_reducible repeat (first | refine blk_drewN ?_ _ | refine blk_drew ?_ | refine blk_alloc ?_ _)); exact BK101.out)) : gb104 ≠ gb101)); clear BK101; clear HB; have BK101 := n0_; have HB := n1_; have BK104 := n2_; have GW104 := n3_; have GE104 := n4_; have NB101_104 := n5_; have NB104_101 := n6_; clear n0_ n1_ n2_ n3_ n4_ n5_ n6_; clear hb hbox hg; have hnb21 := NB104_101.out; have hnc21 := NB101_104.out; have hcz22_0 : w20.cell? ⟨gb104, 0, none⟩ = some (.int .i64 0) := (blk_cell BK104.out 0).trans rfl; have hcz22_1 : w20.cell? ⟨gb104, 1, none⟩ = some (.int .i64 0) := (blk_cell BK104.out 1).trans rfl; have hcz22_2 : w20.cell? ⟨gb104, 2, none⟩ = some (.string (⟨#[]⟩ : ByteArray)) := (blk_cell BK104.out 2).trans rfl; have hcz22_3 : w20.cell? ⟨gb104, 3, none⟩ = some (.int .i64 0) := (blk_cell BK104.out 3).trans rfl; have hfz22_0 := blk_frozen BK104.out 0; have hfz22_1 := blk_frozen BK104.out 1; have hfz22_2 := blk_frozen BK104.out 2; have hfz22_3 := blk_frozen BK104.out 3))
                (try simp only [Act.put, List.setIfInBounds_toArray, List.set_cons_zero, List.set_cons_succ])
                go_cut [64] (fun v64 wc => ∃ (kq : Nat) (x64_17 : Bool), v64 = .bool x64_17 ∧ Aside0 (cotterref06_May.j2 kq x4_2 x64_17 a0_0 l0_1 l0_2 l0_3 ((rd_T34 l0_3 x4_2).f0) ((rd_T34 l0_3 x4_2).f1) ((rd_T34 l0_3 x4_2).f2) ((rd_T34 l0_3 x4_2).f3) = some r) ∧ Aside0 (kq ≤ k2) ∧ Aside0 (wc.heap[gb101]? = some (.cells #[.string a0_0, (.slice A0_1 l0_1.length c0_1), (.slice A0_2 l0_2.length c0_2), (.slice (some ad103) l0_3.length c0_3)] 30 (0, 0))) ∧ Aside0 (wc.heap[gb104]? = some (.cells #[.int .i64 ((rd_T34 l0_3 x4_2).f0), .int .i64 ((rd_T34 l0_3 x4_2).f1), .string ((rd_T34 l0_3 x4_2).f2), .int .i64 ((rd_T34 l0_3 x4_2).f3)] 34 (0, 0))) ∧ Aside0 (Below w.heap.size w wc))
                case first =>
                  have H := HC18.out
                  clear HC18
                  replace H := Option.bind_eq_some_iff.mp H
                  obtain ⟨t105, A230, H⟩ := H
                  replace H : (if t105 = true then (if ((rd_T34 l0_3 x4_2).f0) < x3_2 then (cotterref06_May.j2 k2 x4_2 true a0_0 l0_1 l0_2 l0_3 ((rd_T34 l0_3 x4_2).f0) ((rd_T34 l0_3 x4_2).f1) ((rd_T34 l0_3 x4_2).f2) ((rd_T34 l0_3 x4_2).f3)) else (cotterref06_May.j2 k2 x4_2 (decide (((rd_T34 l0_3 x4_2).f0) > (wrap64 ((a0_0.size : Int) - 4)))) a0_0 l0_1 l0_2 l0_3 ((rd_T34 l0_3 x4_2).f0) ((rd_T34 l0_3 x4_2).f1) ((rd_T34 l0_3 x4_2).f2) ((rd_T34 l0_3 x4_2).f3))) else (cotterref06_May.j2 k2 x4_2 true a0_0 l0_1 l0_2 l0_3 ((rd_T34 l0_3 x4_2).f0) ((rd_T34 l0_3 x4_2).f1) ((rd_T34 l0_3 x4_2).f2) ((rd_T34 l0_3 x4_2).f3))) = some r := H
                  have A23 := Aside0.mk A230
                  clear A230
                  by_cases c24 : t105 = true
                  · subst c24
                    have H1 : (if ((rd_T34 l0_3 x4_2).f0) < x3_2 then (cotterref06_May.j2 k2 x4_2 true a0_0 l0_1 l0_2 l0_3 ((rd_T34 l0_3 x4_2).f0) ((rd_T34 l0_3 x4_2).f1) ((rd_T34 l0_3 x4_2).f2) ((rd_T34 l0_3 x4_2).f3)) else (cotterref06_May.j2 k2 x4_2 (decide (((rd_T34 l0_3 x4_2).f0) > (wrap64 ((a0_0.size : Int) - 4)))) a0_0 l0_1 l0_2 l0_3 ((rd_T34 l0_3 x4_2).f0) ((rd_T34 l0_3 x4_2).f1) ((rd_T34 l0_3 x4_2).f2) ((rd_T34 l0_3 x4_2).f3))) = some r := by rw [if_pos rfl] at H; exact H
                    clear H
                    have H := H1
                    clear H1
                    by_cases c25 : ((rd_T34 l0_3 x4_2).f0) < x3_2
                    · rw [if_pos c25] at H
                      have c25b0 : decide (((rd_T34 l0_3 x4_2).f0) < x3_2) = true := decide_eq_true c25
                      clear c25
                      (first | rw [c25b0] | (simp only [i64_w, i32_w]; rw [c25b0]) | skip)
                      have H' := Aside0.mk H
                      clear H
                      have hnb26 := NB104_101.out
                      have hnc26 := NB101_104.out
                      have hcz27_0 : w20.cell? ⟨gb104, 0, none⟩ = some (.int .i64 0) := (blk_cell BK104.out 0).trans rfl
                      have hcz27_1 : w20.cell? ⟨gb104, 1, none⟩ = some (.int .i64 0) := (blk_cell BK104.out 1).trans rfl
                      have hcz27_2 : w20.cell? ⟨gb104, 2, none⟩ = some (.string (⟨#[]⟩ : ByteArray)) := (blk_cell BK104.out 2).trans rfl
                      have hcz27_3 : w20.cell? ⟨gb104, 3, none⟩ = some (.int .i64 0) := (blk_cell BK104.out 3).trans rfl
                      have hfz27_0 := blk_frozen BK104.out 0
                      have hfz27_1 := blk_frozen BK104.out 1
                      have hfz27_2 := blk_frozen BK104.out 2
                      have hfz27_3 := blk_frozen BK104.out 3
                      go_wp2_with (first | ((with_reducible refine gate_callee (f := 97) rfl ?_); refine goesL_ (some 48) rfl rfl Try.func97 (by kernel_rfl) rfl #[.string ((rd_T34 l0_3 x4_2).f2)] rfl (by (try simp only [List.map_toArray, List.map_cons, List.map_nil]); first | done | rfl | (simp only [List.length_drop, List.length_take]; rfl)) ?_; (with_reducible refine (cotterref06_named.calls ((rd_T34 l0_3 x4_2).f2) true _ A23.out).mono ?_); rintro e w' ⟨rfl, ⟨nd, rfl⟩⟩; refine ⟨_, rfl, ?_⟩))
                      go_meet
                      case rel => exact ⟨_, (true), (by first | rfl | (simp; done) | (simp [*]; done)), H', ⟨by have := HJ1.out; have := HK2.out; first | omega | exact Nat.le_refl _⟩, ⟨by (with_reducible repeat (first | refine blk_drewN ?_ _ | refine blk_drew ?_ | refine blk_alloc ?_ _)); refine blk_far ?_ NB101_104.out _; (with_reducible repeat (first | refine blk_drewN ?_ _ | refine blk_drew ?_ | refine blk_alloc ?_ _)); refine blk_far ?_ NB101_104.out _; (with_reducible repeat (first | refine blk_drewN ?_ _ | refine blk_drew ?_ | refine blk_alloc ?_ _)); refine blk_far ?_ NB101_104.out _; (with_reducible repeat (first | refine blk_drewN ?_ _ | refine blk_drew ?_ | refine blk_alloc ?_ _)); refine blk_far ?_ NB101_104.out _; (with_reducible repeat (first | refine blk_drewN ?_ _ | refine blk_drew ?_ | refine blk_alloc ?_ _)); exact BK101.out⟩, ⟨by (with_reducible repeat (first | refine blk_drewN ?_ _ | refine blk_drew ?_ | refine blk_alloc ?_ _)); refine blk_put (cs := #[.int .i64 ((rd_T34 l0_3 x4_2).f0), .int .i64 ((rd_T34 l0_3 x4_2).f1), .string ((rd_T34 l0_3 x4_2).f2), .int .i64 0]) ?_ 3 _ rfl; (with_reducible repeat (first | refine blk_drewN ?_ _ | refine blk_drew ?_ | refine blk_alloc ?_ _)); refine blk_put (cs := #[.int .i64 ((rd_T34 l0_3 x4_2).f0), .int .i64 ((rd_T34 l0_3 x4_2).f1), .string (⟨#[]⟩ : ByteArray), .int .i64 0]) ?_ 2 _ rfl; (with_reducible repeat (first | refine blk_drewN ?_ _ | refine blk_drew ?_ | refine blk_alloc ?_ _)); refine blk_put (cs := #[.int .i64 ((rd_T34 l0_3 x4_2).f0), .int .i64 0, .string (⟨#[]⟩ : ByteArray), .int .i64 0]) ?_ 1 _ rfl; (with_reducible repeat (first | refine blk_drewN ?_ _ | refine blk_drew ?_ | refine blk_alloc ?_ _)); refine blk_put (cs := #[.int .i64 0, .int .i64 0, .string (⟨#[]⟩ : ByteArray), .int .i64 0]) ?_ 0 _ rfl; (with_reducible repeat (first | refine blk_drewN ?_ _ | refine blk_drew ?_ | refine blk_alloc ?_ _)); exact BK104.out⟩, ⟨by repeat (first | (with_reducible first | exact HB.out | apply below_alloc | apply pw_below_drewN | apply below_drew1 | refine below_set ?_ GE101.out | refine below_set ?_ GE104.out) | exact HB.out)⟩⟩
                    · rw [if_neg c25] at H
                      have c25b0 : decide (((rd_T34 l0_3 x4_2).f0) < x3_2) = false := decide_eq_false c25
                      clear c25
                      (first | rw [c25b0] | (simp only [i64_w, i32_w]; rw [c25b0]) | skip)
                      have H' := Aside0.mk H
                      clear H
                      have hnb28 := NB104_101.out
                      have hnc28 := NB101_104.out
                      have hcz29_0 : w20.cell? ⟨gb104, 0, none⟩ = some (.int .i64 0) := (blk_cell BK104.out 0).trans rfl
                      have hcz29_1 : w20.cell? ⟨gb104, 1, none⟩ = some (.int .i64 0) := (blk_cell BK104.out 1).trans rfl
                      have hcz29_2 : w20.cell? ⟨gb104, 2, none⟩ = some (.string (⟨#[]⟩ : ByteArray)) := (blk_cell BK104.out 2).trans rfl
                      have hcz29_3 : w20.cell? ⟨gb104, 3, none⟩ = some (.int .i64 0) := (blk_cell BK104.out 3).trans rfl
                      have hfz29_0 := blk_frozen BK104.out 0
                      have hfz29_1 := blk_frozen BK104.out 1
                      have hfz29_2 := blk_frozen BK104.out 2
                      have hfz29_3 := blk_frozen BK104.out 3
                      go_wp2_with (first | ((with_reducible refine gate_callee (f := 97) rfl ?_); refine goesL_ (some 48) rfl rfl Try.func97 (by kernel_rfl) rfl #[.string ((rd_T34 l0_3 x4_2).f2)] rfl (by (try simp only [List.map_toArray, List.map_cons, List.map_nil]); first | done | rfl | (simp only [List.length_drop, List.length_take]; rfl)) ?_; (with_reducible refine (cotterref06_named.calls ((rd_T34 l0_3 x4_2).f2) true _ A23.out).mono ?_); rintro e w' ⟨rfl, ⟨nd, rfl⟩⟩; refine ⟨_, rfl, ?_⟩; have hcz30_0 : w20.cell? ⟨gb101, 0, none⟩ = some (.string a0_0) := (blk_cell BK101.out 0).trans rfl; have hcz30_1 : w20.cell? ⟨gb101, 1, none⟩ = some (.slice A0_1 l0_1.length c0_1) := (blk_cell BK101.out 1).trans rfl; have hcz30_2 : w20.cell? ⟨gb101, 2, none⟩ = some (.slice A0_2 l0_2.length c0_2) := (blk_cell BK101.out 2).trans rfl; have hcz30_3 : w20.cell? ⟨gb101, 3, none⟩ = some (.slice (some ad103) l0_3.length c0_3) := (blk_cell BK101.out 3).trans rfl; have hfz30_0 := blk_frozen BK101.out 0; have hfz30_1 := blk_frozen BK101.out 1; have hfz30_2 := blk_frozen BK101.out 2; have hfz30_3 := blk_frozen BK101.out 3))
                      go_meet
                      case rel => exact ⟨_, (decide (((rd_T34 l0_3 x4_2).f0) > (wrap64 ((a0_0.size : Int) - 4)))), (by first | rfl | (simp; done) | (simp [*]; done)), H', ⟨by have := HJ1.out; have := HK2.out; first | omega | exact Nat.le_refl _⟩, ⟨by (with_reducible repeat (first | refine blk_drewN ?_ _ | refine blk_drew ?_ | refine blk_alloc ?_ _)); refine blk_far ?_ NB101_104.out _; (with_reducible repeat (first | refine blk_drewN ?_ _ | refine blk_drew ?_ | refine blk_alloc ?_ _)); refine blk_far ?_ NB101_104.out _; (with_reducible repeat (first | refine blk_drewN ?_ _ | refine blk_drew ?_ | refine blk_alloc ?_ _)); refine blk_far ?_ NB101_104.out _; (with_reducible repeat (first | refine blk_drewN ?_ _ | refine blk_drew ?_ | refine blk_alloc ?_ _)); refine blk_far ?_ NB101_104.out _; (with_reducible repeat (first | refine blk_drewN ?_ _ | refine blk_drew ?_ | refine blk_alloc ?_ _)); exact BK101.out⟩, ⟨by (with_reducible repeat (first | refine blk_drewN ?_ _ | refine blk_drew ?_ | refine blk_alloc ?_ _)); refine blk_put (cs := #[.int .i64 ((rd_T34 l0_3 x4_2).f0), .int .i64 ((rd_T34 l0_3 x4_2).f1), .string ((rd_T34 l0_3 x4_2).f2), .int .i64 0]) ?_ 3 _ rfl; (with_reducible repeat (first | refine blk_drewN ?_ _ | refine blk_drew ?_ | refine blk_alloc ?_ _)); refine blk_put (cs := #[.int .i64 ((rd_T34 l0_3 x4_2).f0), .int .i64 ((rd_T34 l0_3 x4_2).f1), .string (⟨#[]⟩ : ByteArray), .int .i64 0]) ?_ 2 _ rfl; (with_reducible repeat (first | refine blk_drewN ?_ _ | refine blk_drew ?_ | refine blk_alloc ?_ _)); refine blk_put (cs := #[.int .i64 ((rd_T34 l0_3 x4_2).f0), .int .i64 0, .string (⟨#[]⟩ : ByteArray), .int .i64 0]) ?_ 1 _ rfl; (with_reducible repeat (first | refine blk_drewN ?_ _ | refine blk_drew ?_ | refine blk_alloc ?_ _)); refine blk_put (cs := #[.int .i64 0, .int .i64 0, .string (⟨#[]⟩ : ByteArray), .int .i64 0]) ?_ 0 _ rfl; (with_reducible repeat (first | refine blk_drewN ?_ _ | refine blk_drew ?_ | refine blk_alloc ?_ _)); exact BK104.out⟩, ⟨by repeat (first | (with_reducible first | exact HB.out | apply below_alloc | apply pw_below_drewN | apply below_drew1 | refine below_set ?_ GE101.out | refine below_set ?_ GE104.out) | exact HB.out)⟩⟩
                  · replace c24 := Bool.eq_false_iff.mpr c24
                    subst c24
                    have H1 : (cotterref06_May.j2 k2 x4_2 true a0_0 l0_1 l0_2 l0_3 ((rd_T34 l0_3 x4_2).f0) ((rd_T34 l0_3 x4_2).f1) ((rd_T34 l0_3 x4_2).f2) ((rd_T34 l0_3 x4_2).f3)) = some r := by rw [if_neg (show ¬ (false = true) by decide)] at H; exact H
                    clear H
                    have H := H1
                    clear H1
                    have H' := Aside0.mk H
                    clear H
                    have hnb31 := NB104_101.out
                    have hnc31 := NB101_104.out
                    have hcz32_0 : w20.cell? ⟨gb104, 0, none⟩ = some (.int .i64 0) := (blk_cell BK104.out 0).trans rfl
                    have hcz32_1 : w20.cell? ⟨gb104, 1, none⟩ = some (.int .i64 0) := (blk_cell BK104.out 1).trans rfl
                    have hcz32_2 : w20.cell? ⟨gb104, 2, none⟩ = some (.string (⟨#[]⟩ : ByteArray)) := (blk_cell BK104.out 2).trans rfl
                    have hcz32_3 : w20.cell? ⟨gb104, 3, none⟩ = some (.int .i64 0) := (blk_cell BK104.out 3).trans rfl
                    have hfz32_0 := blk_frozen BK104.out 0
                    have hfz32_1 := blk_frozen BK104.out 1
                    have hfz32_2 := blk_frozen BK104.out 2
                    have hfz32_3 := blk_frozen BK104.out 3
                    go_wp2_with (first | ((with_reducible refine gate_callee (f := 97) rfl ?_); refine goesL_ (some 48) rfl rfl Try.func97 (by kernel_rfl) rfl #[.string ((rd_T34 l0_3 x4_2).f2)] rfl (by (try simp only [List.map_toArray, List.map_cons, List.map_nil]); first | done | rfl | (simp only [List.length_drop, List.length_take]; rfl)) ?_; (with_reducible refine (cotterref06_named.calls ((rd_T34 l0_3 x4_2).f2) false _ A23.out).mono ?_); rintro e w' ⟨rfl, ⟨nd, rfl⟩⟩; refine ⟨_, rfl, ?_⟩))
                    go_meet
                    case rel => exact ⟨_, (true), (by first | rfl | (simp; done) | (simp [*]; done)), H', ⟨by have := HJ1.out; have := HK2.out; first | omega | exact Nat.le_refl _⟩, ⟨by (with_reducible repeat (first | refine blk_drewN ?_ _ | refine blk_drew ?_ | refine blk_alloc ?_ _)); refine blk_far ?_ NB101_104.out _; (with_reducible repeat (first | refine blk_drewN ?_ _ | refine blk_drew ?_ | refine blk_alloc ?_ _)); refine blk_far ?_ NB101_104.out _; (with_reducible repeat (first | refine blk_drewN ?_ _ | refine blk_drew ?_ | refine blk_alloc ?_ _)); refine blk_far ?_ NB101_104.out _; (with_reducible repeat (first | refine blk_drewN ?_ _ | refine blk_drew ?_ | refine blk_alloc ?_ _)); refine blk_far ?_ NB101_104.out _; (with_reducible repeat (first | refine blk_drewN ?_ _ | refine blk_drew ?_ | refine blk_alloc ?_ _)); exact BK101.out⟩, ⟨by (with_reducible repeat (first | refine blk_drewN ?_ _ | refine blk_drew ?_ | refine blk_alloc ?_ _)); refine blk_put (cs := #[.int .i64 ((rd_T34 l0_3 x4_2).f0), .int .i64 ((rd_T34 l0_3 x4_2).f1), .string ((rd_T34 l0_3 x4_2).f2), .int .i64 0]) ?_ 3 _ rfl; (with_reducible repeat (first | refine blk_drewN ?_ _ | refine blk_drew ?_ | refine blk_alloc ?_ _)); refine blk_put (cs := #[.int .i64 ((rd_T34 l0_3 x4_2).f0), .int .i64 ((rd_T34 l0_3 x4_2).f1), .string (⟨#[]⟩ : ByteArray), .int .i64 0]) ?_ 2 _ rfl; (with_reducible repeat (first | refine blk_drewN ?_ _ | refine blk_drew ?_ | refine blk_alloc ?_ _)); refine blk_put (cs := #[.int .i64 ((rd_T34 l0_3 x4_2).f0), .int .i64 0, .string (⟨#[]⟩ : ByteArray), .int .i64 0]) ?_ 1 _ rfl; (with_reducible repeat (first | refine blk_drewN ?_ _ | refine blk_drew ?_ | refine blk_alloc ?_ _)); refine blk_put (cs := #[.int .i64 0, .int .i64 0, .string (⟨#[]⟩ : ByteArray), .int .i64 0]) ?_ 0 _ rfl; (with_reducible repeat (first | refine blk_drewN ?_ _ | refine blk_drew ?_ | refine blk_alloc ?_ _)); exact BK104.out⟩, ⟨by repeat (first | (with_reducible first | exact HB.out | apply below_alloc | apply pw_below_drewN | apply below_drew1 | refine below_set ?_ GE101.out | refine below_set ?_ GE104.out) | exact HB.out)⟩⟩
                case rest =>
                  clear HC18
                  try clear c1
                  try clear p1
                  try clear q1
                  try clear hx1
                  try clear c2
                  try clear p2
                  try clear c3
                  try clear c4
                  try clear c4b0
                  try clear c4b1
                  try clear c5
                  try clear c6
                  try clear c6b0
                  try clear c6b1
                  try clear p6
                  try clear c9
                  try clear p10
                  try clear q10
                  try clear hx10
                  try clear c15
                  try clear c16
                  try clear c16b0
                  try clear c17
                  try clear c17b0
                  try clear c21
                  try clear c24
                  try clear c25
                  try clear c25b0
                  try clear c26
                  try clear c28
                  try clear c31
                  try clear hcz10_0
                  try clear hcz10_1
                  try clear hcz10_2
                  try clear hcz10_3
                  try clear hcz12_0
                  try clear hcz12_1
                  try clear hcz12_2
                  try clear hcz12_3
                  try clear hcz13_0
                  try clear hcz13_1
                  try clear hcz13_2
                  try clear hcz13_3
                  try clear hcz19_0
                  try clear hcz19_1
                  try clear hcz19_2
                  try clear hcz19_3
                  try clear hcz22_0
                  try clear hcz22_1
                  try clear hcz22_2
                  try clear hcz22_3
                  try clear hcz27_0
                  try clear hcz27_1
                  try clear hcz27_2
                  try clear hcz27_3
                  try clear hcz29_0
                  try clear hcz29_1
                  try clear hcz29_2
                  try clear hcz29_3
                  try clear hcz30_0
                  try clear hcz30_1
                  try clear hcz30_2
                  try clear hcz30_3
                  try clear hcz32_0
                  try clear hcz32_1
                  try clear hcz32_2
                  try clear hcz32_3
                  try clear hcz5_0
                  try clear hcz5_1
                  try clear hcz5_2
                  try clear hcz5_3
                  try clear hcz7_0
                  try clear hcz7_1
                  try clear hcz7_2
                  try clear hcz7_3
                  try clear hfz10_0
                  try clear hfz10_1
                  try clear hfz10_2
                  try clear hfz10_3
                  try clear hfz12_0
                  try clear hfz12_1
                  try clear hfz12_2
                  try clear hfz12_3
                  try clear hfz13_0
                  try clear hfz13_1
                  try clear hfz13_2
                  try clear hfz13_3
                  try clear hfz19_0
                  try clear hfz19_1
                  try clear hfz19_2
                  try clear hfz19_3
                  try clear hfz22_0
                  try clear hfz22_1
                  try clear hfz22_2
                  try clear hfz22_3
                  try clear hfz27_0
                  try clear hfz27_1
                  try clear hfz27_2
                  try clear hfz27_3
                  try clear hfz29_0
                  try clear hfz29_1
                  try clear hfz29_2
                  try clear hfz29_3
                  try clear hfz30_0
                  try clear hfz30_1
                  try clear hfz30_2
                  try clear hfz30_3
                  try clear hfz32_0
                  try clear hfz32_1
                  try clear hfz32_2
                  try clear hfz32_3
                  try clear hfz5_0
                  try clear hfz5_1
                  try clear hfz5_2
                  try clear hfz5_3
                  try clear hfz7_0
                  try clear hfz7_1
                  try clear hfz7_2
                  try clear hfz7_3
                  try clear hx103_0
                  try clear hx103_1
                  try clear hx103_2
                  try clear hx103_3
                  try clear p103
                  try clear p2
                  try clear q103
                  obtain ⟨kq, x64_17, rfl, HA, HJ17, BK101, BK104, HB⟩ := hcut
                  cases kq with
                  | zero => exact absurd HA.out (by simp [cotterref06_May.j2])
                  | succ kj17 =>
                    have H := HA.out
                    clear HA
                    simp only [cotterref06_May.j2] at H
                    by_cases c33 : x64_17 = true
                    · subst c33
                      have H1 : (some false) = some r := by rw [if_pos rfl] at H; exact H
                      clear H
                      have H := H1
                      clear H1
                      obtain rfl := Option.some.inj H
                      go_wp2
                      go_ret
                      exact ⟨by first | rfl | (simp [errW_none, errW_some] <;> rfl) | (simp [*, errW_none, errW_some] <;> rfl), by repeat (first | (with_reducible first | exact HB.out | apply below_alloc | apply pw_below_drewN | apply below_drew1 | refine below_set ?_ GE101.out | refine below_set ?_ GE104.out) | exact HB.out)⟩
                    · replace c33 := Bool.eq_false_iff.mpr c33
                      subst c33
                      have H1 : (if ((rd_T34 l0_3 x4_2).f1) = 1 then (if ((rd_T34 l0_3 x4_2).f3) = 0 then (cotterref06_May.l0 kj17 (wrap64 (((rd_T34 l0_3 x4_2).f0) + 4)) (wrap64 (x4_2 + 1)) a0_0 l0_1 l0_2 l0_3) else (if ((rd_T34 l0_3 x4_2).f1) = 2 then (if ((rd_T34 l0_3 x4_2).f3) ≥ (-2147483648) then (if ((rd_T34 l0_3 x4_2).f3) ≤ 2147483647 then (cotterref06_May.l0 kj17 (wrap64 (((rd_T34 l0_3 x4_2).f0) + 4)) (wrap64 (x4_2 + 1)) a0_0 l0_1 l0_2 l0_3) else (some false)) else (some false)) else (some false))) else (if ((rd_T34 l0_3 x4_2).f1) = 2 then (if ((rd_T34 l0_3 x4_2).f3) ≥ (-2147483648) then (if ((rd_T34 l0_3 x4_2).f3) ≤ 2147483647 then (cotterref06_May.l0 kj17 (wrap64 (((rd_T34 l0_3 x4_2).f0) + 4)) (wrap64 (x4_2 + 1)) a0_0 l0_1 l0_2 l0_3) else (some false)) else (some false)) else (some false))) = some r := by rw [if_neg (show ¬ (false = true) by decide)] at H; exact H
                      clear H
                      have H := H1
                      clear H1
                      by_cases c34 : ((rd_T34 l0_3 x4_2).f1) = 1
                      · rw [if_pos c34] at H
                        have c34b0 : (((rd_T34 l0_3 x4_2).f1) == 1) = true := beq_iff_eq.mpr c34
                        have c34b1 : (((rd_T34 l0_3 x4_2).f1) != 1) = false := bne_eq_false_iff_eq.mpr c34
                        clear c34
                        by_cases c35 : ((rd_T34 l0_3 x4_2).f3) = 0
                        · rw [if_pos c35] at H
                          have c35b0 : (((rd_T34 l0_3 x4_2).f3) == 0) = true := beq_iff_eq.mpr c35
                          have c35b1 : (((rd_T34 l0_3 x4_2).f3) != 0) = false := bne_eq_false_iff_eq.mpr c35
                          clear c35
                          have H' := Aside0.mk H
                          clear H
                          have hnb36 := NB104_101.out
                          have hnc36 := NB101_104.out
                          have hcz37_0 : wc.cell? ⟨gb104, 0, none⟩ = some (.int .i64 ((rd_T34 l0_3 x4_2).f0)) := (blk_cell BK104.out 0).trans rfl
                          have hcz37_1 : wc.cell? ⟨gb104, 1, none⟩ = some (.int .i64 ((rd_T34 l0_3 x4_2).f1)) := (blk_cell BK104.out 1).trans rfl
                          have hcz37_2 : wc.cell? ⟨gb104, 2, none⟩ = some (.string ((rd_T34 l0_3 x4_2).f2)) := (blk_cell BK104.out 2).trans rfl
                          have hcz37_3 : wc.cell? ⟨gb104, 3, none⟩ = some (.int .i64 ((rd_T34 l0_3 x4_2).f3)) := (blk_cell BK104.out 3).trans rfl
                          have hfz37_0 := blk_frozen BK104.out 0
                          have hfz37_1 := blk_frozen BK104.out 1
                          have hfz37_2 := blk_frozen BK104.out 2
                          have hfz37_3 := blk_frozen BK104.out 3
                          go_wp2
                          go_roundg kj17
                          case measure => have := HJ1.out; have := HK2.out; have := HJ17.out; omega
                          case rel => exact ⟨(wrap64 (((rd_T34 l0_3 x4_2).f0) + 4)), (wrap64 (x4_2 + 1)), (by first | rfl | (simp; done) | (simp [*]; done)), (by first | rfl | (simp; done) | (simp [*]; done)), H', ⟨by have := HJ1.out; have := HK2.out; have := HJ17.out; omega⟩, ⟨by (with_reducible repeat (first | refine blk_drewN ?_ _ | refine blk_drew ?_ | refine blk_alloc ?_ _)); exact BK101.out⟩, ⟨by repeat (first | (with_reducible first | exact HB.out | apply below_alloc | apply pw_below_drewN | apply below_drew1 | refine below_set ?_ GE101.out | refine below_set ?_ GE104.out) | exact HB.out)⟩⟩
                        · rw [if_neg c35] at H
                          have c35b0 : (((rd_T34 l0_3 x4_2).f3) == 0) = false := beq_eq_false_iff_ne.mpr c35
                          have c35b1 : (((rd_T34 l0_3 x4_2).f3) != 0) = true := bne_iff_ne.mpr c35
                          by_cases c38 : ((rd_T34 l0_3 x4_2).f1) = 2
                          · rw [if_pos c38] at H
                            have c38b0 : (((rd_T34 l0_3 x4_2).f1) == 2) = true := beq_iff_eq.mpr c38
                            have c38b1 : (((rd_T34 l0_3 x4_2).f1) != 2) = false := bne_eq_false_iff_eq.mpr c38
                            clear c38
                            by_cases c39 : ((rd_T34 l0_3 x4_2).f3) ≥ (-2147483648)
                            · rw [if_pos c39] at H
                              have c39b0 : decide ((-2147483648) ≤ ((rd_T34 l0_3 x4_2).f3)) = true := decide_eq_true c39
                              clear c39
                              by_cases c40 : ((rd_T34 l0_3 x4_2).f3) ≤ 2147483647
                              · rw [if_pos c40] at H
                                have c40b0 : decide (((rd_T34 l0_3 x4_2).f3) ≤ 2147483647) = true := decide_eq_true c40
                                clear c40
                                have H' := Aside0.mk H
                                clear H
                                have hnb41 := NB104_101.out
                                have hnc41 := NB101_104.out
                                have hcz42_0 : wc.cell? ⟨gb104, 0, none⟩ = some (.int .i64 ((rd_T34 l0_3 x4_2).f0)) := (blk_cell BK104.out 0).trans rfl
                                have hcz42_1 : wc.cell? ⟨gb104, 1, none⟩ = some (.int .i64 ((rd_T34 l0_3 x4_2).f1)) := (blk_cell BK104.out 1).trans rfl
                                have hcz42_2 : wc.cell? ⟨gb104, 2, none⟩ = some (.string ((rd_T34 l0_3 x4_2).f2)) := (blk_cell BK104.out 2).trans rfl
                                have hcz42_3 : wc.cell? ⟨gb104, 3, none⟩ = some (.int .i64 ((rd_T34 l0_3 x4_2).f3)) := (blk_cell BK104.out 3).trans rfl
                                have hfz42_0 := blk_frozen BK104.out 0
                                have hfz42_1 := blk_frozen BK104.out 1
                                have hfz42_2 := blk_frozen BK104.out 2
                                have hfz42_3 := blk_frozen BK104.out 3
                                go_wp2
                                go_roundg kj17
                                case measure => have := HJ1.out; have := HK2.out; have := HJ17.out; omega
                                case rel => exact ⟨(wrap64 (((rd_T34 l0_3 x4_2).f0) + 4)), (wrap64 (x4_2 + 1)), (by first | rfl | (simp; done) | (simp [*]; done)), (by first | rfl | (simp; done) | (simp [*]; done)), H', ⟨by have := HJ1.out; have := HK2.out; have := HJ17.out; omega⟩, ⟨by (with_reducible repeat (first | refine blk_drewN ?_ _ | refine blk_drew ?_ | refine blk_alloc ?_ _)); exact BK101.out⟩, ⟨by repeat (first | (with_reducible first | exact HB.out | apply below_alloc | apply pw_below_drewN | apply below_drew1 | refine below_set ?_ GE101.out | refine below_set ?_ GE104.out) | exact HB.out)⟩⟩
                              · rw [if_neg c40] at H
                                have c40b0 : decide (((rd_T34 l0_3 x4_2).f3) ≤ 2147483647) = false := decide_eq_false c40
                                clear c40
                                obtain rfl := Option.some.inj H
                                have hnb43 := NB104_101.out
                                have hnc43 := NB101_104.out
                                have hcz44_0 : wc.cell? ⟨gb104, 0, none⟩ = some (.int .i64 ((rd_T34 l0_3 x4_2).f0)) := (blk_cell BK104.out 0).trans rfl
                                have hcz44_1 : wc.cell? ⟨gb104, 1, none⟩ = some (.int .i64 ((rd_T34 l0_3 x4_2).f1)) := (blk_cell BK104.out 1).trans rfl
                                have hcz44_2 : wc.cell? ⟨gb104, 2, none⟩ = some (.string ((rd_T34 l0_3 x4_2).f2)) := (blk_cell BK104.out 2).trans rfl
                                have hcz44_3 : wc.cell? ⟨gb104, 3, none⟩ = some (.int .i64 ((rd_T34 l0_3 x4_2).f3)) := (blk_cell BK104.out 3).trans rfl
                                have hfz44_0 := blk_frozen BK104.out 0
                                have hfz44_1 := blk_frozen BK104.out 1
                                have hfz44_2 := blk_frozen BK104.out 2
                                have hfz44_3 := blk_frozen BK104.out 3
                                go_wp2
                                go_ret
                                exact ⟨by first | rfl | (simp [errW_none, errW_some] <;> rfl) | (simp [*, errW_none, errW_some] <;> rfl), by repeat (first | (with_reducible first | exact HB.out | apply below_alloc | apply pw_below_drewN | apply below_drew1 | refine below_set ?_ GE101.out | refine below_set ?_ GE104.out) | exact HB.out)⟩
                            · rw [if_neg c39] at H
                              have c39b0 : decide ((-2147483648) ≤ ((rd_T34 l0_3 x4_2).f3)) = false := decide_eq_false c39
                              clear c39
                              obtain rfl := Option.some.inj H
                              have hnb45 := NB104_101.out
                              have hnc45 := NB101_104.out
                              have hcz46_0 : wc.cell? ⟨gb104, 0, none⟩ = some (.int .i64 ((rd_T34 l0_3 x4_2).f0)) := (blk_cell BK104.out 0).trans rfl
                              have hcz46_1 : wc.cell? ⟨gb104, 1, none⟩ = some (.int .i64 ((rd_T34 l0_3 x4_2).f1)) := (blk_cell BK104.out 1).trans rfl
                              have hcz46_2 : wc.cell? ⟨gb104, 2, none⟩ = some (.string ((rd_T34 l0_3 x4_2).f2)) := (blk_cell BK104.out 2).trans rfl
                              have hcz46_3 : wc.cell? ⟨gb104, 3, none⟩ = some (.int .i64 ((rd_T34 l0_3 x4_2).f3)) := (blk_cell BK104.out 3).trans rfl
                              have hfz46_0 := blk_frozen BK104.out 0
                              have hfz46_1 := blk_frozen BK104.out 1
                              have hfz46_2 := blk_frozen BK104.out 2
                              have hfz46_3 := blk_frozen BK104.out 3
                              go_wp2
                              go_ret
                              exact ⟨by first | rfl | (simp [errW_none, errW_some] <;> rfl) | (simp [*, errW_none, errW_some] <;> rfl), by repeat (first | (with_reducible first | exact HB.out | apply below_alloc | apply pw_below_drewN | apply below_drew1 | refine below_set ?_ GE101.out | refine below_set ?_ GE104.out) | exact HB.out)⟩
                          · rw [if_neg c38] at H
                            have c38b0 : (((rd_T34 l0_3 x4_2).f1) == 2) = false := beq_eq_false_iff_ne.mpr c38
                            have c38b1 : (((rd_T34 l0_3 x4_2).f1) != 2) = true := bne_iff_ne.mpr c38
                            obtain rfl := Option.some.inj H
                            have hnb47 := NB104_101.out
                            have hnc47 := NB101_104.out
                            have hcz48_0 : wc.cell? ⟨gb104, 0, none⟩ = some (.int .i64 ((rd_T34 l0_3 x4_2).f0)) := (blk_cell BK104.out 0).trans rfl
                            have hcz48_1 : wc.cell? ⟨gb104, 1, none⟩ = some (.int .i64 ((rd_T34 l0_3 x4_2).f1)) := (blk_cell BK104.out 1).trans rfl
                            have hcz48_2 : wc.cell? ⟨gb104, 2, none⟩ = some (.string ((rd_T34 l0_3 x4_2).f2)) := (blk_cell BK104.out 2).trans rfl
                            have hcz48_3 : wc.cell? ⟨gb104, 3, none⟩ = some (.int .i64 ((rd_T34 l0_3 x4_2).f3)) := (blk_cell BK104.out 3).trans rfl
                            have hfz48_0 := blk_frozen BK104.out 0
                            have hfz48_1 := blk_frozen BK104.out 1
                            have hfz48_2 := blk_frozen BK104.out 2
                            have hfz48_3 := blk_frozen BK104.out 3
                            go_wp2
                            go_ret
                            exact ⟨by first | rfl | (simp [errW_none, errW_some] <;> rfl) | (simp [*, errW_none, errW_some] <;> rfl), by repeat (first | (with_reducible first | exact HB.out | apply below_alloc | apply pw_below_drewN | apply below_drew1 | refine below_set ?_ GE101.out | refine below_set ?_ GE104.out) | exact HB.out)⟩
                      · rw [if_neg c34] at H
                        have c34b0 : (((rd_T34 l0_3 x4_2).f1) == 1) = false := beq_eq_false_iff_ne.mpr c34
                        have c34b1 : (((rd_T34 l0_3 x4_2).f1) != 1) = true := bne_iff_ne.mpr c34
                        by_cases c49 : ((rd_T34 l0_3 x4_2).f1) = 2
                        · rw [if_pos c49] at H
                          have c49b0 : (((rd_T34 l0_3 x4_2).f1) == 2) = true := beq_iff_eq.mpr c49
                          have c49b1 : (((rd_T34 l0_3 x4_2).f1) != 2) = false := bne_eq_false_iff_eq.mpr c49
                          clear c49
                          by_cases c50 : ((rd_T34 l0_3 x4_2).f3) ≥ (-2147483648)
                          · rw [if_pos c50] at H
                            have c50b0 : decide ((-2147483648) ≤ ((rd_T34 l0_3 x4_2).f3)) = true := decide_eq_true c50
                            clear c50
                            by_cases c51 : ((rd_T34 l0_3 x4_2).f3) ≤ 2147483647
                            · rw [if_pos c51] at H
                              have c51b0 : decide (((rd_T34 l0_3 x4_2).f3) ≤ 2147483647) = true := decide_eq_true c51
                              clear c51
                              have H' := Aside0.mk H
                              clear H
                              have hnb52 := NB104_101.out
                              have hnc52 := NB101_104.out
                              have hcz53_0 : wc.cell? ⟨gb104, 0, none⟩ = some (.int .i64 ((rd_T34 l0_3 x4_2).f0)) := (blk_cell BK104.out 0).trans rfl
                              have hcz53_1 : wc.cell? ⟨gb104, 1, none⟩ = some (.int .i64 ((rd_T34 l0_3 x4_2).f1)) := (blk_cell BK104.out 1).trans rfl
                              have hcz53_2 : wc.cell? ⟨gb104, 2, none⟩ = some (.string ((rd_T34 l0_3 x4_2).f2)) := (blk_cell BK104.out 2).trans rfl
                              have hcz53_3 : wc.cell? ⟨gb104, 3, none⟩ = some (.int .i64 ((rd_T34 l0_3 x4_2).f3)) := (blk_cell BK104.out 3).trans rfl
                              have hfz53_0 := blk_frozen BK104.out 0
                              have hfz53_1 := blk_frozen BK104.out 1
                              have hfz53_2 := blk_frozen BK104.out 2
                              have hfz53_3 := blk_frozen BK104.out 3
                              go_wp2
                              go_roundg kj17
                              case measure => have := HJ1.out; have := HK2.out; have := HJ17.out; omega
                              case rel => exact ⟨(wrap64 (((rd_T34 l0_3 x4_2).f0) + 4)), (wrap64 (x4_2 + 1)), (by first | rfl | (simp; done) | (simp [*]; done)), (by first | rfl | (simp; done) | (simp [*]; done)), H', ⟨by have := HJ1.out; have := HK2.out; have := HJ17.out; omega⟩, ⟨by (with_reducible repeat (first | refine blk_drewN ?_ _ | refine blk_drew ?_ | refine blk_alloc ?_ _)); exact BK101.out⟩, ⟨by repeat (first | (with_reducible first | exact HB.out | apply below_alloc | apply pw_below_drewN | apply below_drew1 | refine below_set ?_ GE101.out | refine below_set ?_ GE104.out) | exact HB.out)⟩⟩
                            · rw [if_neg c51] at H
                              have c51b0 : decide (((rd_T34 l0_3 x4_2).f3) ≤ 2147483647) = false := decide_eq_false c51
                              clear c51
                              obtain rfl := Option.some.inj H
                              have hnb54 := NB104_101.out
                              have hnc54 := NB101_104.out
                              have hcz55_0 : wc.cell? ⟨gb104, 0, none⟩ = some (.int .i64 ((rd_T34 l0_3 x4_2).f0)) := (blk_cell BK104.out 0).trans rfl
                              have hcz55_1 : wc.cell? ⟨gb104, 1, none⟩ = some (.int .i64 ((rd_T34 l0_3 x4_2).f1)) := (blk_cell BK104.out 1).trans rfl
                              have hcz55_2 : wc.cell? ⟨gb104, 2, none⟩ = some (.string ((rd_T34 l0_3 x4_2).f2)) := (blk_cell BK104.out 2).trans rfl
                              have hcz55_3 : wc.cell? ⟨gb104, 3, none⟩ = some (.int .i64 ((rd_T34 l0_3 x4_2).f3)) := (blk_cell BK104.out 3).trans rfl
                              have hfz55_0 := blk_frozen BK104.out 0
                              have hfz55_1 := blk_frozen BK104.out 1
                              have hfz55_2 := blk_frozen BK104.out 2
                              have hfz55_3 := blk_frozen BK104.out 3
                              go_wp2
                              go_ret
                              exact ⟨by first | rfl | (simp [errW_none, errW_some] <;> rfl) | (simp [*, errW_none, errW_some] <;> rfl), by repeat (first | (with_reducible first | exact HB.out | apply below_alloc | apply pw_below_drewN | apply below_drew1 | refine below_set ?_ GE101.out | refine below_set ?_ GE104.out) | exact HB.out)⟩
                          · rw [if_neg c50] at H
                            have c50b0 : decide ((-2147483648) ≤ ((rd_T34 l0_3 x4_2).f3)) = false := decide_eq_false c50
                            clear c50
                            obtain rfl := Option.some.inj H
                            have hnb56 := NB104_101.out
                            have hnc56 := NB101_104.out
                            have hcz57_0 : wc.cell? ⟨gb104, 0, none⟩ = some (.int .i64 ((rd_T34 l0_3 x4_2).f0)) := (blk_cell BK104.out 0).trans rfl
                            have hcz57_1 : wc.cell? ⟨gb104, 1, none⟩ = some (.int .i64 ((rd_T34 l0_3 x4_2).f1)) := (blk_cell BK104.out 1).trans rfl
                            have hcz57_2 : wc.cell? ⟨gb104, 2, none⟩ = some (.string ((rd_T34 l0_3 x4_2).f2)) := (blk_cell BK104.out 2).trans rfl
                            have hcz57_3 : wc.cell? ⟨gb104, 3, none⟩ = some (.int .i64 ((rd_T34 l0_3 x4_2).f3)) := (blk_cell BK104.out 3).trans rfl
                            have hfz57_0 := blk_frozen BK104.out 0
                            have hfz57_1 := blk_frozen BK104.out 1
                            have hfz57_2 := blk_frozen BK104.out 2
                            have hfz57_3 := blk_frozen BK104.out 3
                            go_wp2
                            go_ret
                            exact ⟨by first | rfl | (simp [errW_none, errW_some] <;> rfl) | (simp [*, errW_none, errW_some] <;> rfl), by repeat (first | (with_reducible first | exact HB.out | apply below_alloc | apply pw_below_drewN | apply below_drew1 | refine below_set ?_ GE101.out | refine below_set ?_ GE104.out) | exact HB.out)⟩
                        · rw [if_neg c49] at H
                          have c49b0 : (((rd_T34 l0_3 x4_2).f1) == 2) = false := beq_eq_false_iff_ne.mpr c49
                          have c49b1 : (((rd_T34 l0_3 x4_2).f1) != 2) = true := bne_iff_ne.mpr c49
                          obtain rfl := Option.some.inj H
                          have hnb58 := NB104_101.out
                          have hnc58 := NB101_104.out
                          have hcz59_0 : wc.cell? ⟨gb104, 0, none⟩ = some (.int .i64 ((rd_T34 l0_3 x4_2).f0)) := (blk_cell BK104.out 0).trans rfl
                          have hcz59_1 : wc.cell? ⟨gb104, 1, none⟩ = some (.int .i64 ((rd_T34 l0_3 x4_2).f1)) := (blk_cell BK104.out 1).trans rfl
                          have hcz59_2 : wc.cell? ⟨gb104, 2, none⟩ = some (.string ((rd_T34 l0_3 x4_2).f2)) := (blk_cell BK104.out 2).trans rfl
                          have hcz59_3 : wc.cell? ⟨gb104, 3, none⟩ = some (.int .i64 ((rd_T34 l0_3 x4_2).f3)) := (blk_cell BK104.out 3).trans rfl
                          have hfz59_0 := blk_frozen BK104.out 0
                          have hfz59_1 := blk_frozen BK104.out 1
                          have hfz59_2 := blk_frozen BK104.out 2
                          have hfz59_3 := blk_frozen BK104.out 3
                          go_wp2
                          go_ret
                          exact ⟨by first | rfl | (simp [errW_none, errW_some] <;> rfl) | (simp [*, errW_none, errW_some] <;> rfl), by repeat (first | (with_reducible first | exact HB.out | apply below_alloc | apply pw_below_drewN | apply below_drew1 | refine below_set ?_ GE101.out | refine below_set ?_ GE104.out) | exact HB.out)⟩
              · rw [if_neg c17] at H
                exact absurd H (by simp)
            · rw [if_neg c16] at H
              have c16b0 : decide (x4_2 < (l0_3.length : Int)) = false := decide_eq_false c16
              clear c16
              obtain rfl := Option.some.inj H
              have hcz60_0 : wr.cell? ⟨gb101, 0, none⟩ = some (.string a0_0) := (blk_cell BK101.out 0).trans rfl
              have hcz60_1 : wr.cell? ⟨gb101, 1, none⟩ = some (.slice A0_1 l0_1.length c0_1) := (blk_cell BK101.out 1).trans rfl
              have hcz60_2 : wr.cell? ⟨gb101, 2, none⟩ = some (.slice A0_2 l0_2.length c0_2) := (blk_cell BK101.out 2).trans rfl
              have hcz60_3 : wr.cell? ⟨gb101, 3, none⟩ = some (.slice A0_3 l0_3.length c0_3) := (blk_cell BK101.out 3).trans rfl
              have hfz60_0 := blk_frozen BK101.out 0
              have hfz60_1 := blk_frozen BK101.out 1
              have hfz60_2 := blk_frozen BK101.out 2
              have hfz60_3 := blk_frozen BK101.out 3
              go_wp2
              go_ret
              exact ⟨by first | rfl | (simp [errW_none, errW_some] <;> rfl) | (simp [*, errW_none, errW_some] <;> rfl), by repeat (first | (with_reducible first | exact HB.out | apply below_alloc | apply pw_below_drewN | apply below_drew1 | refine below_set ?_ GE101.out) | exact HB.out)⟩

/-! ### cotterref01_sized: function 111 -/
def cotterref01_sized.f (a0 : Int) : Option (Bool) := if a0 = 1 then (some true) else (if a0 = 4 then (some true) else (some (a0 == 8)))
set_option maxHeartbeats 8000000 in
set_option maxRecDepth 100000 in
theorem cotterref01_sized.calls (a0 : Int) (r : Bool) (w : World) (h : cotterref01_sized.f a0 = some r) :
    Calls Try.prog 111 #[.int .i64 a0] w fun e w' => e = .returned (.bool r) ∧ Drawn0 w w' := by
  have H : (if a0 = 1 then (some true) else (if a0 = 4 then (some true) else (some (a0 == 8)))) = some r := h
  clear h
  by_cases c2 : a0 = 1
  · rw [if_pos c2] at H
    have c2b0 : (a0 == 1) = true := beq_iff_eq.mpr c2
    have c2b1 : (a0 != 1) = false := bne_eq_false_iff_eq.mpr c2
    clear c2
    obtain rfl := Option.some.inj H
    go_enter Try.func111, Try.ntmps111
    go_wp2
    go_ret
    exact ⟨by first | rfl | (simp; done) | (simp [*]; done), by repeat (first | exact Drawn0.refl _ | apply Drawn0.step)⟩
  · rw [if_neg c2] at H
    have c2b0 : (a0 == 1) = false := beq_eq_false_iff_ne.mpr c2
    have c2b1 : (a0 != 1) = true := bne_iff_ne.mpr c2
    by_cases c3 : a0 = 4
    · rw [if_pos c3] at H
      have c3b0 : (a0 == 4) = true := beq_iff_eq.mpr c3
      have c3b1 : (a0 != 4) = false := bne_eq_false_iff_eq.mpr c3
      clear c3
      obtain rfl := Option.some.inj H
      go_enter Try.func111, Try.ntmps111
      go_wp2
      go_ret
      exact ⟨by first | rfl | (simp; done) | (simp [*]; done), by repeat (first | exact Drawn0.refl _ | apply Drawn0.step)⟩
    · rw [if_neg c3] at H
      have c3b0 : (a0 == 4) = false := beq_eq_false_iff_ne.mpr c3
      have c3b1 : (a0 != 4) = true := bne_iff_ne.mpr c3
      obtain rfl := Option.some.inj H
      go_enter Try.func111, Try.ntmps111
      go_wp2
      go_ret
      exact ⟨by first | rfl | (simp; done) | (simp [*]; done), by repeat (first | exact Drawn0.refl _ | apply Drawn0.step)⟩

end Go.Proofs.Ytochgjeanajoiaa.HA
