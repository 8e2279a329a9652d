-- Written by this seat's own hook.py over the kit's print.py (with functions proved by hand)
import Derived.Test.YtochgjeanajoiaaHAK
namespace Go.Proofs.Ytochgjeanajoiaa.HA
open Go.RowKit Go.Proofs.YtochgjeanajoiaaW.PrintWords Go.Proofs.YtochgjeanajoiaaW.PrintLast Go.Proofs.YtochgjeanajoiaaW.PrintMore
attribute [local go_sem] max2_int min2_int max_two min_two max_three min_three max_four min_four   -- for this text's walks alone
set_option linter.unusedVariables false
set_option linter.unusedSimpArgs false

/-! ### cotterlaw07_small: function 15 -/
def cotterlaw07_small.l0 : Nat → List (S30) → Int → Int → Option (Bool)
  | 0, _, _, _ => none
  | k + 1, x0, x3, x4 => if x4 < (x0.length : Int) then (if 0 ≤ x4 then (if (wrap64 ((wrap64 (x3 + (((rd_T30 x0 x4).f2).length : Int))) + (((rd_T30 x0 x4).f3).length : Int))) > 300 then (some false) else (cotterlaw07_small.l0 k x0 (wrap64 ((wrap64 (x3 + (((rd_T30 x0 x4).f2).length : Int))) + (((rd_T30 x0 x4).f3).length : Int))) (wrap64 (x4 + 1)))) else (none)) else (some true)
def cotterlaw07_small.f (k : Nat) (l0 : List (S30)) : Option (Bool) := if (l0.length : Int) > 20 then (some false) else (cotterlaw07_small.l0 k l0 0 0)
theorem cotterlaw07_small.mono_l : ∀ k, (∀ y0 y1 y2, LeO (cotterlaw07_small.l0 k y0 y1 y2) (cotterlaw07_small.l0 (k + 1) y0 y1 y2))
  | 0 => fun _ _ _ r h => by simp [cotterlaw07_small.l0] at h
  | k + 1 => by
    have ih0 := cotterlaw07_small.mono_l k
    · intro y0 y1 y2
      unfold cotterlaw07_small.l0
      repeat' first
      | (with_reducible exact ih0 _ _ _)
      | (with_reducible exact LeO.refl _)
      | (with_reducible exact LeO.none _)
      | (with_reducible refine LeO.ite ?_ ?_)
      | (with_reducible refine LeO.bind ?_ (fun _ => ?_))
      | exact ih0 _ _ _
      | exact LeO.none _
      | refine LeO.ite ?_ ?_
      | refine LeO.bind ?_ (fun _ => ?_)
theorem cotterlaw07_small.mono : ∀ a0 k, LeO (cotterlaw07_small.f k a0) (cotterlaw07_small.f (k + 1) a0) := by
  intro a0 k
  have ih0 := cotterlaw07_small.mono_l k
  unfold cotterlaw07_small.f
  repeat' first
      | (with_reducible exact ih0 _ _ _)
      | (with_reducible exact LeO.refl _)
      | (with_reducible exact LeO.none _)
      | (with_reducible refine LeO.ite ?_ ?_)
      | (with_reducible refine LeO.bind ?_ (fun _ => ?_))
      | exact ih0 _ _ _
      | exact LeO.none _
      | refine LeO.ite ?_ ?_
      | refine LeO.bind ?_ (fun _ => ?_)
set_option maxHeartbeats 8000000 in
set_option maxRecDepth 100000 in
theorem cotterlaw07_small.calls (k : Nat) (A0 : Option Addr) (c0 : Nat) (l0 : List (S30)) (r : Bool) (w : World) (hr0 : Kd.C k30 w A0 l0.length l0) (hc0 : l0.length ≤ c0) (h : cotterlaw07_small.f k l0 = some r) :
    Calls Try.prog 15 #[.slice A0 l0.length c0] w fun e w' => e = .returned (.bool r) ∧ Drawn0 w w' := by
  have HR0 := Aside0.mk hr0
  have HC0 := Aside0.mk hc0
  clear hr0 hc0
  have H : (if (l0.length : Int) > 20 then (some false) else (cotterlaw07_small.l0 k l0 0 0)) = some r := h
  clear h
  by_cases c2 : (l0.length : Int) > 20
  · rw [if_pos c2] at H
    have c2b0 : decide (20 < (l0.length : Int)) = true := decide_eq_true c2
    have c2b1 : decide (20 < l0.length) = true := decide_eq_true (by omega)
    clear c2
    obtain rfl := Option.some.inj H
    go_enter Try.func15, Try.ntmps15
    go_wp2
    repeat (go_quiet (fail); try go_wp2)
    go_ret
    exact ⟨by first | rfl | (simp; done) | (simp [*]; done), by repeat (first | exact Drawn0.refl _ | apply Drawn0.step)⟩
  · rw [if_neg c2] at H
    have c2b0 : decide (20 < (l0.length : Int)) = false := decide_eq_false c2
    have c2b1 : decide (20 < l0.length) = false := decide_eq_false (by omega)
    clear c2
    have H' := Aside0.mk H
    clear H
    go_enter Try.func15, Try.ntmps15
    go_wp2
    repeat (go_quiet (fail); try go_wp2)
    go_loopg [3, 4] k (fun kq v3 v4 w' => ∃ (x3_1 : Int) (x4_1 : Int), v3 = .int .i64 x3_1 ∧ v4 = .int .i64 x4_1 ∧ Aside0 (cotterlaw07_small.l0 kq l0 x3_1 x4_1 = some r) ∧ Aside0 (kq ≤ k) ∧ Drawn0 w w')
    case atStart => exact ⟨(0), (0), (by first | rfl | (simp; done) | (simp [*]; done)), (by first | rfl | (simp; done) | (simp [*]; done)), H', ⟨Nat.le_refl _⟩, by repeat (first | exact Drawn0.refl _ | apply Drawn0.step)⟩
    case round =>
      clear H'
      try clear c1
      try clear c2
      try clear c2b0
      try clear c2b1
      try clear p2
      obtain ⟨x3_1, x4_1, rfl, rfl, HA, HK1, ⟨m1, rfl⟩⟩ := hrel
      cases gk with
      | zero => exact absurd HA.out (by simp [cotterlaw07_small.l0])
      | succ k1 =>
        have H := HA.out
        clear HA
        simp only [cotterlaw07_small.l0] at H
        by_cases c3 : x4_1 < (l0.length : Int)
        · rw [if_pos c3] at H
          have c3b0 : decide (x4_1 < (l0.length : Int)) = true := decide_eq_true c3
          clear c3
          by_cases c4 : 0 ≤ x4_1
          · rw [if_pos c4] at H
            have c4b0 : decide (0 ≤ x4_1) = true := decide_eq_true c4
            clear c4
            by_cases c5 : (wrap64 ((wrap64 (x3_1 + (((rd_T30 l0 x4_1).f2).length : Int))) + (((rd_T30 l0 x4_1).f3).length : Int))) > 300
            · rw [if_pos c5] at H
              have c5b0 : decide (300 < (wrap64 ((wrap64 (x3_1 + (((rd_T30 l0 x4_1).f2).length : Int))) + (((rd_T30 l0 x4_1).f3).length : Int)))) = true := decide_eq_true c5
              clear c5
              obtain rfl := Option.some.inj H
              have p101 : 0 ≤ (x4_1 : Int) := of_decide_eq_true (by first | (with_reducible assumption) | assumption)
              have q101 : x4_1 < (l0.length : Int) := of_decide_eq_true (by first | (with_reducible assumption) | assumption)
              obtain ⟨ad101, A101_1, c101_1, A101_2, c101_2, A101_3, c101_3, e101, hx101_0, hx101_1, hx101_2, hx101_3, hl101_1, hi101_1, hl101_2, hi101_2, hl101_3, hi101_3⟩ := at_T30 HR0.out x4_1 p101 q101
              cases e101
              have HR101_1 := Aside0.mk hi101_1
              have HC101_1 := Aside0.mk hl101_1
              clear hi101_1 hl101_1
              have HR101_2 := Aside0.mk hi101_2
              have HC101_2 := Aside0.mk hl101_2
              clear hi101_2 hl101_2
              have HR101_3 := Aside0.mk hi101_3
              have HC101_3 := Aside0.mk hl101_3
              clear hi101_3 hl101_3
              replace p101 := eq_true p101
              replace q101 := eq_true q101
              have p102 : 0 ≤ (x4_1 : Int) := of_decide_eq_true (by first | (with_reducible assumption) | assumption)
              have q102 : x4_1 < (l0.length : Int) := of_decide_eq_true (by first | (with_reducible assumption) | assumption)
              obtain ⟨ad102, A102_1, c102_1, A102_2, c102_2, A102_3, c102_3, e102, hx102_0, hx102_1, hx102_2, hx102_3, hl102_1, hi102_1, hl102_2, hi102_2, hl102_3, hi102_3⟩ := at_T30 HR0.out x4_1 p102 q102
              obtain rfl : ad101 = ad102 := (by injection e102)
              have HR102_1 := Aside0.mk hi102_1
              have HC102_1 := Aside0.mk hl102_1
              clear hi102_1 hl102_1
              have HR102_2 := Aside0.mk hi102_2
              have HC102_2 := Aside0.mk hl102_2
              clear hi102_2 hl102_2
              have HR102_3 := Aside0.mk hi102_3
              have HC102_3 := Aside0.mk hl102_3
              clear hi102_3 hl102_3
              replace p102 := eq_true p102
              replace q102 := eq_true q102
              have ea_ := Option.some.inj (hx101_1.symm.trans hx102_1)
              injection ea_ with ea_ en_ ec_
              subst ea_
              subst ec_
              clear en_
              have ea_ := Option.some.inj (hx101_2.symm.trans hx102_2)
              injection ea_ with ea_ en_ ec_
              subst ea_
              subst ec_
              clear en_
              have ea_ := Option.some.inj (hx101_3.symm.trans hx102_3)
              injection ea_ with ea_ en_ ec_
              subst ea_
              subst ec_
              clear en_
              go_wp2
              repeat (go_quiet (fail); try go_wp2)
              go_ret
              exact ⟨by first | rfl | (simp; done) | (simp [*]; done), by repeat (first | exact Drawn0.refl _ | apply Drawn0.step)⟩
            · rw [if_neg c5] at H
              have c5b0 : decide (300 < (wrap64 ((wrap64 (x3_1 + (((rd_T30 l0 x4_1).f2).length : Int))) + (((rd_T30 l0 x4_1).f3).length : Int)))) = false := decide_eq_false c5
              clear c5
              have H' := Aside0.mk H
              clear H
              have p101 : 0 ≤ (x4_1 : Int) := of_decide_eq_true (by first | (with_reducible assumption) | assumption)
              have q101 : x4_1 < (l0.length : Int) := of_decide_eq_true (by first | (with_reducible assumption) | assumption)
              obtain ⟨ad101, A101_1, c101_1, A101_2, c101_2, A101_3, c101_3, e101, hx101_0, hx101_1, hx101_2, hx101_3, hl101_1, hi101_1, hl101_2, hi101_2, hl101_3, hi101_3⟩ := at_T30 HR0.out x4_1 p101 q101
              cases e101
              have HR101_1 := Aside0.mk hi101_1
              have HC101_1 := Aside0.mk hl101_1
              clear hi101_1 hl101_1
              have HR101_2 := Aside0.mk hi101_2
              have HC101_2 := Aside0.mk hl101_2
              clear hi101_2 hl101_2
              have HR101_3 := Aside0.mk hi101_3
              have HC101_3 := Aside0.mk hl101_3
              clear hi101_3 hl101_3
              replace p101 := eq_true p101
              replace q101 := eq_true q101
              have p102 : 0 ≤ (x4_1 : Int) := of_decide_eq_true (by first | (with_reducible assumption) | assumption)
              have q102 : x4_1 < (l0.length : Int) := of_decide_eq_true (by first | (with_reducible assumption) | assumption)
              obtain ⟨ad102, A102_1, c102_1, A102_2, c102_2, A102_3, c102_3, e102, hx102_0, hx102_1, hx102_2, hx102_3, hl102_1, hi102_1, hl102_2, hi102_2, hl102_3, hi102_3⟩ := at_T30 HR0.out x4_1 p102 q102
              obtain rfl : ad101 = ad102 := (by injection e102)
              have HR102_1 := Aside0.mk hi102_1
              have HC102_1 := Aside0.mk hl102_1
              clear hi102_1 hl102_1
              have HR102_2 := Aside0.mk hi102_2
              have HC102_2 := Aside0.mk hl102_2
              clear hi102_2 hl102_2
              have HR102_3 := Aside0.mk hi102_3
              have HC102_3 := Aside0.mk hl102_3
              clear hi102_3 hl102_3
              replace p102 := eq_true p102
              replace q102 := eq_true q102
              have ea_ := Option.some.inj (hx101_1.symm.trans hx102_1)
              injection ea_ with ea_ en_ ec_
              subst ea_
              subst ec_
              clear en_
              have ea_ := Option.some.inj (hx101_2.symm.trans hx102_2)
              injection ea_ with ea_ en_ ec_
              subst ea_
              subst ec_
              clear en_
              have ea_ := Option.some.inj (hx101_3.symm.trans hx102_3)
              injection ea_ with ea_ en_ ec_
              subst ea_
              subst ec_
              clear en_
              go_wp2
              repeat (go_quiet (fail); try go_wp2)
              go_roundg k1
              case measure => have := HK1.out; omega
              case rel => exact ⟨(wrap64 ((wrap64 (x3_1 + (((rd_T30 l0 x4_1).f2).length : Int))) + (((rd_T30 l0 x4_1).f3).length : Int))), (wrap64 (x4_1 + 1)), (by first | rfl | (simp; done) | (simp [*]; done)), (by first | rfl | (simp; done) | (simp [*]; done)), H', ⟨by have := HK1.out; omega⟩, by repeat (first | exact Drawn0.refl _ | apply Drawn0.step)⟩
          · rw [if_neg c4] at H
            exact absurd H (by simp)
        · rw [if_neg c3] at H
          have c3b0 : decide (x4_1 < (l0.length : Int)) = false := decide_eq_false c3
          clear c3
          obtain rfl := Option.some.inj H
          go_wp2
          repeat (go_quiet (fail); try go_wp2)
          go_ret
          exact ⟨by first | rfl | (simp; done) | (simp [*]; done), by repeat (first | exact Drawn0.refl _ | apply Drawn0.step)⟩

/-! ### objf_isName: function 100 -/
def objf_isName.f (a0 : ByteArray) : Option (Bool) := if (a0.size : Int) > 0 then (some (decide ((a0.size : Int) ≤ 28))) else (some false)
set_option maxHeartbeats 8000000 in
set_option maxRecDepth 100000 in
theorem objf_isName.calls (a0 : ByteArray) (r : Bool) (w : World) (h : objf_isName.f a0 = some r) :
    Calls Try.prog 100 #[.string a0] w fun e w' => e = .returned (.bool r) ∧ Drawn0 w w' := by
  have H : (if (a0.size : Int) > 0 then (some (decide ((a0.size : Int) ≤ 28))) else (some false)) = some r := h
  clear h
  by_cases c2 : (a0.size : Int) > 0
  · rw [if_pos c2] at H
    have c2b0 : decide (0 < (a0.size : Int)) = true := decide_eq_true c2
    have c2b1 : decide (0 < a0.size) = true := decide_eq_true (by omega)
    clear c2
    obtain rfl := Option.some.inj H
    go_enter Try.func100, Try.ntmps100
    go_wp2
    go_ret
    exact ⟨by first | rfl | (simp; done) | (simp [*]; done), by repeat (first | exact Drawn0.refl _ | apply Drawn0.step)⟩
  · rw [if_neg c2] at H
    have c2b0 : decide (0 < (a0.size : Int)) = false := decide_eq_false c2
    have c2b1 : decide (0 < a0.size) = false := decide_eq_false (by omega)
    clear c2
    obtain rfl := Option.some.inj H
    go_enter Try.func100, Try.ntmps100
    go_wp2
    go_ret
    exact ⟨by first | rfl | (simp; done) | (simp [*]; done), by repeat (first | exact Drawn0.refl _ | apply Drawn0.step)⟩

/-! ### objf_relocations: function 65 -/
mutual
def objf_relocations.l0 : Nat → List (S34) → Int → Int → List (S34) → Int → Int → Option (Bool)
  | 0, _, _, _, _, _, _ => none
  | k + 1, x0, x1, x5, x8, x9, x10 => if x10 < x9 then (if 0 ≤ x10 then (if x10 < (x8.length : Int) then ((objf_isName.f ((rd_T34 x8 x10).f2)).bind fun t103 => (if t103 = true then (if ((rd_T34 x8 x10).f0) < x5 then (objf_relocations.j1 k x0 x1 x8 x9 x10 true ((rd_T34 x8 x10).f0) ((rd_T34 x8 x10).f1) ((rd_T34 x8 x10).f2) ((rd_T34 x8 x10).f3)) else (objf_relocations.j1 k x0 x1 x8 x9 x10 (decide (((rd_T34 x8 x10).f0) > (wrap64 (x1 - 4)))) ((rd_T34 x8 x10).f0) ((rd_T34 x8 x10).f1) ((rd_T34 x8 x10).f2) ((rd_T34 x8 x10).f3))) else (objf_relocations.j1 k x0 x1 x8 x9 x10 true ((rd_T34 x8 x10).f0) ((rd_T34 x8 x10).f1) ((rd_T34 x8 x10).f2) ((rd_T34 x8 x10).f3)))) else (none)) else (none)) else (some (decide ((x0.length : Int) ≤ 8000)))
def objf_relocations.j1 : Nat → List (S34) → Int → List (S34) → Int → Int → Bool → Int → Int → ByteArray → Int → Option (Bool)
  | 0, _, _, _, _, _, _, _, _, _, _ => none
  | k + 1, x0, x1, x8, x9, x10, x30, x103000, x103001, x103002, x103003 => if x30 = true then (some false) else (if x103001 = 1 then (if x103003 = 0 then (objf_relocations.l0 k x0 x1 (wrap64 (x103000 + 4)) x8 x9 (wrap64 (x10 + 1))) else (some false)) else (if x103001 = 2 then (if x103003 < (-2147483648) then (some false) else (if x103003 > 2147483647 then (some false) else (objf_relocations.l0 k x0 x1 (wrap64 (x103000 + 4)) x8 x9 (wrap64 (x10 + 1))))) else (some false)))
end
def objf_relocations.f (k : Nat) (l0 : List (S34)) (a1 : Int) : Option (Bool) := objf_relocations.l0 k l0 a1 0 l0 (l0.length : Int) 0
theorem objf_relocations.mono_l : ∀ k, (∀ y0 y1 y2 y3 y4 y5, LeO (objf_relocations.l0 k y0 y1 y2 y3 y4 y5) (objf_relocations.l0 (k + 1) y0 y1 y2 y3 y4 y5)) ∧ (∀ y0 y1 y2 y3 y4 y5 y6 y7 y8 y9, LeO (objf_relocations.j1 k y0 y1 y2 y3 y4 y5 y6 y7 y8 y9) (objf_relocations.j1 (k + 1) y0 y1 y2 y3 y4 y5 y6 y7 y8 y9))
  | 0 => ⟨fun _ _ _ _ _ _ r h => by simp [objf_relocations.l0] at h, fun _ _ _ _ _ _ _ _ _ _ r h => by simp [objf_relocations.j1] at h⟩
  | k + 1 => by
    obtain ⟨ih0, ih1⟩ := objf_relocations.mono_l k
    refine ⟨?_, ?_⟩
    · intro y0 y1 y2 y3 y4 y5
      unfold objf_relocations.l0
      repeat' first
      | (with_reducible exact ih0 _ _ _ _ _ _)
      | (with_reducible exact ih1 _ _ _ _ _ _ _ _ _ _)
      | (with_reducible exact LeO.refl _)
      | (with_reducible exact LeO.none _)
      | (with_reducible refine LeO.ite ?_ ?_)
      | (with_reducible refine LeO.bind ?_ (fun _ => ?_))
      | exact ih0 _ _ _ _ _ _
      | exact ih1 _ _ _ _ _ _ _ _ _ _
      | exact LeO.none _
      | refine LeO.ite ?_ ?_
      | refine LeO.bind ?_ (fun _ => ?_)
    · intro y0 y1 y2 y3 y4 y5 y6 y7 y8 y9
      unfold objf_relocations.j1
      repeat' first
      | (with_reducible exact ih0 _ _ _ _ _ _)
      | (with_reducible exact ih1 _ _ _ _ _ _ _ _ _ _)
      | (with_reducible exact LeO.refl _)
      | (with_reducible exact LeO.none _)
      | (with_reducible refine LeO.ite ?_ ?_)
      | (with_reducible refine LeO.bind ?_ (fun _ => ?_))
      | exact ih0 _ _ _ _ _ _
      | exact ih1 _ _ _ _ _ _ _ _ _ _
      | exact LeO.none _
      | refine LeO.ite ?_ ?_
      | refine LeO.bind ?_ (fun _ => ?_)
theorem objf_relocations.mono : ∀ a0 a1 k, LeO (objf_relocations.f k a0 a1) (objf_relocations.f (k + 1) a0 a1) := by
  intro a0 a1 k
  obtain ⟨ih0, ih1⟩ := objf_relocations.mono_l k
  unfold objf_relocations.f
  repeat' first
      | (with_reducible exact ih0 _ _ _ _ _ _)
      | (with_reducible exact ih1 _ _ _ _ _ _ _ _ _ _)
      | (with_reducible exact LeO.refl _)
      | (with_reducible exact LeO.none _)
      | (with_reducible refine LeO.ite ?_ ?_)
      | (with_reducible refine LeO.bind ?_ (fun _ => ?_))
      | exact ih0 _ _ _ _ _ _
      | exact ih1 _ _ _ _ _ _ _ _ _ _
      | exact LeO.none _
      | refine LeO.ite ?_ ?_
      | refine LeO.bind ?_ (fun _ => ?_)
set_option maxHeartbeats 8000000 in
set_option maxRecDepth 100000 in
theorem objf_relocations.calls (k : Nat) (A0 : Option Addr) (c0 : Nat) (l0 : List (S34)) (a1 : Int) (r : Bool) (w : World) (hr0 : Kd.C k34 w A0 l0.length l0) (hc0 : l0.length ≤ c0) (h : objf_relocations.f k l0 a1 = some r) :
    Calls Try.prog 65 #[.slice A0 l0.length c0, .int .i64 a1] w fun e w' => e = .returned (.bool r) ∧ Below w.heap.size w w' := by
  have hu34 := Try.underlying34
  have HR0 := Aside0.mk hr0
  have HC0 := Aside0.mk hc0
  clear hr0 hc0
  have HB := Aside0.mk (Below.refl w.heap.size w)
  have H : (objf_relocations.l0 k l0 a1 0 l0 (l0.length : Int) 0) = some r := h
  clear h
  have H' := Aside0.mk H
  clear H
  go_enter Try.func65, Try.ntmps65
  go_wp2
  go_loopg [5, 10] k (fun kq v5 v10 w' => ∃ (x5_1 : Int) (x10_1 : Int), v5 = .int .i64 x5_1 ∧ v10 = .int .i64 x10_1 ∧ Aside0 (objf_relocations.l0 kq l0 a1 x5_1 l0 (l0.length : Int) x10_1 = some r) ∧ Aside0 (kq ≤ k) ∧ Aside0 (Below w.heap.size w w'))
  case atStart => exact ⟨(0), (0), (by first | rfl | (simp; done) | (simp [*]; done)), (by first | rfl | (simp; done) | (simp [*]; done)), H', ⟨Nat.le_refl _⟩, ⟨by repeat (first | (with_reducible first | exact HB.out | apply below_alloc | apply pw_below_drewN | apply below_drew1) | exact HB.out)⟩⟩
  case round =>
    clear H'
    try clear p2
    obtain ⟨x5_1, x10_1, rfl, rfl, HA, HK1, HB⟩ := hrel
    cases gk with
    | zero => exact absurd HA.out (by simp [objf_relocations.l0])
    | succ k1 =>
      have H := HA.out
      clear HA
      simp only [objf_relocations.l0] at H
      by_cases c3 : x10_1 < (l0.length : Int)
      · rw [if_pos c3] at H
        have c3b0 : decide (x10_1 < (l0.length : Int)) = true := decide_eq_true c3
        clear c3
        by_cases c4 : 0 ≤ x10_1
        · rw [if_pos c4] at H
          have c4b0 : decide (0 ≤ x10_1) = true := decide_eq_true c4
          clear c4
          by_cases c5 : x10_1 < (l0.length : Int)
          · rw [if_pos c5] at H
            have c5b0 : decide (x10_1 < (l0.length : Int)) = true := decide_eq_true c5
            clear c5
            have HC6 := Aside0.mk H
            clear H
            have p101 : 0 ≤ (x10_1 : Int) := of_decide_eq_true (by first | (with_reducible assumption) | assumption)
            have q101 : x10_1 < (l0.length : Int) := of_decide_eq_true (by first | (with_reducible assumption) | assumption)
            obtain ⟨ad101, e101, hx101_0, hx101_1, hx101_2, hx101_3⟩ := at_T34 HR0.out x10_1 p101 q101
            cases e101
            replace hx101_0 := (HB.out.cell (World.block_lt_of_cell? w _ hx101_0)).trans hx101_0
            replace hx101_1 := (HB.out.cell (World.block_lt_of_cell? w _ hx101_1)).trans hx101_1
            replace hx101_2 := (HB.out.cell (World.block_lt_of_cell? w _ hx101_2)).trans hx101_2
            replace hx101_3 := (HB.out.cell (World.block_lt_of_cell? w _ hx101_3)).trans hx101_3
            replace p101 := eq_true p101
            replace q101 := eq_true q101
            go_upto_region 5 with (first | ((with_reducible refine gate_dst (N := 7) rfl ?_); refine box_event ?hg (N := 7) ?hd (cs := #[.int .i64 0, .int .i64 0, .string (⟨#[]⟩ : ByteArray), .int .i64 0]) (t := 34) ?hr ?_; (case hd => rfl); (case hg => rfl); (case hr => first | (go_simp; done) | (go_simp; rfl)); intro gb102 hg w7 hbox hb; have n0_ := Aside0.mk (below_step (by repeat (first | (with_reducible first | exact HB.out | apply below_alloc | apply pw_below_drewN | apply below_drew1) | exact HB.out)) hb); have n1_ := Aside0.mk (hbox); have n2_ := Aside0.mk ((by rw [hg]; exact (below_size (by repeat (first | (with_reducible first | exact HB.out | apply below_alloc | apply pw_below_drewN | apply below_drew1) | exact HB.out))) : w.heap.size ≤ gb102)); have n3_ := Aside0.mk ((by rw [hg]; exact (below_size (by repeat (first | (with_reducible first | exact HB.out | apply below_alloc | apply pw_below_drewN | apply below_drew1) | exact HB.out))) : w.heap.size ≤ gb102)); clear HB; have HB := n0_; have BK102 := n1_; have GW102 := n2_; have GE102 := n3_; clear n0_ n1_ n2_ n3_; clear hb hbox hg; have hcz8_0 : w7.cell? ⟨gb102, 0, none⟩ = some (.int .i64 0) := (blk_cell BK102.out 0).trans rfl; have hcz8_1 : w7.cell? ⟨gb102, 1, none⟩ = some (.int .i64 0) := (blk_cell BK102.out 1).trans rfl; have hcz8_2 : w7.cell? ⟨gb102, 2, none⟩ = some (.string (⟨#[]⟩ : ByteArray)) := (blk_cell BK102.out 2).trans rfl; have hcz8_3 : w7.cell? ⟨gb102, 3, none⟩ = some (.int .i64 0) := (blk_cell BK102.out 3).trans rfl; have hfz8_0 := blk_frozen BK102.out 0; have hfz8_1 := blk_frozen BK102.out 1; have hfz8_2 := blk_frozen BK102.out 2; have hfz8_3 := blk_frozen BK102.out 3))
            (try simp only [Act.put, List.setIfInBounds_toArray, List.set_cons_zero, List.set_cons_succ])
            go_cut [30] (fun v30 wc => ∃ (kq : Nat) (x30_5 : Bool), v30 = .bool x30_5 ∧ Aside0 (objf_relocations.j1 kq l0 a1 l0 (l0.length : Int) x10_1 x30_5 ((rd_T34 l0 x10_1).f0) ((rd_T34 l0 x10_1).f1) ((rd_T34 l0 x10_1).f2) ((rd_T34 l0 x10_1).f3) = some r) ∧ Aside0 (kq ≤ k1) ∧ Aside0 (wc.heap[gb102]? = some (.cells #[.int .i64 ((rd_T34 l0 x10_1).f0), .int .i64 ((rd_T34 l0 x10_1).f1), .string ((rd_T34 l0 x10_1).f2), .int .i64 ((rd_T34 l0 x10_1).f3)] 34 (0, 0))) ∧ Aside0 (Below w.heap.size w wc))
            case first =>
              have H := HC6.out
              clear HC6
              replace H := Option.bind_eq_some_iff.mp H
              obtain ⟨t103, A90, H⟩ := H
              replace H : (if t103 = true then (if ((rd_T34 l0 x10_1).f0) < x5_1 then (objf_relocations.j1 k1 l0 a1 l0 (l0.length : Int) x10_1 true ((rd_T34 l0 x10_1).f0) ((rd_T34 l0 x10_1).f1) ((rd_T34 l0 x10_1).f2) ((rd_T34 l0 x10_1).f3)) else (objf_relocations.j1 k1 l0 a1 l0 (l0.length : Int) x10_1 (decide (((rd_T34 l0 x10_1).f0) > (wrap64 (a1 - 4)))) ((rd_T34 l0 x10_1).f0) ((rd_T34 l0 x10_1).f1) ((rd_T34 l0 x10_1).f2) ((rd_T34 l0 x10_1).f3))) else (objf_relocations.j1 k1 l0 a1 l0 (l0.length : Int) x10_1 true ((rd_T34 l0 x10_1).f0) ((rd_T34 l0 x10_1).f1) ((rd_T34 l0 x10_1).f2) ((rd_T34 l0 x10_1).f3))) = some r := H
              have A9 := Aside0.mk A90
              clear A90
              by_cases c10 : t103 = true
              · subst c10
                have H1 : (if ((rd_T34 l0 x10_1).f0) < x5_1 then (objf_relocations.j1 k1 l0 a1 l0 (l0.length : Int) x10_1 true ((rd_T34 l0 x10_1).f0) ((rd_T34 l0 x10_1).f1) ((rd_T34 l0 x10_1).f2) ((rd_T34 l0 x10_1).f3)) else (objf_relocations.j1 k1 l0 a1 l0 (l0.length : Int) x10_1 (decide (((rd_T34 l0 x10_1).f0) > (wrap64 (a1 - 4)))) ((rd_T34 l0 x10_1).f0) ((rd_T34 l0 x10_1).f1) ((rd_T34 l0 x10_1).f2) ((rd_T34 l0 x10_1).f3))) = some r := by rw [if_pos rfl] at H; exact H
                clear H
                have H := H1
                clear H1
                by_cases c11 : ((rd_T34 l0 x10_1).f0) < x5_1
                · rw [if_pos c11] at H
                  have c11b0 : decide (((rd_T34 l0 x10_1).f0) < x5_1) = true := decide_eq_true c11
                  clear c11
                  (first | rw [c11b0] | (simp only [i64_w, i32_w]; rw [c11b0]) | skip)
                  have H' := Aside0.mk H
                  clear H
                  have hcz12_0 : w7.cell? ⟨gb102, 0, none⟩ = some (.int .i64 0) := (blk_cell BK102.out 0).trans rfl
                  have hcz12_1 : w7.cell? ⟨gb102, 1, none⟩ = some (.int .i64 0) := (blk_cell BK102.out 1).trans rfl
                  have hcz12_2 : w7.cell? ⟨gb102, 2, none⟩ = some (.string (⟨#[]⟩ : ByteArray)) := (blk_cell BK102.out 2).trans rfl
                  have hcz12_3 : w7.cell? ⟨gb102, 3, none⟩ = some (.int .i64 0) := (blk_cell BK102.out 3).trans rfl
                  have hfz12_0 := blk_frozen BK102.out 0
                  have hfz12_1 := blk_frozen BK102.out 1
                  have hfz12_2 := blk_frozen BK102.out 2
                  have hfz12_3 := blk_frozen BK102.out 3
                  go_wp2_with (first | ((with_reducible refine gate_callee (f := 100) rfl ?_); refine goesL_ (some 16) rfl rfl Try.func100 (by kernel_rfl) rfl #[.string ((rd_T34 l0 x10_1).f2)] rfl (by (try simp only [List.map_toArray, List.map_cons, List.map_nil]); first | done | rfl | (simp only [List.length_drop, List.length_take]; rfl)) ?_; (with_reducible refine (objf_isName.calls ((rd_T34 l0 x10_1).f2) true _ A9.out).mono ?_); rintro e w' ⟨rfl, ⟨nd, rfl⟩⟩; refine ⟨_, rfl, ?_⟩))
                  go_meet
                  case rel => exact ⟨_, (true), (by first | rfl | (simp; done) | (simp [*]; done)), H', ⟨by have := HK1.out; first | omega | exact Nat.le_refl _⟩, ⟨by (with_reducible repeat (first | refine blk_drewN ?_ _ | refine blk_drew ?_ | refine blk_alloc ?_ _)); refine blk_put (cs := #[.int .i64 ((rd_T34 l0 x10_1).f0), .int .i64 ((rd_T34 l0 x10_1).f1), .string ((rd_T34 l0 x10_1).f2), .int .i64 0]) ?_ 3 _ rfl; (with_reducible repeat (first | refine blk_drewN ?_ _ | refine blk_drew ?_ | refine blk_alloc ?_ _)); refine blk_put (cs := #[.int .i64 ((rd_T34 l0 x10_1).f0), .int .i64 ((rd_T34 l0 x10_1).f1), .string (⟨#[]⟩ : ByteArray), .int .i64 0]) ?_ 2 _ rfl; (with_reducible repeat (first | refine blk_drewN ?_ _ | refine blk_drew ?_ | refine blk_alloc ?_ _)); refine blk_put (cs := #[.int .i64 ((rd_T34 l0 x10_1).f0), .int .i64 0, .string (⟨#[]⟩ : ByteArray), .int .i64 0]) ?_ 1 _ rfl; (with_reducible repeat (first | refine blk_drewN ?_ _ | refine blk_drew ?_ | refine blk_alloc ?_ _)); refine blk_put (cs := #[.int .i64 0, .int .i64 0, .string (⟨#[]⟩ : ByteArray), .int .i64 0]) ?_ 0 _ rfl; (with_reducible repeat (first | refine blk_drewN ?_ _ | refine blk_drew ?_ | refine blk_alloc ?_ _)); exact BK102.out⟩, ⟨by repeat (first | (with_reducible first | exact HB.out | apply below_alloc | apply pw_below_drewN | apply below_drew1 | refine below_set ?_ GE102.out) | exact HB.out)⟩⟩
                · rw [if_neg c11] at H
                  have c11b0 : decide (((rd_T34 l0 x10_1).f0) < x5_1) = false := decide_eq_false c11
                  clear c11
                  (first | rw [c11b0] | (simp only [i64_w, i32_w]; rw [c11b0]) | skip)
                  have H' := Aside0.mk H
                  clear H
                  have hcz13_0 : w7.cell? ⟨gb102, 0, none⟩ = some (.int .i64 0) := (blk_cell BK102.out 0).trans rfl
                  have hcz13_1 : w7.cell? ⟨gb102, 1, none⟩ = some (.int .i64 0) := (blk_cell BK102.out 1).trans rfl
                  have hcz13_2 : w7.cell? ⟨gb102, 2, none⟩ = some (.string (⟨#[]⟩ : ByteArray)) := (blk_cell BK102.out 2).trans rfl
                  have hcz13_3 : w7.cell? ⟨gb102, 3, none⟩ = some (.int .i64 0) := (blk_cell BK102.out 3).trans rfl
                  have hfz13_0 := blk_frozen BK102.out 0
                  have hfz13_1 := blk_frozen BK102.out 1
                  have hfz13_2 := blk_frozen BK102.out 2
                  have hfz13_3 := blk_frozen BK102.out 3
                  go_wp2_with (first | ((with_reducible refine gate_callee (f := 100) rfl ?_); refine goesL_ (some 16) rfl rfl Try.func100 (by kernel_rfl) rfl #[.string ((rd_T34 l0 x10_1).f2)] rfl (by (try simp only [List.map_toArray, List.map_cons, List.map_nil]); first | done | rfl | (simp only [List.length_drop, List.length_take]; rfl)) ?_; (with_reducible refine (objf_isName.calls ((rd_T34 l0 x10_1).f2) true _ A9.out).mono ?_); rintro e w' ⟨rfl, ⟨nd, rfl⟩⟩; refine ⟨_, rfl, ?_⟩))
                  go_meet
                  case rel => exact ⟨_, (decide (((rd_T34 l0 x10_1).f0) > (wrap64 (a1 - 4)))), (by first | rfl | (simp; done) | (simp [*]; done)), H', ⟨by have := HK1.out; first | omega | exact Nat.le_refl _⟩, ⟨by (with_reducible repeat (first | refine blk_drewN ?_ _ | refine blk_drew ?_ | refine blk_alloc ?_ _)); refine blk_put (cs := #[.int .i64 ((rd_T34 l0 x10_1).f0), .int .i64 ((rd_T34 l0 x10_1).f1), .string ((rd_T34 l0 x10_1).f2), .int .i64 0]) ?_ 3 _ rfl; (with_reducible repeat (first | refine blk_drewN ?_ _ | refine blk_drew ?_ | refine blk_alloc ?_ _)); refine blk_put (cs := #[.int .i64 ((rd_T34 l0 x10_1).f0), .int .i64 ((rd_T34 l0 x10_1).f1), .string (⟨#[]⟩ : ByteArray), .int .i64 0]) ?_ 2 _ rfl; (with_reducible repeat (first | refine blk_drewN ?_ _ | refine blk_drew ?_ | refine blk_alloc ?_ _)); refine blk_put (cs := #[.int .i64 ((rd_T34 l0 x10_1).f0), .int .i64 0, .string (⟨#[]⟩ : ByteArray), .int .i64 0]) ?_ 1 _ rfl; (with_reducible repeat (first | refine blk_drewN ?_ _ | refine blk_drew ?_ | refine blk_alloc ?_ _)); refine blk_put (cs := #[.int .i64 0, .int .i64 0, .string (⟨#[]⟩ : ByteArray), .int .i64 0]) ?_ 0 _ rfl; (with_reducible repeat (first | refine blk_drewN ?_ _ | refine blk_drew ?_ | refine blk_alloc ?_ _)); exact BK102.out⟩, ⟨by repeat (first | (with_reducible first | exact HB.out | apply below_alloc | apply pw_below_drewN | apply below_drew1 | refine below_set ?_ GE102.out) | exact HB.out)⟩⟩
              · replace c10 := Bool.eq_false_iff.mpr c10
                subst c10
                have H1 : (objf_relocations.j1 k1 l0 a1 l0 (l0.length : Int) x10_1 true ((rd_T34 l0 x10_1).f0) ((rd_T34 l0 x10_1).f1) ((rd_T34 l0 x10_1).f2) ((rd_T34 l0 x10_1).f3)) = some r := by rw [if_neg (show ¬ (false = true) by decide)] at H; exact H
                clear H
                have H := H1
                clear H1
                have H' := Aside0.mk H
                clear H
                have hcz14_0 : w7.cell? ⟨gb102, 0, none⟩ = some (.int .i64 0) := (blk_cell BK102.out 0).trans rfl
                have hcz14_1 : w7.cell? ⟨gb102, 1, none⟩ = some (.int .i64 0) := (blk_cell BK102.out 1).trans rfl
                have hcz14_2 : w7.cell? ⟨gb102, 2, none⟩ = some (.string (⟨#[]⟩ : ByteArray)) := (blk_cell BK102.out 2).trans rfl
                have hcz14_3 : w7.cell? ⟨gb102, 3, none⟩ = some (.int .i64 0) := (blk_cell BK102.out 3).trans rfl
                have hfz14_0 := blk_frozen BK102.out 0
                have hfz14_1 := blk_frozen BK102.out 1
                have hfz14_2 := blk_frozen BK102.out 2
                have hfz14_3 := blk_frozen BK102.out 3
                go_wp2_with (first | ((with_reducible refine gate_callee (f := 100) rfl ?_); refine goesL_ (some 16) rfl rfl Try.func100 (by kernel_rfl) rfl #[.string ((rd_T34 l0 x10_1).f2)] rfl (by (try simp only [List.map_toArray, List.map_cons, List.map_nil]); first | done | rfl | (simp only [List.length_drop, List.length_take]; rfl)) ?_; (with_reducible refine (objf_isName.calls ((rd_T34 l0 x10_1).f2) false _ A9.out).mono ?_); rintro e w' ⟨rfl, ⟨nd, rfl⟩⟩; refine ⟨_, rfl, ?_⟩))
                go_meet
                case rel => exact ⟨_, (true), (by first | rfl | (simp; done) | (simp [*]; done)), H', ⟨by have := HK1.out; first | omega | exact Nat.le_refl _⟩, ⟨by (with_reducible repeat (first | refine blk_drewN ?_ _ | refine blk_drew ?_ | refine blk_alloc ?_ _)); refine blk_put (cs := #[.int .i64 ((rd_T34 l0 x10_1).f0), .int .i64 ((rd_T34 l0 x10_1).f1), .string ((rd_T34 l0 x10_1).f2), .int .i64 0]) ?_ 3 _ rfl; (with_reducible repeat (first | refine blk_drewN ?_ _ | refine blk_drew ?_ | refine blk_alloc ?_ _)); refine blk_put (cs := #[.int .i64 ((rd_T34 l0 x10_1).f0), .int .i64 ((rd_T34 l0 x10_1).f1), .string (⟨#[]⟩ : ByteArray), .int .i64 0]) ?_ 2 _ rfl; (with_reducible repeat (first | refine blk_drewN ?_ _ | refine blk_drew ?_ | refine blk_alloc ?_ _)); refine blk_put (cs := #[.int .i64 ((rd_T34 l0 x10_1).f0), .int .i64 0, .string (⟨#[]⟩ : ByteArray), .int .i64 0]) ?_ 1 _ rfl; (with_reducible repeat (first | refine blk_drewN ?_ _ | refine blk_drew ?_ | refine blk_alloc ?_ _)); refine blk_put (cs := #[.int .i64 0, .int .i64 0, .string (⟨#[]⟩ : ByteArray), .int .i64 0]) ?_ 0 _ rfl; (with_reducible repeat (first | refine blk_drewN ?_ _ | refine blk_drew ?_ | refine blk_alloc ?_ _)); exact BK102.out⟩, ⟨by repeat (first | (with_reducible first | exact HB.out | apply below_alloc | apply pw_below_drewN | apply below_drew1 | refine below_set ?_ GE102.out) | exact HB.out)⟩⟩
            case rest =>
              clear HC6
              try clear c1
              try clear p1
              try clear q1
              try clear hx1
              try clear p2
              try clear c3
              try clear c3b0
              try clear c4
              try clear c4b0
              try clear c5
              try clear c5b0
              try clear c6
              try clear p6
              try clear c10
              try clear p10
              try clear q10
              try clear hx10
              try clear c11
              try clear c11b0
              try clear hcz12_0
              try clear hcz12_1
              try clear hcz12_2
              try clear hcz12_3
              try clear hcz13_0
              try clear hcz13_1
              try clear hcz13_2
              try clear hcz13_3
              try clear hcz14_0
              try clear hcz14_1
              try clear hcz14_2
              try clear hcz14_3
              try clear hcz8_0
              try clear hcz8_1
              try clear hcz8_2
              try clear hcz8_3
              try clear hfz12_0
              try clear hfz12_1
              try clear hfz12_2
              try clear hfz12_3
              try clear hfz13_0
              try clear hfz13_1
              try clear hfz13_2
              try clear hfz13_3
              try clear hfz14_0
              try clear hfz14_1
              try clear hfz14_2
              try clear hfz14_3
              try clear hfz8_0
              try clear hfz8_1
              try clear hfz8_2
              try clear hfz8_3
              try clear hx101_0
              try clear hx101_1
              try clear hx101_2
              try clear hx101_3
              try clear p101
              try clear p2
              try clear q101
              obtain ⟨kq, x30_5, rfl, HA, HJ5, BK102, HB⟩ := hcut
              cases kq with
              | zero => exact absurd HA.out (by simp [objf_relocations.j1])
              | succ kj5 =>
                have H := HA.out
                clear HA
                simp only [objf_relocations.j1] at H
                by_cases c15 : x30_5 = true
                · subst c15
                  have H1 : (some false) = some r := by rw [if_pos rfl] at H; exact H
                  clear H
                  have H := H1
                  clear H1
                  obtain rfl := Option.some.inj H
                  go_wp2
                  go_ret
                  exact ⟨by first | rfl | (simp [errW_none, errW_some] <;> rfl) | (simp [*, errW_none, errW_some] <;> rfl), by repeat (first | (with_reducible first | exact HB.out | apply below_alloc | apply pw_below_drewN | apply below_drew1 | refine below_set ?_ GE102.out) | exact HB.out)⟩
                · replace c15 := Bool.eq_false_iff.mpr c15
                  subst c15
                  have H1 : (if ((rd_T34 l0 x10_1).f1) = 1 then (if ((rd_T34 l0 x10_1).f3) = 0 then (objf_relocations.l0 kj5 l0 a1 (wrap64 (((rd_T34 l0 x10_1).f0) + 4)) l0 (l0.length : Int) (wrap64 (x10_1 + 1))) else (some false)) else (if ((rd_T34 l0 x10_1).f1) = 2 then (if ((rd_T34 l0 x10_1).f3) < (-2147483648) then (some false) else (if ((rd_T34 l0 x10_1).f3) > 2147483647 then (some false) else (objf_relocations.l0 kj5 l0 a1 (wrap64 (((rd_T34 l0 x10_1).f0) + 4)) l0 (l0.length : Int) (wrap64 (x10_1 + 1))))) else (some false))) = some r := by rw [if_neg (show ¬ (false = true) by decide)] at H; exact H
                  clear H
                  have H := H1
                  clear H1
                  by_cases c16 : ((rd_T34 l0 x10_1).f1) = 1
                  · rw [if_pos c16] at H
                    have c16b0 : (((rd_T34 l0 x10_1).f1) == 1) = true := beq_iff_eq.mpr c16
                    have c16b1 : (((rd_T34 l0 x10_1).f1) != 1) = false := bne_eq_false_iff_eq.mpr c16
                    clear c16
                    by_cases c17 : ((rd_T34 l0 x10_1).f3) = 0
                    · rw [if_pos c17] at H
                      have c17b0 : (((rd_T34 l0 x10_1).f3) == 0) = true := beq_iff_eq.mpr c17
                      have c17b1 : (((rd_T34 l0 x10_1).f3) != 0) = false := bne_eq_false_iff_eq.mpr c17
                      clear c17
                      have H' := Aside0.mk H
                      clear H
                      have hcz18_0 : wc.cell? ⟨gb102, 0, none⟩ = some (.int .i64 ((rd_T34 l0 x10_1).f0)) := (blk_cell BK102.out 0).trans rfl
                      have hcz18_1 : wc.cell? ⟨gb102, 1, none⟩ = some (.int .i64 ((rd_T34 l0 x10_1).f1)) := (blk_cell BK102.out 1).trans rfl
                      have hcz18_2 : wc.cell? ⟨gb102, 2, none⟩ = some (.string ((rd_T34 l0 x10_1).f2)) := (blk_cell BK102.out 2).trans rfl
                      have hcz18_3 : wc.cell? ⟨gb102, 3, none⟩ = some (.int .i64 ((rd_T34 l0 x10_1).f3)) := (blk_cell BK102.out 3).trans rfl
                      have hfz18_0 := blk_frozen BK102.out 0
                      have hfz18_1 := blk_frozen BK102.out 1
                      have hfz18_2 := blk_frozen BK102.out 2
                      have hfz18_3 := blk_frozen BK102.out 3
                      go_wp2
                      go_roundg kj5
                      case measure => have := HK1.out; have := HJ5.out; omega
                      case rel => exact ⟨(wrap64 (((rd_T34 l0 x10_1).f0) + 4)), (wrap64 (x10_1 + 1)), (by first | rfl | (simp; done) | (simp [*]; done)), (by first | rfl | (simp; done) | (simp [*]; done)), H', ⟨by have := HK1.out; have := HJ5.out; omega⟩, ⟨by repeat (first | (with_reducible first | exact HB.out | apply below_alloc | apply pw_below_drewN | apply below_drew1 | refine below_set ?_ GE102.out) | exact HB.out)⟩⟩
                    · rw [if_neg c17] at H
                      have c17b0 : (((rd_T34 l0 x10_1).f3) == 0) = false := beq_eq_false_iff_ne.mpr c17
                      have c17b1 : (((rd_T34 l0 x10_1).f3) != 0) = true := bne_iff_ne.mpr c17
                      obtain rfl := Option.some.inj H
                      have hcz19_0 : wc.cell? ⟨gb102, 0, none⟩ = some (.int .i64 ((rd_T34 l0 x10_1).f0)) := (blk_cell BK102.out 0).trans rfl
                      have hcz19_1 : wc.cell? ⟨gb102, 1, none⟩ = some (.int .i64 ((rd_T34 l0 x10_1).f1)) := (blk_cell BK102.out 1).trans rfl
                      have hcz19_2 : wc.cell? ⟨gb102, 2, none⟩ = some (.string ((rd_T34 l0 x10_1).f2)) := (blk_cell BK102.out 2).trans rfl
                      have hcz19_3 : wc.cell? ⟨gb102, 3, none⟩ = some (.int .i64 ((rd_T34 l0 x10_1).f3)) := (blk_cell BK102.out 3).trans rfl
                      have hfz19_0 := blk_frozen BK102.out 0
                      have hfz19_1 := blk_frozen BK102.out 1
                      have hfz19_2 := blk_frozen BK102.out 2
                      have hfz19_3 := blk_frozen BK102.out 3
                      go_wp2
                      go_ret
                      exact ⟨by first | rfl | (simp [errW_none, errW_some] <;> rfl) | (simp [*, errW_none, errW_some] <;> rfl), by repeat (first | (with_reducible first | exact HB.out | apply below_alloc | apply pw_below_drewN | apply below_drew1 | refine below_set ?_ GE102.out) | exact HB.out)⟩
                  · rw [if_neg c16] at H
                    have c16b0 : (((rd_T34 l0 x10_1).f1) == 1) = false := beq_eq_false_iff_ne.mpr c16
                    have c16b1 : (((rd_T34 l0 x10_1).f1) != 1) = true := bne_iff_ne.mpr c16
                    by_cases c20 : ((rd_T34 l0 x10_1).f1) = 2
                    · rw [if_pos c20] at H
                      have c20b0 : (((rd_T34 l0 x10_1).f1) == 2) = true := beq_iff_eq.mpr c20
                      have c20b1 : (((rd_T34 l0 x10_1).f1) != 2) = false := bne_eq_false_iff_eq.mpr c20
                      clear c20
                      by_cases c21 : ((rd_T34 l0 x10_1).f3) < (-2147483648)
                      · rw [if_pos c21] at H
                        have c21b0 : decide (((rd_T34 l0 x10_1).f3) < (-2147483648)) = true := decide_eq_true c21
                        clear c21
                        obtain rfl := Option.some.inj H
                        have hcz22_0 : wc.cell? ⟨gb102, 0, none⟩ = some (.int .i64 ((rd_T34 l0 x10_1).f0)) := (blk_cell BK102.out 0).trans rfl
                        have hcz22_1 : wc.cell? ⟨gb102, 1, none⟩ = some (.int .i64 ((rd_T34 l0 x10_1).f1)) := (blk_cell BK102.out 1).trans rfl
                        have hcz22_2 : wc.cell? ⟨gb102, 2, none⟩ = some (.string ((rd_T34 l0 x10_1).f2)) := (blk_cell BK102.out 2).trans rfl
                        have hcz22_3 : wc.cell? ⟨gb102, 3, none⟩ = some (.int .i64 ((rd_T34 l0 x10_1).f3)) := (blk_cell BK102.out 3).trans rfl
                        have hfz22_0 := blk_frozen BK102.out 0
                        have hfz22_1 := blk_frozen BK102.out 1
                        have hfz22_2 := blk_frozen BK102.out 2
                        have hfz22_3 := blk_frozen BK102.out 3
                        go_wp2
                        go_ret
                        exact ⟨by first | rfl | (simp [errW_none, errW_some] <;> rfl) | (simp [*, errW_none, errW_some] <;> rfl), by repeat (first | (with_reducible first | exact HB.out | apply below_alloc | apply pw_below_drewN | apply below_drew1 | refine below_set ?_ GE102.out) | exact HB.out)⟩
                      · rw [if_neg c21] at H
                        have c21b0 : decide (((rd_T34 l0 x10_1).f3) < (-2147483648)) = false := decide_eq_false c21
                        clear c21
                        by_cases c23 : ((rd_T34 l0 x10_1).f3) > 2147483647
                        · rw [if_pos c23] at H
                          have c23b0 : decide (2147483647 < ((rd_T34 l0 x10_1).f3)) = true := decide_eq_true c23
                          clear c23
                          obtain rfl := Option.some.inj H
                          have hcz24_0 : wc.cell? ⟨gb102, 0, none⟩ = some (.int .i64 ((rd_T34 l0 x10_1).f0)) := (blk_cell BK102.out 0).trans rfl
                          have hcz24_1 : wc.cell? ⟨gb102, 1, none⟩ = some (.int .i64 ((rd_T34 l0 x10_1).f1)) := (blk_cell BK102.out 1).trans rfl
                          have hcz24_2 : wc.cell? ⟨gb102, 2, none⟩ = some (.string ((rd_T34 l0 x10_1).f2)) := (blk_cell BK102.out 2).trans rfl
                          have hcz24_3 : wc.cell? ⟨gb102, 3, none⟩ = some (.int .i64 ((rd_T34 l0 x10_1).f3)) := (blk_cell BK102.out 3).trans rfl
                          have hfz24_0 := blk_frozen BK102.out 0
                          have hfz24_1 := blk_frozen BK102.out 1
                          have hfz24_2 := blk_frozen BK102.out 2
                          have hfz24_3 := blk_frozen BK102.out 3
                          go_wp2
                          go_ret
                          exact ⟨by first | rfl | (simp [errW_none, errW_some] <;> rfl) | (simp [*, errW_none, errW_some] <;> rfl), by repeat (first | (with_reducible first | exact HB.out | apply below_alloc | apply pw_below_drewN | apply below_drew1 | refine below_set ?_ GE102.out) | exact HB.out)⟩
                        · rw [if_neg c23] at H
                          have c23b0 : decide (2147483647 < ((rd_T34 l0 x10_1).f3)) = false := decide_eq_false c23
                          clear c23
                          have H' := Aside0.mk H
                          clear H
                          have hcz25_0 : wc.cell? ⟨gb102, 0, none⟩ = some (.int .i64 ((rd_T34 l0 x10_1).f0)) := (blk_cell BK102.out 0).trans rfl
                          have hcz25_1 : wc.cell? ⟨gb102, 1, none⟩ = some (.int .i64 ((rd_T34 l0 x10_1).f1)) := (blk_cell BK102.out 1).trans rfl
                          have hcz25_2 : wc.cell? ⟨gb102, 2, none⟩ = some (.string ((rd_T34 l0 x10_1).f2)) := (blk_cell BK102.out 2).trans rfl
                          have hcz25_3 : wc.cell? ⟨gb102, 3, none⟩ = some (.int .i64 ((rd_T34 l0 x10_1).f3)) := (blk_cell BK102.out 3).trans rfl
                          have hfz25_0 := blk_frozen BK102.out 0
                          have hfz25_1 := blk_frozen BK102.out 1
                          have hfz25_2 := blk_frozen BK102.out 2
                          have hfz25_3 := blk_frozen BK102.out 3
                          go_wp2
                          go_roundg kj5
                          case measure => have := HK1.out; have := HJ5.out; omega
                          case rel => exact ⟨(wrap64 (((rd_T34 l0 x10_1).f0) + 4)), (wrap64 (x10_1 + 1)), (by first | rfl | (simp; done) | (simp [*]; done)), (by first | rfl | (simp; done) | (simp [*]; done)), H', ⟨by have := HK1.out; have := HJ5.out; omega⟩, ⟨by repeat (first | (with_reducible first | exact HB.out | apply below_alloc | apply pw_below_drewN | apply below_drew1 | refine below_set ?_ GE102.out) | exact HB.out)⟩⟩
                    · rw [if_neg c20] at H
                      have c20b0 : (((rd_T34 l0 x10_1).f1) == 2) = false := beq_eq_false_iff_ne.mpr c20
                      have c20b1 : (((rd_T34 l0 x10_1).f1) != 2) = true := bne_iff_ne.mpr c20
                      obtain rfl := Option.some.inj H
                      have hcz26_0 : wc.cell? ⟨gb102, 0, none⟩ = some (.int .i64 ((rd_T34 l0 x10_1).f0)) := (blk_cell BK102.out 0).trans rfl
                      have hcz26_1 : wc.cell? ⟨gb102, 1, none⟩ = some (.int .i64 ((rd_T34 l0 x10_1).f1)) := (blk_cell BK102.out 1).trans rfl
                      have hcz26_2 : wc.cell? ⟨gb102, 2, none⟩ = some (.string ((rd_T34 l0 x10_1).f2)) := (blk_cell BK102.out 2).trans rfl
                      have hcz26_3 : wc.cell? ⟨gb102, 3, none⟩ = some (.int .i64 ((rd_T34 l0 x10_1).f3)) := (blk_cell BK102.out 3).trans rfl
                      have hfz26_0 := blk_frozen BK102.out 0
                      have hfz26_1 := blk_frozen BK102.out 1
                      have hfz26_2 := blk_frozen BK102.out 2
                      have hfz26_3 := blk_frozen BK102.out 3
                      go_wp2
                      go_ret
                      exact ⟨by first | rfl | (simp [errW_none, errW_some] <;> rfl) | (simp [*, errW_none, errW_some] <;> rfl), by repeat (first | (with_reducible first | exact HB.out | apply below_alloc | apply pw_below_drewN | apply below_drew1 | refine below_set ?_ GE102.out) | exact HB.out)⟩
          · rw [if_neg c5] at H
            exact absurd H (by simp)
        · rw [if_neg c4] at H
          exact absurd H (by simp)
      · rw [if_neg c3] at H
        have c3b0 : decide (x10_1 < (l0.length : Int)) = false := decide_eq_false c3
        clear c3
        obtain rfl := Option.some.inj H
        go_wp2
        go_ret
        exact ⟨by first | rfl | (simp [errW_none, errW_some] <;> rfl) | (simp [*, errW_none, errW_some] <;> rfl), by repeat (first | (with_reducible first | exact HB.out | apply below_alloc | apply pw_below_drewN | apply below_drew1) | exact HB.out)⟩

/-! ### cotterref06_Copy: function 23 -/
def cotterref06_Copy.f (a0_0 : ByteArray) (l0_1 : List Int) (l0_2 : List (S32)) (l0_3 : List (S34)) : Option (ByteArray × List Int × (List (S32)) × (List (S34))) := if ([] : List Int).length + l0_1.length < 17592186044416 then (if ([] : List (S32)).length + l0_2.length < 4398046511104 then (if ([] : List (S34)).length + l0_3.length < 3518437208883 then (some (a0_0, (([] : List Int) ++ l0_1), (([] : List (S32)) ++ l0_2), (([] : List (S34)) ++ l0_3))) else (none)) else (none)) else (none)
set_option maxHeartbeats 8000000 in
set_option maxRecDepth 100000 in
theorem cotterref06_Copy.calls (a0_0 : ByteArray) (A0_1 : Option Addr) (c0_1 : Nat) (l0_1 : List Int) (A0_2 : Option Addr) (c0_2 : Nat) (l0_2 : List (S32)) (A0_3 : Option Addr) (c0_3 : Nat) (l0_3 : List (S34)) (r1 : ByteArray) (r2 : List Int) (r3 : List (S32)) (r4 : List (S34)) (w : World) (hr0_1 : Kd.C (Kd.int .i64) w A0_1 l0_1.length l0_1) (hc0_1 : l0_1.length ≤ c0_1) (hr0_2 : Kd.C k32 w A0_2 l0_2.length l0_2) (hc0_2 : l0_2.length ≤ c0_2) (hr0_3 : Kd.C k34 w A0_3 l0_3.length l0_3) (hc0_3 : l0_3.length ≤ c0_3) (h : cotterref06_Copy.f a0_0 l0_1 l0_2 l0_3 = some (r1, r2, r3, r4)) :
    Calls Try.prog 23 #[.agg #[.string a0_0, .slice A0_1 l0_1.length c0_1, .slice A0_2 l0_2.length c0_2, .slice A0_3 l0_3.length c0_3]] w fun e w' => ∃ v1_ v2_ v3_ : Value, e = .returned (.agg #[.string r1, v1_, v2_, v3_]) ∧ Kd.R (Kd.int .i64) 2 w' w.heap.size (fun _ => True) v1_ r2 ∧ Kd.R k32 32 w' w.heap.size (fun _ => True) v2_ r3 ∧ Kd.R k34 34 w' w.heap.size (fun _ => True) v3_ r4 ∧ Below w.heap.size w w' := by
  have hu30 := Try.underlying30
  have HR0_1 := Aside0.mk hr0_1
  have HC0_1 := Aside0.mk hc0_1
  clear hr0_1 hc0_1
  have HR0_2 := Aside0.mk hr0_2
  have HC0_2 := Aside0.mk hc0_2
  clear hr0_2 hc0_2
  have HR0_3 := Aside0.mk hr0_3
  have HC0_3 := Aside0.mk hc0_3
  clear hr0_3 hc0_3
  have HB := Aside0.mk (Below.refl w.heap.size w)
  have H : (if ([] : List Int).length + l0_1.length < 17592186044416 then (if ([] : List (S32)).length + l0_2.length < 4398046511104 then (if ([] : List (S34)).length + l0_3.length < 3518437208883 then (some (a0_0, (([] : List Int) ++ l0_1), (([] : List (S32)) ++ l0_2), (([] : List (S34)) ++ l0_3))) else (none)) else (none)) else (none)) = some (r1, r2, r3, r4) := h
  clear h
  by_cases c2 : ([] : List Int).length + l0_1.length < 17592186044416
  · rw [if_pos c2] at H
    have LMc2 := Aside0.mk c2
    clear c2
    obtain ⟨y104, hy104⟩ : ∃ y_ : List Int, y_ = (([] : List Int) ++ l0_1) := ⟨_, rfl⟩
    replace H : (if ([] : List (S32)).length + l0_2.length < 4398046511104 then (if ([] : List (S34)).length + l0_3.length < 3518437208883 then (some (a0_0, y104, (([] : List (S32)) ++ l0_2), (([] : List (S34)) ++ l0_3))) else (none)) else (none)) = some (r1, r2, r3, r4) := by first | (rw [hy104]; with_reducible exact H) | (have H2_ := (Option.bind_some _ _).symm.trans H; rw [hy104]; with_reducible exact H2_) | (have H2_ := (Option.bind_some _ _).symm.trans H; with_reducible exact H2_) | with_reducible exact H | (rw [hy104]; exact H) | exact H
    have Ny104 := Aside0.mk hy104
    clear hy104
    by_cases c3 : ([] : List (S32)).length + l0_2.length < 4398046511104
    · rw [if_pos c3] at H
      have LMc3 := Aside0.mk c3
      clear c3
      obtain ⟨y107, hy107⟩ : ∃ y_ : List (S32), y_ = (([] : List (S32)) ++ l0_2) := ⟨_, rfl⟩
      replace H : (if ([] : List (S34)).length + l0_3.length < 3518437208883 then (some (a0_0, y104, y107, (([] : List (S34)) ++ l0_3))) else (none)) = some (r1, r2, r3, r4) := by first | (rw [hy107]; with_reducible exact H) | (have H2_ := (Option.bind_some _ _).symm.trans H; rw [hy107]; with_reducible exact H2_) | (have H2_ := (Option.bind_some _ _).symm.trans H; with_reducible exact H2_) | with_reducible exact H | (rw [hy107]; exact H) | exact H
      have Ny107 := Aside0.mk hy107
      clear hy107
      by_cases c4 : ([] : List (S34)).length + l0_3.length < 3518437208883
      · rw [if_pos c4] at H
        have LMc4 := Aside0.mk c4
        clear c4
        obtain ⟨y110, hy110⟩ : ∃ y_ : List (S34), y_ = (([] : List (S34)) ++ l0_3) := ⟨_, rfl⟩
        replace H : (some (a0_0, y104, y107, y110)) = some (r1, r2, r3, r4) := by first | (rw [hy110]; with_reducible exact H) | (have H2_ := (Option.bind_some _ _).symm.trans H; rw [hy110]; with_reducible exact H2_) | (have H2_ := (Option.bind_some _ _).symm.trans H; with_reducible exact H2_) | with_reducible exact H | (rw [hy110]; exact H) | exact H
        have Ny110 := Aside0.mk hy110
        clear hy110
        simp only [Option.some.injEq, Prod.mk.injEq] at H
        obtain ⟨rfl, rfl, rfl, rfl⟩ := H
        go_enter Try.func23, Try.ntmps23
        go_wp2_with (first | ((with_reducible refine gate_dst (N := 1) rfl ?_); refine box_event ?hg (N := 1) ?hd (cs := #[.string a0_0, .slice A0_1 l0_1.length c0_1, .slice A0_2 l0_2.length c0_2, .slice A0_3 l0_3.length c0_3]) (t := 30) ?hr ?_; (case hd => rfl); (case hg => rfl); (case hr => first | (go_simp; done) | (go_simp; rfl)); intro gb101 hg w5 hbox hb; have n0_ := Aside0.mk (below_step (by repeat (first | (with_reducible first | exact HB.out | apply below_alloc | apply pw_below_drewN | apply below_drew1) | exact HB.out)) hb); have n1_ := Aside0.mk (hbox); have n2_ := Aside0.mk ((by rw [hg]; exact (below_size (by repeat (first | (with_reducible first | exact HB.out | apply below_alloc | apply pw_below_drewN | apply below_drew1) | exact HB.out))) : w.heap.size ≤ gb101)); have n3_ := Aside0.mk ((by rw [hg]; exact (below_size (by repeat (first | (with_reducible first | exact HB.out | apply below_alloc | apply pw_below_drewN | apply below_drew1) | exact HB.out))) : w.heap.size ≤ gb101)); clear HB; have HB := n0_; have BK101 := n1_; have GW101 := n2_; have GE101 := n3_; clear n0_ n1_ n2_ n3_; clear hb hbox hg) | ((with_reducible refine gate_dst (N := 2) rfl ?_); refine box_event ?hg (N := 2) ?hd (cs := #[.string (⟨#[]⟩ : ByteArray), .slice none 0 0, .slice none 0 0, .slice none 0 0]) (t := 30) ?hr ?_; (case hd => rfl); (case hg => rfl); (case hr => first | (go_simp; done) | (go_simp; rfl)); intro gb102 hg w6 hbox hb; have n0_ := Aside0.mk (blk_below (g := gb101) (o := .cells #[.string a0_0, .slice A0_1 l0_1.length c0_1, .slice A0_2 l0_2.length c0_2, .slice A0_3 l0_3.length c0_3] 30 (0, 0)) (by (with_reducible repeat (first | refine blk_drewN ?_ _ | refine blk_drew ?_ | refine blk_alloc ?_ _)); exact BK101.out) hb); have n1_ := Aside0.mk (below_step (by repeat (first | (with_reducible first | exact HB.out | apply below_alloc | apply pw_below_drewN | apply below_drew1 | refine below_set ?_ GE101.out) | exact HB.out)) hb); have n2_ := Aside0.mk (hbox); have n3_ := Aside0.mk ((by rw [hg]; exact (below_size (by repeat (first | (with_reducible first | exact HB.out | apply below_alloc | apply pw_below_drewN | apply below_drew1 | refine below_set ?_ GE101.out) | exact HB.out))) : w.heap.size ≤ gb102)); have n4_ := Aside0.mk ((by rw [hg]; exact (below_size (by repeat (first | (with_reducible first | exact HB.out | apply below_alloc | apply pw_below_drewN | apply below_drew1 | refine below_set ?_ GE101.out) | exact HB.out))) : w.heap.size ≤ gb102)); have n5_ := Aside0.mk ((by rw [hg]; exact Nat.ne_of_lt (blk_lt (g := gb101) (o := .cells #[.string a0_0, .slice A0_1 l0_1.length c0_1, .slice A0_2 l0_2.length c0_2, .slice A0_3 l0_3.length c0_3] 30 (0, 0)) (by (with_reducible repeat (first | refine blk_drewN ?_ _ | refine blk_drew ?_ | refine blk_alloc ?_ _)); exact BK101.out)) : gb101 ≠ gb102)); have n6_ := Aside0.mk ((by rw [hg]; exact Nat.ne_of_gt (blk_lt (g := gb101) (o := .cells #[.string a0_0, .slice A0_1 l0_1.length c0_1, .slice A0_2 l0_2.length c0_2, .slice A0_3 l0_3.length c0_3] 30 (0, 0)) (by (with_reducible repeat (first | refine blk_drewN ?_ _ | refine blk_drew ?_ | refine blk_alloc ?_ _)); exact BK101.out)) : gb102 ≠ gb101)); clear BK101; clear HB; have BK101 := n0_; have HB := n1_; have BK102 := n2_; have GW102 := n3_; have GE102 := n4_; have NB101_102 := n5_; have NB102_101 := n6_; clear n0_ n1_ n2_ n3_ n4_ n5_ n6_; clear hb hbox hg; have hnb7 := NB101_102.out; have hnc7 := NB102_101.out; have hcz8_0 : w6.cell? ⟨gb101, 0, none⟩ = some (.string a0_0) := (blk_cell BK101.out 0).trans rfl; have hcz8_1 : w6.cell? ⟨gb101, 1, none⟩ = some (.slice A0_1 l0_1.length c0_1) := (blk_cell BK101.out 1).trans rfl; have hcz8_2 : w6.cell? ⟨gb101, 2, none⟩ = some (.slice A0_2 l0_2.length c0_2) := (blk_cell BK101.out 2).trans rfl; have hcz8_3 : w6.cell? ⟨gb101, 3, none⟩ = some (.slice A0_3 l0_3.length c0_3) := (blk_cell BK101.out 3).trans rfl; have hfz8_0 := blk_frozen BK101.out 0; have hfz8_1 := blk_frozen BK101.out 1; have hfz8_2 := blk_frozen BK101.out 2; have hfz8_3 := blk_frozen BK101.out 3) | ((with_reducible refine gate_dst (N := 3) rfl ?_); refine box_event ?hg (N := 3) ?hd (cs := #[.string (⟨#[]⟩ : ByteArray), .slice none 0 0, .slice none 0 0, .slice none 0 0]) (t := 30) ?hr ?_; (case hd => rfl); (case hg => rfl); (case hr => first | (go_simp; done) | (go_simp; rfl)); intro gb103 hg w9 hbox hb; have n0_ := Aside0.mk (blk_below (g := gb101) (o := .cells #[.string a0_0, .slice A0_1 l0_1.length c0_1, .slice A0_2 l0_2.length c0_2, .slice A0_3 l0_3.length c0_3] 30 (0, 0)) (by (with_reducible repeat (first | refine blk_drewN ?_ _ | refine blk_drew ?_ | refine blk_alloc ?_ _)); exact BK101.out) hb); have n1_ := Aside0.mk (blk_below (g := gb102) (o := .cells #[.string (⟨#[]⟩ : ByteArray), .slice none 0 0, .slice none 0 0, .slice none 0 0] 30 (0, 0)) (by (with_reducible repeat (first | refine blk_drewN ?_ _ | refine blk_drew ?_ | refine blk_alloc ?_ _)); exact BK102.out) hb); have n2_ := Aside0.mk (below_step (by repeat (first | (with_reducible first | exact HB.out | apply below_alloc | apply pw_below_drewN | apply below_drew1 | refine below_set ?_ GE101.out | refine below_set ?_ GE102.out) | exact HB.out)) hb); have n3_ := Aside0.mk (hbox); have n4_ := Aside0.mk ((by rw [hg]; exact (below_size (by repeat (first | (with_reducible first | exact HB.out | apply below_alloc | apply pw_below_drewN | apply below_drew1 | refine below_set ?_ GE101.out | refine below_set ?_ GE102.out) | exact HB.out))) : w.heap.size ≤ gb103)); have n5_ := Aside0.mk ((by rw [hg]; exact (below_size (by repeat (first | (with_reducible first | exact HB.out | apply below_alloc | apply pw_below_drewN | apply below_drew1 | refine below_set ?_ GE101.out | refine below_set ?_ GE102.out) | exact HB.out))) : w.heap.size ≤ gb103)); have n6_ := Aside0.mk ((by rw [hg]; exact Nat.ne_of_lt (blk_lt (g := gb101) (o := .cells #[.string a0_0, .slice A0_1 l0_1.length c0_1, .slice A0_2 l0_2.length c0_2, .slice A0_3 l0_3.length c0_3] 30 (0, 0)) (by (with_reducible repeat (first | refine blk_drewN ?_ _ | refine blk_drew ?_ | refine blk_alloc ?_ _)); exact BK101.out)) : gb101 ≠ gb103)); have n7_ := Aside0.mk ((by rw [hg]; exact Nat.ne_of_gt (blk_lt (g := gb101) (o := .cells #[.string a0_0, .slice A0_1 l0_1.length c0_1, .slice A0_2 l0_2.length c0_2, .slice A0_3 l0_3.length c0_3] 30 (0, 0)) (by (with_reducible repeat (first | refine blk_drewN ?_ _ | refine blk_drew ?_ | refine blk_alloc ?_ _)); exact BK101.out)) : gb103 ≠ gb101)); have n8_ := Aside0.mk ((by rw [hg]; exact Nat.ne_of_lt (blk_lt (g := gb102) (o := .cells #[.string (⟨#[]⟩ : ByteArray), .slice none 0 0, .slice none 0 0, .slice none 0 0] 30 (0, 0)) (by (with_reducible repeat (first | refine blk_drewN ?_ _ | refine blk_drew ?_ | refine blk_alloc ?_ _)); exact BK102.out)) : gb102 ≠ gb103)); have n9_ := Aside0.mk ((by rw [hg]; exact Nat.ne_of_gt (blk_lt (g := gb102) (o := .cells #[.string (⟨#[]⟩ : ByteArray), .slice none 0 0, .slice none 0 0, .slice none 0 0] 30 (0, 0)) (by (with_reducible repeat (first | refine blk_drewN ?_ _ | refine blk_drew ?_ | refine blk_alloc ?_ _)); exact BK102.out)) : gb103 ≠ gb102)); clear BK101; clear BK102; clear HB; have BK101 := n0_; have BK102 := n1_; have HB := n2_; have BK103 := n3_; have GW103 := n4_; have GE103 := n5_; have NB101_103 := n6_; have NB103_101 := n7_; have NB102_103 := n8_; have NB103_102 := n9_; clear n0_ n1_ n2_ n3_ n4_ n5_ n6_ n7_ n8_ n9_; clear hb hbox hg; have hnb10 := NB103_101.out; have hnc10 := NB101_103.out; have hnb11 := NB103_102.out; have hnc11 := NB102_103.out; have hcz12_0 : w9.cell? ⟨gb103, 0, none⟩ = some (.string (⟨#[]⟩ : ByteArray)) := (blk_cell BK103.out 0).trans rfl; have hcz12_1 : w9.cell? ⟨gb103, 1, none⟩ = some (.slice none 0 0) := (blk_cell BK103.out 1).trans rfl; have hcz12_2 : w9.cell? ⟨gb103, 2, none⟩ = some (.slice none 0 0) := (blk_cell BK103.out 2).trans rfl; have hcz12_3 : w9.cell? ⟨gb103, 3, none⟩ = some (.slice none 0 0) := (blk_cell BK103.out 3).trans rfl; have hfz12_0 := blk_frozen BK103.out 0; have hfz12_1 := blk_frozen BK103.out 1; have hfz12_2 := blk_frozen BK103.out 2; have hfz12_3 := blk_frozen BK103.out 3; have hcz13_0 : w9.cell? ⟨gb101, 0, none⟩ = some (.string a0_0) := (blk_cell BK101.out 0).trans rfl; have hcz13_1 : w9.cell? ⟨gb101, 1, none⟩ = some (.slice A0_1 l0_1.length c0_1) := (blk_cell BK101.out 1).trans rfl; have hcz13_2 : w9.cell? ⟨gb101, 2, none⟩ = some (.slice A0_2 l0_2.length c0_2) := (blk_cell BK101.out 2).trans rfl; have hcz13_3 : w9.cell? ⟨gb101, 3, none⟩ = some (.slice A0_3 l0_3.length c0_3) := (blk_cell BK101.out 3).trans rfl; have hfz13_0 := blk_frozen BK101.out 0; have hfz13_1 := blk_frozen BK101.out 1; have hfz13_2 := blk_frozen BK101.out 2; have hfz13_3 := blk_frozen BK101.out 3) | ((with_reducible refine gate_builtin (b := .append) (xs := #[.tmp 8, .tmp 10]) rfl ?_); at_builtin; refine Kd.R_append_rows (Kd.int .i64) (w0 := w) w.heap.size rfl (.tmp 8) (.tmp 10) 26 2 (.int .i64 0) 8 rfl Try.underlying26 info2 rfl (by decide) (by omega) (.slice none 0 0) ([] : List Int) l0_1 _ _ _ (fun _ => True) (fun _ => False) rfl rfl ?aO ?aR (fun _ _ h => h) (fun _ h => h.elim) ?aF ?aB ?aS ?aL ?_; (case aR => exact Kd.C_below HR0_1.out (by repeat (first | (with_reducible first | exact HB.out | apply below_alloc | apply pw_below_drewN | apply below_drew1 | refine below_set ?_ GE101.out | refine below_set ?_ GE102.out | refine below_set ?_ GE103.out) | exact HB.out))); (case aB => exact (by repeat (first | (with_reducible first | exact HB.out | apply below_alloc | apply pw_below_drewN | apply below_drew1 | refine below_set ?_ GE101.out | refine below_set ?_ GE102.out | refine below_set ?_ GE103.out) | exact HB.out))); (case aF => exact (fun _ _ => trivial)); (case aO => exact ((Kd.R_nil _ _ _ _ (fun _ => True)))); (case aS => exact (below_size (by repeat (first | (with_reducible first | exact HB.out | apply below_alloc | apply pw_below_drewN | apply below_drew1 | refine below_set ?_ GE101.out | refine below_set ?_ GE102.out | refine below_set ?_ GE103.out) | exact HB.out)))); (case aL => have := LMc2.out; omega); intro v105 w14 ho hb hg hat; rw [← Ny104.out] at ho; have n0_ := Aside0.mk (blk_grown (g := gb101) (o := .cells #[.string a0_0, .slice A0_1 l0_1.length c0_1, .slice A0_2 l0_2.length c0_2, .slice A0_3 l0_3.length c0_3] 30 (0, 0)) (by (with_reducible repeat (first | refine blk_drewN ?_ _ | refine blk_drew ?_ | refine blk_alloc ?_ _)); refine blk_far ?_ NB101_103.out _; (with_reducible repeat (first | refine blk_drewN ?_ _ | refine blk_drew ?_ | refine blk_alloc ?_ _)); refine blk_far ?_ NB101_103.out _; (with_reducible repeat (first | refine blk_drewN ?_ _ | refine blk_drew ?_ | refine blk_alloc ?_ _)); refine blk_far ?_ NB101_103.out _; (with_reducible repeat (first | refine blk_drewN ?_ _ | refine blk_drew ?_ | refine blk_alloc ?_ _)); refine blk_far ?_ NB101_103.out _; (with_reducible repeat (first | refine blk_drewN ?_ _ | refine blk_drew ?_ | refine blk_alloc ?_ _)); exact BK101.out) hg (by simp [Value.ownBlock])); have n1_ := Aside0.mk (blk_grown (g := gb102) (o := .cells #[.string (⟨#[]⟩ : ByteArray), .slice none 0 0, .slice none 0 0, .slice none 0 0] 30 (0, 0)) (by (with_reducible repeat (first | refine blk_drewN ?_ _ | refine blk_drew ?_ | refine blk_alloc ?_ _)); refine blk_far ?_ NB102_103.out _; (with_reducible repeat (first | refine blk_drewN ?_ _ | refine blk_drew ?_ | refine blk_alloc ?_ _)); refine blk_far ?_ NB102_103.out _; (with_reducible repeat (first | refine blk_drewN ?_ _ | refine blk_drew ?_ | refine blk_alloc ?_ _)); refine blk_far ?_ NB102_103.out _; (with_reducible repeat (first | refine blk_drewN ?_ _ | refine blk_drew ?_ | refine blk_alloc ?_ _)); refine blk_far ?_ NB102_103.out _; (with_reducible repeat (first | refine blk_drewN ?_ _ | refine blk_drew ?_ | refine blk_alloc ?_ _)); exact BK102.out) hg (by simp [Value.ownBlock])); have n2_ := Aside0.mk (blk_grown (g := gb103) (o := .cells #[.string a0_0, .slice none 0 0, .slice none 0 0, .slice none 0 0] 30 (0, 0)) (by (with_reducible repeat (first | refine blk_drewN ?_ _ | refine blk_drew ?_ | refine blk_alloc ?_ _)); refine blk_put (cs := #[.string a0_0, .slice none 0 0, .slice none 0 0, .slice none 0 0]) ?_ 3 _ rfl; (with_reducible repeat (first | refine blk_drewN ?_ _ | refine blk_drew ?_ | refine blk_alloc ?_ _)); refine blk_put (cs := #[.string a0_0, .slice none 0 0, .slice none 0 0, .slice none 0 0]) ?_ 2 _ rfl; (with_reducible repeat (first | refine blk_drewN ?_ _ | refine blk_drew ?_ | refine blk_alloc ?_ _)); refine blk_put (cs := #[.string a0_0, .slice none 0 0, .slice none 0 0, .slice none 0 0]) ?_ 1 _ rfl; (with_reducible repeat (first | refine blk_drewN ?_ _ | refine blk_drew ?_ | refine blk_alloc ?_ _)); refine blk_put (cs := #[.string (⟨#[]⟩ : ByteArray), .slice none 0 0, .slice none 0 0, .slice none 0 0]) ?_ 0 _ rfl; (with_reducible repeat (first | refine blk_drewN ?_ _ | refine blk_drew ?_ | refine blk_alloc ?_ _)); exact BK103.out) hg (by simp [Value.ownBlock])); have n3_ := Aside0.mk (hb); have n4_ := Aside0.mk (ho); clear BK101; clear BK102; clear BK103; clear HB; have BK101 := n0_; have BK102 := n1_; have BK103 := n2_; have HB := n3_; have HO106 := n4_; clear n0_ n1_ n2_ n3_ n4_; clear ho hb hg hat; obtain ⟨Ao15, co15, eo15⟩ := Kd.R_slice HO106.out; subst eo15; have hcz16_0 : w14.cell? ⟨gb103, 0, none⟩ = some (.string a0_0) := (blk_cell BK103.out 0).trans rfl; have hcz16_1 : w14.cell? ⟨gb103, 1, none⟩ = some (.slice none 0 0) := (blk_cell BK103.out 1).trans rfl; have hcz16_2 : w14.cell? ⟨gb103, 2, none⟩ = some (.slice none 0 0) := (blk_cell BK103.out 2).trans rfl; have hcz16_3 : w14.cell? ⟨gb103, 3, none⟩ = some (.slice none 0 0) := (blk_cell BK103.out 3).trans rfl; have hfz16_0 := blk_frozen BK103.out 0; have hfz16_1 := blk_frozen BK103.out 1; have hfz16_2 := blk_frozen BK103.out 2; have hfz16_3 := blk_frozen BK103.out 3; have hcz17_0 : w14.cell? ⟨gb101, 0, none⟩ = some (.string a0_0) := (blk_cell BK101.out 0).trans rfl; have hcz17_1 : w14.cell? ⟨gb101, 1, none⟩ = some (.slice A0_1 l0_1.length c0_1) := (blk_cell BK101.out 1).trans rfl; have hcz17_2 : w14.cell? ⟨gb101, 2, none⟩ = some (.slice A0_2 l0_2.length c0_2) := (blk_cell BK101.out 2).trans rfl; have hcz17_3 : w14.cell? ⟨gb101, 3, none⟩ = some (.slice A0_3 l0_3.length c0_3) := (blk_cell BK101.out 3).trans rfl; have hfz17_0 := blk_frozen BK101.out 0; have hfz17_1 := blk_frozen BK101.out 1; have hfz17_2 := blk_frozen BK101.out 2; have hfz17_3 := blk_frozen BK101.out 3) | ((with_reducible refine gate_builtin (b := .append) (xs := #[.tmp 14, .tmp 16]) rfl ?_); at_builtin; refine Kd.R_append_rows k32 (w0 := w) w.heap.size rfl (.tmp 14) (.tmp 16) 27 32 (.agg #[(.string ⟨#[]⟩), (.int .i64 0), (.int .i64 0)]) 32 rfl Try.underlying27 info32 rfl (by decide) (by omega) (.slice none 0 0) ([] : List (S32)) l0_2 _ _ _ (fun _ => True) (fun _ => False) rfl rfl ?aO ?aR (fun _ _ h => h) (fun _ h => h.elim) ?aF ?aB ?aS ?aL ?_; (case aR => exact Kd.C_below HR0_2.out (by repeat (first | (with_reducible first | exact HB.out | apply below_alloc | apply pw_below_drewN | apply below_drew1 | refine below_set ?_ GE101.out | refine below_set ?_ GE102.out | refine below_set ?_ GE103.out) | exact HB.out))); (case aB => exact (by repeat (first | (with_reducible first | exact HB.out | apply below_alloc | apply pw_below_drewN | apply below_drew1 | refine below_set ?_ GE101.out | refine below_set ?_ GE102.out | refine below_set ?_ GE103.out) | exact HB.out))); (case aF => exact (fun _ _ => trivial)); (case aO => exact ((Kd.R_nil _ _ _ _ (fun _ => True)))); (case aS => exact (below_size (by repeat (first | (with_reducible first | exact HB.out | apply below_alloc | apply pw_below_drewN | apply below_drew1 | refine below_set ?_ GE101.out | refine below_set ?_ GE102.out | refine below_set ?_ GE103.out) | exact HB.out)))); (case aL => have := LMc3.out; omega); intro v108 w18 ho hb hg hat; rw [← Ny107.out] at ho; have n0_ := Aside0.mk (blk_grown (g := gb101) (o := .cells #[.string a0_0, .slice A0_1 l0_1.length c0_1, .slice A0_2 l0_2.length c0_2, .slice A0_3 l0_3.length c0_3] 30 (0, 0)) (by (with_reducible repeat (first | refine blk_drewN ?_ _ | refine blk_drew ?_ | refine blk_alloc ?_ _)); refine blk_far ?_ NB101_103.out _; (with_reducible repeat (first | refine blk_drewN ?_ _ | refine blk_drew ?_ | refine blk_alloc ?_ _)); exact BK101.out) hg (by simp [Value.ownBlock])); have n1_ := Aside0.mk (blk_grown (g := gb102) (o := .cells #[.string (⟨#[]⟩ : ByteArray), .slice none 0 0, .slice none 0 0, .slice none 0 0] 30 (0, 0)) (by (with_reducible repeat (first | refine blk_drewN ?_ _ | refine blk_drew ?_ | refine blk_alloc ?_ _)); refine blk_far ?_ NB102_103.out _; (with_reducible repeat (first | refine blk_drewN ?_ _ | refine blk_drew ?_ | refine blk_alloc ?_ _)); exact BK102.out) hg (by simp [Value.ownBlock])); have n2_ := Aside0.mk (blk_grown (g := gb103) (o := .cells #[.string a0_0, .slice Ao15 y104.length co15, .slice none 0 0, .slice none 0 0] 30 (0, 0)) (by (with_reducible repeat (first | refine blk_drewN ?_ _ | refine blk_drew ?_ | refine blk_alloc ?_ _)); refine blk_put (cs := #[.string a0_0, .slice none 0 0, .slice none 0 0, .slice none 0 0]) ?_ 1 _ rfl; (with_reducible repeat (first | refine blk_drewN ?_ _ | refine blk_drew ?_ | refine blk_alloc ?_ _)); exact BK103.out) hg (by simp [Value.ownBlock])); have n3_ := Aside0.mk (Kd.R_grown (by (with_reducible repeat (first | apply Kd.R_alloc | apply Kd.R_drewN | apply Kd.R_drew)); exact (Kd.R_mono (Kd.R_far (p := ⟨gb103, 1, none⟩) (Kd.R_types HO106.out BK103.out (by decide)) (fun _ hk => hk.2) (.slice Ao15 y104.length co15)) (fun _ h_ => h_.1))) hg (fun _ _ => by simp [Value.ownBlock])); have n4_ := Aside0.mk (hb); have n5_ := Aside0.mk (ho); clear BK101; clear BK102; clear BK103; clear HO106; clear HB; have BK101 := n0_; have BK102 := n1_; have BK103 := n2_; have HO106 := n3_; have HB := n4_; have HO109 := n5_; clear n0_ n1_ n2_ n3_ n4_ n5_; clear ho hb hg hat; obtain ⟨Ao19, co19, eo19⟩ := Kd.R_slice HO109.out; subst eo19; have hcz20_0 : w18.cell? ⟨gb103, 0, none⟩ = some (.string a0_0) := (blk_cell BK103.out 0).trans rfl; have hcz20_1 : w18.cell? ⟨gb103, 1, none⟩ = some (.slice Ao15 y104.length co15) := (blk_cell BK103.out 1).trans rfl; have hcz20_2 : w18.cell? ⟨gb103, 2, none⟩ = some (.slice none 0 0) := (blk_cell BK103.out 2).trans rfl; have hcz20_3 : w18.cell? ⟨gb103, 3, none⟩ = some (.slice none 0 0) := (blk_cell BK103.out 3).trans rfl; have hfz20_0 := blk_frozen BK103.out 0; have hfz20_1 := blk_frozen BK103.out 1; have hfz20_2 := blk_frozen BK103.out 2; have hfz20_3 := blk_frozen BK103.out 3; have hcz21_0 : w18.cell? ⟨gb101, 0, none⟩ = some (.string a0_0) := (blk_cell BK101.out 0).trans rfl; have hcz21_1 : w18.cell? ⟨gb101, 1, none⟩ = some (.slice A0_1 l0_1.length c0_1) := (blk_cell BK101.out 1).trans rfl; have hcz21_2 : w18.cell? ⟨gb101, 2, none⟩ = some (.slice A0_2 l0_2.length c0_2) := (blk_cell BK101.out 2).trans rfl; have hcz21_3 : w18.cell? ⟨gb101, 3, none⟩ = some (.slice A0_3 l0_3.length c0_3) := (blk_cell BK101.out 3).trans rfl; have hfz21_0 := blk_frozen BK101.out 0; have hfz21_1 := blk_frozen BK101.out 1; have hfz21_2 := blk_frozen BK101.out 2; have hfz21_3 := blk_frozen BK101.out 3) | ((with_reducible refine gate_builtin (b := .append) (xs := #[.tmp 20, .tmp 22]) rfl ?_); at_builtin; refine Kd.R_append_rows k34 (w0 := w) w.heap.size rfl (.tmp 20) (.tmp 22) 28 34 (.agg #[(.int .i64 0), (.int .i64 0), (.string ⟨#[]⟩), (.int .i64 0)]) 40 rfl Try.underlying28 info34 rfl (by decide) (by omega) (.slice none 0 0) ([] : List (S34)) l0_3 _ _ _ (fun _ => True) (fun _ => False) rfl rfl ?aO ?aR (fun _ _ h => h) (fun _ h => h.elim) ?aF ?aB ?aS ?aL ?_; (case aR => exact Kd.C_below HR0_3.out (by repeat (first | (with_reducible first | exact HB.out | apply below_alloc | apply pw_below_drewN | apply below_drew1 | refine below_set ?_ GE101.out | refine below_set ?_ GE102.out | refine below_set ?_ GE103.out) | exact HB.out))); (case aB => exact (by repeat (first | (with_reducible first | exact HB.out | apply below_alloc | apply pw_below_drewN | apply below_drew1 | refine below_set ?_ GE101.out | refine below_set ?_ GE102.out | refine below_set ?_ GE103.out) | exact HB.out))); (case aF => exact (fun _ _ => trivial)); (case aO => exact ((Kd.R_nil _ _ _ _ (fun _ => True)))); (case aS => exact (below_size (by repeat (first | (with_reducible first | exact HB.out | apply below_alloc | apply pw_below_drewN | apply below_drew1 | refine below_set ?_ GE101.out | refine below_set ?_ GE102.out | refine below_set ?_ GE103.out) | exact HB.out)))); (case aL => have := LMc4.out; omega); intro v111 w22 ho hb hg hat; rw [← Ny110.out] at ho; have n0_ := Aside0.mk (blk_grown (g := gb101) (o := .cells #[.string a0_0, .slice A0_1 l0_1.length c0_1, .slice A0_2 l0_2.length c0_2, .slice A0_3 l0_3.length c0_3] 30 (0, 0)) (by (with_reducible repeat (first | refine blk_drewN ?_ _ | refine blk_drew ?_ | refine blk_alloc ?_ _)); refine blk_far ?_ NB101_103.out _; (with_reducible repeat (first | refine blk_drewN ?_ _ | refine blk_drew ?_ | refine blk_alloc ?_ _)); exact BK101.out) hg (by simp [Value.ownBlock])); have n1_ := Aside0.mk (blk_grown (g := gb102) (o := .cells #[.string (⟨#[]⟩ : ByteArray), .slice none 0 0, .slice none 0 0, .slice none 0 0] 30 (0, 0)) (by (with_reducible repeat (first | refine blk_drewN ?_ _ | refine blk_drew ?_ | refine blk_alloc ?_ _)); refine blk_far ?_ NB102_103.out _; (with_reducible repeat (first | refine blk_drewN ?_ _ | refine blk_drew ?_ | refine blk_alloc ?_ _)); exact BK102.out) hg (by simp [Value.ownBlock])); have n2_ := Aside0.mk (blk_grown (g := gb103) (o := .cells #[.string a0_0, .slice Ao15 y104.length co15, .slice Ao19 y107.length co19, .slice none 0 0] 30 (0, 0)) (by (with_reducible repeat (first | refine blk_drewN ?_ _ | refine blk_drew ?_ | refine blk_alloc ?_ _)); refine blk_put (cs := #[.string a0_0, .slice Ao15 y104.length co15, .slice none 0 0, .slice none 0 0]) ?_ 2 _ rfl; (with_reducible repeat (first | refine blk_drewN ?_ _ | refine blk_drew ?_ | refine blk_alloc ?_ _)); exact BK103.out) hg (by simp [Value.ownBlock])); have n3_ := Aside0.mk (Kd.R_grown (by (with_reducible repeat (first | apply Kd.R_alloc | apply Kd.R_drewN | apply Kd.R_drew)); exact (Kd.R_mono (Kd.R_far (p := ⟨gb103, 2, none⟩) (Kd.R_types HO106.out BK103.out (by decide)) (fun _ hk => hk.2) (.slice Ao19 y107.length co19)) (fun _ h_ => h_.1))) hg (fun _ _ => by simp [Value.ownBlock])); have n4_ := Aside0.mk (Kd.R_grown (by (with_reducible repeat (first | apply Kd.R_alloc | apply Kd.R_drewN | apply Kd.R_drew)); exact (Kd.R_mono (Kd.R_far (p := ⟨gb103, 2, none⟩) (Kd.R_types HO109.out BK103.out (by decide)) (fun _ hk => hk.2) (.slice Ao19 y107.length co19)) (fun _ h_ => h_.1))) hg (fun _ _ => by simp [Value.ownBlock])); have n5_ := Aside0.mk (hb); have n6_ := Aside0.mk (ho); clear BK101; clear BK102; clear BK103; clear HO106; clear HO109; clear HB; have BK101 := n0_; have BK102 := n1_; have BK103 := n2_; have HO106 := n3_; have HO109 := n4_; have HB := n5_; have HO112 := n6_; clear n0_ n1_ n2_ n3_ n4_ n5_ n6_; clear ho hb hg hat; obtain ⟨Ao23, co23, eo23⟩ := Kd.R_slice HO112.out; subst eo23; have hcz24_0 : w22.cell? ⟨gb103, 0, none⟩ = some (.string a0_0) := (blk_cell BK103.out 0).trans rfl; have hcz24_1 : w22.cell? ⟨gb103, 1, none⟩ = some (.slice Ao15 y104.length co15) := (blk_cell BK103.out 1).trans rfl; have hcz24_2 : w22.cell? ⟨gb103, 2, none⟩ = some (.slice Ao19 y107.length co19) := (blk_cell BK103.out 2).trans rfl; have hcz24_3 : w22.cell? ⟨gb103, 3, none⟩ = some (.slice none 0 0) := (blk_cell BK103.out 3).trans rfl; have hfz24_0 := blk_frozen BK103.out 0; have hfz24_1 := blk_frozen BK103.out 1; have hfz24_2 := blk_frozen BK103.out 2; have hfz24_3 := blk_frozen BK103.out 3; have hcz25_0 : w22.cell? ⟨gb102, 0, none⟩ = some (.string (⟨#[]⟩ : ByteArray)) := (blk_cell BK102.out 0).trans rfl; have hcz25_1 : w22.cell? ⟨gb102, 1, none⟩ = some (.slice none 0 0) := (blk_cell BK102.out 1).trans rfl; have hcz25_2 : w22.cell? ⟨gb102, 2, none⟩ = some (.slice none 0 0) := (blk_cell BK102.out 2).trans rfl; have hcz25_3 : w22.cell? ⟨gb102, 3, none⟩ = some (.slice none 0 0) := (blk_cell BK102.out 3).trans rfl; have hfz25_0 := blk_frozen BK102.out 0; have hfz25_1 := blk_frozen BK102.out 1; have hfz25_2 := blk_frozen BK102.out 2; have hfz25_3 := blk_frozen BK102.out 3))
        refine bodyPost_ret (results_cell_row rfl _ _ gb102 30 #[.string a0_0, .slice Ao15 y104.length co15, .slice Ao19 y107.length co19, .slice Ao23 y110.length co23] (0, 0) _ rfl (by (with_reducible repeat (first | refine blk_drewN ?_ _ | refine blk_drew ?_ | refine blk_alloc ?_ _)); refine blk_put (cs := #[.string a0_0, .slice Ao15 y104.length co15, .slice Ao19 y107.length co19, .slice none 0 0]) ?_ 3 _ rfl; (with_reducible repeat (first | refine blk_drewN ?_ _ | refine blk_drew ?_ | refine blk_alloc ?_ _)); refine blk_put (cs := #[.string a0_0, .slice Ao15 y104.length co15, .slice none 0 0, .slice none 0 0]) ?_ 2 _ rfl; (with_reducible repeat (first | refine blk_drewN ?_ _ | refine blk_drew ?_ | refine blk_alloc ?_ _)); refine blk_put (cs := #[.string a0_0, .slice none 0 0, .slice none 0 0, .slice none 0 0]) ?_ 1 _ rfl; (with_reducible repeat (first | refine blk_drewN ?_ _ | refine blk_drew ?_ | refine blk_alloc ?_ _)); refine blk_put (cs := #[.string (⟨#[]⟩ : ByteArray), .slice none 0 0, .slice none 0 0, .slice none 0 0]) ?_ 0 _ rfl; (with_reducible repeat (first | refine blk_drewN ?_ _ | refine blk_drew ?_ | refine blk_alloc ?_ _)); refine blk_far ?_ NB102_103.out _; (with_reducible repeat (first | refine blk_drewN ?_ _ | refine blk_drew ?_ | refine blk_alloc ?_ _)); exact BK102.out) Try.underlying30 rfl (by kernel_rfl)) rfl ?_
        exact ⟨_, _, _, by first | rfl | (simp [errW_none, errW_some] <;> rfl) | (simp [*, errW_none, errW_some] <;> rfl), by (with_reducible repeat (first | apply Kd.R_alloc | apply Kd.R_drewN | apply Kd.R_drew)); exact Kd.R_mono (Kd.R_far (p := ⟨gb102, 3, none⟩) (Kd.R_far (p := ⟨gb102, 2, none⟩) (Kd.R_far (p := ⟨gb102, 1, none⟩) (Kd.R_far (p := ⟨gb102, 0, none⟩) (Kd.R_far (p := ⟨gb103, 3, none⟩) (Kd.R_types (Kd.R_types HO106.out BK103.out (by decide)) BK102.out (by decide)) (fun _ hk => hk.1.2) (.slice Ao23 y110.length co23)) (fun _ hk => hk.2) (.string a0_0)) (fun _ hk => hk.2) (.slice Ao15 y104.length co15)) (fun _ hk => hk.2) (.slice Ao19 y107.length co19)) (fun _ hk => hk.2) (.slice Ao23 y110.length co23)) (fun _ hk => trivial), by (with_reducible repeat (first | apply Kd.R_alloc | apply Kd.R_drewN | apply Kd.R_drew)); exact Kd.R_mono (Kd.R_far (p := ⟨gb102, 3, none⟩) (Kd.R_far (p := ⟨gb102, 2, none⟩) (Kd.R_far (p := ⟨gb102, 1, none⟩) (Kd.R_far (p := ⟨gb102, 0, none⟩) (Kd.R_far (p := ⟨gb103, 3, none⟩) (Kd.R_types (Kd.R_types HO109.out BK103.out (by decide)) BK102.out (by decide)) (fun _ hk => hk.1.2) (.slice Ao23 y110.length co23)) (fun _ hk => hk.2) (.string a0_0)) (fun _ hk => hk.2) (.slice Ao15 y104.length co15)) (fun _ hk => hk.2) (.slice Ao19 y107.length co19)) (fun _ hk => hk.2) (.slice Ao23 y110.length co23)) (fun _ hk => trivial), by (with_reducible repeat (first | apply Kd.R_alloc | apply Kd.R_drewN | apply Kd.R_drew)); exact Kd.R_mono (Kd.R_far (p := ⟨gb102, 3, none⟩) (Kd.R_far (p := ⟨gb102, 2, none⟩) (Kd.R_far (p := ⟨gb102, 1, none⟩) (Kd.R_far (p := ⟨gb102, 0, none⟩) (Kd.R_far (p := ⟨gb103, 3, none⟩) (Kd.R_types (Kd.R_types HO112.out BK103.out (by decide)) BK102.out (by decide)) (fun _ hk => hk.1.2) (.slice Ao23 y110.length co23)) (fun _ hk => hk.2) (.string a0_0)) (fun _ hk => hk.2) (.slice Ao15 y104.length co15)) (fun _ hk => hk.2) (.slice Ao19 y107.length co19)) (fun _ hk => hk.2) (.slice Ao23 y110.length co23)) (fun _ hk => trivial), by repeat (first | (with_reducible first | exact HB.out | apply below_alloc | apply pw_below_drewN | apply below_drew1 | refine below_set ?_ GE101.out | refine below_set ?_ GE102.out | refine below_set ?_ GE103.out) | exact HB.out)⟩
      · rw [if_neg c4] at H
        exact absurd H (by simp)
    · rw [if_neg c3] at H
      exact absurd H (by simp)
  · rw [if_neg c2] at H
    exact absurd H (by simp)

end Go.Proofs.Ytochgjeanajoiaa.HA
