/- Written by hand: the plain law of ObjfCuts. -/
import Derived.Test.YtochgjeanajoiaaM2l
import Derived.Test.YtochgjeanajoiaaHAL2p3
namespace Go.Proofs.Ytochgjeanajoiaa.HA
open Go.RowKit Go.Proofs.YtochgjeanajoiaaW.PrintWords Go.Proofs.YtochgjeanajoiaaW.PrintLast Go.Proofs.YtochgjeanajoiaaW.PrintMore
set_option linter.unusedVariables false
set_option linter.unusedSimpArgs false

theorem cut_none {c m : ByteArray} {d : List Int} {y : List S32} {r : List S34} (hok : checkOk c d y r = true) (hd : ∀ n ∈ d, inI64 n) (hm : m.size ≤ 1152921504606846976) (x : Int) (hx0 : 0 ≤ x) (hx1 : x < (formB c d y r).size) :
    objf_Read.f ((formB c d y r).extract 0 x.toNat) = some (⟨#[]⟩, [], [], [], 9) ∧ ∃ v, objf_Read.f (formB c d y r ++ m) = some v ∧ (m.size ≠ 0 → v.2.2.2.2 = 9) := by
  have hs := form_small hok
  constructor
  · rw [read_f (by rw [ByteArray.size_extract]; omega), body_cut hok hd (by omega)]; rfl
  · refine ⟨_, read_f (by rw [ByteArray.size_append]; omega), fun h0 => ?_⟩
    rw [body_more hok hd h0]; rfl
theorem Cuts_f (c : ByteArray) (d : List Int) (y : List S32) (r : List S34) (at_ : Int) (m : ByteArray) (hd : ∀ n ∈ d, inI64 n) (ha : inI64 at_) (hm : m.size ≤ 1152921504606846976) : ∃ k, cotterlaw06_ObjfCuts.f k c d y r at_ m = some true := by
  refine ⟨20000, ?_⟩
  unfold cotterlaw06_ObjfCuts.f cotterlaw06_small.f
  simp only [Option.bind_some]
  obtain ⟨q, hq⟩ : ∃ q, 20000 = q + 1 := ⟨19999, rfl⟩
  rw [hq]
  split
  · by_cases hok : checkOk c d y r = true
    · rw [write_ok hok]
      simp only [Option.bind_some]
      have hs := form_small hok
      have hp : 4 ≤ (formB c d y r).size := by
        rw [← form_size, formL_eq]
        have : markL.length = 4 := rfl
        simp only [List.length_append]; omega
      rw [if_pos trivial]
      simp only [cotterlaw06_ObjfCuts.j0]
      rw [if_neg (by rw [Bool.not_eq_true, beq_eq_false_iff_ne]; omega)]
      have key : ∀ z : Int, 0 ≤ z → 0 ≤ Int.tmod z ((formB c d y r).size : Int) ∧ Int.tmod z ((formB c d y r).size : Int) < ((formB c d y r).size : Int) := by
        intro z hz
        rw [Int.tmod_eq_emod_of_nonneg hz]
        exact ⟨Int.emod_nonneg _ (by omega), Int.emod_lt_of_pos _ (by omega)⟩
      by_cases h0 : at_ < 0
      · rw [if_pos h0]
        have hz : 0 ≤ wrap64 (-(wrap64 (at_ + 1))) := by unfold inI64 at ha; unfold wrap64; omega
        obtain ⟨k1, k2⟩ := key _ hz
        obtain ⟨e1, v, e2, e3⟩ := cut_none hok hd hm _ k1 k2
        rw [if_neg (by omega), if_pos k1, if_pos (by omega), e1]
        simp only [Option.bind_some]
        rw [if_pos (by omega), e2]
        simp only [Option.bind_some, live06_f, if_true]
        by_cases hm0 : m.size = 0
        · rw [if_pos (by rw [ByteArray.toList_eq]; exact List.length_eq_zero_iff.1 (by rw [data_length]; exact hm0))]
        · rw [if_pos (e3 hm0)]; split <;> rfl
      · rw [if_neg h0]
        obtain ⟨k1, k2⟩ := key at_ (by omega)
        obtain ⟨e1, v, e2, e3⟩ := cut_none hok hd hm _ k1 k2
        rw [if_neg (by omega), if_pos k1, if_pos (by omega), e1]
        simp only [Option.bind_some]
        rw [if_pos (by omega), e2]
        simp only [Option.bind_some, live06_f, if_true]
        by_cases hm0 : m.size = 0
        · rw [if_pos (by rw [ByteArray.toList_eq]; exact List.length_eq_zero_iff.1 (by rw [data_length]; exact hm0))]
        · rw [if_pos (e3 hm0)]; split <;> rfl
    · rw [write_no hok]
      simp only [Option.bind_some]
      rw [if_neg (by decide)]
      simp only [cotterlaw06_ObjfCuts.j0, if_true]
      rw [if_neg (by decide), live06_f]; rfl
  · rw [live06_f]; rfl
end Go.Proofs.Ytochgjeanajoiaa.HA
