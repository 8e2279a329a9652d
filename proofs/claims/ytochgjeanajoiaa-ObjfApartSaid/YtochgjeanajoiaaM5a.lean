/- Written by hand: the plain law of ObjfApart. -/
import Derived.Test.YtochgjeanajoiaaM2l
import Derived.Test.YtochgjeanajoiaaHAL2p4
namespace Go.Proofs.Ytochgjeanajoiaa.HA
open Go.RowKit Go.Proofs.YtochgjeanajoiaaW.PrintWords Go.Proofs.YtochgjeanajoiaaW.PrintLast Go.Proofs.YtochgjeanajoiaaW.PrintMore
set_option linter.unusedVariables false
set_option linter.unusedSimpArgs false

open Classical in
theorem Apart_f (c c' : ByteArray) (d d' : List Int) (y y' : List S32) (r r' : List S34) (hd : ∀ n ∈ d, inI64 n) (hd' : ∀ n ∈ d', inI64 n) : ∃ k, cotterlaw06_ObjfApart.f k c d y r c' d' y' r' = some true := by
  refine ⟨20000, ?_⟩
  have hj : ∀ b : Bool, cotterlaw06_ObjfApart.j0 20000 b c d y r c' d' y' r' = some true := by
    intro b
    obtain ⟨q, hq⟩ : ∃ q, 20000 = q + 2 := ⟨19998, rfl⟩
    rw [hq]
    simp only [cotterlaw06_ObjfApart.j0]
    by_cases hbt : b = true
    · rw [if_pos hbt, live06_f]; rfl
    · rw [if_neg hbt]
      have hl : ∀ (s t : ByteArray), cotterlaw06_ObjfApart.j1 (q + 1) s t true c d y r c' d' y' r' = some true := by
        intro s t
        simp only [cotterlaw06_ObjfApart.j1, if_true]
        rw [live06_f]; rfl
      by_cases hok : checkOk c d y r = true
      · by_cases hok' : checkOk c' d' y' r' = true
        · rw [write_ok hok, write_ok hok']
          simp only [Option.bind_some]
          rw [if_pos trivial]
          simp only [cotterlaw06_ObjfApart.j1]
          rw [if_neg (by decide)]
          have hi := ins_of hok
          have q1 := hi.data; have q2 := hi.nsyms; have q3 := hi.nrels
          rw [Same_f c c' d d' y y' r r' (by omega) (by omega) (by omega) q (by omega)]
          simp only [Option.bind_some]
          rw [live06_f]
          by_cases he : formB c d y r = formB c' d' y' r'
          · obtain ⟨e1, e2, e3, e4⟩ := form_inj hok hd hok' hd' he
            subst e1 e2 e3 e4
            simp
          · have hn : ¬ (c, d, y, r) = (c', d', y', r') := by
              intro h
              simp only [Prod.mk.injEq] at h
              obtain ⟨rfl, rfl, rfl, rfl⟩ := h
              exact he rfl
            have hne : ((formB c d y r).toList == (formB c' d' y' r').toList) = false := by
              rw [beq_eq_false_iff_ne]; exact fun h => he (toList_iff.1 h)
            rw [hne, decide_eq_false hn]
            simp
        · rw [write_ok hok, write_no hok']
          simp only [Option.bind_some]
          rw [if_pos trivial]
          exact hl _ _
      · by_cases hok' : checkOk c' d' y' r' = true
        · rw [write_no hok, write_ok hok']
          simp only [Option.bind_some]
          rw [if_neg (by decide)]
          exact hl _ _
        · rw [write_no hok, write_no hok']
          simp only [Option.bind_some]
          rw [if_neg (by decide)]
          exact hl _ _
  unfold cotterlaw06_ObjfApart.f cotterlaw06_small.f
  simp only [Option.bind_some]
  split
  · exact hj _
  · exact hj _
end Go.Proofs.Ytochgjeanajoiaa.HA
