/- Written by hand: the plain law of ObjfBack. -/
import Derived.Test.YtochgjeanajoiaaM2l
import Derived.Test.YtochgjeanajoiaaHAL2p2
namespace Go.Proofs.Ytochgjeanajoiaa.HA
open Go.RowKit Go.Proofs.YtochgjeanajoiaaW.PrintWords Go.Proofs.YtochgjeanajoiaaW.PrintLast Go.Proofs.YtochgjeanajoiaaW.PrintMore
set_option linter.unusedVariables false
set_option linter.unusedSimpArgs false

theorem Back_j1 (s : ByteArray) (hs : s.size ≤ 5000) (k : Nat) (hk : 6 ≤ k) : cotterlaw06_ObjfBack.j1 k s = some true := by
  obtain ⟨q, rfl⟩ : ∃ q, k = q + 1 := ⟨k - 1, by omega⟩
  simp only [cotterlaw06_ObjfBack.j1]
  rw [read_f (by omega), live06_f]
  simp only [Option.bind_some]
  rcases h : pBody s with _ | ⟨c, d, y, r⟩
  · simp [readR]
  · obtain ⟨h1, h2, h3⟩ := body_inv h
    simp only [readR]
    rw [if_pos trivial, write_ok h1]
    simp only [Option.bind_some]
    rw [if_pos trivial, h3, if_pos rfl]
theorem Back_f (c : ByteArray) (d : List Int) (y : List S32) (r : List S34) (s : ByteArray) (hd : ∀ n ∈ d, inI64 n) : ∃ k, cotterlaw06_ObjfBack.f k c d y r s = some true := by
  refine ⟨20000, ?_⟩
  unfold cotterlaw06_ObjfBack.f cotterlaw06_small.f
  simp only [Option.bind_some]
  have hj : ∀ b : Bool, (b = false → s.size ≤ 5000) → cotterlaw06_ObjfBack.j0 20000 s b c d y r = some true := by
    intro b hb
    obtain ⟨q, hq⟩ : ∃ q, 20000 = q + 1 := ⟨19999, rfl⟩
    rw [hq]
    simp only [cotterlaw06_ObjfBack.j0]
    by_cases hbt : b = true
    · rw [if_pos hbt, live06_f]; rfl
    · rw [if_neg hbt]
      have hs := hb (by simpa using hbt)
      by_cases hok : checkOk c d y r = true
      · rw [write_ok hok]
        simp only [Option.bind_some]
        rw [if_pos trivial, read_form hok hd]
        simp only [Option.bind_some]
        have hi := ins_of hok
        have q1 := hi.data; have q2 := hi.nsyms; have q3 := hi.nrels
        rw [if_pos trivial, Same_f c c d d y y r r (by omega) (by omega) (by omega) q (by omega), Back_j1 s hs q (by omega)]
        simp
      · rw [write_no hok]
        simp only [Option.bind_some]
        rw [if_neg (by decide), Back_j1 s hs q (by omega)]
  split
  · exact hj _ (fun h => by have := of_decide_eq_false h; omega)
  · exact hj _ (fun h => by cases h)
end Go.Proofs.Ytochgjeanajoiaa.HA
