/- Written by hand: the reference's Put, Bytes in the same plain words. -/
import Derived.Test.YtochgjeanajoiaaM0n
import Derived.Test.YtochgjeanajoiaaHAGRw
namespace Go.Proofs.Ytochgjeanajoiaa.HA
open Go.RowKit Go.Proofs.YtochgjeanajoiaaW.PrintWords Go.Proofs.YtochgjeanajoiaaW.PrintLast Go.Proofs.YtochgjeanajoiaaW.PrintMore
set_option linter.unusedVariables false
set_option linter.unusedSimpArgs false

theorem ref_Put_l0 : ∀ (k u : Nat) (x : List Int), u < 128 ^ k → u < 18446744073709551616 → x.length + k ≤ 140737488355328 → 0 < k → cotterref01_Put.l0 k (u : Int) x = some (strOfNums (x ++ putL u))
  | 0, u, x, _, _, _, h => absurd h (by omega)
  | k + 1, u, x, hu, hm, hx, _ => by
    simp only [cotterref01_Put.l0]
    by_cases h : u < 128
    · rw [if_neg (by omega), if_pos (by omega), putL_lt h]
      congr 4
      omega
    · have hk : 0 < k := by
        rcases Nat.eq_zero_or_pos k with rfl | hk
        · simp at hu; omega
        · exact hk
      have hd : u / 128 < 128 ^ k := by
        rw [Nat.pow_succ] at hu
        exact Nat.div_lt_of_lt_mul (by omega)
      have e1 : IntKind.u64.wrap (Int.tdiv (u : Int) 128) = ((u / 128 : Nat) : Int) := by
        rw [Int.tdiv_eq_ediv_of_nonneg (by omega)]
        simp only [IntKind.wrap, IntKind.bits, IntKind.signed]
        simp
        omega
      have e2 : (IntKind.u64.wrap ((Int.tmod (u : Int) 128) + 128)) % 256 = ((u % 128 + 128 : Nat) : Int) := by
        rw [Int.tmod_eq_emod_of_nonneg (by omega)]
        simp only [IntKind.wrap, IntKind.bits, IntKind.signed]
        simp
        omega
      rw [if_pos (by omega), if_pos (by omega), e1, e2, ref_Put_l0 k (u / 128) _ hd (by omega) (by simp; omega) hk, putL_ge h]
      simp
theorem ref_Put_f {u : Int} (h0 : 0 ≤ u) (h1 : u < 18446744073709551616) : cotterref01_Put.f 10 u = some (putB u.toNat) := by
  obtain ⟨n, rfl⟩ := Int.eq_ofNat_of_zero_le h0
  unfold cotterref01_Put.f
  rw [ref_Put_l0 10 n [] (by omega) (by omega) (by simp) (by omega)]
  rfl
theorem ref_Bytes_l0 (k : Nat) (x : List Int) (u : Int) (j : Nat) (hj : j < 8) (hx : x.length = j) (h0 : 0 ≤ u) (h1 : u < 18446744073709551616) :
    cotterref01_Bytes.l0 (k + 1) 8 x u (j : Int) = cotterref01_Bytes.l0 k 8 (x ++ [u % 256]) (u / 256) ((j + 1 : Nat) : Int) := by
  simp only [cotterref01_Bytes.l0]
  have e : wrap64 ((j : Int) + 1) = ((j + 1 : Nat) : Int) := by unfold wrap64; omega
  rw [if_pos (by omega), if_pos (by omega), e, Int.tmod_eq_emod_of_nonneg h0, Int.tdiv_eq_ediv_of_nonneg h0, wrap_u64, show u % 256 % 256 = u % 256 from by omega, show u / 256 % 18446744073709551616 = u / 256 from by omega]
theorem ref_Bytes_8 (n : Int) : cotterref01_Bytes.f 10 n 8 = some (le8B n, 0) := by
  unfold cotterref01_Bytes.f
  have hs : cotterref01_sized.f 8 = some true := by rfl
  rw [hs]
  simp only [Option.bind_some, if_true]
  rw [if_neg (by omega)]
  simp only [cotterref01_Bytes.j0]
  rw [wrap_u64, show (0 : Int) = ((0 : Nat) : Int) from rfl]
  rw [ref_Bytes_l0 _ _ _ 0 (by omega) rfl (by omega) (by omega), ref_Bytes_l0 _ _ _ 1 (by omega) rfl (by omega) (by omega), ref_Bytes_l0 _ _ _ 2 (by omega) rfl (by omega) (by omega), ref_Bytes_l0 _ _ _ 3 (by omega) rfl (by omega) (by omega),
    ref_Bytes_l0 _ _ _ 4 (by omega) rfl (by omega) (by omega), ref_Bytes_l0 _ _ _ 5 (by omega) rfl (by omega) (by omega), ref_Bytes_l0 _ _ _ 6 (by omega) rfl (by omega) (by omega), ref_Bytes_l0 _ _ _ 7 (by omega) rfl (by omega) (by omega)]
  simp only [cotterref01_Bytes.l0]
  rw [if_neg (by omega)]
  simp only [le8B, le8, List.nil_append, List.cons_append]
  congr 3
  congr 1
  · omega
  congr 1
  · omega
  congr 1
  · omega
  congr 1
  · omega
  congr 1
  · omega
  congr 1
  · omega
  congr 1
  · omega
  congr 1
  omega

end Go.Proofs.Ytochgjeanajoiaa.HA
