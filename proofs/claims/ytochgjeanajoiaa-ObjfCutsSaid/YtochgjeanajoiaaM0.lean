/- Written by hand: what the printed functions of layer word come to, in plain numbers: Put, Bytes at 8. -/
import Derived.Test.YtochgjeanajoiaaHAK
import Derived.Test.YtochgjeanajoiaaHAL0p3
import Derived.Test.YtochgjeanajoiaaHAL0p5
namespace Go.Proofs.Ytochgjeanajoiaa.HA
open Go.RowKit Go.Proofs.YtochgjeanajoiaaW.PrintWords Go.Proofs.YtochgjeanajoiaaW.PrintLast Go.Proofs.YtochgjeanajoiaaW.PrintMore
set_option linter.unusedVariables false
set_option linter.unusedSimpArgs false

def putL (n : Nat) : List Int := if n < 128 then [(n : Int)] else ((n % 128 + 128 : Nat) : Int) :: putL (n / 128)
termination_by n
decreasing_by omega
def putB (n : Nat) : ByteArray := strOfNums (putL n)

theorem putL_lt {n : Nat} (h : n < 128) : putL n = [(n : Int)] := by rw [putL, if_pos h]
theorem putL_ge {n : Nat} (h : ¬ n < 128) : putL n = ((n % 128 + 128 : Nat) : Int) :: putL (n / 128) := by rw [putL, if_neg h]

theorem or128 (a : Fin 256) : Go.bits .or .u8 ((a.val : Nat) : Int) 128 = ((a.val % 128 + 128 : Nat) : Int) := by
  revert a; decide +kernel
theorem or128' (u : Nat) : Go.bits .or .u8 ((u : Int) % 256) 128 = ((u % 128 + 128 : Nat) : Int) := by
  have h := or128 ⟨u % 256, Nat.mod_lt _ (by omega)⟩
  simp only at h
  have e : ((u % 256 : Nat) : Int) = (u : Int) % 256 := by omega
  rw [e] at h
  rw [h]
  congr 1
  omega

theorem word_put_l0 : ∀ (k u : Nat) (x : List Int), u < 128 ^ k → x.length + k ≤ 140737488355328 → 0 < k → word_put.l0 k x (u : Int) = some (x ++ putL u)
  | 0, u, x, _, _, h => absurd h (by omega)
  | k + 1, u, x, hu, hx, _ => by
    simp only [word_put.l0]
    by_cases h : u < 128
    · rw [if_neg (by omega), if_pos (by omega), putL_lt h]
      congr 3
      omega
    · have hk : 0 < k := by
        rcases Nat.eq_zero_or_pos k with rfl | hk
        · simp at hu; omega
        · exact hk
      have hd : u / 128 < 128 ^ k := by
        rw [Nat.pow_succ] at hu
        exact Nat.div_lt_of_lt_mul (by omega)
      rw [if_pos (by omega), if_pos (by omega), or128', show (u : Int) / 128 = ((u / 128 : Nat) : Int) from by omega, word_put_l0 k (u / 128) _ hd (by simp; omega) hk, putL_ge h]
      simp
theorem word_Put_f {u : Int} (h0 : 0 ≤ u) (h1 : u < 18446744073709551616) : word_Put.f 10 u = some (putB u.toNat) := by
  obtain ⟨n, rfl⟩ := Int.eq_ofNat_of_zero_le h0
  unfold word_Put.f word_put.f
  rw [word_put_l0 10 n [] (by omega) (by simp) (by omega)]
  rfl
def le8 (n : Int) : List Int := [n % 256, n / 256 % 256, n / 65536 % 256, n / 16777216 % 256, n / 4294967296 % 256, n / 1099511627776 % 256, n / 281474976710656 % 256, n / 72057594037927936 % 256]
def le8B (n : Int) : ByteArray := strOfNums (le8 n)
theorem shr_eq (n : Int) (j : Nat) (hj : j < 8) : shr .i64 n (wrap64 (8 * (j : Int))) = n / 2 ^ (8 * j) := by
  have e : wrap64 (8 * (j : Int)) = ((8 * j : Nat) : Int) := by unfold wrap64; omega
  rw [e]
  unfold shr
  rw [Int.toNat_natCast, show IntKind.i64.bits = 64 from rfl, Nat.min_eq_left (by omega)]
theorem word_Bytes_l0 (k : Nat) (n : Int) (x : List Int) (j : Nat) (hj : j < 8) (hx : x.length = 8) : word_Bytes.l0 (k + 1) n x 8 (j : Int) = word_Bytes.l0 k n (x.set j (n / 2 ^ (8 * j) % 256)) 8 ((j + 1 : Nat) : Int) := by
  simp only [word_Bytes.l0]
  have e : wrap64 ((j : Int) + 1) = ((j + 1 : Nat) : Int) := by unfold wrap64; omega
  have e8 : wrap64 (8 * (j : Int)) = 8 * (j : Int) := by unfold wrap64; omega
  rw [if_pos (by omega), if_pos (by omega), if_pos (by omega), if_pos (by rw [hx]; omega), shr_eq n j hj, e, Int.toNat_natCast]
theorem word_Bytes_8 (n : Int) : word_Bytes.f 10 n 8 = some (le8B n, 0) := by
  unfold word_Bytes.f
  rw [if_neg (by omega), if_neg (by omega), if_pos rfl]
  simp only [word_Bytes.j0]
  rw [if_pos (by omega), if_pos (by decide)]
  simp only [Option.bind_some, List.length_replicate]
  have l8 : ((Int.toNat 8 : Nat) : Int) = 8 := rfl
  rw [l8, show (0 : Int) = ((0 : Nat) : Int) from rfl]
  rw [word_Bytes_l0 _ _ _ 0 (by omega) (by simp), word_Bytes_l0 _ _ _ 1 (by omega) (by simp), word_Bytes_l0 _ _ _ 2 (by omega) (by simp), word_Bytes_l0 _ _ _ 3 (by omega) (by simp), word_Bytes_l0 _ _ _ 4 (by omega) (by simp), word_Bytes_l0 _ _ _ 5 (by omega) (by simp), word_Bytes_l0 _ _ _ 6 (by omega) (by simp), word_Bytes_l0 _ _ _ 7 (by omega) (by simp)]
  simp only [word_Bytes.l0]
  rw [if_neg (by omega)]
  simp [le8B, le8, List.replicate]
end Go.Proofs.Ytochgjeanajoiaa.HA
