/- Written by hand: word.Number and its reference at eight bytes. -/
import Derived.Test.YtochgjeanajoiaaM0t
namespace Go.Proofs.Ytochgjeanajoiaa.HA
open Go.RowKit Go.Proofs.YtochgjeanajoiaaW.PrintWords Go.Proofs.YtochgjeanajoiaaW.PrintLast Go.Proofs.YtochgjeanajoiaaW.PrintMore
set_option linter.unusedVariables false
set_option linter.unusedSimpArgs false

theorem wrap_i64 (n : Int) : IntKind.i64.wrap n = wrap64 n := by rw [IntKind.wrap_i64]; unfold wrap64; rfl
theorem ofInt_wrap (z : Nat) (hz : z < 18446744073709551616) : (BitVec.ofInt 64 (wrap64 (z : Int))).toNat = z := by
  rw [BitVec.toNat_ofInt]
  have : (wrap64 (z : Int)) % ((2 ^ 64 : Nat) : Int) = (z : Int) := by
    have e : ((2 ^ 64 : Nat) : Int) = 18446744073709551616 := by decide
    rw [e]; unfold wrap64; omega
  rw [this]; rfl
theorem ofInt_nat (x : Nat) (hx : x < 18446744073709551616) : (BitVec.ofInt 64 (x : Int)).toNat = x := by
  rw [BitVec.ofInt_natCast, BitVec.toNat_ofNat]; exact Nat.mod_eq_of_lt (by omega)
theorem or_i64 (x b j : Nat) (hj : j < 8) (hx : x < 2 ^ (8 * j)) (hb : b < 256) (y : Int) (hy : y = ((8 * j : Nat) : Int)) :
    Go.bits .or .i64 (x : Int) (shl .i64 (wrap64 (b : Int)) y) = wrap64 ((x + b * 2 ^ (8 * j) : Nat) : Int) := by
  subst hy
  have hp : 2 ^ (8 * j) ≤ 72057594037927936 := by
    have : 2 ^ (8 * j) ≤ 2 ^ 56 := Nat.pow_le_pow_right (by omega) (by omega)
    omega
  have hq : b * 2 ^ (8 * j) ≤ 255 * 72057594037927936 := Nat.mul_le_mul (by omega) hp
  have e1 : wrap64 (b : Int) = (b : Int) := by clear hx hp hq; unfold wrap64; omega
  have e2 : shl .i64 (b : Int) ((8 * j : Nat) : Int) = wrap64 ((b * 2 ^ (8 * j) : Nat) : Int) := by
    unfold shl
    rw [Int.toNat_natCast, show IntKind.i64.bits = 64 from rfl, Nat.min_eq_left (by omega), wrap_i64]
    push_cast; rfl
  rw [e1, e2]
  have hmod : b * 2 ^ (8 * j) % 2 ^ (8 * j) = 0 := Nat.mul_mod_left _ _
  have hor : x ||| b * 2 ^ (8 * j) = x + b * 2 ^ (8 * j) := by rw [Nat.or_comm, nat_join (8 * j) _ _ hmod hx]; omega
  show IntKind.i64.wrap ((BitVec.ofInt 64 (x : Int) ||| BitVec.ofInt 64 (wrap64 ((b * 2 ^ (8 * j) : Nat) : Int))).toNat : Int) = _
  rw [BitVec.toNat_or, ofInt_nat x (by omega), ofInt_wrap _ (by omega), hor, wrap_i64]
/-- The number of the first j bytes. -/
def sumN (s : ByteArray) : Nat → Nat
  | 0 => 0
  | j + 1 => sumN s j + bn s j * 2 ^ (8 * j)
theorem sumN_lt (s : ByteArray) : ∀ j, sumN s j < 2 ^ (8 * j)
  | 0 => by simp [sumN]
  | j + 1 => by
    have h := sumN_lt s j
    have hb := bn_lt s j
    have e : 2 ^ (8 * (j + 1)) = 256 * 2 ^ (8 * j) := by rw [Nat.mul_add, Nat.pow_add]; omega
    have hq : bn s j * 2 ^ (8 * j) ≤ 255 * 2 ^ (8 * j) := Nat.mul_le_mul_right _ (by omega)
    rw [sumN, e]; omega
theorem wrap_small (x j : Nat) (hj : j < 8) (hx : x < 2 ^ (8 * j)) : wrap64 (x : Int) = (x : Int) := by
  have hp : 2 ^ (8 * j) ≤ 2 ^ 56 := Nat.pow_le_pow_right (by omega) (by omega)
  have : x < 72057594037927936 := by omega
  clear hx hp
  unfold wrap64; omega
theorem word_Number_l0 (s : ByteArray) (hs : s.size = 8) (k j : Nat) (hj : j < 8) : word_Number.l0 (k + 1) s (wrap64 (sumN s j : Int)) 8 (j : Int) = word_Number.l0 k s (wrap64 (sumN s (j + 1) : Int)) 8 ((j + 1 : Nat) : Int) := by
  have hx := sumN_lt s j
  have hb := bn_lt s j
  have e0 := wrap_small (sumN s j) j hj hx
  have e1 : wrap64 ((j : Int) + 1) = ((j + 1 : Nat) : Int) := by clear hx e0; unfold wrap64; omega
  have e8 : wrap64 (8 * (j : Int)) = ((8 * j : Nat) : Int) := by clear hx e0; unfold wrap64; omega
  have c1 : (j : Int) < 8 := by omega
  have c2 : (0 : Int) ≤ (j : Int) := by omega
  have c3 : (j : Int) < (s.size : Int) := by rw [hs]; omega
  have c4 : (0 : Int) ≤ ((8 * j : Nat) : Int) := by omega
  simp only [word_Number.l0]
  rw [if_pos c1, if_pos c2, if_pos c3, e8, if_pos c4, e0, bn_eq, or_i64 (sumN s j) (bn s j) j hj hx hb _ rfl, e1]
  rfl
theorem word_Number_8 (s : ByteArray) (hs : s.size = 8) : word_Number.f 9 s = some (wrap64 (sumN s 8 : Int), 0) := by
  unfold word_Number.f
  rw [hs]
  have e0 : (0 : Int) = wrap64 ((sumN s 0 : Nat) : Int) := by simp [sumN, wrap64]
  have h0 : word_Number.l0 9 s 0 8 ((0 : Nat) : Int) = word_Number.l0 9 s (wrap64 ((sumN s 0 : Nat) : Int)) 8 ((0 : Nat) : Int) := by rw [← e0]
  show word_Number.l0 9 s 0 8 ((0 : Nat) : Int) = _
  rw [h0]
  rw [word_Number_l0 s hs _ 0 (by omega), word_Number_l0 s hs _ 1 (by omega), word_Number_l0 s hs _ 2 (by omega), word_Number_l0 s hs _ 3 (by omega), word_Number_l0 s hs _ 4 (by omega), word_Number_l0 s hs _ 5 (by omega), word_Number_l0 s hs _ 6 (by omega), word_Number_l0 s hs _ 7 (by omega)]
  simp only [word_Number.l0]
  rw [if_neg (by omega), hs, if_neg (by omega), if_neg (by omega), if_pos (by omega)]
end Go.Proofs.Ytochgjeanajoiaa.HA
