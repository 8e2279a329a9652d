/- Written by hand: what the printed functions of layer word come to, in plain numbers: Put, Bytes at 8. Written by hand: word.Take and its reference come to one plain function; Bytes of the reference at 8. Written by hand: word.Number and its reference at eight bytes. -/
import Derived.Test.YtochgjeanajoiaaHAK
import Derived.Test.YtochgjeanajoiaaHAGWd
import Derived.Laws.BitsAllLaws
namespace Go.Proofs.Ytochgjeanajoiaa.HA
open Go.RowKit Go.Proofs.YtochgjeanajoiaaW.PrintWords Go.Proofs.YtochgjeanajoiaaW.PrintLast Go.Proofs.YtochgjeanajoiaaW.PrintMore
set_option linter.unusedVariables false
set_option linter.unusedSimpArgs false

def putL (n : Nat) : List Int := if n < 128 then [(n : Int)] else ((n % 128 + 128 : Nat) : Int) :: putL (n / 128)
termination_by n
decreasing_by omega
def putB (n : Nat) : ByteArray := strOfNums (putL n)

theorem putL_lt {n : Nat} (h : n < 128) : putL n = [(n : Int)] := by rw [putL, if_pos h]
theorem putL_ge {n : Nat} (h : ¬ n < 128) : putL n = ((n % 128 + 128 : Nat) : Int) :: putL (n / 128) := by rw [putL, if_neg h]

theorem or128 (a : Fin 256) : Go.bits .or .u8 ((a.val : Nat) : Int) 128 = ((a.val % 128 + 128 : Nat) : Int) := by
  revert a; decide +kernel
theorem or128' (u : Nat) : Go.bits .or .u8 ((u : Int) % 256) 128 = ((u % 128 + 128 : Nat) : Int) := by
  have h := or128 ⟨u % 256, Nat.mod_lt _ (by omega)⟩
  simp only at h
  have e : ((u % 256 : Nat) : Int) = (u : Int) % 256 := by omega
  rw [e] at h
  rw [h]
  congr 1
  omega

theorem word_put_l0 : ∀ (k u : Nat) (x : List Int), u < 128 ^ k → x.length + k ≤ 140737488355328 → 0 < k → word_put.l0 k x (u : Int) = some (x ++ putL u)
  | 0, u, x, _, _, h => absurd h (by omega)
  | k + 1, u, x, hu, hx, _ => by
    simp only [word_put.l0]
    by_cases h : u < 128
    · rw [if_neg (by omega), if_pos (by omega), putL_lt h]
      congr 3
      omega
    · have hk : 0 < k := by
        rcases Nat.eq_zero_or_pos k with rfl | hk
        · simp at hu; omega
        · exact hk
      have hd : u / 128 < 128 ^ k := by
        rw [Nat.pow_succ] at hu
        exact Nat.div_lt_of_lt_mul (by omega)
      rw [if_pos (by omega), if_pos (by omega), or128', show (u : Int) / 128 = ((u / 128 : Nat) : Int) from by omega, word_put_l0 k (u / 128) _ hd (by simp; omega) hk, putL_ge h]
      simp
theorem word_Put_f {u : Int} (h0 : 0 ≤ u) (h1 : u < 18446744073709551616) : word_Put.f 10 u = some (putB u.toNat) := by
  obtain ⟨n, rfl⟩ := Int.eq_ofNat_of_zero_le h0
  unfold word_Put.f word_put.f
  rw [word_put_l0 10 n [] (by omega) (by simp) (by omega)]
  rfl
def le8 (n : Int) : List Int := [n % 256, n / 256 % 256, n / 65536 % 256, n / 16777216 % 256, n / 4294967296 % 256, n / 1099511627776 % 256, n / 281474976710656 % 256, n / 72057594037927936 % 256]
def le8B (n : Int) : ByteArray := strOfNums (le8 n)
theorem shr_eq (n : Int) (j : Nat) (hj : j < 8) : shr .i64 n (wrap64 (8 * (j : Int))) = n / 2 ^ (8 * j) := by
  have e : wrap64 (8 * (j : Int)) = ((8 * j : Nat) : Int) := by unfold wrap64; omega
  rw [e]
  unfold shr
  rw [Int.toNat_natCast, show IntKind.i64.bits = 64 from rfl, Nat.min_eq_left (by omega)]
theorem word_Bytes_l0 (k : Nat) (n : Int) (x : List Int) (j : Nat) (hj : j < 8) (hx : x.length = 8) : word_Bytes.l0 (k + 1) n x 8 (j : Int) = word_Bytes.l0 k n (x.set j (n / 2 ^ (8 * j) % 256)) 8 ((j + 1 : Nat) : Int) := by
  simp only [word_Bytes.l0]
  have e : wrap64 ((j : Int) + 1) = ((j + 1 : Nat) : Int) := by unfold wrap64; omega
  have e8 : wrap64 (8 * (j : Int)) = 8 * (j : Int) := by unfold wrap64; omega
  rw [if_pos (by omega), if_pos (by omega), if_pos (by omega), if_pos (by rw [hx]; omega), shr_eq n j hj, e, Int.toNat_natCast]
theorem word_Bytes_8 (n : Int) : word_Bytes.f 10 n 8 = some (le8B n, 0) := by
  unfold word_Bytes.f
  rw [if_neg (by omega), if_neg (by omega), if_pos rfl]
  simp only [word_Bytes.j0]
  rw [if_pos (by omega), if_pos (by decide)]
  simp only [Option.bind_some, List.length_replicate]
  have l8 : ((Int.toNat 8 : Nat) : Int) = 8 := rfl
  rw [l8, show (0 : Int) = ((0 : Nat) : Int) from rfl]
  rw [word_Bytes_l0 _ _ _ 0 (by omega) (by simp), word_Bytes_l0 _ _ _ 1 (by omega) (by simp), word_Bytes_l0 _ _ _ 2 (by omega) (by simp), word_Bytes_l0 _ _ _ 3 (by omega) (by simp), word_Bytes_l0 _ _ _ 4 (by omega) (by simp), word_Bytes_l0 _ _ _ 5 (by omega) (by simp), word_Bytes_l0 _ _ _ 6 (by omega) (by simp), word_Bytes_l0 _ _ _ 7 (by omega) (by simp)]
  simp only [word_Bytes.l0]
  rw [if_neg (by omega)]
  simp [le8B, le8, List.replicate]
end Go.Proofs.Ytochgjeanajoiaa.HA
namespace Go.Proofs.Ytochgjeanajoiaa.HA
open Go.RowKit Go.Proofs.YtochgjeanajoiaaW.PrintWords Go.Proofs.YtochgjeanajoiaaW.PrintLast Go.Proofs.YtochgjeanajoiaaW.PrintMore
set_option linter.unusedVariables false
set_option linter.unusedSimpArgs false

theorem wrap_u64 (n : Int) : IntKind.u64.wrap n = n % 18446744073709551616 := by simp [IntKind.wrap, IntKind.bits, IntKind.signed]
/-- A byte, as a natural number. -/
def bn (s : ByteArray) (i : Nat) : Nat := (bt s (i : Int)).toNat
theorem bn_eq (s : ByteArray) (i : Nat) : bt s (i : Int) = (bn s i : Int) := by have := bt_range s (i : Int); unfold bn; omega
theorem bn_lt (s : ByteArray) (i : Nat) : bn s i < 256 := by have := bt_range s (i : Int); unfold bn; omega

/-- The number that begins at 'a', from its byte i on; m: how many bytes there may still be. -/
def takeG (s : ByteArray) (a : Nat) : Nat → Nat → Nat → Option (Nat × Nat)
  | 0, _, _ => none
  | m + 1, i, u => if a + i < s.size then (if (i = 9 ∧ 1 < bn s (a + i)) ∨ (0 < i ∧ bn s (a + i) = 0) then none else if bn s (a + i) < 128 then some (u + bn s (a + i) * 2 ^ (7 * i), a + i + 1) else takeG s a m (i + 1) (u + (bn s (a + i) - 128) * 2 ^ (7 * i))) else none
def takeR (o : Option (Nat × Nat)) : Option (Int × Int × Int) := match o with | some (u, n) => some ((u : Int), (n : Int), 0) | none => some (0, 0, 9)

theorem and127 (b : Nat) (h : b < 256) : Go.bits .and .u8 (b : Int) 127 = ((b % 128 : Nat) : Int) := by
  have := bits_mask .u8 8 (by decide) wraps_u8 7 (by decide) (b : Int) (by omega) (by omega)
  have e : (2 : Int) ^ 7 - 1 = 127 := by decide
  rw [e] at this
  rw [this]
  omega
theorem pow7 (i : Nat) (h : i ≤ 8) : 2 ^ (7 * i) ≤ 72057594037927936 := by
  have : 2 ^ (7 * i) ≤ 2 ^ 56 := Nat.pow_le_pow_right (by omega) (by omega)
  omega
theorem digit_lt (b i : Nat) (hi : i ≤ 9) (hb : b < 128) (h9 : i = 9 → b ≤ 1) : b * 2 ^ (7 * i) < 18446744073709551616 := by
  by_cases e : i = 9
  · subst e
    have := h9 rfl
    have e2 : 2 ^ (7 * 9) = 9223372036854775808 := by decide
    rw [e2]; omega
  · have h1 := pow7 i (by omega)
    have h2 : b * 2 ^ (7 * i) ≤ 127 * 72057594037927936 := Nat.mul_le_mul (by omega) h1
    omega
theorem shl7 (c i : Nat) (hi : i ≤ 9) (hc : c < 128) (h9 : i = 9 → c ≤ 1) (y : Int) (hy : y = ((7 * i : Nat) : Int)) : shl .u64 (c : Int) y = ((c * 2 ^ (7 * i) : Nat) : Int) := by
  subst hy
  unfold shl
  rw [Int.toNat_natCast, show IntKind.u64.bits = 64 from rfl, Nat.min_eq_left (by omega), wrap_u64]
  have h := digit_lt c i hi hc h9
  have e : (c : Int) * 2 ^ (7 * i) = ((c * 2 ^ (7 * i) : Nat) : Int) := by push_cast; rfl
  rw [e]
  omega
theorem sum_lt (u c i : Nat) (hi : i ≤ 9) (hu : u < 2 ^ (7 * i)) (hc : c < 128) (h9 : i = 9 → c ≤ 1) : u + c * 2 ^ (7 * i) < 18446744073709551616 := by
  by_cases e : i = 9
  · subst e
    have := h9 rfl
    have e2 : 2 ^ (7 * 9) = 9223372036854775808 := by decide
    rw [e2] at *; omega
  · have h1 := pow7 i (by omega)
    have h2 : c * 2 ^ (7 * i) ≤ 127 * 72057594037927936 := Nat.mul_le_mul (by omega) h1
    omega
theorem next_lt (u c i : Nat) (hu : u < 2 ^ (7 * i)) (hc : c < 128) : u + c * 2 ^ (7 * i) < 2 ^ (7 * (i + 1)) := by
  have e : 2 ^ (7 * (i + 1)) = 128 * 2 ^ (7 * i) := by rw [Nat.mul_add, Nat.pow_add]; omega
  rw [e]
  have : c * 2 ^ (7 * i) ≤ 127 * 2 ^ (7 * i) := Nat.mul_le_mul_right _ (by omega)
  omega
theorem or7 (u c i : Nat) (hi : i ≤ 9) (hu : u < 2 ^ (7 * i)) (hc : c < 128) (h9 : i = 9 → c ≤ 1) : Go.bits .or .u64 (u : Int) ((c * 2 ^ (7 * i) : Nat) : Int) = ((u + c * 2 ^ (7 * i) : Nat) : Int) := by
  have h := sum_lt u c i hi hu hc h9
  rw [bits_or_u64_nat u _ (by omega) (by omega)]
  congr 1
  rw [Nat.or_comm, nat_join (7 * i) _ _ (Nat.mul_mod_left _ _) hu]
  omega

theorem take_or (u b i : Nat) (hi : i ≤ 9) (hu : u < 2 ^ (7 * i)) (hb : b < 256) (h9 : i = 9 → b % 128 ≤ 1) :
    Go.bits .or .u64 (u : Int) (shl .u64 (IntKind.u64.wrap (Go.bits .and .u8 (b : Int) 127)) (((7 * i : Nat) : Int))) = ((u + b % 128 * 2 ^ (7 * i) : Nat) : Int) := by
  have e : IntKind.u64.wrap (((b % 128 : Nat) : Int)) = ((b % 128 : Nat) : Int) := by rw [wrap_u64]; omega
  rw [and127 b hb, e, shl7 (b % 128) i hi (Nat.mod_lt _ (by omega)) h9 _ rfl]
  exact or7 u (b % 128) i hi hu (Nat.mod_lt _ (by omega)) h9

theorem word_Take_l0 (s : ByteArray) (a : Nat) (hs : s.size ≤ 4611686018427387904) (ha : a ≤ s.size) : ∀ (m i u : Nat), m + i = 10 → u < 2 ^ (7 * i) → ∀ k, 2 * m + 2 ≤ k → word_Take.l0 k s (a : Int) (u : Int) (i : Int) = takeR (takeG s a m i u)
  | 0, i, u, hm, hu, k, hk => by
    clear hu
    obtain ⟨k, rfl⟩ : ∃ q, k = q + 2 := ⟨k - 2, by omega⟩
    have hw : wrap64 ((a : Int) + (i : Int)) = ((a + i : Nat) : Int) := by unfold wrap64; omega
    simp only [word_Take.l0, word_Take.j2, takeG, takeR, hw]
    by_cases h : a + i < s.size
    · rw [if_pos (by omega), if_pos (by omega), if_pos (by omega)]; simp
    · rw [if_neg (by omega)]
  | m + 1, i, u, hm, hu, k, hk => by
    have HU := Aside0.mk hu
    clear hu
    obtain ⟨k, rfl⟩ : ∃ q, k = q + 2 := ⟨k - 2, by omega⟩
    have hw : wrap64 ((a : Int) + (i : Int)) = ((a + i : Nat) : Int) := by unfold wrap64; omega
    have h7 : wrap64 (7 * (i : Int)) = ((7 * i : Nat) : Int) := by unfold wrap64; omega
    have h1 : wrap64 ((i : Int) + 1) = ((i + 1 : Nat) : Int) := by unfold wrap64; omega
    have hn : wrap64 (((a + i : Nat) : Int) + 1) = ((a + i + 1 : Nat) : Int) := by unfold wrap64; omega
    have hb := bn_lt s (a + i)
    simp only [word_Take.l0, takeG, hw, bn_eq]
    generalize hB : bn s (a + i) = b at *
    by_cases h : a + i < s.size
    · have c1 : ((a + i : Nat) : Int) < (s.size : Int) := by omega
      have c2 : (0 : Int) ≤ ((a + i : Nat) : Int) := by omega
      have c3 : ¬ ((i : Int) > 9) := by omega
      rw [if_pos c1, if_pos c2, if_neg c3, if_pos h]
      have key : ∀ t : Bool, (t = true ↔ ((i = 9 ∧ 1 < b) ∨ (0 < i ∧ b = 0))) → word_Take.j2 (k + 1) s (a : Int) (u : Int) (i : Int) (b : Int) t = takeR (if (i = 9 ∧ 1 < b) ∨ (0 < i ∧ b = 0) then none else if b < 128 then some (u + b * 2 ^ (7 * i), a + i + 1) else takeG s a m (i + 1) (u + (b - 128) * 2 ^ (7 * i))) := by
        intro t ht
        simp only [word_Take.j2]
        by_cases hc : (i = 9 ∧ 1 < b) ∨ (0 < i ∧ b = 0)
        · rw [if_pos (ht.2 hc), if_pos hc]; simp only [takeR]
        · have hi : i ≤ 9 := by omega
          have hd : i = 9 → b % 128 ≤ 1 := by omega
          have h70 : (0 : Int) ≤ ((7 * i : Nat) : Int) := by omega
          rw [if_neg (fun x => hc (ht.1 x)), if_neg hc, h7, if_pos h70, take_or u b i hi HU.out hb hd, hw, hn, h1]
          by_cases h128 : b < 128
          · rw [if_pos (by omega), if_pos h128, Nat.mod_eq_of_lt h128]; simp only [takeR]
          · have e : b % 128 = b - 128 := by omega
            rw [if_neg (by omega), if_neg h128, e]
            exact word_Take_l0 s a hs ha m (i + 1) _ (by omega) (next_lt u _ i HU.out (by omega)) k (by omega)
      by_cases h9 : i = 9
      · rw [if_pos (by omega)]
        by_cases hb1 : 1 < b
        · rw [if_pos (by omega)]; exact key true (by simp [h9, hb1])
        · rw [if_neg (by omega), if_pos (by omega)]; exact key _ (by simp [h9]; omega)
      · rw [if_neg (by omega)]
        by_cases hi0 : 0 < i
        · rw [if_pos (by omega)]; exact key _ (by simp [h9]; omega)
        · rw [if_neg (by omega)]; exact key false (by simp; omega)
    · rw [if_neg (by omega), if_neg h]; simp only [takeR]
theorem word_Take_f (s : ByteArray) (a : Nat) (hs : s.size ≤ 4611686018427387904) (ha : a ≤ s.size) : word_Take.f 30 s (a : Int) = takeR (takeG s a 10 0 0) := by
  unfold word_Take.f
  rw [if_neg (by omega)]
  simp only [word_Take.j0]
  rw [if_neg (by simp; omega)]
  exact word_Take_l0 s a hs ha 10 0 0 rfl (by simp) 29 (by omega)

end Go.Proofs.Ytochgjeanajoiaa.HA
namespace Go.Proofs.Ytochgjeanajoiaa.HA
open Go.RowKit Go.Proofs.YtochgjeanajoiaaW.PrintWords Go.Proofs.YtochgjeanajoiaaW.PrintLast Go.Proofs.YtochgjeanajoiaaW.PrintMore
set_option linter.unusedVariables false
set_option linter.unusedSimpArgs false

theorem wrap_i64 (n : Int) : IntKind.i64.wrap n = wrap64 n := by rw [IntKind.wrap_i64]; unfold wrap64; rfl
theorem ofInt_wrap (z : Nat) (hz : z < 18446744073709551616) : (BitVec.ofInt 64 (wrap64 (z : Int))).toNat = z := by
  rw [BitVec.toNat_ofInt]
  have : (wrap64 (z : Int)) % ((2 ^ 64 : Nat) : Int) = (z : Int) := by
    have e : ((2 ^ 64 : Nat) : Int) = 18446744073709551616 := by decide
    rw [e]; unfold wrap64; omega
  rw [this]; rfl
theorem ofInt_nat (x : Nat) (hx : x < 18446744073709551616) : (BitVec.ofInt 64 (x : Int)).toNat = x := by
  rw [BitVec.ofInt_natCast, BitVec.toNat_ofNat]; exact Nat.mod_eq_of_lt (by omega)
theorem or_i64 (x b j : Nat) (hj : j < 8) (hx : x < 2 ^ (8 * j)) (hb : b < 256) (y : Int) (hy : y = ((8 * j : Nat) : Int)) :
    Go.bits .or .i64 (x : Int) (shl .i64 (wrap64 (b : Int)) y) = wrap64 ((x + b * 2 ^ (8 * j) : Nat) : Int) := by
  subst hy
  have hp : 2 ^ (8 * j) ≤ 72057594037927936 := by
    have : 2 ^ (8 * j) ≤ 2 ^ 56 := Nat.pow_le_pow_right (by omega) (by omega)
    omega
  have hq : b * 2 ^ (8 * j) ≤ 255 * 72057594037927936 := Nat.mul_le_mul (by omega) hp
  have e1 : wrap64 (b : Int) = (b : Int) := by clear hx hp hq; unfold wrap64; omega
  have e2 : shl .i64 (b : Int) ((8 * j : Nat) : Int) = wrap64 ((b * 2 ^ (8 * j) : Nat) : Int) := by
    unfold shl
    rw [Int.toNat_natCast, show IntKind.i64.bits = 64 from rfl, Nat.min_eq_left (by omega), wrap_i64]
    push_cast; rfl
  rw [e1, e2]
  have hmod : b * 2 ^ (8 * j) % 2 ^ (8 * j) = 0 := Nat.mul_mod_left _ _
  have hor : x ||| b * 2 ^ (8 * j) = x + b * 2 ^ (8 * j) := by rw [Nat.or_comm, nat_join (8 * j) _ _ hmod hx]; omega
  show IntKind.i64.wrap ((BitVec.ofInt 64 (x : Int) ||| BitVec.ofInt 64 (wrap64 ((b * 2 ^ (8 * j) : Nat) : Int))).toNat : Int) = _
  rw [BitVec.toNat_or, ofInt_nat x (by omega), ofInt_wrap _ (by omega), hor, wrap_i64]
/-- The number of the first j bytes. -/
def sumN (s : ByteArray) : Nat → Nat
  | 0 => 0
  | j + 1 => sumN s j + bn s j * 2 ^ (8 * j)
theorem sumN_lt (s : ByteArray) : ∀ j, sumN s j < 2 ^ (8 * j)
  | 0 => by simp [sumN]
  | j + 1 => by
    have h := sumN_lt s j
    have hb := bn_lt s j
    have e : 2 ^ (8 * (j + 1)) = 256 * 2 ^ (8 * j) := by rw [Nat.mul_add, Nat.pow_add]; omega
    have hq : bn s j * 2 ^ (8 * j) ≤ 255 * 2 ^ (8 * j) := Nat.mul_le_mul_right _ (by omega)
    rw [sumN, e]; omega
theorem wrap_small (x j : Nat) (hj : j < 8) (hx : x < 2 ^ (8 * j)) : wrap64 (x : Int) = (x : Int) := by
  have hp : 2 ^ (8 * j) ≤ 2 ^ 56 := Nat.pow_le_pow_right (by omega) (by omega)
  have : x < 72057594037927936 := by omega
  clear hx hp
  unfold wrap64; omega
theorem word_Number_l0 (s : ByteArray) (hs : s.size = 8) (k j : Nat) (hj : j < 8) : word_Number.l0 (k + 1) s (wrap64 (sumN s j : Int)) 8 (j : Int) = word_Number.l0 k s (wrap64 (sumN s (j + 1) : Int)) 8 ((j + 1 : Nat) : Int) := by
  have hx := sumN_lt s j
  have hb := bn_lt s j
  have e0 := wrap_small (sumN s j) j hj hx
  have e1 : wrap64 ((j : Int) + 1) = ((j + 1 : Nat) : Int) := by clear hx e0; unfold wrap64; omega
  have e8 : wrap64 (8 * (j : Int)) = ((8 * j : Nat) : Int) := by clear hx e0; unfold wrap64; omega
  have c1 : (j : Int) < 8 := by omega
  have c2 : (0 : Int) ≤ (j : Int) := by omega
  have c3 : (j : Int) < (s.size : Int) := by rw [hs]; omega
  have c4 : (0 : Int) ≤ ((8 * j : Nat) : Int) := by omega
  simp only [word_Number.l0]
  rw [if_pos c1, if_pos c2, if_pos c3, e8, if_pos c4, e0, bn_eq, or_i64 (sumN s j) (bn s j) j hj hx hb _ rfl, e1]
  rfl
theorem word_Number_8 (s : ByteArray) (hs : s.size = 8) : word_Number.f 9 s = some (wrap64 (sumN s 8 : Int), 0) := by
  unfold word_Number.f
  rw [hs]
  have e0 : (0 : Int) = wrap64 ((sumN s 0 : Nat) : Int) := by simp [sumN, wrap64]
  have h0 : word_Number.l0 9 s 0 8 ((0 : Nat) : Int) = word_Number.l0 9 s (wrap64 ((sumN s 0 : Nat) : Int)) 8 ((0 : Nat) : Int) := by rw [← e0]
  show word_Number.l0 9 s 0 8 ((0 : Nat) : Int) = _
  rw [h0]
  rw [word_Number_l0 s hs _ 0 (by omega), word_Number_l0 s hs _ 1 (by omega), word_Number_l0 s hs _ 2 (by omega), word_Number_l0 s hs _ 3 (by omega), word_Number_l0 s hs _ 4 (by omega), word_Number_l0 s hs _ 5 (by omega), word_Number_l0 s hs _ 6 (by omega), word_Number_l0 s hs _ 7 (by omega)]
  simp only [word_Number.l0]
  rw [if_neg (by omega), hs, if_neg (by omega), if_neg (by omega), if_pos (by omega)]
end Go.Proofs.Ytochgjeanajoiaa.HA
