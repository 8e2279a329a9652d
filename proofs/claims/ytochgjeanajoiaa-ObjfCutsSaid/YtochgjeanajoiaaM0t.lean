/- Written by hand: word.Take and its reference come to one plain function; Bytes of the reference at 8. -/
import Derived.Test.YtochgjeanajoiaaM0
import Derived.Laws.BitsAllLaws
namespace Go.Proofs.Ytochgjeanajoiaa.HA
open Go.RowKit Go.Proofs.YtochgjeanajoiaaW.PrintWords Go.Proofs.YtochgjeanajoiaaW.PrintLast Go.Proofs.YtochgjeanajoiaaW.PrintMore
set_option linter.unusedVariables false
set_option linter.unusedSimpArgs false

theorem wrap_u64 (n : Int) : IntKind.u64.wrap n = n % 18446744073709551616 := by simp [IntKind.wrap, IntKind.bits, IntKind.signed]
/-- A byte, as a natural number. -/
def bn (s : ByteArray) (i : Nat) : Nat := (bt s (i : Int)).toNat
theorem bn_eq (s : ByteArray) (i : Nat) : bt s (i : Int) = (bn s i : Int) := by have := bt_range s (i : Int); unfold bn; omega
theorem bn_lt (s : ByteArray) (i : Nat) : bn s i < 256 := by have := bt_range s (i : Int); unfold bn; omega

/-- The number that begins at 'a', from its byte i on; m: how many bytes there may still be. -/
def takeG (s : ByteArray) (a : Nat) : Nat → Nat → Nat → Option (Nat × Nat)
  | 0, _, _ => none
  | m + 1, i, u => if a + i < s.size then (if (i = 9 ∧ 1 < bn s (a + i)) ∨ (0 < i ∧ bn s (a + i) = 0) then none else if bn s (a + i) < 128 then some (u + bn s (a + i) * 2 ^ (7 * i), a + i + 1) else takeG s a m (i + 1) (u + (bn s (a + i) - 128) * 2 ^ (7 * i))) else none
def takeR (o : Option (Nat × Nat)) : Option (Int × Int × Int) := match o with | some (u, n) => some ((u : Int), (n : Int), 0) | none => some (0, 0, 9)

theorem and127 (b : Nat) (h : b < 256) : Go.bits .and .u8 (b : Int) 127 = ((b % 128 : Nat) : Int) := by
  have := bits_mask .u8 8 (by decide) wraps_u8 7 (by decide) (b : Int) (by omega) (by omega)
  have e : (2 : Int) ^ 7 - 1 = 127 := by decide
  rw [e] at this
  rw [this]
  omega
theorem pow7 (i : Nat) (h : i ≤ 8) : 2 ^ (7 * i) ≤ 72057594037927936 := by
  have : 2 ^ (7 * i) ≤ 2 ^ 56 := Nat.pow_le_pow_right (by omega) (by omega)
  omega
theorem digit_lt (b i : Nat) (hi : i ≤ 9) (hb : b < 128) (h9 : i = 9 → b ≤ 1) : b * 2 ^ (7 * i) < 18446744073709551616 := by
  by_cases e : i = 9
  · subst e
    have := h9 rfl
    have e2 : 2 ^ (7 * 9) = 9223372036854775808 := by decide
    rw [e2]; omega
  · have h1 := pow7 i (by omega)
    have h2 : b * 2 ^ (7 * i) ≤ 127 * 72057594037927936 := Nat.mul_le_mul (by omega) h1
    omega
theorem shl7 (c i : Nat) (hi : i ≤ 9) (hc : c < 128) (h9 : i = 9 → c ≤ 1) (y : Int) (hy : y = ((7 * i : Nat) : Int)) : shl .u64 (c : Int) y = ((c * 2 ^ (7 * i) : Nat) : Int) := by
  subst hy
  unfold shl
  rw [Int.toNat_natCast, show IntKind.u64.bits = 64 from rfl, Nat.min_eq_left (by omega), wrap_u64]
  have h := digit_lt c i hi hc h9
  have e : (c : Int) * 2 ^ (7 * i) = ((c * 2 ^ (7 * i) : Nat) : Int) := by push_cast; rfl
  rw [e]
  omega
theorem sum_lt (u c i : Nat) (hi : i ≤ 9) (hu : u < 2 ^ (7 * i)) (hc : c < 128) (h9 : i = 9 → c ≤ 1) : u + c * 2 ^ (7 * i) < 18446744073709551616 := by
  by_cases e : i = 9
  · subst e
    have := h9 rfl
    have e2 : 2 ^ (7 * 9) = 9223372036854775808 := by decide
    rw [e2] at *; omega
  · have h1 := pow7 i (by omega)
    have h2 : c * 2 ^ (7 * i) ≤ 127 * 72057594037927936 := Nat.mul_le_mul (by omega) h1
    omega
theorem next_lt (u c i : Nat) (hu : u < 2 ^ (7 * i)) (hc : c < 128) : u + c * 2 ^ (7 * i) < 2 ^ (7 * (i + 1)) := by
  have e : 2 ^ (7 * (i + 1)) = 128 * 2 ^ (7 * i) := by rw [Nat.mul_add, Nat.pow_add]; omega
  rw [e]
  have : c * 2 ^ (7 * i) ≤ 127 * 2 ^ (7 * i) := Nat.mul_le_mul_right _ (by omega)
  omega
theorem or7 (u c i : Nat) (hi : i ≤ 9) (hu : u < 2 ^ (7 * i)) (hc : c < 128) (h9 : i = 9 → c ≤ 1) : Go.bits .or .u64 (u : Int) ((c * 2 ^ (7 * i) : Nat) : Int) = ((u + c * 2 ^ (7 * i) : Nat) : Int) := by
  have h := sum_lt u c i hi hu hc h9
  rw [bits_or_u64_nat u _ (by omega) (by omega)]
  congr 1
  rw [Nat.or_comm, nat_join (7 * i) _ _ (Nat.mul_mod_left _ _) hu]
  omega

theorem take_or (u b i : Nat) (hi : i ≤ 9) (hu : u < 2 ^ (7 * i)) (hb : b < 256) (h9 : i = 9 → b % 128 ≤ 1) :
    Go.bits .or .u64 (u : Int) (shl .u64 (IntKind.u64.wrap (Go.bits .and .u8 (b : Int) 127)) (((7 * i : Nat) : Int))) = ((u + b % 128 * 2 ^ (7 * i) : Nat) : Int) := by
  have e : IntKind.u64.wrap (((b % 128 : Nat) : Int)) = ((b % 128 : Nat) : Int) := by rw [wrap_u64]; omega
  rw [and127 b hb, e, shl7 (b % 128) i hi (Nat.mod_lt _ (by omega)) h9 _ rfl]
  exact or7 u (b % 128) i hi hu (Nat.mod_lt _ (by omega)) h9

theorem word_Take_l0 (s : ByteArray) (a : Nat) (hs : s.size ≤ 4611686018427387904) (ha : a ≤ s.size) : ∀ (m i u : Nat), m + i = 10 → u < 2 ^ (7 * i) → ∀ k, 2 * m + 2 ≤ k → word_Take.l0 k s (a : Int) (u : Int) (i : Int) = takeR (takeG s a m i u)
  | 0, i, u, hm, hu, k, hk => by
    clear hu
    obtain ⟨k, rfl⟩ : ∃ q, k = q + 2 := ⟨k - 2, by omega⟩
    have hw : wrap64 ((a : Int) + (i : Int)) = ((a + i : Nat) : Int) := by unfold wrap64; omega
    simp only [word_Take.l0, word_Take.j2, takeG, takeR, hw]
    by_cases h : a + i < s.size
    · rw [if_pos (by omega), if_pos (by omega), if_pos (by omega)]; simp
    · rw [if_neg (by omega)]
  | m + 1, i, u, hm, hu, k, hk => by
    have HU := Aside0.mk hu
    clear hu
    obtain ⟨k, rfl⟩ : ∃ q, k = q + 2 := ⟨k - 2, by omega⟩
    have hw : wrap64 ((a : Int) + (i : Int)) = ((a + i : Nat) : Int) := by unfold wrap64; omega
    have h7 : wrap64 (7 * (i : Int)) = ((7 * i : Nat) : Int) := by unfold wrap64; omega
    have h1 : wrap64 ((i : Int) + 1) = ((i + 1 : Nat) : Int) := by unfold wrap64; omega
    have hn : wrap64 (((a + i : Nat) : Int) + 1) = ((a + i + 1 : Nat) : Int) := by unfold wrap64; omega
    have hb := bn_lt s (a + i)
    simp only [word_Take.l0, takeG, hw, bn_eq]
    generalize hB : bn s (a + i) = b at *
    by_cases h : a + i < s.size
    · have c1 : ((a + i : Nat) : Int) < (s.size : Int) := by omega
      have c2 : (0 : Int) ≤ ((a + i : Nat) : Int) := by omega
      have c3 : ¬ ((i : Int) > 9) := by omega
      rw [if_pos c1, if_pos c2, if_neg c3, if_pos h]
      have key : ∀ t : Bool, (t = true ↔ ((i = 9 ∧ 1 < b) ∨ (0 < i ∧ b = 0))) → word_Take.j2 (k + 1) s (a : Int) (u : Int) (i : Int) (b : Int) t = takeR (if (i = 9 ∧ 1 < b) ∨ (0 < i ∧ b = 0) then none else if b < 128 then some (u + b * 2 ^ (7 * i), a + i + 1) else takeG s a m (i + 1) (u + (b - 128) * 2 ^ (7 * i))) := by
        intro t ht
        simp only [word_Take.j2]
        by_cases hc : (i = 9 ∧ 1 < b) ∨ (0 < i ∧ b = 0)
        · rw [if_pos (ht.2 hc), if_pos hc]; simp only [takeR]
        · have hi : i ≤ 9 := by omega
          have hd : i = 9 → b % 128 ≤ 1 := by omega
          have h70 : (0 : Int) ≤ ((7 * i : Nat) : Int) := by omega
          rw [if_neg (fun x => hc (ht.1 x)), if_neg hc, h7, if_pos h70, take_or u b i hi HU.out hb hd, hw, hn, h1]
          by_cases h128 : b < 128
          · rw [if_pos (by omega), if_pos h128, Nat.mod_eq_of_lt h128]; simp only [takeR]
          · have e : b % 128 = b - 128 := by omega
            rw [if_neg (by omega), if_neg h128, e]
            exact word_Take_l0 s a hs ha m (i + 1) _ (by omega) (next_lt u _ i HU.out (by omega)) k (by omega)
      by_cases h9 : i = 9
      · rw [if_pos (by omega)]
        by_cases hb1 : 1 < b
        · rw [if_pos (by omega)]; exact key true (by simp [h9, hb1])
        · rw [if_neg (by omega), if_pos (by omega)]; exact key _ (by simp [h9]; omega)
      · rw [if_neg (by omega)]
        by_cases hi0 : 0 < i
        · rw [if_pos (by omega)]; exact key _ (by simp [h9]; omega)
        · rw [if_neg (by omega)]; exact key false (by simp; omega)
    · rw [if_neg (by omega), if_neg h]; simp only [takeR]
theorem word_Take_f (s : ByteArray) (a : Nat) (hs : s.size ≤ 4611686018427387904) (ha : a ≤ s.size) : word_Take.f 30 s (a : Int) = takeR (takeG s a 10 0 0) := by
  unfold word_Take.f
  rw [if_neg (by omega)]
  simp only [word_Take.j0]
  rw [if_neg (by simp; omega)]
  exact word_Take_l0 s a hs ha 10 0 0 rfl (by simp) 29 (by omega)

end Go.Proofs.Ytochgjeanajoiaa.HA
