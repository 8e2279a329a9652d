/- Written by hand: the plain law of objects as bytes: what is written is read, what is read is written. -/
import Derived.Test.YtochgjeanajoiaaM2rs
namespace Go.Proofs.Ytochgjeanajoiaa.HA
open Go.RowKit Go.Proofs.YtochgjeanajoiaaW.PrintWords Go.Proofs.YtochgjeanajoiaaW.PrintLast Go.Proofs.YtochgjeanajoiaaW.PrintMore
set_option linter.unusedVariables false
set_option linter.unusedSimpArgs false

/-- From the place a on these bytes stand there. -/
def At (s : ByteArray) (a : Nat) (L : List Int) : Prop := ∃ R, (bytesOf s).drop a = L ++ R
theorem At.left {s : ByteArray} {a : Nat} {L M : List Int} (h : At s a (L ++ M)) : At s a L := by
  obtain ⟨R, h⟩ := h; exact ⟨M ++ R, by rw [h, List.append_assoc]⟩
theorem At.right {s : ByteArray} {a : Nat} {L M : List Int} (h : At s a (L ++ M)) : At s (a + L.length) M := by
  obtain ⟨R, h⟩ := h; exact ⟨R, by rw [← List.drop_drop, h, List.append_assoc, List.drop_left]⟩
theorem At.append {s : ByteArray} {a : Nat} {L M : List Int} (h : At s a L) (k : At s (a + L.length) M) : At s a (L ++ M) := by
  obtain ⟨R, h⟩ := h; obtain ⟨Q, k⟩ := k
  rw [← List.drop_drop, h, List.drop_left] at k
  exact ⟨Q, by rw [h, k, List.append_assoc]⟩
theorem At.le {s : ByteArray} {a : Nat} {L : List Int} (h : At s a L) (ha : a ≤ s.size) : a + L.length ≤ s.size := by
  obtain ⟨R, h⟩ := h
  have := congrArg List.length h
  rw [List.length_drop, bytesOf_length, List.length_append] at this; omega
theorem At.nil (s : ByteArray) (a : Nat) : At s a [] := ⟨_, rfl⟩
theorem bytesOf_get {s : ByteArray} {i : Nat} (h : i < s.size) : (bytesOf s)[i]? = some (bt s (i : Int)) := by
  unfold bytesOf bt
  rw [dif_pos (by simpa using h)]
  simp only [Int.toNat_natCast, List.getElem?_map]
  have : s.data.toList[i]? = some (s[i]'h) := by
    rw [List.getElem?_eq_getElem (by rw [data_length]; exact h)]
    rfl
  rw [this]; rfl
theorem drop_get {s : ByteArray} {i : Nat} (h : i < s.size) : (bytesOf s).drop i = bt s (i : Int) :: (bytesOf s).drop (i + 1) := by
  have h1 : i < (bytesOf s).length := by rw [bytesOf_length]; exact h
  rw [List.drop_eq_getElem_cons h1]
  have := bytesOf_get h
  rw [List.getElem?_eq_getElem h1] at this
  rw [Option.some.inj this]
theorem At.cons {s : ByteArray} {a : Nat} {x : Int} {L : List Int} (h : At s a (x :: L)) : a < s.size ∧ (bn s a : Int) = x ∧ At s (a + 1) L := by
  obtain ⟨R, h⟩ := h
  have hl : a < s.size := by
    have := congrArg List.length h
    rw [List.length_drop, bytesOf_length] at this; simp at this; omega
  rw [drop_get hl] at h
  injection h with h1 h2
  exact ⟨hl, by rw [← bn_eq]; exact h1, R, h2⟩
theorem At.mk_cons {s : ByteArray} {a : Nat} {L : List Int} (hl : a < s.size) (h : At s (a + 1) L) : At s a ((bn s a : Int) :: L) := by
  obtain ⟨R, h⟩ := h
  exact ⟨R, by rw [drop_get hl, h, bn_eq]; rfl⟩

/-! ### numbers -/
theorem takeG_put (s : ByteArray) (a : Nat) : ∀ (n i u m : Nat), m + i = 10 → n < 2 ^ (64 - 7 * i) → (0 < i → n ≠ 0) → At s (a + i) (putL n) → takeG s a m i u = some (u + n * 2 ^ (7 * i), a + i + (putL n).length) := by
  intro n
  induction n using Nat.strongRecOn with
  | _ n ih =>
    intro i u m hm hn h0 hA
    have hi : i ≤ 9 := by
      by_cases h : i ≤ 9
      · exact h
      · exfalso
        have : 64 - 7 * i = 0 := by omega
        rw [this] at hn
        exact h0 (by omega) (by omega)
    obtain ⟨m, rfl⟩ : ∃ q, m = q + 1 := ⟨m - 1, by omega⟩
    have h9 : i = 9 → n < 2 := by rintro rfl; exact hn
    by_cases hlt : n < 128
    · rw [putL_lt hlt] at hA ⊢
      obtain ⟨h1, h2, _⟩ := hA.cons
      have h3 : bn s (a + i) = n := by omega
      rw [takeG, if_pos h1, h3, if_neg (by omega), if_pos hlt]; rfl
    · rw [putL_ge hlt] at hA ⊢
      obtain ⟨h1, h2, h3⟩ := hA.cons
      have h4 : bn s (a + i) = n % 128 + 128 := by omega
      have hi8 : i ≤ 8 := by by_cases h : i = 9; · have := h9 h; omega
                             · omega
      have hp : 2 ^ (64 - 7 * i) = 128 * 2 ^ (64 - 7 * (i + 1)) := by
        rw [show 64 - 7 * i = 7 + (64 - 7 * (i + 1)) from by omega, Nat.pow_add]
      have := ih (n / 128) (by omega) (i + 1) (u + (n % 128) * 2 ^ (7 * i)) m (by omega) (by rw [hp] at hn; exact Nat.div_lt_of_lt_mul hn) (by omega) (by rw [← Nat.add_assoc]; exact h3)
      rw [takeG, if_pos h1, h4, if_neg (by omega), if_neg (by omega), Nat.add_sub_cancel, this]
      congr 2
      · rw [show 7 * (i + 1) = 7 * i + 7 from by omega, Nat.pow_add]
        have e : n = n % 128 + 128 * (n / 128) := by omega
        conv => rhs; rw [e, Nat.add_mul]
        rw [Nat.add_assoc]
        congr 2
        rw [Nat.mul_comm 128, Nat.mul_assoc, Nat.mul_comm 128]
      · rw [List.length_cons]; omega
theorem takeG_get (s : ByteArray) (a : Nat) : ∀ (m i u v b : Nat), takeG s a m i u = some (v, b) → ∃ n, v = u + n * 2 ^ (7 * i) ∧ At s (a + i) (putL n) ∧ b = a + i + (putL n).length ∧ (0 < i → n ≠ 0)
  | 0, i, u, v, b, h => by simp [takeG] at h
  | m + 1, i, u, v, b, h => by
    rw [takeG] at h
    by_cases h1 : a + i < s.size
    · rw [if_pos h1] at h
      by_cases h2 : (i = 9 ∧ 1 < bn s (a + i)) ∨ (0 < i ∧ bn s (a + i) = 0)
      · rw [if_pos h2] at h; cases h
      · rw [if_neg h2] at h
        by_cases h3 : bn s (a + i) < 128
        · rw [if_pos h3] at h
          simp only [Option.some.injEq, Prod.mk.injEq] at h
          refine ⟨bn s (a + i), h.1.symm, ?_, ?_, by omega⟩
          · rw [putL_lt h3]; exact At.mk_cons h1 (At.nil _ _)
          · rw [putL_lt h3]; exact h.2.symm
        · rw [if_neg h3] at h
          obtain ⟨n, e1, e2, e3, e4⟩ := takeG_get s a m (i + 1) _ v b h
          have hn := e4 (by omega)
          have hb := bn_lt s (a + i)
          have q1 : ((bn s (a + i) - 128) + 128 * n) % 128 = bn s (a + i) - 128 := by omega
          have q2 : ((bn s (a + i) - 128) + 128 * n) / 128 = n := by omega
          refine ⟨(bn s (a + i) - 128) + 128 * n, ?_, ?_, ?_, by omega⟩
          · rw [e1, show 7 * (i + 1) = 7 * i + 7 from by omega, Nat.pow_add, Nat.add_mul, Nat.add_assoc]
            congr 2
            rw [Nat.mul_comm 128, Nat.mul_assoc, Nat.mul_comm 128]
          · rw [putL_ge (by omega), q1, q2, show bn s (a + i) - 128 + 128 = bn s (a + i) from by omega]
            exact At.mk_cons h1 e2
          · rw [putL_ge (by omega), q1, q2, List.length_cons, e3]; omega
    · rw [if_neg h1] at h; cases h
theorem pNum_put {s : ByteArray} {a most n : Nat} (hm : most ≤ 65536) (hn : n ≤ most) (h : At s a (putL n)) : pNum s most a = some (n, a + (putL n).length) := by
  unfold pNum
  rw [takeG_put s a n 0 0 10 (by omega) (by simp; omega) (by omega) h]
  simp only [Nat.mul_zero, Nat.pow_zero, Nat.mul_one, Nat.zero_add, Nat.add_zero]
  rw [if_pos hn]
theorem pNum_get {s : ByteArray} {a most n b : Nat} (h : pNum s most a = some (n, b)) : At s a (putL n) ∧ b = a + (putL n).length ∧ n ≤ most := by
  have hle := pNum_le h
  unfold pNum at h
  split at h
  · rename_i u n' e
    obtain ⟨q, e1, e2, e3, _⟩ := takeG_get s a _ _ _ _ _ e
    split at h
    · simp only [Option.some.injEq, Prod.mk.injEq] at h
      simp only [Nat.mul_zero, Nat.pow_zero, Nat.mul_one, Nat.zero_add, Nat.add_zero] at e1 e2 e3
      obtain ⟨rfl, rfl⟩ := h
      subst e1
      exact ⟨e2, e3, hle.1⟩
    · cases h
  · cases h

/-! ### bytes -/
theorem bytesOf_extract (s : ByteArray) (a b : Nat) : bytesOf (s.extract a b) = ((bytesOf s).drop a).take (b - a) := by
  unfold bytesOf
  rw [ByteArray.data_extract, Array.toList_extract, List.extract_eq_take_drop, List.map_take, List.map_drop]
theorem bytesOf_inj {s t : ByteArray} (h : bytesOf s = bytesOf t) : s = t := by
  unfold bytesOf at h
  have : s.data.toList = t.data.toList := by
    exact (List.map_inj_right (fun a b hab => UInt8.toNat_inj.1 (by omega))).1 h
  cases s; cases t
  simp only at this
  congr 1
  exact Array.ext' this
theorem pTake_put {s t : ByteArray} {a k : Nat} (ha : a ≤ s.size) (hk : k = t.size) (h : At s a (bytesOf t)) : pTake s k a = some (t, a + k) := by
  subst hk
  have hl := h.le ha
  rw [bytesOf_length] at hl
  unfold pTake
  rw [if_pos (by omega)]
  congr 2
  apply bytesOf_inj
  obtain ⟨R, h⟩ := h
  rw [bytesOf_extract, h, show a + t.size - a = (bytesOf t).length from by rw [bytesOf_length]; omega, List.take_left]
theorem pTake_get {s t : ByteArray} {a k b : Nat} (ha : a ≤ s.size) (h : pTake s k a = some (t, b)) : At s a (bytesOf t) ∧ b = a + k ∧ t.size = k := by
  obtain ⟨h1, h2, h3, h4, h5, h6⟩ := pTake_le ha h
  refine ⟨⟨((bytesOf s).drop a).drop k, ?_⟩, h5, h3⟩
  rw [h4, bytesOf_extract, show a + k - a = k from by omega, List.take_append_drop]
theorem pName_put {s t : ByteArray} {a : Nat} (ha : a ≤ s.size) (hn : t.size ≤ 28) (h : At s a (strL t)) : pName s a = some (t, a + (strL t).length) := by
  unfold strL at h ⊢
  have h1 := h.left.le ha
  rw [pName_get (pNum_put (by omega) hn h.left), pTake_put h1 rfl h.right, List.length_append, bytesOf_length, Nat.add_assoc]
theorem pName_out {s t : ByteArray} {a b : Nat} (h : pName s a = some (t, b)) : At s a (strL t) ∧ b = a + (strL t).length ∧ t.size ≤ 28 := by
  unfold pName at h
  split at h
  · rename_i n c e
    obtain ⟨h1, h2, h3⟩ := pNum_get e
    obtain ⟨k1, k2, k3⟩ := pTake_get (pNum_le e).2.2 h
    subst k3 h2
    exact ⟨h1.append k1, by rw [k2, strL, List.length_append, bytesOf_length]; omega, h3⟩
  · cases h
theorem pOne_put {s : ByteArray} {a : Nat} {x : Int} (h : At s a [x]) : pOne s a = some (x, a + 1) := by
  obtain ⟨h1, h2, _⟩ := h.cons
  have h3 : pTake s 1 a = some (s.extract a (a + 1), a + 1) := by unfold pTake; rw [if_pos (by omega)]
  rw [(pOne_get (by omega) h3).1.out]
  have hs : (s.extract a (a + 1)).size = 1 := (pTake_le (by omega) h3).2.2.1
  have := bytesOf_get (s := s.extract a (a + 1)) (i := 0) (by omega)
  rw [bytesOf_extract, drop_get h1, show a + 1 - a = 1 from by omega, bn_eq, h2] at this
  simp at this
  rw [← this]
theorem pOne_out {s : ByteArray} {a b : Nat} {x : Int} (ha : a ≤ s.size) (h : pOne s a = some (x, b)) : At s a [x] ∧ b = a + 1 ∧ 0 ≤ x ∧ x < 256 := by
  unfold pOne at h
  split at h
  · rename_i t c e
    obtain ⟨h1, h2, h3⟩ := pTake_get ha e
    simp only [Option.some.injEq, Prod.mk.injEq] at h
    obtain ⟨rfl, rfl⟩ := h
    have hr := bt_rng t 0
    refine ⟨?_, h2, hr.1, hr.2⟩
    have := drop_get (s := t) (i := 0) (by omega)
    rw [List.drop_zero, List.drop_eq_nil_of_le (by rw [bytesOf_length]; omega)] at this
    rw [this] at h1
    exact h1
  · cases h

/-! ### eight bytes -/
def inI64 (n : Int) : Prop := -9223372036854775808 ≤ n ∧ n ≤ 9223372036854775807
theorem sum8 (s : ByteArray) : sumN s 8 = bn s 0 + bn s 1 * 256 + bn s 2 * 65536 + bn s 3 * 16777216 + bn s 4 * 4294967296 + bn s 5 * 1099511627776 + bn s 6 * 281474976710656 + bn s 7 * 72057594037927936 := by
  have p1 : 2 ^ (8 * 1) = 256 := by decide
  have p2 : 2 ^ (8 * 2) = 65536 := by decide
  have p3 : 2 ^ (8 * 3) = 16777216 := by decide
  have p4 : 2 ^ (8 * 4) = 4294967296 := by decide
  have p5 : 2 ^ (8 * 5) = 1099511627776 := by decide
  have p6 : 2 ^ (8 * 6) = 281474976710656 := by decide
  have p7 : 2 ^ (8 * 7) = 72057594037927936 := by decide
  have e1 : sumN s 1 = bn s 0 := by rw [sumN, sumN]; simp
  rw [sumN, p7, sumN, p6, sumN, p5, sumN, p4, sumN, p3, sumN, p2, sumN, p1, e1]
theorem at8 {s : ByteArray} {a : Nat} {x0 x1 x2 x3 x4 x5 x6 x7 : Int} : At s a [x0, x1, x2, x3, x4, x5, x6, x7] ↔ a + 8 ≤ s.size ∧ (bn s a : Int) = x0 ∧ (bn s (a + 1) : Int) = x1 ∧ (bn s (a + 2) : Int) = x2 ∧ (bn s (a + 3) : Int) = x3 ∧ (bn s (a + 4) : Int) = x4 ∧ (bn s (a + 5) : Int) = x5 ∧ (bn s (a + 6) : Int) = x6 ∧ (bn s (a + 7) : Int) = x7 := by
  constructor
  · intro h
    obtain ⟨_, h0, h⟩ := h.cons
    obtain ⟨_, h1, h⟩ := h.cons
    obtain ⟨_, h2, h⟩ := h.cons
    obtain ⟨_, h3, h⟩ := h.cons
    obtain ⟨_, h4, h⟩ := h.cons
    obtain ⟨_, h5, h⟩ := h.cons
    obtain ⟨_, h6, h⟩ := h.cons
    obtain ⟨h8, h7, h⟩ := h.cons
    exact ⟨by omega, h0, h1, h2, h3, h4, h5, h6, h7⟩
  · rintro ⟨hl, rfl, rfl, rfl, rfl, rfl, rfl, rfl, rfl⟩
    exact At.mk_cons (by omega) (At.mk_cons (by omega) (At.mk_cons (by omega) (At.mk_cons (by omega) (At.mk_cons (by omega) (At.mk_cons (by omega) (At.mk_cons (by omega) (At.mk_cons (by omega) (At.nil _ _))))))))
theorem bn_extract {s : ByteArray} {a k j : Nat} (h : a + k ≤ s.size) (hj : j < k) : bn (s.extract a (a + k)) j = bn s (a + j) := by
  have h1 := bytesOf_get (s := s.extract a (a + k)) (i := j) (by rw [ByteArray.size_extract]; omega)
  have h2 := bytesOf_get (s := s) (i := a + j) (by omega)
  rw [bytesOf_extract, List.getElem?_take, if_pos (by omega), List.getElem?_drop, h2] at h1
  unfold bn
  rw [Option.some.inj h1]
theorem digits (n : Int) (b0 b1 b2 b3 b4 b5 b6 b7 : Int) (e0 : b0 = n % 256) (e1 : b1 = n / 256 % 256) (e2 : b2 = n / 65536 % 256) (e3 : b3 = n / 16777216 % 256) (e4 : b4 = n / 4294967296 % 256) (e5 : b5 = n / 1099511627776 % 256) (e6 : b6 = n / 281474976710656 % 256) (e7 : b7 = n / 72057594037927936 % 256) :
    b0 + b1 * 256 + b2 * 65536 + b3 * 16777216 + b4 * 4294967296 + b5 * 1099511627776 + b6 * 281474976710656 + b7 * 72057594037927936 = n % 18446744073709551616 := by omega
theorem pWide_put {s : ByteArray} {a : Nat} {n : Int} (hn : inI64 n) (ha : a ≤ s.size) (h : At s a (le8 n)) : pWide s a = some (n, a + 8) := by
  obtain ⟨hl, h0, h1, h2, h3, h4, h5, h6, h7⟩ := at8.1 h
  have ht : pTake s 8 a = some (s.extract a (a + 8), a + 8) := by unfold pTake; rw [if_pos (by omega)]
  rw [pWide_some ht]
  congr 2
  rw [sum8, bn_extract hl (by omega), bn_extract hl (by omega), bn_extract hl (by omega), bn_extract hl (by omega), bn_extract hl (by omega), bn_extract hl (by omega), bn_extract hl (by omega), bn_extract hl (by omega), Nat.add_zero]
  have := digits n _ _ _ _ _ _ _ _ h0 h1 h2 h3 h4 h5 h6 h7
  obtain ⟨n1, n2⟩ := hn
  simp only [Int.natCast_add, Int.natCast_mul, Int.cast_ofNat_Int]
  rw [this]
  unfold wrap64; omega
theorem undigits (y b0 b1 b2 b3 b4 b5 b6 b7 : Nat) (l0 : b0 < 256) (l1 : b1 < 256) (l2 : b2 < 256) (l3 : b3 < 256) (l4 : b4 < 256) (l5 : b5 < 256) (l6 : b6 < 256) (l7 : b7 < 256)
    (e : y = b0 + b1 * 256 + b2 * 65536 + b3 * 16777216 + b4 * 4294967296 + b5 * 1099511627776 + b6 * 281474976710656 + b7 * 72057594037927936) :
    y < 18446744073709551616 ∧ y % 256 = b0 ∧ y / 256 % 256 = b1 ∧ y / 65536 % 256 = b2 ∧ y / 16777216 % 256 = b3 ∧ y / 4294967296 % 256 = b4 ∧ y / 1099511627776 % 256 = b5 ∧ y / 281474976710656 % 256 = b6 ∧ y / 72057594037927936 % 256 = b7 := by
  refine ⟨by omega, by omega, by omega, by omega, by omega, by omega, by omega, by omega, by omega⟩
theorem le8_wrap (y : Nat) (hy : y < 18446744073709551616) : le8 (wrap64 (y : Int)) = [((y % 256 : Nat) : Int), ((y / 256 % 256 : Nat) : Int), ((y / 65536 % 256 : Nat) : Int), ((y / 16777216 % 256 : Nat) : Int), ((y / 4294967296 % 256 : Nat) : Int), ((y / 1099511627776 % 256 : Nat) : Int), ((y / 281474976710656 % 256 : Nat) : Int), ((y / 72057594037927936 % 256 : Nat) : Int)] := by
  have hc : wrap64 (y : Int) = (y : Int) ∨ wrap64 (y : Int) = (y : Int) - 18446744073709551616 := by unfold wrap64; omega
  unfold le8
  rcases hc with hc | hc <;> rw [hc] <;> congr 1 <;> (try omega) <;> congr 1 <;> (try omega) <;> congr 1 <;> (try omega) <;> congr 1 <;> (try omega) <;> congr 1 <;> (try omega) <;> congr 1 <;> (try omega) <;> congr 1 <;> (try omega) <;> congr 1 <;> omega
theorem pWide_out {s : ByteArray} {a b : Nat} {x : Int} (ha : a ≤ s.size) (h : pWide s a = some (x, b)) : At s a (le8 x) ∧ b = a + 8 ∧ inI64 x := by
  unfold pWide at h
  split at h
  · rename_i t c e
    obtain ⟨h1, h2, h3, h4, h5, h6⟩ := pTake_le ha e
    simp only [Option.some.injEq, Prod.mk.injEq] at h
    obtain ⟨rfl, rfl⟩ := h
    have hs := sum8 t
    have hl : a + 8 ≤ s.size := by omega
    rw [h4, bn_extract hl (by omega), bn_extract hl (by omega), bn_extract hl (by omega), bn_extract hl (by omega), bn_extract hl (by omega), bn_extract hl (by omega), bn_extract hl (by omega), bn_extract hl (by omega), Nat.add_zero] at hs
    rw [h4]
    obtain ⟨k, k0, k1, k2, k3, k4, k5, k6, k7⟩ := undigits _ _ _ _ _ _ _ _ _ (bn_lt _ _) (bn_lt _ _) (bn_lt _ _) (bn_lt _ _) (bn_lt _ _) (bn_lt _ _) (bn_lt _ _) (bn_lt _ _) hs
    generalize sumN (s.extract a (a + 8)) 8 = y at *
    refine ⟨?_, h5, ?_⟩
    · rw [le8_wrap y k, k0, k1, k2, k3, k4, k5, k6, k7]
      exact at8.2 ⟨hl, rfl, rfl, rfl, rfl, rfl, rfl, rfl, rfl⟩
    · clear k0 k1 k2 k3 k4 k5 k6 k7 hs; unfold inI64 wrap64; omega
  · cases h

/-! ### many of them -/
theorem pMany_put {α : Type} {s : ByteArray} {p : Nat → Option (α × Nat)} {e : α → List Int} (l : List α) (hp : ∀ x ∈ l, ∀ a, a ≤ s.size → At s a (e x) → p a = some (x, a + (e x).length)) : ∀ a, a ≤ s.size → At s a (l.flatMap e) → pMany p l.length a = some (l, a + (l.flatMap e).length) := by
  induction l with
  | nil => intro a _ _; rfl
  | cons x l ih =>
    intro a ha h
    rw [List.flatMap_cons] at h ⊢
    have h1 := hp x (by simp) a ha h.left
    rw [List.length_cons, pMany, h1]
    simp only [Option.bind_some]
    rw [ih (fun y hy => hp y (by simp [hy])) _ (h.left.le ha) h.right]
    simp only [Option.bind_some, List.length_append, Nat.add_assoc]
theorem pMany_get {α : Type} {s : ByteArray} {p : Nat → Option (α × Nat)} {e : α → List Int} {G : α → Prop} (hp : ∀ x a b, a ≤ s.size → p a = some (x, b) → At s a (e x) ∧ b = a + (e x).length ∧ G x) : ∀ (n a : Nat) (l : List α) (b : Nat), a ≤ s.size → pMany p n a = some (l, b) → At s a (l.flatMap e) ∧ b = a + (l.flatMap e).length ∧ l.length = n ∧ ∀ x ∈ l, G x
  | 0, a, l, b, ha, h => by
    simp only [pMany, Option.some.injEq, Prod.mk.injEq] at h
    obtain ⟨rfl, rfl⟩ := h
    exact ⟨At.nil _ _, rfl, rfl, by simp⟩
  | n + 1, a, l, b, ha, h => by
    simp only [pMany, Option.bind_eq_some_iff] at h
    obtain ⟨⟨x, c⟩, h1, ⟨q, d⟩, h2, h3⟩ := h
    simp only [Option.some.injEq, Prod.mk.injEq] at h3
    obtain ⟨rfl, rfl⟩ := h3
    obtain ⟨k1, k2, k3⟩ := hp x a c ha h1
    have hc : c ≤ s.size := by rw [k2]; exact k1.le ha
    obtain ⟨j1, j2, j3, j4⟩ := pMany_get hp n c q d hc h2
    rw [k2] at j1
    rw [List.flatMap_cons]
    refine ⟨k1.append j1, by rw [j2, k2, List.length_append]; omega, by simp [j3], ?_⟩
    intro y hy
    rcases List.mem_cons.1 hy with rfl | hy
    · exact k3
    · exact j4 y hy

/-! ### symbols, relocations -/
def SymIn (x : S32) : Prop := x.f0.size ≤ 28 ∧ 0 ≤ x.f1 ∧ x.f1 < 256 ∧ 0 ≤ x.f2 ∧ x.f2 ≤ 65536
def RelIn (x : S34) : Prop := x.f2.size ≤ 28 ∧ 0 ≤ x.f1 ∧ x.f1 < 256 ∧ 0 ≤ x.f0 ∧ x.f0 ≤ 65536 ∧ inI64 x.f3
theorem pSym_put {s : ByteArray} {a : Nat} {x : S32} (hx : SymIn x) (ha : a ≤ s.size) (h : At s a (symL x)) : pSym s a = some (x, a + (symL x).length) := by
  obtain ⟨nm, kd, pl⟩ := x
  obtain ⟨x1, x2, x3, x4, x5⟩ := hx
  dsimp only at x1 x2 x3 x4 x5
  unfold symL at h ⊢
  dsimp only at h ⊢
  rw [show kd % 256 = kd from by omega] at h ⊢
  have h1 := h.left.left
  have h2 := h.left.right
  have h3 := h.right
  have hb := h1.le ha
  unfold pSym
  rw [pName_put ha x1 h1]
  simp only [Option.bind_some]
  rw [pOne_put h2]
  simp only [Option.bind_some]
  rw [List.length_append, List.length_singleton, ← Nat.add_assoc] at h3
  rw [pNum_put (by omega) (by omega) h3]
  simp only [Option.bind_some, List.length_append, List.length_singleton, Option.some.injEq, Prod.mk.injEq, S32.mk.injEq, true_and]
  omega
theorem pSym_out {s : ByteArray} {a b : Nat} {x : S32} (ha : a ≤ s.size) (h : pSym s a = some (x, b)) : At s a (symL x) ∧ b = a + (symL x).length ∧ SymIn x := by
  simp only [pSym, Option.bind_eq_some_iff] at h
  obtain ⟨⟨nm, a1⟩, h1, ⟨kd, a2⟩, h2, ⟨u, a3⟩, h3, h4⟩ := h
  simp only [Option.some.injEq, Prod.mk.injEq] at h4
  obtain ⟨rfl, rfl⟩ := h4
  obtain ⟨n1, n2, n3⟩ := pName_out h1
  obtain ⟨o1, o2, o3, o4⟩ := pOne_out (pName_le h1) h2
  obtain ⟨u1, u2, u3⟩ := pNum_get h3
  subst n2
  dsimp only at o1 o2 u1 u2
  subst o2
  unfold symL
  dsimp only
  rw [show kd % 256 = kd from by omega, Int.toNat_natCast]
  refine ⟨(n1.append o1).append ?_, ?_, n3, o3, o4, Int.natCast_nonneg _, by dsimp only; omega⟩
  · rw [List.length_append, ← Nat.add_assoc]; exact u1
  · rw [u2]; simp only [List.length_append, List.length_singleton]; omega
theorem pRel_put {s : ByteArray} {a : Nat} {x : S34} (hx : RelIn x) (ha : a ≤ s.size) (h : At s a (relL x)) : pRel s a = some (x, a + (relL x).length) := by
  obtain ⟨pl, kd, nm, ad⟩ := x
  obtain ⟨x1, x2, x3, x4, x5, x6⟩ := hx
  dsimp only at x1 x2 x3 x4 x5 x6
  unfold relL at h ⊢
  dsimp only at h ⊢
  rw [show kd % 256 = kd from by omega] at h ⊢
  have h1 := h.left.left.left
  have h2 := h.left.left.right
  have h3 := h.left.right
  have h4 := h.right
  have hb := h.left.left.le ha
  have hb2 := h.left.le ha
  unfold pRel
  rw [pNum_put (by omega) (by omega) h1]
  simp only [Option.bind_some]
  rw [pOne_put h2]
  simp only [Option.bind_some]
  rw [List.length_append, List.length_singleton, ← Nat.add_assoc] at h3 hb
  rw [pName_put hb x1 h3]
  simp only [Option.bind_some]
  rw [List.length_append, List.length_append, List.length_singleton, ← Nat.add_assoc, ← Nat.add_assoc] at h4 hb2
  rw [pWide_put x6 hb2 h4]
  simp only [Option.bind_some, List.length_append, List.length_singleton, le8_len, Option.some.injEq, Prod.mk.injEq, S34.mk.injEq, true_and, and_true]
  omega
theorem pRel_out {s : ByteArray} {a b : Nat} {x : S34} (ha : a ≤ s.size) (h : pRel s a = some (x, b)) : At s a (relL x) ∧ b = a + (relL x).length ∧ RelIn x := by
  simp only [pRel, Option.bind_eq_some_iff] at h
  obtain ⟨⟨u, a1⟩, h1, ⟨kd, a2⟩, h2, ⟨nm, a3⟩, h3, ⟨ad, a4⟩, h4, h5⟩ := h
  simp only [Option.some.injEq, Prod.mk.injEq] at h5
  obtain ⟨rfl, rfl⟩ := h5
  obtain ⟨u1, u2, u3⟩ := pNum_get h1
  have b1 := (pNum_le h1).2.2
  obtain ⟨o1, o2, o3, o4⟩ := pOne_out b1 h2
  obtain ⟨n1, n2, n3⟩ := pName_out h3
  obtain ⟨w1, w2, w3⟩ := pWide_out (pName_le h3) h4
  subst u2
  dsimp only at o1 o2 n1 n2 w1 w2
  subst o2
  subst n2
  unfold relL
  dsimp only
  rw [show kd % 256 = kd from by omega, Int.toNat_natCast]
  refine ⟨((u1.append o1).append ?_).append ?_, ?_, n3, o3, o4, Int.natCast_nonneg _, by dsimp only; omega, w3⟩
  · rw [List.length_append, ← Nat.add_assoc]; exact n1
  · rw [List.length_append, List.length_append, ← Nat.add_assoc, ← Nat.add_assoc]; exact w1
  · rw [w2]; simp only [List.length_append, List.length_singleton, le8_len]; omega
end Go.Proofs.Ytochgjeanajoiaa.HA
