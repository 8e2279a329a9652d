/- Written by hand: Same in plain words; Write and Read at forms. -/
import Derived.Test.YtochgjeanajoiaaM4b
import Derived.Test.YtochgjeanajoiaaHAGSa2
namespace Go.Proofs.Ytochgjeanajoiaa.HA
open Go.RowKit Go.Proofs.YtochgjeanajoiaaW.PrintWords Go.Proofs.YtochgjeanajoiaaW.PrintLast Go.Proofs.YtochgjeanajoiaaW.PrintMore
set_option linter.unusedVariables false
set_option linter.unusedSimpArgs false

theorem drop_same {α : Type} {x y : List α} {i : Nat} (h1 : i < x.length) (h2 : i < y.length) : x.drop i = y.drop i ↔ x[i] = y[i] ∧ x.drop (i + 1) = y.drop (i + 1) := by
  rw [List.drop_eq_getElem_cons h1, List.drop_eq_getElem_cons h2, List.cons.injEq]
theorem sd_l0 (x y : List Int) (hl : x.length = y.length) (hb : x.length ≤ 4611686018427387904) : ∀ (n i : Nat), i + n = x.length → ∀ k, n + 1 ≤ k → cotterref06_SameData.l0 k x y (i : Int) = some (decide (x.drop i = y.drop i))
  | 0, i, hi, k, hk => by
    obtain ⟨k, rfl⟩ : ∃ q, k = q + 1 := ⟨k - 1, by omega⟩
    simp only [cotterref06_SameData.l0]
    rw [if_neg (by omega), List.drop_eq_nil_of_le (by omega), List.drop_eq_nil_of_le (by omega)]
    simp
  | n + 1, i, hi, k, hk => by
    obtain ⟨k, rfl⟩ : ∃ q, k = q + 1 := ⟨k - 1, by omega⟩
    have h1 : i < x.length := by omega
    have h2 : i < y.length := by omega
    have e1 : rd x (i : Int) = x[i] := by simp [rd, List.getElem?_eq_getElem h1]
    have e2 : rd y (i : Int) = y[i] := by simp [rd, List.getElem?_eq_getElem h2]
    have hw : wrap64 ((i : Int) + 1) = ((i + 1 : Nat) : Int) := by unfold wrap64; omega
    simp only [cotterref06_SameData.l0]
    rw [if_pos (by omega), if_pos (by omega), if_pos (by omega), e1, e2, hw, sd_l0 x y hl hb n (i + 1) (by omega) k (by omega)]
    by_cases he : x[i] = y[i]
    · rw [if_pos he]; congr 1; exact decide_eq_decide.2 (by rw [drop_same h1 h2]; exact ⟨fun h => ⟨he, h⟩, fun h => h.2⟩)
    · rw [if_neg he]; congr 1; exact (decide_eq_false (by rw [drop_same h1 h2]; exact fun h => he h.1)).symm
theorem SameData_f (x y : List Int) (hb : x.length ≤ 4611686018427387904) (k : Nat) (hk : x.length + 1 ≤ k) : cotterref06_SameData.f k x y = some (decide (x = y)) := by
  unfold cotterref06_SameData.f
  by_cases hl : x.length = y.length
  · rw [if_pos (by omega)]; simpa using sd_l0 x y hl hb x.length 0 (by omega) k hk
  · rw [if_neg (by omega)]; congr 1; exact (decide_eq_false (fun h => hl (by rw [h]))).symm
theorem s32_eq (p q : S32) : (!(p.f0.toList == q.f0.toList) || (!(p.f1 == q.f1) || !(p.f2 == q.f2))) = true ↔ p ≠ q := by
  obtain ⟨a, b, c⟩ := p
  obtain ⟨a', b', c'⟩ := q
  simp only [Bool.or_eq_true, Bool.not_eq_true', beq_eq_false_iff_ne, ne_eq, S32.mk.injEq, toList_iff]
  by_cases h1 : a = a' <;> by_cases h2 : b = b' <;> by_cases h3 : c = c' <;> simp [h1, h2, h3]
theorem s34_eq (p q : S34) : (!(p.f0 == q.f0) || (!(p.f1 == q.f1) || (!(p.f2.toList == q.f2.toList) || !(p.f3 == q.f3)))) = true ↔ p ≠ q := by
  obtain ⟨a, b, c, d⟩ := p
  obtain ⟨a', b', c', d'⟩ := q
  simp only [Bool.or_eq_true, Bool.not_eq_true', beq_eq_false_iff_ne, ne_eq, S34.mk.injEq, toList_iff]
  by_cases h1 : a = a' <;> by_cases h2 : b = b' <;> by_cases h3 : c = c' <;> by_cases h4 : d = d' <;> simp [h1, h2, h3, h4]
open Classical in
theorem ss_l0 (x y : List S32) (hl : x.length = y.length) (hb : x.length ≤ 4611686018427387904) : ∀ (n i : Nat), i + n = x.length → ∀ k, n + 1 ≤ k → cotterref06_SameSyms.l0 k x y (i : Int) = some (decide (x.drop i = y.drop i))
  | 0, i, hi, k, hk => by
    obtain ⟨k, rfl⟩ : ∃ q, k = q + 1 := ⟨k - 1, by omega⟩
    simp only [cotterref06_SameSyms.l0]
    rw [if_neg (by omega), List.drop_eq_nil_of_le (by omega), List.drop_eq_nil_of_le (by omega)]
    simp
  | n + 1, i, hi, k, hk => by
    obtain ⟨k, rfl⟩ : ∃ q, k = q + 1 := ⟨k - 1, by omega⟩
    have h1 : i < x.length := by omega
    have h2 : i < y.length := by omega
    have e1 : rd_T32 x (i : Int) = x[i] := by simp [rd_T32, List.getElem?_eq_getElem h1]
    have e2 : rd_T32 y (i : Int) = y[i] := by simp [rd_T32, List.getElem?_eq_getElem h2]
    have hw : wrap64 ((i : Int) + 1) = ((i + 1 : Nat) : Int) := by unfold wrap64; omega
    simp only [cotterref06_SameSyms.l0]
    rw [if_pos (by omega), if_pos (by omega), if_pos (by omega), e1, e2, hw, ss_l0 x y hl hb n (i + 1) (by omega) k (by omega)]
    by_cases he : x[i] = y[i]
    · rw [if_neg (fun h => (s32_eq _ _).1 h he)]; congr 1; exact decide_eq_decide.2 (by rw [drop_same h1 h2]; exact ⟨fun h => ⟨he, h⟩, fun h => h.2⟩)
    · rw [if_pos ((s32_eq _ _).2 he)]; congr 1; exact (decide_eq_false (by rw [drop_same h1 h2]; exact fun h => he h.1)).symm
open Classical in
theorem SameSyms_f (x y : List S32) (hb : x.length ≤ 4611686018427387904) (k : Nat) (hk : x.length + 1 ≤ k) : cotterref06_SameSyms.f k x y = some (decide (x = y)) := by
  unfold cotterref06_SameSyms.f
  by_cases hl : x.length = y.length
  · rw [if_pos (by omega)]; simpa using ss_l0 x y hl hb x.length 0 (by omega) k hk
  · rw [if_neg (by omega)]; congr 1; exact (decide_eq_false (fun h => hl (by rw [h]))).symm
open Classical in
theorem sr_l0 (c c' : ByteArray) (d d' : List Int) (s s' : List S32) (x y : List S34) (hl : x.length = y.length) (hb : x.length ≤ 4611686018427387904) : ∀ (n i : Nat), i + n = x.length → ∀ k, n + 1 ≤ k → cotterref06_Same.l0 k (i : Int) c d s x c' d' s' y = some (decide (x.drop i = y.drop i))
  | 0, i, hi, k, hk => by
    obtain ⟨k, rfl⟩ : ∃ q, k = q + 1 := ⟨k - 1, by omega⟩
    simp only [cotterref06_Same.l0]
    rw [if_neg (by omega), List.drop_eq_nil_of_le (by omega), List.drop_eq_nil_of_le (by omega)]
    simp
  | n + 1, i, hi, k, hk => by
    obtain ⟨k, rfl⟩ : ∃ q, k = q + 1 := ⟨k - 1, by omega⟩
    have h1 : i < x.length := by omega
    have h2 : i < y.length := by omega
    have e1 : rd_T34 x (i : Int) = x[i] := by simp [rd_T34, List.getElem?_eq_getElem h1]
    have e2 : rd_T34 y (i : Int) = y[i] := by simp [rd_T34, List.getElem?_eq_getElem h2]
    have hw : wrap64 ((i : Int) + 1) = ((i + 1 : Nat) : Int) := by unfold wrap64; omega
    simp only [cotterref06_Same.l0]
    rw [if_pos (by omega), if_pos (by omega), if_pos (by omega), e1, e2, hw, sr_l0 c c' d d' s s' x y hl hb n (i + 1) (by omega) k (by omega)]
    by_cases he : x[i] = y[i]
    · rw [if_neg (fun h => (s34_eq _ _).1 h he)]; congr 1; exact decide_eq_decide.2 (by rw [drop_same h1 h2]; exact ⟨fun h => ⟨he, h⟩, fun h => h.2⟩)
    · rw [if_pos ((s34_eq _ _).2 he)]; congr 1; exact (decide_eq_false (by rw [drop_same h1 h2]; exact fun h => he h.1)).symm
open Classical in
theorem Same_f (c c' : ByteArray) (d d' : List Int) (s s' : List S32) (x y : List S34) (h1 : d.length ≤ 4611686018427387904) (h2 : s.length ≤ 4611686018427387904) (h3 : x.length ≤ 4611686018427387904) (k : Nat) (hk : d.length + s.length + x.length + 2 ≤ k) :
    cotterref06_Same.f k c d s x c' d' s' y = some (decide ((c, d, s, x) = (c', d', s', y))) := by
  have hj : ∀ b : Bool, cotterref06_Same.j0 k b c d s x c' d' s' y = if b = true then some false else cotterref06_Same.l0 (k - 1) 0 c d s x c' d' s' y := by
    intro b; obtain ⟨q, rfl⟩ : ∃ q, k = q + 1 := ⟨k - 1, by omega⟩; rfl
  unfold cotterref06_Same.f
  rw [SameData_f d d' h1 k (by omega), SameSyms_f s s' h2 k (by omega)]
  simp only [Option.bind_some, decide_eq_true_eq, hj, toList_iff, if_true, Prod.mk.injEq]
  by_cases e1 : c = c'
  · by_cases e2 : d = d'
    · by_cases e3 : s = s'
      · rw [if_pos e1, if_pos e2, if_pos e3]
        by_cases hl : x.length = y.length
        · have := sr_l0 c c' d d' s s' x y hl h3 x.length 0 (by omega) (k - 1) (by omega)
          rw [if_neg (by simp; omega)]
          simp only [List.drop_zero] at this
          refine Eq.trans this ?_
          congr 1
          exact decide_eq_decide.2 ⟨fun h => ⟨e1, e2, e3, h⟩, fun h => h.2.2.2⟩
        · rw [if_pos (by simp; omega)]
          congr 1
          exact (decide_eq_false (fun h => hl (by rw [h.2.2.2]))).symm
      · rw [if_pos e1, if_pos e2, if_neg e3]; congr 1; exact (decide_eq_false (fun h => e3 h.2.2.1)).symm
    · rw [if_pos e1, if_neg e2]; congr 1; exact (decide_eq_false (fun h => e2 h.2.1)).symm
  · rw [if_neg e1]; congr 1; exact (decide_eq_false (fun h => e1 h.1)).symm

theorem write_ok {c : ByteArray} {d : List Int} {y : List S32} {r : List S34} (h : checkOk c d y r = true) : objf_Write.f c d y r = some (formB c d y r, 0) := by unfold objf_Write.f; rw [if_pos h]
theorem write_no {c : ByteArray} {d : List Int} {y : List S32} {r : List S34} (h : ¬ checkOk c d y r = true) : objf_Write.f c d y r = some (⟨#[]⟩, 1) := by unfold objf_Write.f; rw [if_neg h]
theorem flat_len {α : Type} {f : α → List Int} {B : Nat} : ∀ (l : List α), (∀ x ∈ l, (f x).length ≤ B) → (l.flatMap f).length ≤ B * l.length
  | [], _ => by simp
  | x :: l, h => by
    have h1 := h x (by simp)
    have h2 := flat_len l (fun y hy => h y (by simp [hy]))
    rw [List.flatMap_cons, List.length_append, List.length_cons, Nat.mul_add]; omega
theorem form_small {c : ByteArray} {d : List Int} {y : List S32} {r : List S34} (h : checkOk c d y r = true) : (formB c d y r).size ≤ 1000000 := by
  have hi := ins_of h
  have q1 := hi.code; have q2 := hi.data; have q3 := hi.nsyms; have q4 := hi.nrels
  rw [← form_size, formL_eq]
  have p : ∀ n, n < 18446744073709551616 → (putL n).length ≤ 11 := putL_len10
  have a1 := p c.size (by omega)
  have a2 := p d.length (by omega)
  have a3 := p y.length (by omega)
  have a4 := p r.length (by omega)
  have b1 := flat_len (f := le8) (B := 8) d (fun x _ => Nat.le_refl _)
  have b2 := flat_len (f := symL) (B := 51) y (fun x hx => by
    obtain ⟨x1, x2, x3, x4, x5⟩ := hi.syms x hx
    have := p x.f0.size (by omega)
    have := p x.f2.toNat (by omega)
    simp only [symL, strL, List.length_append, List.length_singleton, bytesOf_length]; omega)
  have b3 := flat_len (f := relL) (B := 59) r (fun x hx => by
    obtain ⟨x1, x2, x3, x4, x5, _⟩ := hi.rels x hx
    have := p x.f2.size (by omega)
    have := p x.f0.toNat (by omega)
    simp only [relL, strL, List.length_append, List.length_singleton, bytesOf_length, le8_len]; omega)
  have : markL.length = 4 := rfl
  simp only [List.length_append, bytesOf_length]
  omega
theorem read_f {s : ByteArray} (h : s.size ≤ 4611686018427387904) : objf_Read.f s = some (readR (pBody s)) := by unfold objf_Read.f; rw [if_pos h]
theorem read_form {c : ByteArray} {d : List Int} {y : List S32} {r : List S34} (h : checkOk c d y r = true) (hd : ∀ n ∈ d, inI64 n) : objf_Read.f (formB c d y r) = some (c, d, y, r, 0) := by
  rw [read_f (by have := form_small h; omega), body_form h hd]; rfl

end Go.Proofs.Ytochgjeanajoiaa.HA
