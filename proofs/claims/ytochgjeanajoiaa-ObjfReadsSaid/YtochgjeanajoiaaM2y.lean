/- Written by hand: Syms and May of the reference in plain words. -/
import Derived.Test.YtochgjeanajoiaaM2s
import Derived.Test.YtochgjeanajoiaaHAGMy
namespace Go.Proofs.Ytochgjeanajoiaa.HA
open Go.RowKit Go.Proofs.YtochgjeanajoiaaW.PrintWords Go.Proofs.YtochgjeanajoiaaW.PrintLast Go.Proofs.YtochgjeanajoiaaW.PrintMore
set_option linter.unusedVariables false
set_option linter.unusedSimpArgs false

theorem toList_inj' {a b : ByteArray} : a.toList = b.toList ↔ a = b := by
  rw [ByteArray.toList_eq, ByteArray.toList_eq]
  constructor
  · intro h; exact ByteArray.ext (Array.toList_inj.1 h)
  · rintro rfl; rfl
def symsFrom (c d : Int) (prev : List S32) : List S32 → Bool
  | [] => true
  | s :: l => symOk c d s && !(prev.any (fun p => decide (p.f0 = s.f0))) && symsFrom c d (prev ++ [s]) l
theorem symsFrom_eq (c d : Int) : ∀ (l prev : List S32), (prev.map S32.f0).Nodup → symsFrom c d prev l = (l.all (symOk c d) && decide (((prev ++ l).map S32.f0).Nodup))
  | [], prev, h => by simp [symsFrom, h]
  | s :: l, prev, h => by
    unfold symsFrom
    rw [List.all_cons]
    by_cases h1 : symOk c d s = true
    · simp only [h1, Bool.true_and]
      by_cases h2 : prev.any (fun p => decide (p.f0 = s.f0)) = true
      · have : ¬ (((prev ++ s :: l).map S32.f0).Nodup) := by
          intro hn
          obtain ⟨p, hp, he⟩ := List.any_eq_true.1 h2
          rw [List.map_append, List.nodup_append] at hn
          exact hn.2.2 p.f0 (List.mem_map_of_mem hp) s.f0 (by simp) (by simpa using he)
        rw [h2, decide_eq_false this]; simp
      · simp only [Bool.not_eq_true] at h2
        rw [h2, symsFrom_eq c d l (prev ++ [s]) ?_]
        · simp
        · rw [List.map_append, List.nodup_append]
          refine ⟨h, by simp, ?_⟩
          intro a ha b hb e
          simp only [List.map_cons, List.map_nil, List.mem_singleton] at hb
          subst hb
          obtain ⟨p, hp, rfl⟩ := List.mem_map.1 ha
          rw [List.any_eq_false] at h2
          exact absurd (h2 p hp) (by simp [e])
    · simp only [Bool.not_eq_true] at h1
      simp [h1]
theorem syms_l1 (l : List S32) (c d : Int) (i : Nat) (hb : l.length ≤ 4611686018427387904) (hi : i < l.length) (nm : ByteArray) (kd pl : Int) {k : Nat} {r : Bool} (hr : cotterref06_Syms.l0 k l c d ((i + 1 : Nat) : Int) = some r) :
    ∀ (n j : Nat), j + n = i → ∃ k', cotterref06_Syms.l1 k' l c d (i : Int) (j : Int) nm kd pl = some (if ((l.take i).drop j).any (fun p => decide (p.f0 = nm)) then false else r)
  | 0, j, h => by
    refine ⟨k + 1, ?_⟩
    have hw : wrap64 ((i : Int) + 1) = ((i + 1 : Nat) : Int) := by unfold wrap64; omega
    simp only [cotterref06_Syms.l1]
    rw [if_neg (by omega), hw, hr, List.drop_eq_nil_of_le (by rw [List.length_take]; omega)]
    simp
  | n + 1, j, h => by
    obtain ⟨k', ih⟩ := syms_l1 l c d i hb hi nm kd pl hr n (j + 1) (by omega)
    refine ⟨k' + 1, ?_⟩
    have hw : wrap64 ((j : Int) + 1) = ((j + 1 : Nat) : Int) := by unfold wrap64; omega
    have hj : j < l.length := by omega
    have hlt : j < (l.take i).length := by rw [List.length_take]; omega
    have e : rd_T32 l (j : Int) = l[j] := by simp [rd_T32, List.getElem?_eq_getElem hj]
    simp only [cotterref06_Syms.l1, toList_inj']
    rw [if_pos (by omega), if_pos (by omega), if_pos (by omega), e, hw, ih, List.drop_eq_getElem_cons hlt, List.any_cons, List.getElem_take]
    by_cases h1 : l[j].f0 = nm
    · simp [h1]
    · simp [h1]
theorem named_f (s : ByteArray) : cotterref06_named.f s = some (decide (0 < s.size ∧ s.size ≤ 28)) := by
  unfold cotterref06_named.f
  split
  · congr 1; exact decide_eq_decide.2 (by omega)
  · congr 1; exact (decide_eq_false (by omega)).symm
theorem syms_l0 (l : List S32) (c d : Int) (hb : l.length ≤ 4611686018427387904) : ∀ (n i : Nat), i + n = l.length → ∃ k, cotterref06_Syms.l0 k l c d (i : Int) = some (symsFrom c d (l.take i) (l.drop i))
  | 0, i, h => by
    refine ⟨1, ?_⟩
    simp only [cotterref06_Syms.l0]
    rw [if_neg (by omega), List.drop_eq_nil_of_le (by omega)]; rfl
  | n + 1, i, h => by
    obtain ⟨k0, ih⟩ := syms_l0 l c d hb n (i + 1) (by omega)
    have hi : i < l.length := by omega
    have e : rd_T32 l (i : Int) = l[i] := by simp [rd_T32, List.getElem?_eq_getElem hi]
    obtain ⟨k1, h1⟩ := syms_l1 l c d i hb hi l[i].f0 l[i].f1 l[i].f2 ih i 0 (by omega)
    have ht : l.take (i + 1) = l.take i ++ [l[i]] := by rw [List.take_add_one, List.getElem?_eq_getElem hi]; rfl
    rw [ht] at h1
    rw [List.drop_eq_getElem_cons hi]
    unfold symsFrom
    simp only [List.drop_zero, Int.natCast_zero] at h1
    refine ⟨k1 + 2, ?_⟩
    simp only [cotterref06_Syms.l0, cotterref06_Syms.j1, e, named_f, Option.bind_some]
    rw [if_pos (by omega), if_pos (by omega)]
    have hF : ∀ b : Bool, (b = true → symOk c d l[i] = false) → (b = false → symOk c d l[i] = true) → (if b = true then some false else cotterref06_Syms.l1 k1 l c d (i : Int) 0 l[i].f0 l[i].f1 l[i].f2) = some (symOk c d l[i] && !((l.take i).any (fun p => decide (p.f0 = l[i].f0))) && symsFrom c d (l.take i ++ [l[i]]) (l.drop (i + 1))) := by
      intro b hb1 hb2
      cases b
      · rw [if_neg (by decide), h1, hb2 rfl]
        cases (l.take i).any (fun p => decide (p.f0 = l[i].f0)) <;> simp
      · rw [if_pos rfl, hb1 rfl]; simp
    generalize l[i] = s at *
    obtain ⟨nm, kd, pl⟩ := s
    simp only [symOk] at hF ⊢
    by_cases q1 : 0 < nm.size ∧ nm.size ≤ 28
    · rw [if_pos (by simpa using q1)]
      by_cases q2 : kd < 1
      · rw [if_pos q2]; exact hF true (fun _ => by simp; omega) (fun h => by cases h)
      · rw [if_neg q2]
        by_cases q3 : kd > 3
        · rw [if_pos q3]; exact hF true (fun _ => by simp; omega) (fun h => by cases h)
        · rw [if_neg q3]
          by_cases q4 : pl < 0
          · rw [if_pos q4]; exact hF true (fun _ => by simp; omega) (fun h => by cases h)
          · rw [if_neg q4]
            by_cases q5 : kd = 2
            · rw [if_pos q5]
              by_cases q6 : pl ≥ d
              · rw [if_pos q6]; exact hF true (fun _ => by simp [q5]; omega) (fun h => by cases h)
              · rw [if_neg q6]; exact hF false (fun h => by cases h) (fun _ => by simp [q5]; omega)
            · rw [if_neg q5]
              exact hF (decide (pl ≥ c)) (fun h => by simp [q5] at h ⊢; omega) (fun h => by simp [q5] at h ⊢; omega)
    · rw [if_neg (by simpa using q1)]; exact hF true (fun _ => by simp; omega) (fun h => by cases h)
theorem Syms_f (l : List S32) (c d : Int) (hb : l.length ≤ 4611686018427387904) : ∃ k, cotterref06_Syms.f k l c d = some (symsOk l c d) := by
  obtain ⟨k, h⟩ := syms_l0 l c d hb l.length 0 (by omega)
  refine ⟨k, ?_⟩
  unfold cotterref06_Syms.f symsOk
  by_cases h1 : l.length ≤ 1000
  · rw [if_neg (by omega)]
    simp only [Int.natCast_zero, List.take_zero, List.drop_zero] at h
    rw [h, symsFrom_eq c d l [] (by simp)]
    simp [h1]
  · rw [if_pos (by omega)]; simp [h1]
theorem may_l0 (code : ByteArray) (data : List Int) (syms : List S32) (l : List S34) (hc : code.size ≤ 65536) (hb : l.length ≤ 4611686018427387904) : ∀ (n i : Nat) (free : Int), i + n = l.length → 0 ≤ free → ∃ k, cotterref06_May.l0 k free (i : Int) code data syms l = some (relsFrom free code.size (l.drop i))
  | 0, i, free, h, hf => by
    refine ⟨1, ?_⟩
    simp only [cotterref06_May.l0]
    rw [if_neg (by omega), List.drop_eq_nil_of_le (by omega)]; rfl
  | n + 1, i, free, h, hf => by
    have hi : i < l.length := by omega
    have e : rd_T34 l (i : Int) = l[i] := by simp [rd_T34, List.getElem?_eq_getElem hi]
    have hw : wrap64 ((i : Int) + 1) = ((i + 1 : Nat) : Int) := by unfold wrap64; omega
    have hc4 : wrap64 ((code.size : Int) - 4) = (code.size : Int) - 4 := by unfold wrap64; omega
    rw [List.drop_eq_getElem_cons hi]
    unfold relsFrom
    by_cases hr : relOk free code.size l[i] = true
    · have hr' := hr
      simp only [relOk, decide_eq_true_eq] at hr'
      obtain ⟨k0, ih⟩ := may_l0 code data syms l hc hb n (i + 1) (l[i].f0 + 4) (by omega) (by omega)
      refine ⟨k0 + 2, ?_⟩
      have hw4 : wrap64 (l[i].f0 + 4) = l[i].f0 + 4 := by unfold wrap64; omega
      simp only [cotterref06_May.l0, cotterref06_May.j2, e, named_f, Option.bind_some, hw, hw4, hc4]
      rw [if_pos (by omega), if_pos (by omega), if_pos (by simpa using hr'.1), if_neg (by omega), if_neg (by simp; omega), hr, Bool.true_and]
      rcases hr'.2.2.2 with ⟨a1, a2⟩ | ⟨a1, a2, a3⟩
      · rw [if_pos a1, if_pos a2, ih]
      · rw [if_neg (by omega), if_pos a1, if_pos (by omega), if_pos a3, ih]
    · have hr' := hr
      simp only [relOk, decide_eq_true_eq] at hr'
      refine ⟨2, ?_⟩
      simp only [cotterref06_May.l0, cotterref06_May.j2, e, named_f, Option.bind_some, hc4]
      simp only [Bool.not_eq_true] at hr
      rw [if_pos (by omega), if_pos (by omega), hr, Bool.false_and]
      by_cases q1 : 0 < l[i].f2.size ∧ l[i].f2.size ≤ 28
      · rw [if_pos (by simpa using q1)]
        by_cases q2 : l[i].f0 < free
        · rw [if_pos q2, if_pos trivial]
        · rw [if_neg q2]
          by_cases q3 : l[i].f0 > (code.size : Int) - 4
          · rw [if_pos (by simpa using q3)]
          · rw [if_neg (by simpa using q3)]
            by_cases q4 : l[i].f1 = 1
            · rw [if_pos q4, if_neg (by omega), if_neg (by omega)]
            · rw [if_neg q4]
              by_cases q5 : l[i].f1 = 2
              · rw [if_pos q5]
                by_cases q6 : l[i].f3 ≥ (-2147483648)
                · rw [if_pos q6, if_neg (by omega)]
                · rw [if_neg q6]
              · rw [if_neg q5]
      · rw [if_neg (by simpa using q1), if_pos trivial]
theorem May_f (code : ByteArray) (data : List Int) (syms : List S32) (rels : List S34) (h2 : syms.length ≤ 4611686018427387904) (h3 : rels.length ≤ 4611686018427387904) : ∃ k, cotterref06_May.f k code data syms rels = some (checkOk code data syms rels) := by
  unfold cotterref06_May.f checkOk relsOk
  by_cases q1 : code.size ≤ 65536
  · by_cases q2 : data.length ≤ 4096
    · obtain ⟨k1, e1⟩ := Syms_f syms code.size data.length h2
      obtain ⟨k2, e2⟩ := may_l0 code data syms rels q1 h3 rels.length 0 0 (by omega) (by omega)
      refine ⟨k1 + k2 + 1, ?_⟩
      have e1' := at_rounds (g := fun k => cotterref06_Syms.f k syms (code.size : Int) (data.length : Int)) (fun k => cotterref06_Syms.mono _ _ _ k) (show k1 ≤ k1 + k2 + 1 by omega) e1
      have e2' := at_rounds (g := fun k => cotterref06_May.l0 k 0 ((0 : Nat) : Int) code data syms rels) (fun k => (cotterref06_May.mono_l k).2.1 _ _ _ _ _ _) (show k2 ≤ k1 + k2 by omega) e2
      rw [if_neg (by omega), if_neg (by omega), e1']
      simp only [Option.bind_some, cotterref06_May.j0, List.drop_zero, Int.natCast_zero] at e2' ⊢
      by_cases q3 : symsOk syms (code.size : Int) (data.length : Int) = true
      · rw [if_pos q3]
        by_cases q4 : rels.length ≤ 8000
        · rw [if_neg (by simp; omega), e2']; simp [q1, q2, q3, q4]
        · rw [if_pos (by simp; omega)]; simp [q4]
      · rw [if_neg q3, if_pos trivial]; simp [q3]
    · refine ⟨1, ?_⟩
      rw [if_neg (by omega), if_pos (by omega)]
      simp [cotterref06_May.j0, q2]
  · refine ⟨1, ?_⟩
    rw [if_pos (by omega)]
    simp [cotterref06_May.j0, q1]
end Go.Proofs.Ytochgjeanajoiaa.HA
