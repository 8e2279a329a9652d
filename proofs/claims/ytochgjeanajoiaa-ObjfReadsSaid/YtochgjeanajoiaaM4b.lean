/- Written by hand: forms of objects: read as they were written, written as they were read. -/
import Derived.Test.YtochgjeanajoiaaM4a
namespace Go.Proofs.Ytochgjeanajoiaa.HA
open Go.RowKit Go.Proofs.YtochgjeanajoiaaW.PrintWords Go.Proofs.YtochgjeanajoiaaW.PrintLast Go.Proofs.YtochgjeanajoiaaW.PrintMore
set_option linter.unusedVariables false
set_option linter.unusedSimpArgs false

theorem toList_iff {s t : ByteArray} : s.toList = t.toList ↔ s = t := by
  rw [ByteArray.toList_eq, ByteArray.toList_eq]
  constructor
  · intro h; exact bytesOf_inj (by unfold bytesOf; rw [h])
  · rintro rfl; rfl
theorem relsFrom_in {c : Int} (hc : 0 ≤ c) (hc1 : c ≤ 65536) : ∀ (l : List S34) (free : Int), 0 ≤ free → relsFrom free c l = true → ∀ x ∈ l, RelIn x
  | [], _, _, _ => by simp
  | r :: rs, free, h0, h => by
    simp only [relsFrom, Bool.and_eq_true, relOk, decide_eq_true_eq] at h
    obtain ⟨⟨h1, h2, h3, h4⟩, h5⟩ := h
    intro x hx
    rcases List.mem_cons.1 hx with rfl | hx
    · refine ⟨h1.2, by omega, by omega, by omega, by omega, ?_⟩
      unfold inI64; omega
    · exact relsFrom_in hc hc1 rs (r.f0 + 4) (by omega) h5 x hx
structure Ins (code : ByteArray) (data : List Int) (syms : List S32) (rels : List S34) : Prop where
  code : code.size ≤ 65536
  data : data.length ≤ 4096
  nsyms : syms.length ≤ 1000
  nrels : rels.length ≤ 8000
  syms : ∀ x ∈ syms, SymIn x
  rels : ∀ x ∈ rels, RelIn x
theorem ins_of {code : ByteArray} {data : List Int} {syms : List S32} {rels : List S34} (h : checkOk code data syms rels = true) : Ins code data syms rels := by
  simp only [checkOk, symsOk, relsOk, Bool.and_eq_true, decide_eq_true_eq] at h
  obtain ⟨⟨⟨h1, h2⟩, ⟨h3, _⟩, h4⟩, h5, h6⟩ := h
  refine ⟨h1, h2, h4, h6, fun x hx => ?_, relsFrom_in (by omega) (by omega) _ 0 (by omega) h5⟩
  have := List.all_eq_true.1 h3 x hx
  simp only [symOk, decide_eq_true_eq] at this
  obtain ⟨k1, k2, k3, k4⟩ := this
  refine ⟨k2.2, by omega, by omega, k3, ?_⟩
  split at k4 <;> omega
def markL : List Int := [67, 79, 84, 49]
theorem mark_bytes : bytesOf (⟨#[67, 79, 84, 49]⟩ : ByteArray) = markL := by decide
theorem formL_eq (c : ByteArray) (d : List Int) (y : List S32) (r : List S34) : formL c d y r = markL ++ (putL c.size ++ (bytesOf c ++ (putL d.length ++ (d.flatMap le8 ++ (putL y.length ++ (y.flatMap symL ++ (putL r.length ++ r.flatMap relL))))))) := by
  simp only [formL, frontL, strL, markL, List.append_assoc]
theorem pTake_put' {s t : ByteArray} {a : Nat} (ha : a ≤ s.size) (h : At s a (bytesOf t)) : pTake s t.size a = some (t, a + (bytesOf t).length) := by rw [bytesOf_length]; exact pTake_put ha rfl h
theorem body_put {s c : ByteArray} {d : List Int} {y : List S32} {r : List S34} (hok : checkOk c d y r = true) (hd : ∀ n ∈ d, inI64 n) (h : At s 0 (formL c d y r)) : pBody s = if (formL c d y r).length = s.size then some (c, d, y, r) else none := by
  have hi := ins_of hok
  rw [formL_eq] at h ⊢
  have h1 := h.left
  have g1 := h.right
  have b1 := h1.le (Nat.zero_le _)
  have h2 := g1.left
  have g2 := g1.right
  have b2 := h2.le b1
  have h3 := g2.left
  have g3 := g2.right
  have b3 := h3.le b2
  have h4 := g3.left
  have g4 := g3.right
  have b4 := h4.le b3
  have h5 := g4.left
  have g5 := g4.right
  have b5 := h5.le b4
  have h6 := g5.left
  have g6 := g5.right
  have b6 := h6.le b5
  have h7 := g6.left
  have g7 := g6.right
  have b7 := h7.le b6
  have h8 := g7.left
  have h9 := g7.right
  have b8 := h8.le b7
  have e1 : pTake s 4 0 = some (⟨#[67, 79, 84, 49]⟩, 0 + markL.length) := pTake_put (t := ⟨#[67, 79, 84, 49]⟩) (Nat.zero_le _) rfl (by rw [mark_bytes]; exact h1)
  have e2 := pNum_put (most := 65536) (by omega) hi.code h2
  have e3 := pTake_put' b2 h3
  have e4 := pNum_put (most := 4096) (by omega) hi.data h4
  have e5 := pMany_put d (p := pWide s) (e := le8) (fun x hx a ha hA => pWide_put (hd x hx) ha hA) _ b4 h5
  have e6 := pNum_put (most := 1000) (by omega) hi.nsyms h6
  have e7 := pMany_put y (p := pSym s) (e := symL) (fun x hx a ha hA => pSym_put (hi.syms x hx) ha hA) _ b6 h7
  have e8 := pNum_put (most := 8000) (by omega) hi.nrels h8
  have e9 := pMany_put r (p := pRel s) (e := relL) (fun x hx a ha hA => pRel_put (hi.rels x hx) ha hA) _ b8 h9
  unfold pBody
  rw [e1]
  simp only [Option.bind_some]
  rw [if_pos (by rw [ByteArray.toList_eq])]
  unfold pRest
  rw [e2]
  simp only [Option.bind_some]
  rw [e3]
  simp only [Option.bind_some]
  rw [e4]
  simp only [Option.bind_some]
  rw [e5]
  simp only [Option.bind_some]
  rw [e6]
  simp only [Option.bind_some]
  rw [e7]
  simp only [Option.bind_some]
  rw [e8]
  simp only [Option.bind_some]
  rw [e9]
  simp only [Option.bind_some, hok, and_true]
  simp only [List.length_append, Nat.add_assoc, Nat.zero_add]
theorem body_get {s c : ByteArray} {d : List Int} {y : List S32} {r : List S34} (h : pBody s = some (c, d, y, r)) : checkOk c d y r = true ∧ (∀ n ∈ d, inI64 n) ∧ bytesOf s = formL c d y r := by
  unfold pBody at h
  simp only [Option.bind_eq_some_iff] at h
  obtain ⟨⟨m, a1⟩, h1, h⟩ := h
  obtain ⟨k1, l1, l1'⟩ := pTake_get (Nat.zero_le _) h1
  have b1 : a1 ≤ s.size := (pTake_le (Nat.zero_le _) h1).2.1
  dsimp only at h
  split at h
  · rename_i hm
    have hm' : m = ⟨#[67, 79, 84, 49]⟩ := toList_iff.1 (hm.trans (by rw [ByteArray.toList_eq]))
    subst hm'
    rw [mark_bytes] at k1
    unfold pRest at h
    simp only [Option.bind_eq_some_iff] at h
    obtain ⟨⟨n1, a2⟩, h2, ⟨c', a3⟩, h3, ⟨n2, a4⟩, h4, ⟨d', a5⟩, h5, ⟨n3, a6⟩, h6, ⟨y', a7⟩, h7, ⟨n4, a8⟩, h8, ⟨r', a9⟩, h9, h⟩ := h
    dsimp only at h2 h3 h4 h5 h6 h7 h8 h9 h
    split at h
    · rename_i hc
      simp only [Option.some.injEq, Prod.mk.injEq] at h
      obtain ⟨rfl, rfl, rfl, rfl⟩ := h
      obtain ⟨k2, l2, _⟩ := pNum_get h2
      have b2 := (pNum_le h2).2.2
      obtain ⟨k3, l3, l3'⟩ := pTake_get b2 h3
      have b3 : a3 ≤ s.size := (pTake_le b2 h3).2.1
      obtain ⟨k4, l4, _⟩ := pNum_get h4
      have b4 := (pNum_le h4).2.2
      obtain ⟨k5, l5, l5', l5''⟩ := pMany_get (e := le8) (G := inI64) (fun x a b ha hp => by rw [le8_len]; exact pWide_out ha hp) _ _ _ _ b4 h5
      have b5 : a5 ≤ s.size := by rw [l5]; exact k5.le b4
      obtain ⟨k6, l6, _⟩ := pNum_get h6
      have b6 := (pNum_le h6).2.2
      obtain ⟨k7, l7, l7', _⟩ := pMany_get (e := symL) (G := SymIn) (fun x a b ha hp => pSym_out ha hp) _ _ _ _ b6 h7
      have b7 : a7 ≤ s.size := by rw [l7]; exact k7.le b6
      obtain ⟨k8, l8, _⟩ := pNum_get h8
      have b8 := (pNum_le h8).2.2
      obtain ⟨k9, l9, l9', _⟩ := pMany_get (e := relL) (G := RelIn) (fun x a b ha hp => pRel_out ha hp) _ _ _ _ b8 h9
      refine ⟨hc.2, l5'', ?_⟩
      rw [← l3'] at k2 l2
      rw [← l5'] at k4 l4
      rw [← l7'] at k6 l6
      rw [← l9'] at k8 l8
      have hlen : (formL c' d' y' r').length = s.size := by
        rw [formL_eq, ← hc.1]
        simp only [List.length_append, bytesOf_length]
        have : markL.length = 4 := rfl
        omega
      have hA : At s 0 (formL c' d' y' r') := by
        rw [formL_eq]
        refine k1.append ?_
        rw [show 0 + markL.length = a1 from by rw [l1]; rfl]
        refine k2.append ?_
        rw [← l2]
        refine k3.append ?_
        rw [bytesOf_length, l3', ← l3]
        refine k4.append ?_
        rw [← l4]
        refine k5.append ?_
        rw [← l5]
        refine k6.append ?_
        rw [← l6]
        refine k7.append ?_
        rw [← l7]
        refine k8.append ?_
        rw [← l8]
        exact k9
      obtain ⟨R, hR⟩ := hA
      rw [List.drop_zero] at hR
      have : R.length = 0 := by
        have := congrArg List.length hR
        rw [List.length_append, bytesOf_length] at this; omega
      rw [hR, List.length_eq_zero_iff.1 this, List.append_nil]
    · cases h
  · cases h
theorem strL_byte (s : ByteArray) (x : Int) (h : x ∈ strL s) : 0 ≤ x ∧ x < 256 := by
  rcases List.mem_append.1 h with h | h
  · exact putL_bytes _ x h
  · unfold bytesOf at h
    obtain ⟨b, _, rfl⟩ := List.mem_map.1 h
    have := UInt8.toNat_lt b; omega
theorem form_bytes (c : ByteArray) (d : List Int) (y : List S32) (r : List S34) : bytesOf (formB c d y r) = formL c d y r := by
  unfold formB
  refine bytesOf_str _ ?_
  intro x hx
  simp only [formL, frontL, List.mem_append, List.mem_flatMap] at hx
  rcases hx with ((((((h | h) | h) | ⟨n, _, h⟩) | h) | ⟨n, _, h⟩) | h) | ⟨n, _, h⟩
  · simp only [List.mem_cons, List.not_mem_nil, or_false] at h; omega
  · exact strL_byte _ x h
  · exact putL_bytes _ x h
  · exact le8_bytes _ x h
  · exact putL_bytes _ x h
  · simp only [symL, List.mem_append, List.mem_singleton] at h
    rcases h with (h | rfl) | h
    · exact strL_byte _ x h
    · omega
    · exact putL_bytes _ x h
  · exact putL_bytes _ x h
  · simp only [relL, List.mem_append, List.mem_singleton] at h
    rcases h with ((h | rfl) | h) | h
    · exact putL_bytes _ x h
    · omega
    · exact strL_byte _ x h
    · exact le8_bytes _ x h
theorem form_size (c : ByteArray) (d : List Int) (y : List S32) (r : List S34) : (formL c d y r).length = (formB c d y r).size := by rw [← form_bytes, bytesOf_length]
/-- What is written is read. -/
theorem body_form {c : ByteArray} {d : List Int} {y : List S32} {r : List S34} (hok : checkOk c d y r = true) (hd : ∀ n ∈ d, inI64 n) : pBody (formB c d y r) = some (c, d, y, r) := by
  rw [body_put hok hd ⟨[], by rw [List.drop_zero, List.append_nil, form_bytes]⟩, if_pos (form_size c d y r)]
/-- What is read is written. -/
theorem body_inv {s c : ByteArray} {d : List Int} {y : List S32} {r : List S34} (h : pBody s = some (c, d, y, r)) : checkOk c d y r = true ∧ (∀ n ∈ d, inI64 n) ∧ formB c d y r = s := by
  obtain ⟨h1, h2, h3⟩ := body_get h
  exact ⟨h1, h2, bytesOf_inj (by rw [form_bytes, h3])⟩
theorem bytesOf_append (s t : ByteArray) : bytesOf (s ++ t) = bytesOf s ++ bytesOf t := by
  unfold bytesOf; rw [ByteArray.data_append, Array.toList_append, List.map_append]
theorem body_more {c m : ByteArray} {d : List Int} {y : List S32} {r : List S34} (hok : checkOk c d y r = true) (hd : ∀ n ∈ d, inI64 n) (hm : m.size ≠ 0) : pBody (formB c d y r ++ m) = none := by
  rw [body_put hok hd ⟨bytesOf m, by rw [List.drop_zero, bytesOf_append, form_bytes]⟩, if_neg]
  rw [form_size, ByteArray.size_append]; omega
theorem body_cut {c : ByteArray} {d : List Int} {y : List S32} {r : List S34} (hok : checkOk c d y r = true) (hd : ∀ n ∈ d, inI64 n) {i : Nat} (hi : i < (formB c d y r).size) : pBody ((formB c d y r).extract 0 i) = none := by
  rcases h : pBody ((formB c d y r).extract 0 i) with _ | ⟨c', d', y', r'⟩
  · rfl
  · exfalso
    obtain ⟨h1, h2, h3⟩ := body_get h
    have hb : bytesOf ((formB c d y r).extract 0 i) = (bytesOf (formB c d y r)).take i := by rw [bytesOf_extract, List.drop_zero, Nat.sub_zero]
    rw [hb] at h3
    have hA : At (formB c d y r) 0 (formL c' d' y' r') := ⟨(bytesOf (formB c d y r)).drop i, by rw [List.drop_zero, ← h3, List.take_append_drop]⟩
    have e := body_put h1 h2 hA
    rw [body_form hok hd] at e
    split at e
    · rename_i hl
      have := congrArg List.length h3
      rw [List.length_take, bytesOf_length] at this
      omega
    · cases e
/-- Unlike objects have unlike forms. -/
theorem form_inj {c c' : ByteArray} {d d' : List Int} {y y' : List S32} {r r' : List S34} (hok : checkOk c d y r = true) (hd : ∀ n ∈ d, inI64 n) (hok' : checkOk c' d' y' r' = true) (hd' : ∀ n ∈ d', inI64 n) (h : formB c d y r = formB c' d' y' r') : c = c' ∧ d = d' ∧ y = y' ∧ r = r' := by
  have h1 := body_form hok hd
  rw [h, body_form hok' hd'] at h1
  simp only [Option.some.injEq, Prod.mk.injEq] at h1
  exact ⟨h1.1.symm, h1.2.1.symm, h1.2.2.1.symm, h1.2.2.2.symm⟩
end Go.Proofs.Ytochgjeanajoiaa.HA
