/- Written by hand: objf.Check in plain words. -/
import Derived.Test.YtochgjeanajoiaaHAGOc
import Derived.Test.YtochgjeanajoiaaM0n
namespace Go.Proofs.Ytochgjeanajoiaa.HA
open Go.RowKit Go.Proofs.YtochgjeanajoiaaW.PrintWords Go.Proofs.YtochgjeanajoiaaW.PrintLast Go.Proofs.YtochgjeanajoiaaW.PrintMore
set_option linter.unusedVariables false
set_option linter.unusedSimpArgs false

def relOk (free c : Int) (r : S34) : Bool := decide ((0 < r.f2.size ∧ r.f2.size ≤ 28) ∧ free ≤ r.f0 ∧ r.f0 ≤ c - 4 ∧ ((r.f1 = 1 ∧ r.f3 = 0) ∨ (r.f1 = 2 ∧ -2147483648 ≤ r.f3 ∧ r.f3 ≤ 2147483647)))
def relsFrom (free c : Int) : List S34 → Bool
  | [] => true
  | r :: rs => relOk free c r && relsFrom (r.f0 + 4) c rs
def relsOk (l : List S34) (c : Int) : Bool := relsFrom 0 c l && decide (l.length ≤ 8000)
def checkOk (code : ByteArray) (data : List Int) (syms : List S32) (rels : List S34) : Bool := decide (code.size ≤ 65536) && decide (data.length ≤ 4096) && symsOk syms code.size data.length && relsOk rels code.size

theorem rels_l0 (l : List S34) (c : Int) (h0 : 0 ≤ c) (h1 : c ≤ 4611686018427387904) (hl : l.length ≤ 9223372036854775807) : ∀ (n i : Nat) (free : Int), i + n = l.length → 0 ≤ free → ∀ k, 2 * n + 1 ≤ k →
    objf_relocations.l0 k l c free l (l.length : Int) (i : Int) = some (relsFrom free c (l.drop i) && decide (l.length ≤ 8000))
  | 0, i, free, hi, hf, k, hk => by
    obtain ⟨k, rfl⟩ : ∃ q, k = q + 1 := ⟨k - 1, by omega⟩
    simp only [objf_relocations.l0]
    rw [if_neg (by omega), List.drop_eq_nil_of_le (by omega)]
    simp only [relsFrom, Bool.true_and]
    congr 1
    exact decide_eq_decide.2 (by omega)
  | n + 1, i, free, hi, hf, k, hk => by
    obtain ⟨k, rfl⟩ : ∃ q, k = q + 2 := ⟨k - 2, by omega⟩
    have hlt : i < l.length := by omega
    simp only [objf_relocations.l0]
    rw [if_pos (by omega), if_pos (by omega), if_pos (by omega)]
    have e : rd_T34 l (i : Int) = l[i] := by simp [rd_T34, List.getElem?_eq_getElem hlt]
    rw [e, List.drop_eq_getElem_cons hlt]
    generalize l[i] = r
    obtain ⟨at_, kd, nm, ad⟩ := r
    dsimp only
    have hw1 : wrap64 ((i : Int) + 1) = ((i + 1 : Nat) : Int) := by unfold wrap64; omega
    have hwc : wrap64 (c - 4) = c - 4 := by unfold wrap64; omega
    have key : ∀ t : Bool, (t = true ↔ ¬ ((0 < nm.size ∧ nm.size ≤ 28) ∧ free ≤ at_ ∧ at_ ≤ c - 4)) → objf_relocations.j1 (k + 1) l c l (l.length : Int) (i : Int) t at_ kd nm ad = some (relsFrom free c (⟨at_, kd, nm, ad⟩ :: l.drop (i + 1)) && decide (l.length ≤ 8000)) := by
      intro t ht
      simp only [objf_relocations.j1, relsFrom, hw1]
      by_cases hc : (0 < nm.size ∧ nm.size ≤ 28) ∧ free ≤ at_ ∧ at_ ≤ c - 4
      · rw [if_neg (fun x => (ht.1 x) hc)]
        have hw4 : wrap64 (at_ + 4) = at_ + 4 := by unfold wrap64; omega
        rw [hw4]
        have hrec := rels_l0 l c h0 h1 hl n (i + 1) (at_ + 4) (by omega) (by omega) k (by omega)
        by_cases k1 : kd = 1
        · rw [if_pos k1]
          by_cases a0 : ad = 0
          · rw [if_pos a0, hrec]
            have : relOk free c ⟨at_, kd, nm, ad⟩ = true := by simp [relOk]; omega
            rw [this, Bool.true_and]
          · rw [if_neg a0]
            have : relOk free c ⟨at_, kd, nm, ad⟩ = false := by simp [relOk]; omega
            rw [this]; rfl
        · rw [if_neg k1]
          by_cases k2 : kd = 2
          · rw [if_pos k2]
            by_cases a1 : ad < -2147483648
            · rw [if_pos a1]
              have : relOk free c ⟨at_, kd, nm, ad⟩ = false := by simp [relOk]; omega
              rw [this]; rfl
            · rw [if_neg a1]
              by_cases a2 : ad > 2147483647
              · rw [if_pos a2]
                have : relOk free c ⟨at_, kd, nm, ad⟩ = false := by simp [relOk]; omega
                rw [this]; rfl
              · rw [if_neg a2, hrec]
                have : relOk free c ⟨at_, kd, nm, ad⟩ = true := by simp [relOk]; omega
                rw [this, Bool.true_and]
          · rw [if_neg k2]
            have : relOk free c ⟨at_, kd, nm, ad⟩ = false := by simp [relOk]; omega
            rw [this]; rfl
      · rw [if_pos (ht.2 hc)]
        have : relOk free c ⟨at_, kd, nm, ad⟩ = false := by simp only [relOk, decide_eq_false_iff_not]; omega
        rw [this]; rfl
    by_cases hn : 0 < nm.size ∧ nm.size ≤ 28
    · rw [isName_true hn]
      simp only [Option.bind_some, if_true]
      by_cases hlo : at_ < free
      · rw [if_pos hlo]; exact key true (by simp; omega)
      · rw [if_neg hlo, hwc]; exact key _ (by simp; omega)
    · rw [isName_false hn]
      simp only [Option.bind_some]
      rw [if_neg (by simp)]; exact key true (by simp; omega)
theorem relocations_f (l : List S34) (c : Int) (h0 : 0 ≤ c) (h1 : c ≤ 4611686018427387904) (hl : l.length ≤ 9223372036854775807) (k : Nat) (hk : 2 * l.length + 1 ≤ k) : objf_relocations.f k l c = some (relsOk l c) :=
  rels_l0 l c h0 h1 hl l.length 0 0 (by omega) (by omega) k hk
theorem check_f (code : ByteArray) (data : List Int) (syms : List S32) (rels : List S34) (hl : rels.length ≤ 9223372036854775807) (k : Nat) (hk : 2 * rels.length + 1 ≤ k) : objf_Check.f k code data syms rels = some (if checkOk code data syms rels then 0 else 1) := by
  unfold objf_Check.f checkOk objf_symbols.f
  by_cases c1 : (code.size : Int) > 65536
  · rw [if_pos c1]
    have : decide (code.size ≤ 65536) = false := by simp; omega
    simp [this]
  · rw [if_neg c1]
    have d1 : decide (code.size ≤ 65536) = true := by simp; omega
    by_cases c2 : (data.length : Int) > 4096
    · rw [if_pos c2]
      have : decide (data.length ≤ 4096) = false := by simp; omega
      simp [this]
    · rw [if_neg c2]
      have d2 : decide (data.length ≤ 4096) = true := by simp; omega
      rw [d1, d2]
      simp only [Option.bind_some, Bool.true_and]
      rw [relocations_f rels code.size (by omega) (by omega) hl k hk]
      cases symsOk syms code.size data.length <;> cases relsOk rels code.size <;> rfl
end Go.Proofs.Ytochgjeanajoiaa.HA
