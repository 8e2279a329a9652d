/- Written by hand: the reference's reader in plain words. -/
import Derived.Test.YtochgjeanajoiaaM2rs
import Derived.Test.YtochgjeanajoiaaHAGRr
namespace Go.Proofs.Ytochgjeanajoiaa.HA
open Go.RowKit Go.Proofs.YtochgjeanajoiaaW.PrintWords Go.Proofs.YtochgjeanajoiaaW.PrintLast Go.Proofs.YtochgjeanajoiaaW.PrintMore
set_option linter.unusedVariables false
set_option linter.unusedSimpArgs false
theorem ref_or (u b i : Nat) (hi : i ≤ 9) (hu : u < 2 ^ (7 * i)) (hb : b < 256) (h9 : i = 9 → b % 128 ≤ 1) :
    IntKind.u64.wrap ((u : Int) + (shl .u64 (IntKind.u64.wrap (Int.tmod (b : Int) 128)) (IntKind.u64.wrap (wrap64 (7 * (i : Int)))))) = ((u + b % 128 * 2 ^ (7 * i) : Nat) : Int) := by
  have e : IntKind.u64.wrap (Int.tmod (b : Int) 128) = ((b % 128 : Nat) : Int) := by rw [Int.tmod_eq_emod_of_nonneg (by omega), wrap_u64]; omega
  have e7 : IntKind.u64.wrap (wrap64 (7 * (i : Int))) = ((7 * i : Nat) : Int) := by
    clear hu
    rw [wrap_u64]; unfold wrap64; omega
  have hs := sum_lt u (b % 128) i hi hu (Nat.mod_lt _ (by omega)) h9
  rw [e, e7, shl7 (b % 128) i hi (Nat.mod_lt _ (by omega)) h9 _ rfl, wrap_u64]
  clear hu h9 e e7
  generalize b % 128 * 2 ^ (7 * i) = q at *
  omega
theorem ref_Take_l0 (s : ByteArray) (a : Nat) (hs : s.size ≤ 4611686018427387904) (ha : a ≤ s.size) : ∀ (m i u : Nat), m + i = 10 → u < 2 ^ (7 * i) → ∀ k, 3 * m + 2 ≤ k → cotterref01_Take.l0 k s (a : Int) (u : Int) (i : Int) = takeR (takeG s a m i u)
  | 0, i, u, hm, hu, k, hk => by
    clear hu
    obtain ⟨k, rfl⟩ : ∃ q, k = q + 2 := ⟨k - 2, by omega⟩
    simp only [cotterref01_Take.l0, cotterref01_Take.j2, takeG, takeR]
    rw [if_neg (by omega)]; simp
  | m + 1, i, u, hm, hu, k, hk => by
    have HU := Aside0.mk hu
    clear hu
    obtain ⟨k, rfl⟩ : ∃ q, k = q + 3 := ⟨k - 3, by omega⟩
    have hw : wrap64 ((a : Int) + (i : Int)) = ((a + i : Nat) : Int) := by unfold wrap64; omega
    have h70 : (0 : Int) ≤ IntKind.u64.wrap (wrap64 (7 * (i : Int))) := by rw [wrap_u64]; omega
    have h1 : wrap64 ((i : Int) + 1) = ((i + 1 : Nat) : Int) := by unfold wrap64; omega
    have hn : wrap64 (((a + i : Nat) : Int) + 1) = ((a + i + 1 : Nat) : Int) := by unfold wrap64; omega
    have hb := bn_lt s (a + i)
    simp only [cotterref01_Take.l0, cotterref01_Take.j2, takeG, hw, bn_eq]
    generalize hB : bn s (a + i) = b at *
    rw [if_pos (by omega)]
    by_cases h : a + i < s.size
    · have hd1 : ((a + i : Nat) : Int) < (s.size : Int) := by omega
      rw [if_pos (by simp; omega), if_pos (by omega), if_pos hd1, if_pos h]
      have key : ∀ t : Bool, (t = true ↔ (i = 9 ∧ 1 < b)) → cotterref01_Take.j3 (k + 1) s (a : Int) (u : Int) (i : Int) (b : Int) t = takeR (if (i = 9 ∧ 1 < b) ∨ (0 < i ∧ b = 0) then none else if b < 128 then some (u + b * 2 ^ (7 * i), a + i + 1) else takeG s a m (i + 1) (u + (b - 128) * 2 ^ (7 * i))) := by
        intro t ht
        simp only [cotterref01_Take.j3, hw, hn, h1]
        by_cases hc : i = 9 ∧ 1 < b
        · rw [if_pos (ht.2 hc), if_pos (.inl hc)]; simp only [takeR]
        · have hi : i ≤ 9 := by omega
          rw [if_neg (fun x => hc (ht.1 x)), if_pos h70]
          by_cases h128 : b < 128
          · rw [if_pos (by omega)]
            by_cases h0 : b = 0
            · rw [if_pos (by omega)]
              by_cases hi0 : 0 < i
              · rw [if_pos (by omega), if_pos (.inr ⟨hi0, h0⟩)]; simp only [takeR]
              · rw [if_neg (by omega), if_neg (by omega), if_pos h128, ref_or u b i hi HU.out hb (by omega), Nat.mod_eq_of_lt h128]; simp only [takeR]
            · rw [if_neg (by omega), if_neg (by omega), if_pos h128, ref_or u b i hi HU.out hb (by omega), Nat.mod_eq_of_lt h128]; simp only [takeR]
          · have e : b % 128 = b - 128 := by omega
            rw [if_neg (by omega), if_neg (by omega), if_neg h128, ref_or u b i hi HU.out hb (by omega), e]
            exact ref_Take_l0 s a hs ha m (i + 1) _ (by omega) (next_lt u _ i HU.out (by omega)) k (by omega)
      by_cases h9 : i = 9
      · rw [if_pos (by omega)]; exact key _ (by simp [h9]; omega)
      · rw [if_neg (by omega)]; exact key false (by simp [h9])
    · rw [if_neg (by simp; omega), if_neg h]; simp only [takeR]
theorem ref_Take_f (s : ByteArray) (a : Nat) (hs : s.size ≤ 4611686018427387904) (ha : a ≤ s.size) : cotterref01_Take.f 40 s (a : Int) = takeR (takeG s a 10 0 0) := by
  unfold cotterref01_Take.f
  rw [if_neg (by omega)]
  simp only [cotterref01_Take.j0]
  rw [if_neg (by simp; omega)]
  exact ref_Take_l0 s a hs ha 10 0 0 rfl (by simp) 39 (by omega)
/-- The number of the bytes from j on. -/
def topN (s : ByteArray) : Nat → Nat → Nat
  | 0, _ => 0
  | m + 1, j => bn s j + 256 * topN s m (j + 1)
theorem topN_lt (s : ByteArray) : ∀ m j, topN s m j < 256 ^ m
  | 0, _ => by simp [topN]
  | m + 1, j => by
    have h := topN_lt s m (j + 1)
    have hb := bn_lt s j
    have e : 256 ^ (m + 1) = 256 * 256 ^ m := by rw [Nat.pow_succ]; omega
    rw [topN, e]; omega
theorem ref_Number_l0 (s : ByteArray) (hs : s.size = 8) (k m : Nat) (hm : m < 8) : cotterref01_Number.l0 (k + 1) s (topN s m (8 - m) : Int) ((7 - m : Nat) : Int) = cotterref01_Number.l0 k s (topN s (m + 1) (8 - (m + 1)) : Int) (((7 - m : Nat) : Int) - 1) := by
  have hx := topN_lt s m (8 - m)
  have hp : 256 ^ m ≤ 72057594037927936 := by
    have : 256 ^ m ≤ 256 ^ 7 := Nat.pow_le_pow_right (by omega) (by omega)
    omega
  have hb := bn_lt s (7 - m)
  have c1 : ((7 - m : Nat) : Int) ≥ 0 := by omega
  have c3 : ((7 - m : Nat) : Int) < (s.size : Int) := by rw [hs]; omega
  have e1 : wrap64 (((7 - m : Nat) : Int) - 1) = ((7 - m : Nat) : Int) - 1 := by clear hx hp; unfold wrap64; omega
  simp only [cotterref01_Number.l0]
  rw [if_pos c1, if_pos c1, if_pos c3, e1, bn_eq]
  congr 1
  have e : 8 - (m + 1) = 7 - m := by omega
  have e' : 7 - m + 1 = 8 - m := by omega
  rw [e, topN, e', wrap_u64, wrap_u64, wrap_u64]
  have hlt : topN s m (8 - m) < 72057594037927936 := by omega
  clear hx hp
  generalize topN s m (8 - m) = q at *
  generalize bn s (7 - m) = b at *
  omega
theorem top_sum (s : ByteArray) : topN s 8 0 = sumN s 8 := by
  simp only [topN, sumN, Nat.zero_add, Nat.reduceAdd, Nat.reduceMul, Nat.reducePow]
  omega
theorem ref_Number_8 (s : ByteArray) (hs : s.size = 8) : cotterref01_Number.f 10 s = some (wrap64 (sumN s 8 : Int), 0) := by
  unfold cotterref01_Number.f
  have h8 : cotterref01_sized.f 8 = some true := by rfl
  rw [hs]
  have h8' : cotterref01_sized.f ((8 : Nat) : Int) = some true := by rfl
  rw [h8']
  simp only [Option.bind_some, if_true]
  have ew : wrap64 (((8 : Nat) : Int) - 1) = ((7 - 0 : Nat) : Int) := by unfold wrap64; rfl
  have h0 : cotterref01_Number.l0 10 s 0 ((7 - 0 : Nat) : Int) = cotterref01_Number.l0 10 s ((topN s 0 (8 - 0) : Nat) : Int) ((7 - 0 : Nat) : Int) := rfl
  rw [ew, h0]
  rw [ref_Number_l0 s hs _ 0 (by omega), show ((7 - 0 : Nat) : Int) - 1 = ((7 - 1 : Nat) : Int) from by decide,
    ref_Number_l0 s hs _ 1 (by omega), show ((7 - 1 : Nat) : Int) - 1 = ((7 - 2 : Nat) : Int) from by decide,
    ref_Number_l0 s hs _ 2 (by omega), show ((7 - 2 : Nat) : Int) - 1 = ((7 - 3 : Nat) : Int) from by decide,
    ref_Number_l0 s hs _ 3 (by omega), show ((7 - 3 : Nat) : Int) - 1 = ((7 - 4 : Nat) : Int) from by decide,
    ref_Number_l0 s hs _ 4 (by omega), show ((7 - 4 : Nat) : Int) - 1 = ((7 - 5 : Nat) : Int) from by decide,
    ref_Number_l0 s hs _ 5 (by omega), show ((7 - 5 : Nat) : Int) - 1 = ((7 - 6 : Nat) : Int) from by decide,
    ref_Number_l0 s hs _ 6 (by omega), show ((7 - 6 : Nat) : Int) - 1 = ((7 - 7 : Nat) : Int) from by decide,
    ref_Number_l0 s hs _ 7 (by omega), show ((7 - 7 : Nat) : Int) - 1 = -1 from by decide]
  simp only [cotterref01_Number.l0]
  rw [if_neg (by omega), hs, if_neg (by omega), show 8 - (7 + 1) = 0 from rfl, show 7 + 1 = 8 from rfl, top_sum]
end Go.Proofs.Ytochgjeanajoiaa.HA
namespace Go.Proofs.Ytochgjeanajoiaa.HA
open Go.RowKit Go.Proofs.YtochgjeanajoiaaW.PrintWords Go.Proofs.YtochgjeanajoiaaW.PrintLast Go.Proofs.YtochgjeanajoiaaW.PrintMore
set_option linter.unusedVariables false
set_option linter.unusedSimpArgs false

theorem toList_inj2 {a b : ByteArray} : a.toList = b.toList ↔ a = b := by
  rw [ByteArray.toList_eq, ByteArray.toList_eq]
  constructor
  · intro h; exact ByteArray.ext (Array.toList_inj.1 h)
  · rintro rfl; rfl
/-- Where the reader stands: o, or nowhere any more. -/
def St (s : ByteArray) (o : Option Nat) (p : Int) (bad : Bool) : Prop := (∃ a : Nat, o = some a ∧ p = (a : Int) ∧ bad = false ∧ a ≤ s.size) ∨ (o = none ∧ bad = true ∧ ∃ a : Nat, p = (a : Int) ∧ a ≤ s.size)
theorem St.some {s : ByteArray} {a : Nat} (h : a ≤ s.size) : St s (some a) (a : Int) false := .inl ⟨a, rfl, rfl, rfl, h⟩
theorem St.none {s : ByteArray} {a : Nat} (h : a ≤ s.size) : St s none (a : Int) true := .inr ⟨rfl, rfl, a, rfl, h⟩
theorem St.at_ {s : ByteArray} {o : Option Nat} {p : Int} {bad : Bool} (h : St s o p bad) : ∃ a : Nat, p = (a : Int) ∧ a ≤ s.size := by
  rcases h with ⟨a, _, h1, _, h2⟩ | ⟨_, _, a, h1, h2⟩ <;> exact ⟨a, h1, h2⟩
theorem ref_Take_k (s : ByteArray) (a k : Nat) (hs : s.size ≤ 4611686018427387904) (ha : a ≤ s.size) (hk : 40 ≤ k) : cotterref01_Take.f k s (a : Int) = takeR (takeG s a 10 0 0) := by
  unfold cotterref01_Take.f
  rw [if_neg (by omega)]
  obtain ⟨k, rfl⟩ : ∃ q, k = q + 1 := ⟨k - 1, by omega⟩
  simp only [cotterref01_Take.j0]
  rw [if_neg (by simp; omega)]
  exact ref_Take_l0 s a hs ha 10 0 0 rfl (by simp) k (by omega)
theorem num_q {s : ByteArray} {o : Option Nat} {p : Int} {bad : Bool} {most k : Nat} (hs : s.size ≤ 4611686018427387904) (hk : 40 ≤ k) (hm : most ≤ 65536) (h : St s o p bad) :
    ∃ (x : Nat) (p' : Int) (bad' : Bool), cotterref06_Reader_Number.f k s p bad (most : Int) = some ((x : Int), s, p', bad') ∧ x ≤ most ∧ St s ((o.bind (pNum s most)).map Prod.snd) p' bad' ∧ ∀ r, o.bind (pNum s most) = some r → x = r.1 := by
  unfold cotterref06_Reader_Number.f
  rcases h with ⟨a, rfl, rfl, rfl, ha⟩ | ⟨rfl, rfl, a, rfl, ha⟩
  · rw [ref_Take_k s a k hs ha hk]
    have hm' : IntKind.u64.wrap (most : Int) = (most : Int) := by rw [wrap_u64]; omega
    simp only [Option.bind_some, hm']
    unfold pNum
    rcases hG : takeG s a 10 0 0 with _ | ⟨u, n⟩
    · refine ⟨0, _, _, by simp [takeR], Nat.zero_le _, St.none ha, fun r h => by cases h⟩
    · have hn := takeG_le s a _ _ _ _ _ hG
      simp only [takeR, Option.bind_some]
      rw [if_neg (by decide), if_pos trivial]
      by_cases hu : u ≤ most
      · have hw : wrap64 (u : Int) = (u : Int) := by unfold wrap64; omega
        rw [if_neg (by omega), hw, if_pos hu]
        exact ⟨u, _, _, rfl, hu, St.some hn.2.1, fun r h => by cases h; rfl⟩
      · rw [if_pos (by omega), if_neg hu]
        exact ⟨0, _, _, rfl, Nat.zero_le _, St.none ha, fun r h => by cases h⟩
  · rw [ref_Take_k s a k hs ha hk]
    refine ⟨0, _, _, ?_, Nat.zero_le _, St.none ha, fun r h => by cases h⟩
    rcases takeG s a 10 0 0 with _ | ⟨u, n⟩ <;> simp [takeR]
theorem bytes_q {s : ByteArray} {o : Option Nat} {p : Int} {bad : Bool} {n : Nat} (hs : s.size ≤ 4611686018427387904) (hn : n ≤ 65536) (h : St s o p bad) :
    ∃ (t : ByteArray) (p' : Int) (bad' : Bool), cotterref06_Reader_Bytes.f s p bad (n : Int) = some (t, s, p', bad') ∧ (t.size = n ∨ t = ⟨#[]⟩) ∧ St s ((o.bind (pTake s n)).map Prod.snd) p' bad' ∧ (∀ r, o.bind (pTake s n) = some r → t = r.1) ∧ (o.bind (pTake s n) = none → t = ⟨#[]⟩) := by
  unfold cotterref06_Reader_Bytes.f
  rcases h with ⟨a, rfl, rfl, rfl, ha⟩ | ⟨rfl, rfl, a, rfl, ha⟩
  · have h1 : wrap64 ((s.size : Int) - (a : Int)) = ((s.size - a : Nat) : Int) := by unfold wrap64; omega
    have h2 : wrap64 ((a : Int) + (n : Int)) = ((a + n : Nat) : Int) := by unfold wrap64; omega
    have h3 : wrap64 (((a + n : Nat) : Int) - (n : Int)) = (a : Int) := by unfold wrap64; omega
    rw [if_neg (by decide), h1, h2, h3]
    simp only [Option.bind_some]
    unfold pTake
    by_cases hc : n ≤ s.size - a
    · rw [if_neg (by omega), if_pos (by omega), if_pos (by omega), if_pos (by omega), if_pos hc]
      refine ⟨_, _, _, rfl, .inl ?_, St.some (by omega), (fun r h => by cases h; rfl), fun h => by cases h⟩
      simp only [Int.toNat_natCast, ByteArray.size_extract]
      omega
    · rw [if_pos (by omega), if_neg hc]
      exact ⟨_, _, _, rfl, .inr rfl, St.none ha, (fun r h => by cases h), fun _ => rfl⟩
  · rw [if_pos rfl]
    exact ⟨_, _, _, rfl, .inr rfl, St.none ha, (fun r h => by cases h), fun _ => rfl⟩
theorem one_q {s : ByteArray} {o : Option Nat} {p : Int} {bad : Bool} (hs : s.size ≤ 4611686018427387904) (h : St s o p bad) :
    ∃ (x : Int) (p' : Int) (bad' : Bool), cotterref06_Reader_One.f s p bad = some (x, s, p', bad') ∧ St s ((o.bind (pOne s)).map Prod.snd) p' bad' ∧ ∀ r, o.bind (pOne s) = some r → x = r.1 := by
  obtain ⟨t, p', bad', h1, h2, h3, h4, h5⟩ := bytes_q (n := 1) hs (by omega) h
  unfold cotterref06_Reader_One.f
  rw [show (1 : Int) = ((1 : Nat) : Int) from rfl, h1]
  simp only [Option.bind_some]
  have e0 : (⟨#[]⟩ : ByteArray).toList = ([] : List UInt8) := by rw [ByteArray.toList_eq]
  rcases hq : o.bind (pTake s 1) with _ | r
  · have ht := h5 hq
    subst ht
    rw [if_pos e0]
    have hp : o.bind (pOne s) = none := by
      rcases o with _ | a
      · rfl
      · simp only [Option.bind_some] at hq ⊢; unfold pOne; rw [hq]
    refine ⟨0, p', bad', rfl, ?_, fun r h => by rw [hp] at h; cases h⟩
    rw [hp]; rw [hq] at h3; exact h3
  · have ht := h4 r hq
    have hp : o.bind (pOne s) = some (bt r.1 0, r.2) := by
      rcases o with _ | a
      · cases hq
      · simp only [Option.bind_some] at hq ⊢; unfold pOne; rw [hq]
    have hsz : r.1.size = 1 := by
      rcases o with _ | a
      · cases hq
      · simp only [Option.bind_some] at hq
        unfold pTake at hq
        split at hq
        · cases hq; simp only [ByteArray.size_extract]; omega
        · cases hq
    subst ht
    have hne : ¬ r.1.toList = ([] : List UInt8) := by
      rw [ByteArray.toList_eq]
      intro h
      have := congrArg List.length h
      rw [data_length, List.length_nil] at this
      omega
    have hb := bt_rng r.1 0
    have hw : wrap64 (bt r.1 0) = bt r.1 0 := by unfold wrap64; omega
    rw [if_neg hne, if_pos (by omega), hw]
    refine ⟨_, p', bad', rfl, ?_, fun r' h => by rw [hp] at h; cases h; rfl⟩
    rw [hp]; rw [hq] at h3; exact h3
theorem ref_Number_0 (k : Nat) : cotterref01_Number.f (k + 1) ⟨#[]⟩ = some (0, 1) := by
  unfold cotterref01_Number.f
  have h0 : cotterref01_sized.f ((ByteArray.mk #[]).size : Int) = some false := by rfl
  rw [h0]; simp
theorem wide_q {s : ByteArray} {o : Option Nat} {p : Int} {bad : Bool} {k : Nat} (hs : s.size ≤ 4611686018427387904) (hk : 10 ≤ k) (h : St s o p bad) :
    ∃ (x : Int) (p' : Int) (bad' : Bool), cotterref06_Reader_Wide.f k s p bad = some (x, s, p', bad') ∧ St s ((o.bind (pWide s)).map Prod.snd) p' bad' ∧ ∀ r, o.bind (pWide s) = some r → x = r.1 := by
  obtain ⟨t, p', bad', h1, h2, h3, h4, h5⟩ := bytes_q (n := 8) hs (by omega) h
  unfold cotterref06_Reader_Wide.f
  rw [show (8 : Int) = ((8 : Nat) : Int) from rfl, h1]
  simp only [Option.bind_some]
  rcases hq : o.bind (pTake s 8) with _ | r
  · have ht := h5 hq
    subst ht
    obtain ⟨k, rfl⟩ : ∃ q, k = q + 1 := ⟨k - 1, by omega⟩
    rw [ref_Number_0]
    have hp : o.bind (pWide s) = none := by
      rcases o with _ | a
      · rfl
      · simp only [Option.bind_some] at hq ⊢; exact pWide_none hq
    refine ⟨0, p', bad', rfl, ?_, fun r h => by rw [hp] at h; cases h⟩
    rw [hp]; rw [hq] at h3; exact h3
  · have ht := h4 r hq
    have hsz : r.1.size = 8 := by
      rcases o with _ | a
      · cases hq
      · simp only [Option.bind_some] at hq
        unfold pTake at hq
        split at hq
        · cases hq; simp only [ByteArray.size_extract]; omega
        · cases hq
    have hp : o.bind (pWide s) = some (wrap64 (sumN r.1 8 : Int), r.2) := by
      rcases o with _ | a
      · cases hq
      · simp only [Option.bind_some] at hq ⊢; exact pWide_some hq
    subst ht
    have hN := at_rounds (g := fun k => cotterref01_Number.f k r.1) (fun k => cotterref01_Number.mono _ k) hk (ref_Number_8 r.1 hsz)
    rw [hN]
    refine ⟨_, p', bad', rfl, ?_, fun r' h => by rw [hp] at h; cases h; rfl⟩
    rw [hp]; rw [hq] at h3; exact h3
/-! ### loops -/
def pFront (mark : ByteArray) (s : ByteArray) : Option ((ByteArray × List Int × List S32) × Nat) :=
  (pTake s 4 0).bind fun m => if m.1 = mark then (pNum s 65536 m.2).bind fun n1 => (pTake s n1.1 n1.2).bind fun code => (pNum s 4096 code.2).bind fun n2 => (pMany (pWide s) n2.1 n2.2).bind fun data =>
    (pNum s 1000 data.2).bind fun n3 => (pMany (pSym s) n3.1 n3.2).bind fun syms => some ((code.1, data.1, syms.1), syms.2) else none
/-- From o on there are still m to be read. -/
def pFrom {α : Type} (p : Nat → Option (α × Nat)) (m : Nat) (acc : List α) (o : Option Nat) : Option (List α × Nat) := (o.bind (pMany p m)).map fun q => (acc ++ q.1, q.2)
theorem pFrom_step {α : Type} {p : Nat → Option (α × Nat)} {m : Nat} {acc : List α} {a : Nat} {x : α} (hx : ∀ r, p a = some r → x = r.1) : pFrom p (m + 1) acc (some a) = pFrom p m (acc ++ [x]) ((p a).map Prod.snd) := by
  unfold pFrom
  simp only [Option.bind_some, pMany]
  rcases hp : p a with _ | r
  · rfl
  · have := hx r hp
    subst this
    simp only [Option.bind_some, Option.map_some]
    rcases pMany p m r.2 with _ | q
    · rfl
    · simp
theorem pFrom_zero {α : Type} {p : Nat → Option (α × Nat)} {acc : List α} {a : Nat} : pFrom p 0 acc (some a) = some (acc, a) := by simp [pFrom, pMany]
theorem pFrom_none {α : Type} {p : Nat → Option (α × Nat)} {m : Nat} {acc : List α} : pFrom p m acc none = none := rfl
/-- The symbols' loop. -/
theorem front_l1 {s : ByteArray} (hs : s.size ≤ 4611686018427387904) (code : ByteArray) (data : List Int) (n : Nat) (hn : n ≤ 1000) : ∀ (m : Nat) (acc : List S32) (o : Option Nat) (p : Int) (bad : Bool), acc.length + m = n → St s o p bad →
    ∃ (k : Nat) (l : List S32) (p' : Int) (bad' : Bool), cotterref06_Reader_Front.l1 k code (n : Int) data acc (acc.length : Int) s p bad = some (code, data, l, s, p', bad') ∧ St s ((pFrom (pSym s) m acc o).map Prod.snd) p' bad' ∧ (∀ r, pFrom (pSym s) m acc o = some r → l = r.1) ∧ l.length ≤ n
  | 0, acc, o, p, bad, h, hst => by
    refine ⟨2, acc, p, bad, ?_, ?_, ?_, by omega⟩
    · simp only [cotterref06_Reader_Front.l1, cotterref06_Reader_Front.j4]
      rw [if_neg (by omega), if_neg (by decide)]
    · rcases o with _ | a
      · exact hst
      · rw [pFrom_zero]; exact hst
    · rcases o with _ | a
      · intro r h; cases h
      · intro r h; rw [pFrom_zero] at h; cases h; rfl
  | m + 1, acc, o, p, bad, h, hst => by
    rcases hst with ⟨a, rfl, rfl, rfl, ha⟩ | ⟨rfl, rfl, a, rfl, ha⟩
    · obtain ⟨x1, p1, b1, e1, g1, s1, t1⟩ := num_q (most := 28) (k := 40) hs (Nat.le_refl _) (by omega) (St.some ha)
      obtain ⟨x2, p2, b2, e2, g2, s2, t2, _⟩ := bytes_q (n := x1) hs (by omega) s1
      obtain ⟨x3, p3, b3, e3, s3, t3⟩ := one_q hs s2
      obtain ⟨x4, p4, b4, e4, g4, s4, t4⟩ := num_q (most := 65536) (k := 40) hs (Nat.le_refl _) (by omega) s3
      have key : (pSym s a).map Prod.snd = ((((((some a).bind (pNum s 28)).map Prod.snd).bind (pTake s x1)).map Prod.snd).bind (pOne s) |>.map Prod.snd |>.bind (pNum s 65536)).map Prod.snd ∧ ∀ r, pSym s a = some r → (⟨x2, x3, (x4 : Int)⟩ : S32) = r.1 := by
        unfold pSym
        simp only [Option.bind_some] at t1 t2 t3 t4 ⊢
        rcases q1 : pNum s 28 a with _ | r1
        · have : pName s a = none := pName_none q1
          rw [this]; exact ⟨rfl, fun r h => by cases h⟩
        · have hx1 := t1 r1 q1
          obtain ⟨n1, a1⟩ := r1
          simp only at hx1
          subst hx1
          rw [pName_get q1]
          rw [q1] at t2 t3 t4
          simp only [Option.map_some, Option.bind_some] at t2 t3 t4 ⊢
          rcases q2 : pTake s x1 a1 with _ | r2
          · exact ⟨rfl, fun r h => by cases h⟩
          · have hx2 := t2 r2 q2
            rw [q2] at t3 t4
            simp only [Option.map_some, Option.bind_some] at t3 t4 ⊢
            rcases q3 : pOne s r2.2 with _ | r3
            · exact ⟨rfl, fun r h => by cases h⟩
            · have hx3 := t3 r3 q3
              rw [q3] at t4
              simp only [Option.map_some, Option.bind_some] at t4 ⊢
              rcases q4 : pNum s 65536 r3.2 with _ | r4
              · exact ⟨rfl, fun r h => by cases h⟩
              · have hx4 := t4 r4 q4
                refine ⟨rfl, fun r h => ?_⟩
                cases h
                rw [hx2, hx3, hx4]
      rw [← key.1] at s4
      obtain ⟨k, l, p', bad', f1, f2, f3, f4⟩ := front_l1 hs code data n hn m (acc ++ [⟨x2, x3, (x4 : Int)⟩]) _ p4 b4 (by simp; omega) s4
      have hw : wrap64 ((acc.length : Int) + 1) = ((acc ++ [(⟨x2, x3, (x4 : Int)⟩ : S32)]).length : Int) := by rw [List.length_append, List.length_singleton]; unfold wrap64; omega
      refine ⟨(k + 40) + 2, l, p', bad', ?_, ?_, ?_, f4⟩
      · have e1' := at_rounds (g := fun k => cotterref06_Reader_Number.f k s (a : Int) false ((28 : Nat) : Int)) (fun k => cotterref06_Reader_Number.mono _ _ _ _ k) (show 40 ≤ k + 40 by omega) e1
        have e4' := at_rounds (g := fun k => cotterref06_Reader_Number.f k s p3 b3 ((65536 : Nat) : Int)) (fun k => cotterref06_Reader_Number.mono _ _ _ _ k) (show 40 ≤ k + 40 by omega) e4
        have f1' := at_rounds (g := fun k => cotterref06_Reader_Front.l1 k code (n : Int) data (acc ++ [(⟨x2, x3, (x4 : Int)⟩ : S32)]) ((acc ++ [(⟨x2, x3, (x4 : Int)⟩ : S32)]).length : Int) s p4 b4) (fun k => (cotterref06_Reader_Front.mono_l k).2.2.1 _ _ _ _ _ _ _ _) (show k ≤ k + 40 by omega) f1
        clear e1 e4 f1
        generalize k + 40 = K at e1' e4' f1' ⊢
        simp only [cotterref06_Reader_Front.l1, cotterref06_Reader_Front.j4]
        rw [if_pos (by omega), show (!false) = true from rfl, if_pos rfl, show (28 : Int) = ((28 : Nat) : Int) from rfl, e1']
        simp only [Option.bind_some, e2, e3]
        rw [show (65536 : Int) = ((65536 : Nat) : Int) from rfl, e4']
        simp only [Option.bind_some]
        rw [if_pos (by omega), hw]
        exact f1'
      · rw [pFrom_step key.2]; exact f2
      · rw [pFrom_step key.2]; exact f3
    · refine ⟨2, acc, _, true, ?_, St.none ha, (fun r h => by cases h), by omega⟩
      simp only [cotterref06_Reader_Front.l1, cotterref06_Reader_Front.j4]
      rw [if_pos (by omega), show (!true) = false from rfl, if_neg (by decide)]
/-- The data's loop, and what stands behind it. -/
theorem front_l0 {s : ByteArray} (hs : s.size ≤ 4611686018427387904) (code : ByteArray) (n : Nat) (hn : n ≤ 4096) : ∀ (m : Nat) (acc : List Int) (o : Option Nat) (p : Int) (bad : Bool), acc.length + m = n → St s o p bad →
    ∃ (k : Nat) (d : List Int) (l : List S32) (p' : Int) (bad' : Bool), cotterref06_Reader_Front.l0 k code (n : Int) acc (acc.length : Int) s p bad = some (code, d, l, s, p', bad') ∧
      St s (((pFrom (pWide s) m acc o).bind fun q => (pNum s 1000 q.2).bind fun n3 => pMany (pSym s) n3.1 n3.2).map Prod.snd) p' bad' ∧
      (∀ q r, pFrom (pWide s) m acc o = some q → ((pNum s 1000 q.2).bind fun n3 => pMany (pSym s) n3.1 n3.2) = some r → d = q.1 ∧ l = r.1) ∧ d.length ≤ n ∧ l.length ≤ 1000
  | m, acc, o, p, bad, h, hst => by
    have stop : (o = none ∨ m = 0) → ∃ (k : Nat) (l : List S32) (p' : Int) (bad' : Bool), cotterref06_Reader_Front.j2 k code acc s p bad = some (code, acc, l, s, p', bad') ∧
      St s (((pFrom (pWide s) m acc o).bind fun q => (pNum s 1000 q.2).bind fun n3 => pMany (pSym s) n3.1 n3.2).map Prod.snd) p' bad' ∧
      (∀ q r, pFrom (pWide s) m acc o = some q → ((pNum s 1000 q.2).bind fun n3 => pMany (pSym s) n3.1 n3.2) = some r → acc = q.1 ∧ l = r.1) ∧ l.length ≤ 1000 := by
      intro hor
      obtain ⟨x1, p1, b1, e1, g1, s1, t1⟩ := num_q (most := 1000) (k := 40) hs (Nat.le_refl _) (by omega) hst
      obtain ⟨k, l, p', bad', f1, f2, f3, f4⟩ := front_l1 hs code acc x1 g1 x1 [] _ p1 b1 (by simp) s1
      refine ⟨k + 41, l, p', bad', ?_, ?_, ?_, by omega⟩
      · have e1' := at_rounds (g := fun k => cotterref06_Reader_Number.f k s p bad ((1000 : Nat) : Int)) (fun k => cotterref06_Reader_Number.mono _ _ _ _ k) (show 40 ≤ k + 40 by omega) e1
        have f1' := at_rounds (g := fun k => cotterref06_Reader_Front.l1 k code (x1 : Int) acc ([] : List S32) (([] : List S32).length : Int) s p1 b1) (fun k => (cotterref06_Reader_Front.mono_l k).2.2.1 _ _ _ _ _ _ _ _) (show k ≤ k + 40 by omega) f1
        simp only [cotterref06_Reader_Front.j2]
        rw [show (1000 : Int) = ((1000 : Nat) : Int) from rfl, e1']
        exact f1'
      · rcases o with _ | a
        · exact f2
        · obtain rfl : m = 0 := by rcases hor with h | h; cases h; exact h
          rw [pFrom_zero]
          simp only [Option.bind_some] at f2 t1 ⊢
          rcases q1 : pNum s 1000 a with _ | r1
          · rw [q1] at f2; exact f2
          · have := t1 r1 q1
            rw [q1] at f2
            simp only [Option.map_some, Option.bind_some, pFrom, List.nil_append, this] at f2 ⊢
            rcases q2 : pMany (pSym s) r1.1 r1.2 with _ | q
            · rw [q2] at f2; exact f2
            · rw [q2] at f2; exact f2
      · rcases o with _ | a
        · intro q r h; cases h
        · obtain rfl : m = 0 := by rcases hor with h | h; cases h; exact h
          intro q r hq hr
          rw [pFrom_zero] at hq
          cases hq
          simp only [Option.bind_some] at f3 t1
          rcases q1 : pNum s 1000 a with _ | r1
          · rw [q1] at hr; cases hr
          · have := t1 r1 q1
            rw [q1] at hr f3
            simp only [Option.bind_some] at hr
            refine ⟨rfl, ?_⟩
            have := f3 r (by simp only [pFrom, Option.map_some, Option.bind_some, List.nil_append, this, hr])
            exact this
    match m, h, stop with
    | 0, h, stop =>
      obtain ⟨k, l, p', bad', f1, f2, f3, f4⟩ := stop (.inr rfl)
      refine ⟨k + 1, acc, l, p', bad', ?_, f2, f3, by omega, f4⟩
      simp only [cotterref06_Reader_Front.l0]
      rw [if_neg (by omega)]; exact f1
    | m + 1, h, stop =>
      rcases hst with ⟨a, rfl, rfl, rfl, ha⟩ | ⟨rfl, rfl, a, rfl, ha⟩
      · obtain ⟨x1, p1, b1, e1, s1, t1⟩ := wide_q (k := 10) hs (Nat.le_refl _) (St.some ha)
        simp only [Option.bind_some] at s1 t1
        obtain ⟨k, d, l, p', bad', f1, f2, f3, f4, f5⟩ := front_l0 hs code n hn m (acc ++ [x1]) _ p1 b1 (by simp; omega) s1
        have hw : wrap64 ((acc.length : Int) + 1) = ((acc ++ [x1]).length : Int) := by rw [List.length_append, List.length_singleton]; unfold wrap64; omega
        rw [pFrom_step t1]
        refine ⟨(k + 10) + 1, d, l, p', bad', ?_, f2, f3, f4, f5⟩
        have e1' := at_rounds (g := fun k => cotterref06_Reader_Wide.f k s (a : Int) false) (fun k => cotterref06_Reader_Wide.mono _ _ _ k) (show 10 ≤ k + 10 by omega) e1
        have f1' := at_rounds (g := fun k => cotterref06_Reader_Front.l0 k code (n : Int) (acc ++ [x1]) ((acc ++ [x1]).length : Int) s p1 b1) (fun k => (cotterref06_Reader_Front.mono_l k).2.2.2.2 _ _ _ _ _ _ _) (show k ≤ k + 10 by omega) f1
        clear e1 f1
        generalize k + 10 = K at e1' f1' ⊢
        simp only [cotterref06_Reader_Front.l0]
        rw [if_pos (by omega), if_neg (by decide), e1']
        simp only [Option.bind_some]
        rw [if_pos (by omega), hw]
        exact f1'
      · obtain ⟨k, l, p', bad', f1, f2, f3, f4⟩ := stop (.inl rfl)
        refine ⟨k + 1, acc, l, p', bad', ?_, f2, f3, by omega, f4⟩
        simp only [cotterref06_Reader_Front.l0]
        rw [if_pos (by omega), if_pos trivial]; exact f1
theorem front_q {s mark : ByteArray} (hs : s.size ≤ 4611686018427387904) : ∃ (k : Nat) (code : ByteArray) (d : List Int) (l : List S32) (p' : Int) (bad' : Bool), cotterref06_Reader_Front.f k s 0 false mark = some (code, d, l, s, p', bad') ∧
    St s ((pFront mark s).map Prod.snd) p' bad' ∧ (∀ r, pFront mark s = some r → (code, d, l) = r.1) ∧ d.length ≤ 4096 ∧ l.length ≤ 1000 := by
  obtain ⟨t, p1, b1, e1, g1, s1, t1, u1⟩ := bytes_q (n := 4) hs (by omega) (St.some (Nat.zero_le s.size))
  have main : ∀ (o : Option Nat) (b1 : Bool), St s o p1 b1 → ∃ (k : Nat) (code : ByteArray) (d : List Int) (l : List S32) (p' : Int) (bad' : Bool), cotterref06_Reader_Front.j0 k s p1 b1 = some (code, d, l, s, p', bad') ∧
      St s ((o.bind fun m => (pNum s 65536 m).bind fun n1 => (pTake s n1.1 n1.2).bind fun code => (pNum s 4096 code.2).bind fun n2 => (pMany (pWide s) n2.1 n2.2).bind fun data =>
        (pNum s 1000 data.2).bind fun n3 => (pMany (pSym s) n3.1 n3.2).bind fun syms => some ((code.1, data.1, syms.1), syms.2)).map Prod.snd) p' bad' ∧
      (∀ r, (o.bind fun m => (pNum s 65536 m).bind fun n1 => (pTake s n1.1 n1.2).bind fun code => (pNum s 4096 code.2).bind fun n2 => (pMany (pWide s) n2.1 n2.2).bind fun data =>
        (pNum s 1000 data.2).bind fun n3 => (pMany (pSym s) n3.1 n3.2).bind fun syms => some ((code.1, data.1, syms.1), syms.2)) = some r → (code, d, l) = r.1) ∧ d.length ≤ 4096 ∧ l.length ≤ 1000 := by
    intro o b1 s1
    obtain ⟨x2, p2, b2, e2, g2, s2, t2⟩ := num_q (most := 65536) (k := 40) hs (Nat.le_refl _) (by omega) s1
    obtain ⟨x3, p3, b3, e3, g3, s3, t3, u3⟩ := bytes_q (n := x2) hs g2 s2
    obtain ⟨x4, p4, b4, e4, g4, s4, t4⟩ := num_q (most := 4096) (k := 40) hs (Nat.le_refl _) (by omega) s3
    obtain ⟨k, d, l, p', bad', f1, f2, f3, f4, f5⟩ := front_l0 hs x3 x4 g4 x4 [] _ p4 b4 (by simp) s4
    refine ⟨(k + 40) + 1, x3, d, l, p', bad', ?_, ?_, ?_, by omega, f5⟩
    · have e2' := at_rounds (g := fun k => cotterref06_Reader_Number.f k s p1 b1 ((65536 : Nat) : Int)) (fun k => cotterref06_Reader_Number.mono _ _ _ _ k) (show 40 ≤ k + 40 by omega) e2
      have e4' := at_rounds (g := fun k => cotterref06_Reader_Number.f k s p3 b3 ((4096 : Nat) : Int)) (fun k => cotterref06_Reader_Number.mono _ _ _ _ k) (show 40 ≤ k + 40 by omega) e4
      have f1' := at_rounds (g := fun k => cotterref06_Reader_Front.l0 k x3 (x4 : Int) ([] : List Int) (([] : List Int).length : Int) s p4 b4) (fun k => (cotterref06_Reader_Front.mono_l k).2.2.2.2 _ _ _ _ _ _ _) (show k ≤ k + 40 by omega) f1
      simp only [cotterref06_Reader_Front.j0]
      rw [show (65536 : Int) = ((65536 : Nat) : Int) from rfl, e2']
      simp only [Option.bind_some, e3]
      rw [show (4096 : Int) = ((4096 : Nat) : Int) from rfl, e4']
      exact f1'
    · rcases o with _ | a
      · exact f2
      · simp only [Option.bind_some] at t2 t3 t4 f2 ⊢
        rcases q2 : pNum s 65536 a with _ | r2
        · rw [q2] at f2; exact f2
        · have h2 := t2 r2 q2
          rw [q2] at t3 t4 f2
          simp only [Option.map_some, Option.bind_some, h2] at t3 t4 f2 ⊢
          rcases q3 : pTake s r2.1 r2.2 with _ | r3
          · rw [q3] at f2; exact f2
          · rw [q3] at t4 f2
            simp only [Option.map_some, Option.bind_some] at t4 f2 ⊢
            rcases q4 : pNum s 4096 r3.2 with _ | r4
            · rw [q4] at f2; exact f2
            · have h4 := t4 r4 q4
              rw [q4] at f2
              simp only [Option.map_some, Option.bind_some, h4, pFrom, List.nil_append] at f2 ⊢
              rcases q5 : pMany (pWide s) r4.1 r4.2 with _ | r5
              · rw [q5] at f2; exact f2
              · rw [q5] at f2
                simp only [Option.map_some, Option.bind_some] at f2 ⊢
                rcases q6 : pNum s 1000 r5.2 with _ | r6
                · rw [q6] at f2; exact f2
                · rw [q6] at f2
                  simp only [Option.bind_some] at f2 ⊢
                  rcases q7 : pMany (pSym s) r6.1 r6.2 with _ | r7
                  · rw [q7] at f2; exact f2
                  · rw [q7] at f2; exact f2
    · intro r hr
      rcases o with _ | a
      · cases hr
      · simp only [Option.bind_some] at t2 t3 t4 f3 hr
        obtain ⟨r2, q2, hr⟩ := Option.bind_eq_some_iff.1 hr
        obtain ⟨r3, q3, hr⟩ := Option.bind_eq_some_iff.1 hr
        obtain ⟨r4, q4, hr⟩ := Option.bind_eq_some_iff.1 hr
        obtain ⟨r5, q5, hr⟩ := Option.bind_eq_some_iff.1 hr
        obtain ⟨r6, q6, hr⟩ := Option.bind_eq_some_iff.1 hr
        obtain ⟨r7, q7, hr⟩ := Option.bind_eq_some_iff.1 hr
        have h2 := t2 r2 q2
        rw [q2] at t3 t4 f3
        simp only [Option.map_some, Option.bind_some, h2] at t3 t4 f3
        have h3 := t3 r3 q3
        rw [q3] at t4 f3
        simp only [Option.map_some, Option.bind_some] at t4 f3
        have h4 := t4 r4 q4
        rw [q4] at f3
        simp only [Option.map_some, Option.bind_some, h4, pFrom, List.nil_append, q5] at f3
        obtain ⟨c1, c2⟩ := f3 r5 r7 rfl (by rw [q6]; exact q7)
        cases hr
        rw [c1, c2, h3]
  unfold cotterref06_Reader_Front.f
  rw [show (4 : Int) = ((4 : Nat) : Int) from rfl, show (0 : Int) = ((0 : Nat) : Int) from rfl, e1]
  simp only [Option.bind_some, toList_inj2] at s1 t1 u1 ⊢
  by_cases hm : t = mark
  · obtain ⟨k, code, d, l, p', bad', f1, f2, f3, f4, f5⟩ := main _ b1 s1
    refine ⟨k, code, d, l, p', bad', by rw [if_pos hm]; exact f1, ?_, ?_, f4, f5⟩
    · unfold pFront
      rcases q : pTake s 4 0 with _ | r
      · rw [q] at f2; exact f2
      · have := t1 r q
        rw [q] at f2
        simp only [Option.map_some, Option.bind_some] at f2 ⊢
        rw [if_pos (this ▸ hm)]; exact f2
    · unfold pFront
      intro r hr
      rcases q : pTake s 4 0 with _ | r'
      · rw [q] at hr; cases hr
      · have := t1 r' q
        rw [q] at hr f3
        simp only [Option.map_some, Option.bind_some] at hr f3
        rw [if_pos (this ▸ hm)] at hr
        exact f3 r hr
  · obtain ⟨a, ha1, ha2⟩ := s1.at_
    obtain ⟨k, code, d, l, p', bad', f1, f2, f3, f4, f5⟩ := main none true (ha1 ▸ St.none ha2)
    have hp : pFront mark s = none := by
      unfold pFront
      rcases q : pTake s 4 0 with _ | r
      · rfl
      · have := t1 r q
        simp only [Option.bind_some]
        rw [if_neg (this ▸ hm)]
    refine ⟨k, code, d, l, p', bad', by rw [if_neg hm]; exact f1, ?_, ?_, f4, f5⟩
    · rw [hp]; exact f2
    · intro r hr; rw [hp] at hr; cases hr
/-! ### the whole form -/
theorem pBody_front (s : ByteArray) : pBody s = (pFront ⟨#[67, 79, 84, 49]⟩ s).bind fun f => (pNum s 8000 f.2).bind fun n4 => (pMany (pRel s) n4.1 n4.2).bind fun rels =>
    if rels.2 = s.size ∧ checkOk f.1.1 f.1.2.1 f.1.2.2 rels.1 = true then some (f.1.1, f.1.2.1, f.1.2.2, rels.1) else none := by
  unfold pBody pFront pRest
  have e : (⟨#[67, 79, 84, 49]⟩ : ByteArray).toList = ([67, 79, 84, 49] : List UInt8) := by rw [ByteArray.toList_eq]
  rcases pTake s 4 0 with _ | m
  · rfl
  · simp only [Option.bind_some]
    have h' : (m.1.toList = ([67, 79, 84, 49] : List UInt8)) ↔ m.1 = ⟨#[67, 79, 84, 49]⟩ := ⟨fun hh => toList_inj2.1 (hh.trans e.symm), fun hh => by rw [hh, e]⟩
    by_cases h : m.1 = ⟨#[67, 79, 84, 49]⟩
    · rw [if_pos (h'.2 h), if_pos h]
      simp only [Option.bind_assoc, Option.bind_some]
    · rw [if_neg (fun x => h (h'.1 x)), if_neg h]; rfl
/-- One relocation, part by part. -/
theorem rel_key {s : ByteArray} {a x1 x3 : Nat} {x2 x5 : Int} {x4 : ByteArray} (t1 : ∀ r, (some a).bind (pNum s 65536) = some r → x1 = r.1)
    (t2 : ∀ r, (((some a).bind (pNum s 65536)).map Prod.snd).bind (pOne s) = some r → x2 = r.1)
    (t3 : ∀ r, (((((some a).bind (pNum s 65536)).map Prod.snd).bind (pOne s)).map Prod.snd).bind (pNum s 28) = some r → x3 = r.1)
    (t4 : ∀ r, (((((((some a).bind (pNum s 65536)).map Prod.snd).bind (pOne s)).map Prod.snd).bind (pNum s 28)).map Prod.snd).bind (pTake s x3) = some r → x4 = r.1)
    (t5 : ∀ r, (((((((((some a).bind (pNum s 65536)).map Prod.snd).bind (pOne s)).map Prod.snd).bind (pNum s 28)).map Prod.snd).bind (pTake s x3)).map Prod.snd).bind (pWide s) = some r → x5 = r.1) :
    (pRel s a).map Prod.snd = ((((((((((some a).bind (pNum s 65536)).map Prod.snd).bind (pOne s)).map Prod.snd).bind (pNum s 28)).map Prod.snd).bind (pTake s x3)).map Prod.snd).bind (pWide s)).map Prod.snd ∧ ∀ r, pRel s a = some r → (⟨(x1 : Int), x2, x4, x5⟩ : S34) = r.1 := by
  unfold pRel
  simp only [Option.bind_some] at t1 t2 t3 t4 t5 ⊢
  rcases q1 : pNum s 65536 a with _ | r1
  · exact ⟨rfl, fun r h => by cases h⟩
  · have h1 := t1 r1 q1
    rw [q1] at t2 t3 t4 t5
    simp only [Option.map_some, Option.bind_some] at t2 t3 t4 t5 ⊢
    rcases q2 : pOne s r1.2 with _ | r2
    · exact ⟨rfl, fun r h => by cases h⟩
    · have h2 := t2 r2 q2
      rw [q2] at t3 t4 t5
      simp only [Option.map_some, Option.bind_some] at t3 t4 t5 ⊢
      rcases q3 : pNum s 28 r2.2 with _ | r3
      · rw [pName_none q3]; exact ⟨rfl, fun r h => by cases h⟩
      · have h3 := t3 r3 q3
        obtain ⟨n3, a3⟩ := r3
        simp only at h3
        subst h3
        rw [pName_get q3]
        rw [q3] at t4 t5
        simp only [Option.map_some, Option.bind_some] at t4 t5 ⊢
        rcases q4 : pTake s x3 a3 with _ | r4
        · exact ⟨rfl, fun r h => by cases h⟩
        · have h4 := t4 r4 q4
          rw [q4] at t5
          simp only [Option.map_some, Option.bind_some] at t5 ⊢
          rcases q5 : pWide s r4.2 with _ | r5
          · exact ⟨rfl, fun r h => by cases h⟩
          · have h5 := t5 r5 q5
            refine ⟨rfl, fun r h => ?_⟩
            cases h
            rw [h1, h2, h4, h5]
end Go.Proofs.Ytochgjeanajoiaa.HA
