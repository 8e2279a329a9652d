/- Written by hand: the contract of objf.symbols (function 64). -/
import Derived.Test.YtochgjeanajoiaaHAK
import Derived.Test.YtochgjeanajoiaaHAGOb
import Derived.Maps.OwnOps
import Derived.Maps.OwnSet
import Derived.Lib.Hide
namespace Go.Proofs.Ytochgjeanajoiaa.HA
open Go.RowKit Go.WideMaps Go.Maps Go.Proofs.YtochgjeanajoiaaW.PrintWords Go.Proofs.YtochgjeanajoiaaW.PrintLast Go.Proofs.YtochgjeanajoiaaW.PrintMore
set_option linter.unusedVariables false
set_option linter.unusedSimpArgs false

def nameOk (s : ByteArray) : Bool := decide (0 < s.size ∧ s.size ≤ 28)
def symOk (c d : Int) (s : S32) : Bool := decide ((s.f1 = 1 ∨ s.f1 = 2 ∨ s.f1 = 3) ∧ (0 < s.f0.size ∧ s.f0.size ≤ 28) ∧ 0 ≤ s.f2 ∧ s.f2 < (if s.f1 = 2 then d else c))
def symsOk (l : List S32) (c d : Int) : Bool := l.all (symOk c d) && decide (l.map S32.f0).Nodup && decide (l.length ≤ 1000)
def objf_symbols.f (l : List S32) (c d : Int) : Option Bool := some (symsOk l c d)

def lit (s : ByteArray) : Lit := .string s.data.toList
theorem lit_inj {a b : ByteArray} (h : lit a = lit b) : a = b := by
  simp only [lit, Lit.string.injEq] at h
  exact ByteArray.ext (Array.toList_inj.1 h)
/-- What the map of names tells of the names that were met. -/
structure Names (D : DataW Unit) (ns : List ByteArray) : Prop where
  tidy : Tidy D
  has : ∀ kl, Maps.has D kl = ns.any (fun s => (lit s).sameKey kl)
  le : Maps.size D ≤ ns.length
  iff : Maps.size D = ns.length ↔ ns.Nodup
theorem names_nil : Names (.map []) [] := ⟨tidy_empty, fun _ => rfl, Nat.le_refl _, by simp [Maps.size]⟩
theorem isKey_lit (s : ByteArray) : WideAt.IsKeyLit (lit s) := by simp [lit, WideAt.IsKeyLit]
theorem names_step {D : DataW Unit} {ns : List ByteArray} (h : Names D ns) (s : ByteArray) (d : DataW Unit) : Names (D.put (lit s) d) (ns ++ [s]) := by
  have hm : Maps.has D (lit s) = true ↔ s ∈ ns := by
    rw [h.has]
    simp only [List.any_eq_true]
    constructor
    · rintro ⟨x, hx, he⟩
      by_cases e : lit x = lit s
      · rw [← lit_inj e]; exact hx
      · rw [sameKey_ne e] at he; cases he
    · intro hs
      exact ⟨s, hs, by simp [lit, Lit.sameKey]⟩
  have hs := size_put h.tidy (k := lit s) d
  refine ⟨h.tidy.put (isKey_lit s) d, fun kl => ?_, ?_, ?_⟩
  · by_cases e : kl = lit s
    · subst e
      rw [has_put_same h.tidy.isMap (isKey_lit s)]
      simp [lit, Lit.sameKey]
    · rw [has_put_other e, h.has, List.any_append]
      have : (lit s).sameKey kl = false := sameKey_ne (fun x => e x.symm)
      simp [this]
  · rw [hs]
    have := h.le
    split <;> simp <;> omega
  · rw [hs, List.nodup_append]
    have hle := h.le
    by_cases e : s ∈ ns
    · rw [if_pos (hm.2 e)]
      simp only [List.length_append, List.length_singleton]
      constructor
      · intro h1; omega
      · rintro ⟨_, _, h3⟩; exact absurd rfl (h3 s e s (by simp))
    · rw [if_neg (fun x => e (hm.1 x))]
      simp only [List.length_append, List.length_singleton, Nat.add_right_cancel_iff, h.iff]
      constructor
      · intro h1; exact ⟨h1, by simp, fun a ha b hb => by simp at hb; subst hb; exact fun x => e (x ▸ ha)⟩
      · exact fun h1 => h1.1
theorem law9 : Keyed Try.prog 9 := string_keyed Try.underlying9
theorem zero3 (w : World) : (zeroValue 3).run Try.prog w = .ok (.int .i64 0) w := by kernel_rfl

def SymInv (l : List S32) (c d : Int) (k : Nat) (W : World) (B : Nat) : Prop := ∃ D : DataW Unit, W.ownsMap Try.prog 9 (plainElem Try.prog 3) B k D ∧ Names D ((l.take k).map S32.f0) ∧ (l.take k).all (symOk c d) = true

theorem isName_true {s : ByteArray} (h : 0 < s.size ∧ s.size ≤ 28) : objf_isName.f s = some true := by
  unfold objf_isName.f
  rw [if_pos (by omega)]; simp; omega
theorem isName_false {s : ByteArray} (h : ¬ (0 < s.size ∧ s.size ≤ 28)) : objf_isName.f s = some false := by
  unfold objf_isName.f
  split
  · simp; omega
  · rfl

theorem symInv_step {l : List S32} {c d : Int} {k : Nat} {W1 : World} {B : Nat} {s : S32} (hs : l[k]? = some s) (hok : symOk c d s = true) {D : DataW Unit} (hN : Names D ((l.take k).map S32.f0)) (hall : (l.take k).all (symOk c d) = true) {v : DataW Unit}
    (ho : W1.ownsMap Try.prog 9 (plainElem Try.prog 3) B (k + 1) (D.put (lit s.f0) v)) : SymInv l c d (k + 1) W1 B := by
  have e : l.take (k + 1) = l.take k ++ [s] := by rw [List.take_add_one, hs]; rfl
  exact ⟨_, ho, by rw [e, List.map_append]; exact names_step hN s.f0 v, by rw [e, List.all_append, hall]; simpa using hok⟩
theorem symsOk_false {l : List S32} {c d : Int} {k : Nat} {s : S32} (hs : l[k]? = some s) (hok : symOk c d s = false) : symsOk l c d = false := by
  have : l.all (symOk c d) = false := by
    rw [List.all_eq_false]
    exact ⟨s, List.mem_of_getElem? hs, by simp [hok]⟩
  simp [symsOk, this]
theorem symsOk_end {l : List S32} {c d : Int} {D : DataW Unit} (hN : Names D ((l.take l.length).map S32.f0)) (hall : (l.take l.length).all (symOk c d) = true) : symsOk l c d = (decide (Maps.size D = l.length) && decide (l.length ≤ 1000)) := by
  rw [List.take_length] at hN hall
  have h := hN.iff
  rw [List.length_map] at h
  simp only [symsOk, hall, Bool.true_and, decide_eq_decide.2 h.symm]
theorem keyOf_lit {s : ByteArray} (h : s.size ≤ 28) : keyOf Try.prog 9 (.string s) = some (lit s) := keyOf_string_mk Try.underlying9 (by unfold maxLen; omega)

set_option maxRecDepth 100000 in
set_option maxHeartbeats 4000000 in
theorem objf_symbols.calls (A0 : Option Addr) (c0 : Nat) (l0 : List S32) (a1 a2 : Int) (r : Bool) (w : World) (hr0 : Kd.C k32 w A0 l0.length l0) (hc0 : l0.length ≤ c0) (h : objf_symbols.f l0 a1 a2 = some r) :
    Calls Try.prog 64 #[.slice A0 l0.length c0, .int .i64 a1, .int .i64 a2] w fun e w' => e = .returned (.bool r) ∧ Below w.heap.size w w' := by
  have hu32 := Try.underlying32
  have HR0 := Aside0.mk hr0
  have hlen : l0.length ≤ 9223372036854775807 := hr0.2.1
  have HF : Aside0 (symsOk l0 a1 a2 = r) := Aside0.mk (Option.some.inj h)
  clear hr0 hc0 h
  have hmm := @run_makeMap Try.prog
  go_enter Try.func64, Try.ntmps64
  go_wp2
  go_loopw [14] (fun i wr => ∃ k : Nat, k ≤ l0.length ∧ i = .int .i64 k ∧ SymInv l0 a1 a2 k wr w.heap.size ∧ Below w.heap.size w wr)
    (fun i _ => l0.length - (intOf i).toNat)
  case atStart => exact ⟨0, Nat.zero_le _, rfl, ⟨_, World.ownsMap_made _ _ _ _, names_nil, rfl⟩, (Below.refl _ _).alloc (Nat.le_refl _) _⟩
  case round =>
    obtain ⟨k, hk, rfl, HI0, hnx0⟩ := hrel
    obtain ⟨D, hown0, hN0, hall0⟩ := HI0
    have hown := Aside0.mk hown0; have hN := Aside0.mk hN0; have hall := Aside0.mk hall0; have hnx := Aside0.mk hnx0
    have hmaxk : k ≤ 9223372036854775807 := by omega
    clear hown0 hN0 hall0 hnx0
    by_cases hlt : k < l0.length
    · obtain ⟨ad, rfl, g0, g1, g2⟩ := at_T32 (Kd.C_below HR0.out hnx.out) (k : Int) (by omega) (by omega)
      simp only [Int.toNat_natCast] at g0 g1 g2
      obtain ⟨s, hs⟩ : ∃ s, l0[k]? = some s := ⟨_, List.getElem?_eq_getElem hlt⟩
      have e : rd_T32 l0 (k : Int) = s := by simp [rd_T32, hs]
      rw [e] at g0 g1 g2
      have HS := Aside0.mk hs
      clear hs e
      obtain ⟨nm, kd, pl⟩ := s
      simp only at g0 g1 g2
      by_cases hkd : kd = 1 ∨ kd = 2 ∨ kd = 3
      · by_cases hnm : 0 < nm.size ∧ nm.size ≤ 28
        · have HNM := Aside0.mk (isName_true hnm)
          have HKY := Aside0.mk (keyOf_lit hnm.2)
          by_cases hp0 : pl < 0
          · have b0 : decide (pl < 0) = true := decide_eq_true hp0
            have HR : Aside0 (symsOk l0 a1 a2 = false) := Aside0.mk (symsOk_false HS.out (by simp [symOk]; omega))
            obtain rfl : r = false := HF.out.symm.trans HR.out
            clear hnm hp0
            rcases hkd with rfl | rfl | rfl
            all_goals
              go_wp2_with (go_at_call 100; refine (objf_isName.calls nm true _ HNM.out).mono ?_; rintro e w' ⟨rfl, ⟨n, rfl⟩⟩)
              go_ret
              exact ⟨by first | rfl | (simp; done), pw_below_drewN (below_alloc hnx.out _) _⟩
          · have b0 : decide (pl < 0) = false := decide_eq_false hp0
            by_cases hp1 : pl < (if kd = 2 then a2 else a1)
            · have HR : Aside0 (symOk a1 a2 ⟨nm, kd, pl⟩ = true) := Aside0.mk (by simp [symOk]; omega)
              clear hp0 hnm
              rcases hkd with rfl | rfl | rfl
              all_goals
                simp only [reduceIte, Int.reduceEq] at hp1
                have b1 := decide_eq_false (Int.not_le.mpr hp1)
                clear hp1
                go_wp2_with (first
                  | (go_at_call 100; refine (objf_isName.calls nm true _ HNM.out).mono ?_; rintro e w' ⟨rfl, ⟨n, rfl⟩⟩)
                  | (at_lookup; refine wpList_lookup_own_int _ rfl _ _ 153 rfl 9 3 .i64 law9 Try.underlying153 Try.underlying3 (zero3 _) w.heap.size k _ rfl (hown.out.alloc _) _ _ rfl HKY.out ?_; intro c hat hwc)
                  | (at_mapUpdate; refine wpList_mapUpdate_own _ rfl _ _ _ 153 rfl 9 3 law9 Try.underlying153 _ w.heap.size k _ rfl (hown.out.alloc _) (by unfold maxLen; omega) _ _ _ rfl rfl HKY.out _ [] (plainElem_int Try.underlying3 (wrap64_wf _)) ?_))
                intro w1 hown1 hgrow1
                have R1 := Aside0.mk (symInv_step HS.out HR.out hN.out hall.out hown1)
                have R2 := Aside0.mk ((pw_below_drewN (below_alloc hnx.out _) _).grown hgrow1 (pw_below_drewN (below_alloc hnx.out _) _).size (fun j hj => by cases hj; exact Nat.le_refl _))
                clear hown1 hgrow1 hat hwc
                go_wp2
                go_roundw
                case rel => exact ⟨k + 1, by omega, by go_num, R1.out, R2.out⟩
                case measure => simp [intOf]; omega
            · have HR : Aside0 (symsOk l0 a1 a2 = false) := Aside0.mk (symsOk_false HS.out (by simp [symOk]; omega))
              obtain rfl : r = false := HF.out.symm.trans HR.out
              clear hp0 hnm
              rcases hkd with rfl | rfl | rfl
              all_goals
                simp only [reduceIte, Int.reduceEq] at hp1
                have b1 := decide_eq_true (Int.not_lt.mp hp1)
                clear hp1
                go_wp2_with (go_at_call 100; refine (objf_isName.calls nm true _ HNM.out).mono ?_; rintro e w' ⟨rfl, ⟨n, rfl⟩⟩)
                go_ret
                exact ⟨by first | rfl | (simp; done), pw_below_drewN (below_alloc hnx.out _) _⟩
        · have HNM := Aside0.mk (isName_false hnm)
          have HR : Aside0 (symsOk l0 a1 a2 = false) := Aside0.mk (symsOk_false HS.out (by simp [symOk]; omega))
          obtain rfl : r = false := HF.out.symm.trans HR.out
          clear hnm
          rcases hkd with rfl | rfl | rfl
          all_goals
            go_wp2_with (go_at_call 100; refine (objf_isName.calls nm false _ HNM.out).mono ?_; rintro e w' ⟨rfl, ⟨n, rfl⟩⟩)
            go_ret
            exact ⟨by first | rfl | (simp; done), pw_below_drewN (below_alloc hnx.out _) _⟩
      · have HR : Aside0 (symsOk l0 a1 a2 = false) := Aside0.mk (symsOk_false HS.out (by simp [symOk]; omega))
        obtain rfl : r = false := HF.out.symm.trans HR.out
        have c1 : (kd == 1) = false := beq_eq_false_iff_ne.2 (by omega)
        have c2 : (kd == 2) = false := beq_eq_false_iff_ne.2 (by omega)
        have c3 : (kd == 3) = false := beq_eq_false_iff_ne.2 (by omega)
        clear hkd
        go_wp2
        go_ret
        exact ⟨by first | rfl | (simp; done), below_alloc hnx.out _⟩
    · obtain rfl : k = l0.length := by omega
      have HE := Aside0.mk (symsOk_end hN.out hall.out)
      by_cases e1 : Maps.size D = l0.length
      · by_cases e2 : l0.length ≤ 1000
        · have HR : Aside0 (symsOk l0 a1 a2 = true) := Aside0.mk (by rw [HE.out]; simp [e1, e2])
          obtain rfl : r = true := HF.out.symm.trans HR.out
          have b1 : (Maps.size D == l0.length) = true := by simp [e1]
          have b1' : ((Maps.size D : Int) == (l0.length : Int)) = true := by simp [e1]; try omega
          have b2 : decide (l0.length ≤ 1000) = true := by simp [e2]
          have b2' : decide ((l0.length : Int) ≤ 1000) = true := by simp; omega
          clear e1 e2
          go_wp2_with (first | (at_len; refine wpList_len_own _ rfl _ 153 rfl 9 3 Try.underlying153 _ w.heap.size _ _ rfl hown.out ?_))
          go_ret
          exact ⟨by first | rfl | (simp; done), hnx.out⟩
        · have HR : Aside0 (symsOk l0 a1 a2 = false) := Aside0.mk (by rw [HE.out]; simp [e2])
          obtain rfl : r = false := HF.out.symm.trans HR.out
          have b1 : (Maps.size D == l0.length) = true := by simp [e1]
          have b1' : ((Maps.size D : Int) == (l0.length : Int)) = true := by simp [e1]; try omega
          have b2 : decide (l0.length ≤ 1000) = false := by simp [e2]
          have b2' : decide ((l0.length : Int) ≤ 1000) = false := by simp; omega
          clear e1 e2
          go_wp2_with (first | (at_len; refine wpList_len_own _ rfl _ 153 rfl 9 3 Try.underlying153 _ w.heap.size _ _ rfl hown.out ?_))
          go_ret
          exact ⟨by first | rfl | (simp; done), hnx.out⟩
      · have HR : Aside0 (symsOk l0 a1 a2 = false) := Aside0.mk (by rw [HE.out]; simp [e1])
        obtain rfl : r = false := HF.out.symm.trans HR.out
        have b1 : (Maps.size D == l0.length) = false := by simp [e1]
        have b1' : ((Maps.size D : Int) == (l0.length : Int)) = false := by simp [e1]; try omega
        clear e1
        go_wp2_with (first | (at_len; refine wpList_len_own _ rfl _ 153 rfl 9 3 Try.underlying153 _ w.heap.size _ _ rfl hown.out ?_))
        go_ret
        exact ⟨by first | rfl | (simp; done), hnx.out⟩
end Go.Proofs.Ytochgjeanajoiaa.HA
