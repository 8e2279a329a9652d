/- Written by hand: word, Load, Store of package mem. -/
import Derived.Test.YtochgjeanajoiaaM7e
namespace Go.Proofs.Ytochgjeanajoiaa.HA.Mem
open Go.RowKit Go.WideMaps Go.Maps Go.Proofs.YtochgjeanajoiaaW.PrintWords Go.Proofs.YtochgjeanajoiaaW.PrintLast Go.Proofs.YtochgjeanajoiaaW.PrintMore
set_option linter.unusedVariables false
set_option linter.unusedSimpArgs false

def inR (a : Int) (r : Rg) : Bool := decide (r.base ≤ a ∧ a < endR r)
theorem findW_none {a : Int} : ∀ {l : List Rg}, (∀ r ∈ l, inR a r = false) → findW a l = none
  | [], _ => rfl
  | r :: l, h => by
    have h1 := h r (by simp)
    simp only [inR, decide_eq_false_iff_not] at h1
    unfold findW
    rw [if_neg h1, findW_none (fun r' hr' => h r' (by simp [hr']))]; rfl
theorem findW_hit {a : Int} {x : Rg} : ∀ {l : List Rg} {k : Nat}, l[k]? = some x → (∀ r ∈ l.take k, inR a r = false) → inR a x = true → findW a l = some (k, ((a - x.base) / 8).toNat)
  | [], k, h, _, _ => by simp at h
  | r :: l, 0, h, _, hx => by
    simp only [List.getElem?_cons_zero, Option.some.injEq] at h
    subst h
    simp only [inR, decide_eq_true_eq] at hx
    unfold findW
    rw [if_pos hx]
  | r :: l, k + 1, h, ha, hx => by
    have h1 := ha r (by simp)
    simp only [inR, decide_eq_false_iff_not] at h1
    unfold findW
    rw [if_neg h1, findW_hit (l := l) (k := k) (by simpa using h) (fun r' hr' => ha r' (by simp [hr'])) hx]; rfl
theorem inR_true {a : Int} {r : Rg} (h : r.base ≤ a ∧ a < r.base + 8 * r.words.length) : inR a r = true := by unfold inR endR; simpa using h
theorem inR_false {a : Int} {r : Rg} (h : ¬ (r.base ≤ a ∧ a < r.base + 8 * r.words.length)) : inR a r = false := by unfold inR endR; simpa using h
theorem inR_get {a : Int} {r : Rg} (h : inR a r = true) : r.base ≤ a ∧ a < r.base + 8 * r.words.length := by unfold inR endR at h; simpa using h
/-- Region i's words lie in block gi. -/
def SliceOf (W : World) (rv : Value) (xs : List Rg) (i gi : Nat) : Prop := ∃ ad n c r c', rv = .slice (some ad) n c ∧ xs[i]? = some r ∧ i < n ∧ W.cell? ⟨(ad.add (i * 3)).block, (ad.add (i * 3)).off + 1, none⟩ = some (.slice (some ⟨gi, 0, none⟩) r.words.length c')
section
variable {base : Nat} {ok : Nat → Prop} {W W1 : World} {g n b1 b2 i gi j : Nat} {rv : Value} {m : Mm} {r : Rg}
theorem SliceOf.turn {S : Nat → Prop} (h : SliceOf W rv m.rs i gi) (ht : Turn S W W1) (hS : ∀ k, rv.ownBlock = some k → ¬ S k) : SliceOf W1 rv m.rs i gi := by
  obtain ⟨ad, q, c, r, c', rfl, h1, h2, h3⟩ := h
  refine ⟨ad, q, c, r, c', rfl, h1, h2, cell_kept h3 ht.kept (hS _ ?_)⟩
  simp only [Value.ownBlock, Addr.add]
  split <;> rfl
theorem word_cell (h : MemA base ok W g n b1 b2 rv m) (hs : SliceOf W rv m.rs i gi) (hr : m.rs[i]? = some r) (hj : j < r.words.length) : W.cell? ⟨gi, j, none⟩ = some (.int .i64 (r.words.getD j 0)) ∧ W.frozen? ⟨gi, j, none⟩ = false := by
  obtain ⟨ad, q, c, r', c', rfl, h1, h2, h3⟩ := hs
  rw [hr] at h1
  obtain rfl := Option.some.inj h1
  obtain ⟨cs, hcl, hM, hc⟩ := Kd.S_get h.row zRg (i : Int) (by omega) (by omega)
  rw [Int.toNat_natCast, show m.rs.getD i zRg = r from by simp [hr]] at hM
  obtain ⟨v, rfl, hR⟩ := k59_openM hM
  have h4 := hc 1 _ rfl
  rw [Int.toNat_natCast] at h4
  have h5 : (ad.add (i * k59.sz + 1)) = ⟨(ad.add (i * 3)).block, (ad.add (i * 3)).off + 1, none⟩ := add_field _ _ 1 (by omega)
  rw [h5, h3] at h4
  obtain rfl := Option.some.inj h4
  have := Kd.R_cell (0 : Int) hR (j : Int) (by omega) (by omega)
  rw [Int.toNat_natCast] at this
  refine ⟨this.1.trans ?_, this.2⟩
  simp [rdOf]
theorem word_store (h : MemA base ok W g n b1 b2 rv m) (hs : SliceOf W rv m.rs i gi) (hr : m.rs[i]? = some r) (hj : j < r.words.length) (x : Int) :
    MemA base ok (W.setCell ⟨gi, j, none⟩ (.int .i64 x)) g n b1 b2 rv ⟨setAt m.rs (i, j) x, m.rd, m.wt⟩ ∧ ok gi ∧ base ≤ gi := by
  obtain ⟨ad, q, c, r', c', rfl, h1, h2, h3⟩ := hs
  rw [hr] at h1
  obtain rfl := Option.some.inj h1
  obtain ⟨oki, cs, hcl, hM, hc, hoki, hback⟩ := Kd.S_borrow h.row zRg (i : Int) (by omega) (by omega)
  rw [Int.toNat_natCast, show m.rs.getD i zRg = r from by simp [hr]] at hM
  obtain ⟨v, rfl, hR⟩ := k59_openM hM
  have h4 := hc 1 _ rfl
  rw [Int.toNat_natCast] at h4
  have h5 : (ad.add (i * k59.sz + 1)) = ⟨(ad.add (i * 3)).block, (ad.add (i * 3)).off + 1, none⟩ := add_field _ _ 1 (by omega)
  rw [h5, h3] at h4
  obtain rfl := Option.some.inj h4
  have hput := Kd.R_put hR (j : Int) x
  rw [Int.toNat_natCast] at hput
  have hgi : oki gi := hR.1 gi rfl
  have hgb := Kd.R_base hR gi rfl
  have ht := Kd.R_typed hR gi rfl
  obtain ⟨cells, htc⟩ := ht
  have hS := hback hput.2 (fun k hk => by obtain rfl := Option.some.inj hk; exact hgi) (k59_mkM (x := ⟨r.base, r.words.set j x, r.wr⟩) (by
    have := hput.1
    exact this))
  have hset : setAt m.rs (i, j) x = m.rs.set i ⟨r.base, r.words.set j x, r.wr⟩ := by
    unfold setAt
    apply List.ext_getElem?
    intro q
    rw [List.getElem?_modify, List.getElem?_set]
    have hil : i < m.rs.length := (List.getElem?_eq_some_iff.1 hr).1
    by_cases e : i = q
    · subst e; rw [hr]; simp [hil]
    · simp [e]
  rw [Int.toNat_natCast, ← hset] at hS
  have hne : gi ≠ g := fun e => by
    have hb := h.box
    rw [← e, htc] at hb; cases hb
  have hn1 : gi ≠ b1 := fun e => by
    obtain ⟨es, cl, hb⟩ := h.m1.blk
    rw [← e, htc] at hb; cases hb
  have hn2 : gi ≠ b2 := fun e => by
    obtain ⟨es, cl, hb⟩ := h.m2.blk
    rw [← e, htc] at hb; cases hb
  exact ⟨⟨(Below.heap_setCell _ _ _ _ (Ne.symm hne)).trans h.box, h.bg, h.ok0, h.ok1, h.ok2, h.base1, h.base2, h.ne, h.m1.kept (Below.heap_setCell _ _ _ _ (Ne.symm hn1)), h.m2.kept (Below.heap_setCell _ _ _ _ (Ne.symm hn2)), hS⟩, (hoki _ hgi).1, hgb⟩
end

theorem inR_step {a : Int} {l : List Rg} {k : Nat} {x : Rg} (h : ∀ o ∈ l.take k, inR a o = false) (hx : l[k]? = some x) (hn : inR a x = false) : ∀ o ∈ l.take (k + 1), inR a o = false := by
  intro o ho
  rw [List.take_add_one, hx, List.mem_append] at ho
  rcases ho with ho | ho
  · exact h o ho
  · simp only [Option.toList_some, List.mem_singleton] at ho
    rw [ho]; exact hn
/-- What word answers. -/
def WordIs (W : World) (rv : Value) (rs : List Rg) (a : Int) (p : Value) (b : Bool) : Prop :=
  match wordAt rs a with
  | none => p = .pointer none ∧ b = false
  | some (i, j) => b = mayAt rs (i, j) ∧ ∃ gi, p = .pointer (some ⟨gi, j, none⟩) ∧ SliceOf W rv rs i gi
def WordPost (rv : Value) (rs : List Rg) (a : Int) (w : World) (e : Ending) (w' : World) : Prop := ∃ p b, e = .returned (.tuple #[p, .bool b]) ∧ WordIs w' rv rs a p b ∧ Below w.heap.size w w'
set_option maxRecDepth 100000 in
set_option maxHeartbeats 8000000 in
theorem word_calls (base : Nat) (ok : Nat → Prop) (g n b1 b2 : Nat) (rv : Value) (m : Mm) (a : Int) (w : World) (hm : MemA base ok w g n b1 b2 rv m) (hok : ∀ r ∈ m.rs, regOk r = true) (ha : -9223372036854775808 ≤ a ∧ a ≤ 9223372036854775807) :
    Calls Try.prog 82 #[.pointer (some ⟨g, 0, none⟩), .int .i64 a] w fun e w' => WordPost rv m.rs a w e w' := by
  have HM := Aside0.mk hm
  have HS := Aside0.mk hok
  have hu59 := Try.underlying59
  have hu131 := Try.underlying131
  obtain ⟨A, c, rfl, hlc, hC⟩ := Kd.S_reads hm.row
  have HC := Aside0.mk hC
  have hlen : m.rs.length ≤ 9223372036854775807 := hC.2.1
  have hand := and7 a
  clear hm hok hC
  by_cases q1 : a < 0
  · go_enter Try.func82, Try.ntmps82
    go_wp2
    go_ret2
    unfold WordPost
    exact ⟨.pointer none, false, rfl, by unfold WordIs wordAt; rw [if_pos (.inl q1)]; exact ⟨rfl, rfl⟩, Below.refl _ _⟩
  by_cases q2 : a % 8 = 0
  case neg =>
    go_enter Try.func82, Try.ntmps82
    go_wp2
    go_ret2
    unfold WordPost
    exact ⟨.pointer none, false, rfl, by unfold WordIs wordAt; rw [if_pos (.inr q2)]; exact ⟨rfl, rfl⟩, Below.refl _ _⟩
  have hwa : wordAt m.rs a = findW a m.rs := by unfold wordAt; rw [if_neg (by omega)]
  have HWA := Aside0.mk hwa
  clear hwa
  have p2 := (blk_cell HM.out.box 2).trans rfl
  go_enter Try.func82, Try.ntmps82
  go_wp2
  go_loopw [20] (fun i wr => ∃ k : Nat, k ≤ m.rs.length ∧ i = .int .i64 k ∧ Aside0 (∀ o ∈ m.rs.take k, inR a o = false) ∧ Aside0 (Below w.heap.size w wr)) (fun i _ => m.rs.length - (nOf i).toNat)
  case atStart => exact ⟨0, Nat.zero_le _, rfl, ⟨by simp⟩, ⟨Below.refl _ _⟩⟩
  case round =>
    clear p2
    obtain ⟨k, hk, rfl, HA, HB⟩ := hrel
    by_cases hlt : k < m.rs.length
    case neg =>
      obtain rfl : k = m.rs.length := by omega
      go_wp2
      go_ret2
      unfold WordPost
      refine ⟨.pointer none, false, rfl, ?_, HB.out⟩
      have := HA.out
      rw [List.take_length] at this
      unfold WordIs
      rw [HWA.out, findW_none this]
      exact ⟨rfl, rfl⟩
    have p2 := (blk_cell (blk_below HM.out.box HB.out) 2).trans rfl
    obtain ⟨ad, B, cb, rfl, hat⟩ := at_Rg (Kd.C_below HC.out HB.out) (k : Int) (by omega) (by omega)
    obtain ⟨x, hx⟩ : ∃ x, m.rs[k]? = some x := ⟨_, List.getElem?_eq_getElem hlt⟩
    rw [show rdR m.rs (k : Int) = x from by simp [rdR, hx]] at hat
    have HX := Aside0.mk hx
    obtain ⟨r1, r2, r3⟩ := regOk_iff (HS.out x (List.mem_of_getElem? hx))
    obtain ⟨c0, c1, c2, _, _⟩ := hat
    simp only [Int.toNat_natCast] at c0 c1 c2
    have HK1 := Aside0.mk c1
    clear hx
    by_cases hin : inR a x = true
    case neg =>
      have hout : ¬ (x.base ≤ a ∧ a < x.base + 8 * x.words.length) := fun h => hin (inR_true h)
      have HIN := Aside0.mk (show inR a x = false from by simpa using hin)
      clear hin
      by_cases h1 : x.base ≤ a
      · have h2 : ¬ a < x.base + 8 * x.words.length := fun h => hout ⟨h1, h⟩
        clear hout
        go_wp2_with (first
          | (go_at_call 80; refine (end_calls _ _ _ _ _ _ r1 r3).mono ?_; rintro e w1 ⟨rfl, hb1⟩; have HB1 := Aside0.mk (below_step HB.out hb1); clear hb1))
        go_roundw
        case rel => exact ⟨k + 1, by omega, by go_num, ⟨inR_step HA.out HX.out HIN.out⟩, HB1⟩
        case measure => simp [nOf]; omega
      · go_wp2
        go_roundw
        case rel => exact ⟨k + 1, by omega, by go_num, ⟨inR_step HA.out HX.out HIN.out⟩, HB⟩
        case measure => simp [nOf]; omega
    have HIN := Aside0.mk hin
    obtain ⟨gi, rfl⟩ : ∃ gi, B = some ⟨gi, 0, none⟩ := by
      obtain ⟨cs, hcl, hM, hcc⟩ := Kd.S_get HM.out.row zRg (k : Int) (by omega) (by omega)
      rw [Int.toNat_natCast, show m.rs.getD k zRg = x from by simp [HX.out]] at hM
      obtain ⟨v, rfl, hR⟩ := k59_openM hM
      have h4 := pw_cell_below HB.out (hcc 1 _ rfl)
      rw [Int.toNat_natCast] at h4
      have h5 : (ad.add (k * k59.sz + 1)) = ⟨(ad.add (k * 3)).block, (ad.add (k * 3)).off + 1, none⟩ := add_field _ _ 1 (by omega)
      rw [h5, HK1.out] at h4
      have h6 := Option.some.inj h4
      have := inR_get hin
      obtain ⟨g', cap, rfl, _⟩ := Kd.R_form hR (by omega)
      simp only [Value.slice.injEq] at h6
      exact ⟨g', h6.1⟩
    obtain ⟨h1, h2⟩ := inR_get hin
    obtain ⟨j, hj⟩ : ∃ j : Nat, a - x.base = 8 * (j : Int) := ⟨((a - x.base) / 8).toNat, by omega⟩
    have hw1 : IntKind.i64.wrap (a - x.base) = a - x.base := IntWalk.i64_in _ (by omega)
    have hq : (a - x.base).tdiv 8 = (j : Int) := by rw [hj, Int.tdiv_eq_ediv_of_nonneg (by omega)]; omega
    have hw2 : IntKind.i64.wrap (j : Int) = (j : Int) := IntWalk.i64_in _ (by omega)
    have hj1 : (0 : Int) ≤ (j : Int) := by omega
    have hj2 : (j : Int) < (x.words.length : Int) := by omega
    go_wp2_with (first
      | (go_at_call 80; refine (end_calls _ _ _ _ _ _ r1 r3).mono ?_; rintro e w1 ⟨rfl, hb1⟩; have HB1 := Aside0.mk hb1; have d0 := pw_cell_below hb1 c0; have d1 := pw_cell_below hb1 c1; have d2 := pw_cell_below hb1 c2; clear hb1))
    go_quiet (fail)
    go_wp2
    go_ret2
    unfold WordPost
    refine ⟨.pointer (some ⟨gi, j, none⟩), x.wr, rfl, ?_, ?_⟩
    · have hj3 : ((a - x.base) / 8).toNat = j := by omega
      unfold WordIs
      rw [HWA.out, findW_hit HX.out HA.out HIN.out, hj3]
      refine ⟨by simp [mayAt, HX.out], gi, rfl, ad, _, c, x, cb, rfl, HX.out, hlt, pw_cell_below (pw_below_drewN (Below.refl _ _) nq) d1⟩
    · exact pw_below_drewN (below_step HB.out HB1.out) nq

end Go.Proofs.Ytochgjeanajoiaa.HA.Mem
