/- Written by hand: regions that come in, opened. -/
import Derived.Test.YtochgjeanajoiaaM7a
import Derived.Deep.Slices
import Derived.Deep.Fields
import Derived.ChangeSame
import Derived.Lib.SmallJoins
import Derived.WalkKit
import Derived.ProofKit
import Derived.OpenShut
import Derived.ShutString
import Derived.ChangeOld
import Derived.SizedLaws
namespace Go.Proofs.Ytochgjeanajoiaa.HA.Mem
open Go.RowKit Go.Proofs.YtochgjeanajoiaaW.PrintWords Go.Proofs.YtochgjeanajoiaaW.PrintLast Go.Proofs.YtochgjeanajoiaaW.PrintMore
open Go.ChangeShapes Go.WideShapes Go.Deep Go.Joins
set_option linter.unusedVariables false
set_option linter.unusedSimpArgs false
def inI64 (x : Int) : Prop := -9223372036854775808 ≤ x ∧ x ≤ 9223372036854775807
section
variable {H : Type} {enc : TypeId × Value → H} {P : Program} {w : World} {base : Nat} {spare : Nat → Bool} {held : Bool}
theorem open_slice_fields {t e : TypeId} {fs : Array Field} {fuel : Nat} {cs : List Value} {x : DataW H × List MemPlace} (ht : P.underlying t = some (.slice e)) (he : P.underlying e = some (.struct fs))
    (hone : oneCellFields P fs = true) (hC : P.cellsOf e = fs.size) (h : DataW.trod enc P w base spare held fuel t cs = some x) :
    (cs = [.slice none 0 0] ∧ x = (.nil, [])) ∨
    ∃ (a : Addr) (len cap m : Nat) (D : Nat → DataW H) (Pl : Nat → List MemPlace), cs = [.slice (some a) len cap] ∧ base ≤ a.block ∧ len ≤ cap ∧ cap ≤ maxLen ∧ m = (if spare a.block then cap else len) ∧
      x = (.slice ((List.range len).map D) ((List.range (m - len)).map fun j => D (len + j)), MemPlace.row a (m * fs.size) ++ (List.range m).flatMap Pl) ∧
      ∀ i, i < m → ∃ (ys : List (DataW H × List MemPlace)) (n : Nat), D i = .agg (ys.map (·.1)) ∧ Pl i = ys.flatMap (·.2) ∧ ys.length = fs.size ∧
        ∀ (j : Nat) (f : Field), fs[j]? = some f → ∃ (v : Value) (y : DataW H × List MemPlace), w.cell? (a.add (i * fs.size + j)) = some v ∧ ys[j]? = some y ∧ DataW.trod enc P w base spare held n f.type [v] = some y := by
  rcases open_slice ht h with h0 | ⟨a, len, cap, m, n, D, Pl, hcs, hb, hl, hm, hmm, hx, hi⟩
  · exact .inl h0
  · refine .inr ⟨a, len, cap, m, D, Pl, hcs, hb, hl, hm, hmm, by rw [hC] at hx; exact hx, fun i him => ?_⟩
    obtain ⟨cs', hc, ht'⟩ := hi i him
    rw [hC] at hc
    obtain ⟨ys, n', hn', hy, hlen, hyl, hf⟩ := DataW.trod_struct he ht'
    obtain ⟨_, hcl, hat⟩ := World.cells?_some hc
    simp only [Prod.mk.injEq] at hy
    refine ⟨ys, n', hy.1, hy.2, hyl, fun j f hj => ?_⟩
    obtain ⟨ho, hk⟩ := hone_of hone j f hj
    have hjl : j < fs.size := (Array.getElem?_eq_some_iff.1 hj).1
    have hcell := hat j hjl
    have hv : cs'[j]? = some (cs'[j]'(by omega)) := List.getElem?_eq_getElem (by omega)
    have h1 := hf j f hj
    rw [ho, hk] at h1
    have hone' : (cs'.drop j).take 1 = [cs'[j]'(by omega)] := by
      rw [List.drop_eq_getElem_cons (by omega)]
      rfl
    rw [hone'] at h1
    have hys : ys[j]? = some (ys[j]'(by omega)) := List.getElem?_eq_getElem (by omega)
    refine ⟨_, _, ?_, hys, h1.trans hys⟩
    rw [← Go.Deep.add_add, hcell, hv]
end
section
variable {H : Type} {enc : TypeId × Value → H} {w : World} {base : Nat} {spare : Nat → Bool} {held : Bool}
theorem one_int {n : Nat} {t : TypeId} {v : Value} {y : DataW H × List MemPlace} (ht : Try.prog.underlying t = some (.int .i64)) (h : DataW.trod enc Try.prog w base spare held n t [v] = some y) : ∃ x, v = .int .i64 x := by
  obtain ⟨x, h1, _⟩ := DataW.trod_int ht h
  exact ⟨x, by simpa using h1⟩
theorem row_of {α : Type} {d : Kd α} {a : Addr} {len : Nat} (hl : len ≤ 9223372036854775807) (h : ∀ i, i < len → ∃ x c, c.length = d.sz ∧ d.K w x c ∧ ∀ j u, c[j]? = some u → w.cell? (a.add (i * d.sz + j)) = some u) (z : α) : ∃ l : List α, l.length = len ∧ d.C w (some a) len l := by
  have hc : ∀ i, ∃ x, i < len → ∃ c, c.length = d.sz ∧ d.K w x c ∧ ∀ j u, c[j]? = some u → w.cell? (a.add (i * d.sz + j)) = some u := by
    intro i
    by_cases hi : i < len
    · obtain ⟨x, hx⟩ := h i hi
      exact ⟨x, fun _ => hx⟩
    · exact ⟨z, fun hh => absurd hh hi⟩
  obtain ⟨X, hX⟩ := Classical.axiomOfChoice hc
  refine ⟨(List.range len).map X, by simp, by simp, hl, fun _ => ⟨a, rfl, fun j p hj => ?_⟩⟩
  rw [List.getElem?_map] at hj
  by_cases hjl : j < len
  · rw [List.getElem?_range hjl] at hj
    simp only [Option.map_some, Option.some.injEq] at hj
    subst hj
    exact hX j hjl
  · rw [List.getElem?_eq_none (by simp; omega)] at hj
    cases hj
theorem open_data {n : Nat} {v : Value} {y : DataW H × List MemPlace} (h : DataW.trod enc Try.prog w base spare held n 26 [v] = some y) :
    ∃ A l c, v = .slice A l.length c ∧ l.length ≤ c ∧ Kd.C (Kd.int .i64) w A l.length l ∧ ∀ x ∈ l, inI64 x := by
  rcases open_ints Try.underlying26 Try.underlying2 (by kernel_rfl) h with ⟨hcs, _⟩ | ⟨a, len, cap, zs, hcs, _, hl, hm, hz, _, hcell, hwz⟩
  · simp only [List.cons.injEq, and_true] at hcs
    exact ⟨none, [], 0, hcs, Nat.le_refl _, ⟨rfl, by decide, fun h => absurd h (by decide)⟩, by simp⟩
  · simp only [List.cons.injEq, and_true] at hcs
    have hlz : len ≤ zs.length := by rw [hz]; split <;> omega
    have hlen : (zs.take len).length = len := by rw [List.length_take]; omega
    have hmx : len ≤ 9223372036854775807 := by have : maxLen = 9223372036854775807 := by decide
                                               omega
    refine ⟨some a, zs.take len, cap, by rw [hlen]; exact hcs, by rw [hlen]; exact hl, ?_, fun x hx => ?_⟩
    · refine Kd.C_of_reads (d := (0 : Int)) ⟨rfl, by rw [hlen]; exact hmx, fun _ => ⟨a, rfl, fun i hi => ?_⟩⟩
      have := hcell i (by omega)
      rw [List.getD_eq_getElem?_getD, List.getElem?_take, if_pos (by omega), ← List.getD_eq_getElem?_getD]
      exact this
    · have := hwz x (List.mem_of_mem_take hx)
      simp only [Lit.wf, Bool.and_eq_true, decide_eq_true_eq] at this
      have h1 : IntKind.i64.min = -9223372036854775808 := by decide
      have h2 : IntKind.i64.max = 9223372036854775807 := by decide
      rw [h1, h2] at this
      exact this
theorem one_wf {n : Nat} {t : TypeId} {v : Value} {y : DataW H × List MemPlace} (ht : Try.prog.underlying t = some (.int .i64)) (h : DataW.trod enc Try.prog w base spare held n t [v] = some y) : ∃ x, v = .int .i64 x ∧ inI64 x := by
  obtain ⟨x, h1, h2⟩ := DataW.trod_int ht h
  have hw := h2.2
  simp only [Lit.wf, Bool.and_eq_true, decide_eq_true_eq, show IntKind.i64.min = -9223372036854775808 from by decide, show IntKind.i64.max = 9223372036854775807 from by decide] at hw
  exact ⟨x, by simpa using h1, hw⟩
theorem one_bool {n : Nat} {t : TypeId} {v : Value} {y : DataW H × List MemPlace} (ht : Try.prog.underlying t = some .bool) (h : DataW.trod enc Try.prog w base spare held n t [v] = some y) : ∃ x, v = .bool x := by
  obtain ⟨x, h1, _⟩ := DataW.trod_bool ht h
  exact ⟨x, by simpa using h1⟩
theorem open_regions {n : Nat} {v : Value} {y : DataW H × List MemPlace} (h : DataW.trod enc Try.prog w base spare held n 55 [v] = some y) :
    ∃ A l c, v = .slice A l.length c ∧ l.length ≤ c ∧ Kd.C k59 w A l.length l := by
  rcases open_slice_fields Try.underlying55 Try.underlying59 (by kernel_rfl) (by kernel_rfl) h with ⟨hcs, _⟩ | ⟨a, len, cap, m, D, Pl, hcs, _, hl, hm, hmm, _, hi⟩
  · simp only [List.cons.injEq, and_true] at hcs
    exact ⟨none, [], 0, hcs, Nat.le_refl _, ⟨rfl, by decide, fun h => absurd h (by decide)⟩⟩
  · simp only [List.cons.injEq, and_true] at hcs
    have hlm : len ≤ m := by rw [hmm]; split <;> omega
    have hmx : len ≤ 9223372036854775807 := by have : maxLen = 9223372036854775807 := by decide
                                               omega
    obtain ⟨l, hll, hC⟩ := row_of (d := k59) (a := a) hmx (fun i hil => by
      obtain ⟨ys, n', _, _, _, hf⟩ := hi i (by omega)
      obtain ⟨v0, y0, c0, _, t0⟩ := hf 0 _ rfl
      obtain ⟨v1, y1, c1, _, t1⟩ := hf 1 _ rfl
      obtain ⟨v2, y2, c2, _, t2⟩ := hf 2 _ rfl
      obtain ⟨s, rfl⟩ := one_int Try.underlying2 t0
      obtain ⟨B, l, cb, rfl, q1, q2, _⟩ := open_data t1
      obtain ⟨u, rfl⟩ := one_bool Try.underlying4 t2
      refine ⟨⟨s, l, u⟩, [.int .i64 s, .slice B l.length cb, .bool u], rfl, k59_mk (x := ⟨s, l, u⟩) q1 q2, fun j q hj => ?_⟩
      match j, hj with
      | 0, hj => cases hj; exact c0
      | 1, hj => cases hj; exact c1
      | 2, hj => cases hj; exact c2) zRg
    exact ⟨some a, l, cap, by rw [hll]; exact hcs, by rw [hll]; exact hl, by rw [hll]; exact hC⟩
set_option maxRecDepth 100000 in
theorem open_case {r : Reach} {b0 : Nat} {v : Value} {d : DataW H} {p : List MemPlace} (hv : Value.okWide Try.prog w r b0 57 v) (h : DataW.Trod enc Try.prog w base spare held 57 v d p) :
    ∃ (A : Option Addr) (c : Nat) (l : List Rg) (x y z : Int), v = .agg #[.slice A l.length c, .int .i64 x, .int .i64 y, .int .i64 z] ∧ Kd.C k59 w A l.length l ∧ inI64 x ∧ inI64 y := by
  obtain ⟨v0, v1, v2, v3, y0, y1, y2, y3, n, rfl, _, _, t0, t1, t2, t3⟩ := open_agg4 Try.underlying57 (by kernel_rfl) (by kernel_rfl) hv h
  obtain ⟨A, l, c, rfl, _, hC⟩ := open_regions t0
  obtain ⟨x, rfl, hx⟩ := one_wf Try.underlying2 t1
  obtain ⟨y, rfl, hy⟩ := one_wf Try.underlying2 t2
  obtain ⟨z, rfl, _⟩ := one_wf Try.underlying2 t3
  exact ⟨A, c, l, x, y, z, rfl, hC, hx, hy⟩
theorem own : ownKnob Try.prog.godebug = none := by kernel_rfl
theorem laidOut : laidOutB Try.prog = true := by kernel_rfl
end
end Go.Proofs.Ytochgjeanajoiaa.HA.Mem
