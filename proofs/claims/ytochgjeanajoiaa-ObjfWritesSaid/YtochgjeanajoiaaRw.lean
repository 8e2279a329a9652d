/- ObjfWrites, for every object: what the program writes, and whether it can be written, is the document's answer, and the object is as it was. No condition beyond the statement's own. -/
import Derived.Test.YtochgjeanajoiaaM6
import Derived.Test.YtochgjeanajoiaaM5w
import Derived.Test.YtochgjeanajoiaaRows
namespace Go.Proofs.Ytochgjeanajoiaa.HA
open Go.RowKit Go.Proofs.YtochgjeanajoiaaW.PrintWords Go.Proofs.YtochgjeanajoiaaW.PrintLast Go.Proofs.YtochgjeanajoiaaW.PrintMore
open Go.ChangeShapes Go.WideShapes Go.Deep Go.Joins
set_option linter.unusedVariables false
set_option linter.unusedSimpArgs false
section
variable {H : Type} {enc : TypeId × Value → H} {w : World} {base : Nat} {spare : Nat → Bool} {held : Bool}
theorem slice_len {t e : TypeId} {n : Nat} {A : Option Addr} {l c : Nat} {y : DataW H × List MemPlace} (ht : Try.prog.underlying t = some (.slice e)) (h : DataW.trod enc Try.prog w base spare held n t [.slice A l c] = some y) :
    l = 0 ∨ ∃ elems rest, y.1 = .slice elems rest ∧ l ≤ elems.length := by
  rcases open_slice ht h with ⟨hcs, _⟩ | ⟨a, len, cap, m, n, D, Pl, hcs, _, hl, hm, hmm, hx, _⟩
  · simp only [List.cons.injEq, and_true, Value.slice.injEq] at hcs
    exact .inl hcs.2.1
  · simp only [List.cons.injEq, and_true, Value.slice.injEq] at hcs
    refine .inr ⟨_, _, by rw [hx], ?_⟩
    simp; omega
set_option maxRecDepth 100000 in
theorem obj_sized {r : Reach} {b0 : Nat} {c : ByteArray} {A1 A2 A3 : Option Addr} {n1 c1 n2 c2 n3 c3 : Nat} {d : DataW H} {p : List MemPlace} (hv : Value.okWide Try.prog w r b0 30 (.agg #[.string c, .slice A1 n1 c1, .slice A2 n2 c2, .slice A3 n3 c3])) (h : DataW.Trod enc Try.prog w base spare held 30 (.agg #[.string c, .slice A1 n1 c1, .slice A2 n2 c2, .slice A3 n3 c3]) d p)
    (hs : (d.weights Try.prog 30).all (· ≤ reachBytes) = true) : n1 < 17592186044416 ∧ n2 < 4398046511104 ∧ n3 < 3518437208883 := by
  obtain ⟨v0, v1, v2, v3, y0, y1, y2, y3, n, hv4, rfl, _, t0, t1, t2, t3⟩ := open_agg4 Try.underlying30 (by kernel_rfl) (by kernel_rfl) hv h
  simp only [Value.agg.injEq, Array.mk.injEq, List.cons.injEq, and_true] at hv4
  obtain ⟨rfl, rfl, rfl, rfl⟩ := hv4
  have hs' : (DataW.weightsEach Try.prog [9, 26, 27, 28] [y0.1, y1.1, y2.1, y3.1]).all (· ≤ reachBytes) = true := by
    have : (DataW.agg [y0.1, y1.1, y2.1, y3.1]).weights Try.prog 30 = DataW.weightsEach Try.prog [9, 26, 27, 28] [y0.1, y1.1, y2.1, y3.1] := by
      rw [DataW.weights, Try.underlying30]; rfl
    rwa [this] at hs
  have e26 : Try.prog.bytesOf 2 = 8 := by kernel_rfl
  have e27 : Try.prog.bytesOf 32 = 32 := by kernel_rfl
  have e28 : Try.prog.bytesOf 34 = 40 := by kernel_rfl
  have er : reachBytes = 140737488351232 := by decide
  refine ⟨?_, ?_, ?_⟩
  · rcases slice_len Try.underlying26 t1 with h | ⟨el, re, h1, h2⟩
    · omega
    · have := sized_slice hs' (j := 1) rfl (by rw [← h1]; rfl) Try.underlying26
      rw [e26, er] at this; omega
  · rcases slice_len Try.underlying27 t2 with h | ⟨el, re, h1, h2⟩
    · omega
    · have := sized_slice hs' (j := 2) rfl (by rw [← h1]; rfl) Try.underlying27
      rw [e27, er] at this; omega
  · rcases slice_len Try.underlying28 t3 with h | ⟨el, re, h1, h2⟩
    · omega
    · have := sized_slice hs' (j := 3) rfl (by rw [← h1]; rfl) Try.underlying28
      rw [e28, er] at this; omega
end
end Go.Proofs.Ytochgjeanajoiaa.HA
namespace Go.Proofs.Ytochgjeanajoiaa.objfWrites
open Go.ChangeShapes Go.WideShapes Go.ChangeAt Go.RowKit
open Go.ChangeMaps (open_string shut_string)
open Go.Proofs.Ytochgjeanajoiaa.HA (open_obj obj_sized own laidOut inI64 Writes_calls)
set_option linter.unusedVariables false
theorem walk (c : ByteArray) (A1 : Option Addr) (c1 : Nat) (l1 : List Int) (A2 : Option Addr) (c2 : Nat) (l2 : List HA.S32) (A3 : Option Addr) (c3 : Nat) (l3 : List HA.S34) (w : World) (h1 : l1.length ≤ c1) (k1 : YtochgjeanajoiaaW.PrintWords.Kd.C (YtochgjeanajoiaaW.PrintWords.Kd.int .i64) w A1 l1.length l1) (h2 : l2.length ≤ c2) (k2 : YtochgjeanajoiaaW.PrintWords.Kd.C HA.k32 w A2 l2.length l2) (h3 : l3.length ≤ c3) (k3 : YtochgjeanajoiaaW.PrintWords.Kd.C HA.k34 w A3 l3.length l3)
    (z : l1.length < 17592186044416 ∧ l2.length < 4398046511104 ∧ l3.length < 3518437208883) :
    Calls Try.prog 5 #[.agg #[.string c, .slice A1 l1.length c1, .slice A2 l2.length c2, .slice A3 l3.length c3]] w fun e w' => e = .returned (.bool true) ∧ Below w.heap.size w w' := by
  exact Writes_calls c A1 c1 l1 A2 c2 l2 A3 c3 l3 w k1 h1 k2 h2 k3 h3 z
set_option maxRecDepth 100000 in
theorem lifted (os : Os) (started : os.Started) (H : Type) (enc : TypeId × Value → H) :
    ReturnsInHanded {} Try.checked os 5 .any (Rows.objfWritesSpec.pre6 enc Try.prog Try.f5 Rows.objfWritesRow.domain false) (Rows.objfWritesSpec.post enc Try.prog Try.f5 false true false false) := by
  refine returnsInHanded_of_change_sized (C := Try.checked) own started (by kernel_rfl) Try.func5
    (ChangeSpec.witness6 (enc := enc) (C := Try.checked) false ⟨#[], #[.agg #[.string ByteArray.empty, .slice none 0 0, .slice none 0 0, .slice none 0 0]], []⟩ 8 (by kernel_rfl) (by kernel_rfl) (by kernel_rfl) (by kernel_rfl)) ?_
  intro W base args ds gs before hval0 hW hcnd hsz0 _
  have hsz : (DataW.weightsEach Try.prog (Try.f5.params.toList ++ Rows.objfWritesSpec.plain.varTypes Try.prog) (ds ++ gs)).all (· ≤ reachBytes) = true := hsz0
  have hval : ∀ (j : Nat) t v, Try.f5.params[j]? = some t → args[j]? = some v → Value.okWide Try.prog W .any base t v := hval0
  have hW' := hW
  obtain ⟨p, q, hA0, hV, rfl, hfz, hnd⟩ := hW
  have hA : DataW.TrodAll enc Try.prog W 0 (fun _ => true) true Try.f5.params.toList args.toList ds p := hA0
  rw [Try.params5] at hA hval hsz
  obtain ⟨v0, vs0, d0, ds0, p0, q0, hargs, rfl, rfl, h0, r0⟩ := trodAll_cons hA
  obtain ⟨rfl, rfl, rfl⟩ := trodAll_nil r0
  obtain rfl : args = #[v0] := by cases args; simp_all
  obtain ⟨rfl, rfl⟩ := trodVars_none hV
  have k0 := h0
  have lt0 : ∀ x ∈ p0, x.block < W.heap.size := by obtain ⟨m, hm⟩ := k0; exact DataW.trod_lt m _ _ _ hm
  have hv0 := hval 0 30 v0 rfl rfl
  have hs0 : (d0.weights Try.prog 30).all (· ≤ reachBytes) = true := by
    rw [List.all_eq_true]
    intro n hn
    exact List.all_eq_true.1 hsz n (DataW.weights_mem_each (j := 0) (t := 30) (d := d0) rfl rfl n hn)
  obtain ⟨c, A1, c1, l1, A2, c2, l2, A3, c3, l3, rfl, a1, b1, e1, a2, b2, a3, b3⟩ := open_obj hv0 h0
  have z := obj_sized hv0 h0 hs0
  clear hA0 hval0 hsz0 hsz
  refine (walk c A1 c1 l1 A2 c2 l2 A3 c3 l3 W a1 b1 a2 b2 a3 b3 z).mono fun e W' ⟨he, bel⟩ => ?_
  subst he
  exact ⟨_, rfl, _, _, _, [], _, [], hW', trodAll_mk1 (shut_bool Try.underlying4 _), (trodAll_cons_mk (Below.trod laidOut (by kernel_rfl) (of_decide_eq_true (by kernel_rfl)) k0 bel lt0) trodAll_mk0), rfl, bel.frame _, fun h => by cases h⟩
theorem over : Rows.objfWritesRow.holds Try.pinned (OpenSpec.ofChange Rows.objfWritesSpec) :=
  OpenClaim.holds_of_wide 5 Try.f5 rfl rfl rfl rfl rfl rfl rfl ⟨rfl, rfl, rfl, rfl, rfl⟩ rfl rfl rfl rfl rfl (by kernel_rfl) Try.func5 (by kernel_rfl)
    (of_decide_eq_true (by kernel_rfl)) (by unfold Func.isWrapper; first | (rw [if_pos (by decide +kernel)]; kernel_rfl) | (rw [if_neg (by decide +kernel)]; exact ⟨rfl, rfl⟩))
    (fun os started H enc _ => lifted os started H enc)
theorem proved : Rows.ObjfWritesSaid := over
#print axioms proved
end Go.Proofs.Ytochgjeanajoiaa.objfWrites
namespace Go.Proofs.Ytochgjeanajoiaa
/-- The row, under a short name, for the claim. -/
theorem objfWrites_holds : Rows.ObjfWritesSaid := objfWrites.proved
end Go.Proofs.Ytochgjeanajoiaa
