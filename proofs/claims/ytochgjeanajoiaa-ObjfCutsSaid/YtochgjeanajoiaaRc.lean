/- ObjfCuts, for every object, every place and every string: the object's form, cut short or with more behind it, is none's. No condition beyond the statement's own. -/
import Derived.Test.YtochgjeanajoiaaRows
import Derived.Test.YtochgjeanajoiaaM6
import Derived.Test.YtochgjeanajoiaaM5c
namespace Go.Proofs.Ytochgjeanajoiaa.objfCuts
open Go.ChangeShapes Go.WideShapes Go.ChangeAt Go.RowKit
open Go.ChangeMaps (open_string shut_string)
open Go.Proofs.Ytochgjeanajoiaa.HA (open_obj own laidOut inI64 Cuts_f cotterlaw06_ObjfCuts.calls)
set_option linter.unusedVariables false
theorem walk (c_0 : ByteArray) (A1_0 : Option Addr) (c1_0 : Nat) (l1_0 : List Int) (A2_0 : Option Addr) (c2_0 : Nat) (l2_0 : List HA.S32) (A3_0 : Option Addr) (c3_0 : Nat) (l3_0 : List HA.S34) (a1 : Int) (a2 : ByteArray) (w : World) (h1_0 : l1_0.length ≤ c1_0) (k1_0 : YtochgjeanajoiaaW.PrintWords.Kd.C (YtochgjeanajoiaaW.PrintWords.Kd.int .i64) w A1_0 l1_0.length l1_0) (e1_0 : ∀ x ∈ l1_0, inI64 x) (h2_0 : l2_0.length ≤ c2_0) (k2_0 : YtochgjeanajoiaaW.PrintWords.Kd.C HA.k32 w A2_0 l2_0.length l2_0) (h3_0 : l3_0.length ≤ c3_0) (k3_0 : YtochgjeanajoiaaW.PrintWords.Kd.C HA.k34 w A3_0 l3_0.length l3_0) (w1 : (Lit.int .i64 a1).wf = true) (w2 : a2.size ≤ 140737488351232) :
    Calls Try.prog 8 #[.agg #[.string c_0, .slice A1_0 l1_0.length c1_0, .slice A2_0 l2_0.length c2_0, .slice A3_0 l3_0.length c3_0], .int .i64 a1, .string a2] w fun e w' => e = .returned (.bool true) ∧ Below w.heap.size w w' := by
  have hi : inI64 a1 := by
    simp only [Lit.wf, Bool.and_eq_true, decide_eq_true_eq] at w1
    have h1 : IntKind.i64.min = -9223372036854775808 := by decide
    have h2 : IntKind.i64.max = 9223372036854775807 := by decide
    rw [h1, h2] at w1
    exact w1
  obtain ⟨k, h⟩ := Cuts_f c_0 l1_0 l2_0 l3_0 a1 a2 e1_0 hi (by omega)
  exact cotterlaw06_ObjfCuts.calls k c_0 A1_0 c1_0 l1_0 A2_0 c2_0 l2_0 A3_0 c3_0 l3_0 a1 a2 true w k1_0 h1_0 k2_0 h2_0 k3_0 h3_0 h
set_option maxRecDepth 100000 in
theorem lifted (os : Os) (started : os.Started) (H : Type) (enc : TypeId × Value → H) :
    ReturnsInHanded {} Try.checked os 8 .any (Rows.objfCutsSpec.pre6 enc Try.prog Try.f8 Rows.objfCutsRow.domain false) (Rows.objfCutsSpec.post enc Try.prog Try.f8 false true false false) := by
  refine returnsInHanded_of_change_sized (C := Try.checked) own started (by kernel_rfl) Try.func8
    (ChangeSpec.witness6 (enc := enc) (C := Try.checked) false ⟨#[], #[.agg #[.string ByteArray.empty, .slice none 0 0, .slice none 0 0, .slice none 0 0], .int .i64 0, .string ByteArray.empty], []⟩ 8 (by kernel_rfl) (by kernel_rfl) (by kernel_rfl) (by kernel_rfl)) ?_
  intro W base args ds gs before hval0 hW hcnd hsz0 _
  have hsz : (DataW.weightsEach Try.prog (Try.f8.params.toList ++ Rows.objfCutsSpec.plain.varTypes Try.prog) (ds ++ gs)).all (· ≤ reachBytes) = true := hsz0
  have hval : ∀ (j : Nat) t v, Try.f8.params[j]? = some t → args[j]? = some v → Value.okWide Try.prog W .any base t v := hval0
  have hW' := hW
  obtain ⟨p, q, hA0, hV, rfl, hfz, hnd⟩ := hW
  have hA : DataW.TrodAll enc Try.prog W 0 (fun _ => true) true Try.f8.params.toList args.toList ds p := hA0
  rw [Try.params8] at hA hval hsz
  obtain ⟨v0, vs0, d0, ds0, p0, q0, hargs, rfl, rfl, h0, r0⟩ := trodAll_cons hA
  obtain ⟨v1, vs1, d1, ds1, p1, q1, rfl, rfl, rfl, h1, r1⟩ := trodAll_cons r0
  obtain ⟨v2, vs2, d2, ds2, p2, q2, rfl, rfl, rfl, h2, r2⟩ := trodAll_cons r1
  obtain ⟨rfl, rfl, rfl⟩ := trodAll_nil r2
  obtain rfl : args = #[v0, v1, v2] := by cases args; simp_all
  obtain ⟨rfl, rfl⟩ := trodVars_none hV
  have k0 := h0
  have lt0 : ∀ x ∈ p0, x.block < W.heap.size := by obtain ⟨m, hm⟩ := k0; exact DataW.trod_lt m _ _ _ hm
  obtain ⟨c_0, A1_0, c1_0, l1_0, A2_0, c2_0, l2_0, A3_0, c3_0, l3_0, rfl, a1_0, b1_0, e1_0, a2_0, b2_0, a3_0, b3_0⟩ := open_obj (hval 0 30 v0 rfl rfl) h0
  obtain ⟨a1, rfl, rfl, rfl, w1⟩ := open_int Try.underlying3 (hval 1 3 v1 rfl rfl) h1
  obtain ⟨a2, rfl, rfl, rfl, y2⟩ := open_string Try.underlying9 (hval 2 9 v2 rfl rfl) h2
  have w2 : a2.size ≤ 140737488351232 := by
    have z := sized_string hsz (j := 2) (t := 9) rfl rfl
    rw [Array.length_toList] at z
    exact z
  clear hA0 hval0 hsz0 hsz
  refine (walk c_0 A1_0 c1_0 l1_0 A2_0 c2_0 l2_0 A3_0 c3_0 l3_0 a1 a2 W a1_0 b1_0 e1_0 a2_0 b2_0 a3_0 b3_0 w1 w2).mono fun e W' ⟨he, bel⟩ => ?_
  subst he
  exact ⟨_, rfl, _, _, _, [], _, [], hW', trodAll_mk1 (shut_bool Try.underlying4 _), (trodAll_cons_mk (Below.trod laidOut (by kernel_rfl) (of_decide_eq_true (by kernel_rfl)) k0 bel lt0) (trodAll_cons_mk (shut_int Try.underlying3 w1) (trodAll_cons_mk (shut_string Try.underlying9 y2) trodAll_mk0))), rfl, bel.frame _, fun h => by cases h⟩
theorem over : Rows.objfCutsRow.holds Try.pinned (OpenSpec.ofChange Rows.objfCutsSpec) :=
  OpenClaim.holds_of_wide 8 Try.f8 rfl rfl rfl rfl rfl rfl rfl ⟨rfl, rfl, rfl, rfl, rfl⟩ rfl rfl rfl rfl rfl (by kernel_rfl) Try.func8 (by kernel_rfl)
    (of_decide_eq_true (by kernel_rfl)) (by unfold Func.isWrapper; first | (rw [if_pos (by decide +kernel)]; kernel_rfl) | (rw [if_neg (by decide +kernel)]; exact ⟨rfl, rfl⟩))
    (fun os started H enc _ => lifted os started H enc)
theorem proved : Rows.ObjfCutsSaid := over
#print axioms proved
end Go.Proofs.Ytochgjeanajoiaa.objfCuts
namespace Go.Proofs.Ytochgjeanajoiaa
/-- The row, under a short name, for the claim. -/
theorem objfCuts_holds : Rows.ObjfCutsSaid := objfCuts.proved
end Go.Proofs.Ytochgjeanajoiaa
