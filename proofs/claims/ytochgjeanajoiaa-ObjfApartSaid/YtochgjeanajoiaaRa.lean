/- ObjfApart, for every two objects: where both have a form, the forms are the same exactly if the objects are. No condition beyond the statement's own. -/
import Derived.Test.YtochgjeanajoiaaRows
import Derived.Test.YtochgjeanajoiaaM6
import Derived.Test.YtochgjeanajoiaaM5a
namespace Go.Proofs.Ytochgjeanajoiaa.objfApart
open Go.ChangeShapes Go.WideShapes Go.ChangeAt Go.RowKit
open Go.ChangeMaps (open_string shut_string)
open Go.Proofs.Ytochgjeanajoiaa.HA (open_obj own laidOut inI64 Apart_f cotterlaw06_ObjfApart.calls)
set_option linter.unusedVariables false
theorem walk (c_0 : ByteArray) (A1_0 : Option Addr) (c1_0 : Nat) (l1_0 : List Int) (A2_0 : Option Addr) (c2_0 : Nat) (l2_0 : List HA.S32) (A3_0 : Option Addr) (c3_0 : Nat) (l3_0 : List HA.S34) (c_1 : ByteArray) (A1_1 : Option Addr) (c1_1 : Nat) (l1_1 : List Int) (A2_1 : Option Addr) (c2_1 : Nat) (l2_1 : List HA.S32) (A3_1 : Option Addr) (c3_1 : Nat) (l3_1 : List HA.S34) (w : World) (h1_0 : l1_0.length ≤ c1_0) (k1_0 : YtochgjeanajoiaaW.PrintWords.Kd.C (YtochgjeanajoiaaW.PrintWords.Kd.int .i64) w A1_0 l1_0.length l1_0) (e1_0 : ∀ x ∈ l1_0, inI64 x) (h2_0 : l2_0.length ≤ c2_0) (k2_0 : YtochgjeanajoiaaW.PrintWords.Kd.C HA.k32 w A2_0 l2_0.length l2_0) (h3_0 : l3_0.length ≤ c3_0) (k3_0 : YtochgjeanajoiaaW.PrintWords.Kd.C HA.k34 w A3_0 l3_0.length l3_0) (h1_1 : l1_1.length ≤ c1_1) (k1_1 : YtochgjeanajoiaaW.PrintWords.Kd.C (YtochgjeanajoiaaW.PrintWords.Kd.int .i64) w A1_1 l1_1.length l1_1) (e1_1 : ∀ x ∈ l1_1, inI64 x) (h2_1 : l2_1.length ≤ c2_1) (k2_1 : YtochgjeanajoiaaW.PrintWords.Kd.C HA.k32 w A2_1 l2_1.length l2_1) (h3_1 : l3_1.length ≤ c3_1) (k3_1 : YtochgjeanajoiaaW.PrintWords.Kd.C HA.k34 w A3_1 l3_1.length l3_1) :
    Calls Try.prog 9 #[.agg #[.string c_0, .slice A1_0 l1_0.length c1_0, .slice A2_0 l2_0.length c2_0, .slice A3_0 l3_0.length c3_0], .agg #[.string c_1, .slice A1_1 l1_1.length c1_1, .slice A2_1 l2_1.length c2_1, .slice A3_1 l3_1.length c3_1]] w fun e w' => e = .returned (.bool true) ∧ Below w.heap.size w w' := by
  obtain ⟨k, h⟩ := Apart_f c_0 c_1 l1_0 l1_1 l2_0 l2_1 l3_0 l3_1 e1_0 e1_1
  exact cotterlaw06_ObjfApart.calls k c_0 A1_0 c1_0 l1_0 A2_0 c2_0 l2_0 A3_0 c3_0 l3_0 c_1 A1_1 c1_1 l1_1 A2_1 c2_1 l2_1 A3_1 c3_1 l3_1 true w k1_0 h1_0 k2_0 h2_0 k3_0 h3_0 k1_1 h1_1 k2_1 h2_1 k3_1 h3_1 h
set_option maxRecDepth 100000 in
theorem lifted (os : Os) (started : os.Started) (H : Type) (enc : TypeId × Value → H) :
    ReturnsInHanded {} Try.checked os 9 .any (Rows.objfApartSpec.pre6 enc Try.prog Try.f9 Rows.objfApartRow.domain false) (Rows.objfApartSpec.post enc Try.prog Try.f9 false true false false) := by
  refine returnsInHanded_of_change_sized (C := Try.checked) own started (by kernel_rfl) Try.func9
    (ChangeSpec.witness6 (enc := enc) (C := Try.checked) false ⟨#[], #[.agg #[.string ByteArray.empty, .slice none 0 0, .slice none 0 0, .slice none 0 0], .agg #[.string ByteArray.empty, .slice none 0 0, .slice none 0 0, .slice none 0 0]], []⟩ 8 (by kernel_rfl) (by kernel_rfl) (by kernel_rfl) (by kernel_rfl)) ?_
  intro W base args ds gs before hval0 hW hcnd hsz0 _
  have hsz : (DataW.weightsEach Try.prog (Try.f9.params.toList ++ Rows.objfApartSpec.plain.varTypes Try.prog) (ds ++ gs)).all (· ≤ reachBytes) = true := hsz0
  have hval : ∀ (j : Nat) t v, Try.f9.params[j]? = some t → args[j]? = some v → Value.okWide Try.prog W .any base t v := hval0
  have hW' := hW
  obtain ⟨p, q, hA0, hV, rfl, hfz, hnd⟩ := hW
  have hA : DataW.TrodAll enc Try.prog W 0 (fun _ => true) true Try.f9.params.toList args.toList ds p := hA0
  rw [Try.params9] at hA hval hsz
  obtain ⟨v0, vs0, d0, ds0, p0, q0, hargs, rfl, rfl, h0, r0⟩ := trodAll_cons hA
  obtain ⟨v1, vs1, d1, ds1, p1, q1, rfl, rfl, rfl, h1, r1⟩ := trodAll_cons r0
  obtain ⟨rfl, rfl, rfl⟩ := trodAll_nil r1
  obtain rfl : args = #[v0, v1] := by cases args; simp_all
  obtain ⟨rfl, rfl⟩ := trodVars_none hV
  have k0 := h0
  have lt0 : ∀ x ∈ p0, x.block < W.heap.size := by obtain ⟨m, hm⟩ := k0; exact DataW.trod_lt m _ _ _ hm
  obtain ⟨c_0, A1_0, c1_0, l1_0, A2_0, c2_0, l2_0, A3_0, c3_0, l3_0, rfl, a1_0, b1_0, e1_0, a2_0, b2_0, a3_0, b3_0⟩ := open_obj (hval 0 30 v0 rfl rfl) h0
  have k1 := h1
  have lt1 : ∀ x ∈ p1, x.block < W.heap.size := by obtain ⟨m, hm⟩ := k1; exact DataW.trod_lt m _ _ _ hm
  obtain ⟨c_1, A1_1, c1_1, l1_1, A2_1, c2_1, l2_1, A3_1, c3_1, l3_1, rfl, a1_1, b1_1, e1_1, a2_1, b2_1, a3_1, b3_1⟩ := open_obj (hval 1 30 v1 rfl rfl) h1
  clear hA0 hval0 hsz0 hsz
  refine (walk c_0 A1_0 c1_0 l1_0 A2_0 c2_0 l2_0 A3_0 c3_0 l3_0 c_1 A1_1 c1_1 l1_1 A2_1 c2_1 l2_1 A3_1 c3_1 l3_1 W a1_0 b1_0 e1_0 a2_0 b2_0 a3_0 b3_0 a1_1 b1_1 e1_1 a2_1 b2_1 a3_1 b3_1).mono fun e W' ⟨he, bel⟩ => ?_
  subst he
  exact ⟨_, rfl, _, _, _, [], _, [], hW', trodAll_mk1 (shut_bool Try.underlying4 _), (trodAll_cons_mk (Below.trod laidOut (by kernel_rfl) (of_decide_eq_true (by kernel_rfl)) k0 bel lt0) (trodAll_cons_mk (Below.trod laidOut (by kernel_rfl) (of_decide_eq_true (by kernel_rfl)) k1 bel lt1) trodAll_mk0)), rfl, bel.frame _, fun h => by cases h⟩
theorem over : Rows.objfApartRow.holds Try.pinned (OpenSpec.ofChange Rows.objfApartSpec) :=
  OpenClaim.holds_of_wide 9 Try.f9 rfl rfl rfl rfl rfl rfl rfl ⟨rfl, rfl, rfl, rfl, rfl⟩ rfl rfl rfl rfl rfl (by kernel_rfl) Try.func9 (by kernel_rfl)
    (of_decide_eq_true (by kernel_rfl)) (by unfold Func.isWrapper; first | (rw [if_pos (by decide +kernel)]; kernel_rfl) | (rw [if_neg (by decide +kernel)]; exact ⟨rfl, rfl⟩))
    (fun os started H enc _ => lifted os started H enc)
theorem proved : Rows.ObjfApartSaid := over
#print axioms proved
end Go.Proofs.Ytochgjeanajoiaa.objfApart
namespace Go.Proofs.Ytochgjeanajoiaa
/-- The row, under a short name, for the claim. -/
theorem objfApart_holds : Rows.ObjfApartSaid := objfApart.proved
end Go.Proofs.Ytochgjeanajoiaa
