/- ObjfBack, for every object and every string: an object that can be written is read back as it was, and what is read is written as it stood. No condition beyond the statement's own. -/
import Derived.Test.YtochgjeanajoiaaRows
import Derived.Test.YtochgjeanajoiaaM6
import Derived.Test.YtochgjeanajoiaaM5b
namespace Go.Proofs.Ytochgjeanajoiaa.objfBack
open Go.ChangeShapes Go.WideShapes Go.ChangeAt Go.RowKit
open Go.ChangeMaps (open_string shut_string)
open Go.Proofs.Ytochgjeanajoiaa.HA (open_obj own laidOut inI64 Back_f cotterlaw06_ObjfBack.calls)
set_option linter.unusedVariables false
theorem walk (c : ByteArray) (A1 : Option Addr) (c1 : Nat) (l1 : List Int) (A2 : Option Addr) (c2 : Nat) (l2 : List HA.S32) (A3 : Option Addr) (c3 : Nat) (l3 : List HA.S34) (s : ByteArray) (w : World) (h1 : l1.length ≤ c1) (k1 : YtochgjeanajoiaaW.PrintWords.Kd.C (YtochgjeanajoiaaW.PrintWords.Kd.int .i64) w A1 l1.length l1) (e1 : ∀ x ∈ l1, inI64 x) (h2 : l2.length ≤ c2) (k2 : YtochgjeanajoiaaW.PrintWords.Kd.C HA.k32 w A2 l2.length l2) (h3 : l3.length ≤ c3) (k3 : YtochgjeanajoiaaW.PrintWords.Kd.C HA.k34 w A3 l3.length l3) :
    Calls Try.prog 7 #[.agg #[.string c, .slice A1 l1.length c1, .slice A2 l2.length c2, .slice A3 l3.length c3], .string s] w fun e w' => e = .returned (.bool true) ∧ Below w.heap.size w w' := by
  obtain ⟨k, h⟩ := Back_f c l1 l2 l3 s e1
  exact cotterlaw06_ObjfBack.calls k c A1 c1 l1 A2 c2 l2 A3 c3 l3 s true w k1 h1 k2 h2 k3 h3 h
set_option maxRecDepth 100000 in
theorem lifted (os : Os) (started : os.Started) (H : Type) (enc : TypeId × Value → H) :
    ReturnsInHanded {} Try.checked os 7 .any (Rows.objfBackSpec.pre6 enc Try.prog Try.f7 Rows.objfBackRow.domain false) (Rows.objfBackSpec.post enc Try.prog Try.f7 false true false false) := by
  refine returnsInHanded_of_change_sized (C := Try.checked) own started (by kernel_rfl) Try.func7
    (ChangeSpec.witness6 (enc := enc) (C := Try.checked) false ⟨#[], #[.agg #[.string ByteArray.empty, .slice none 0 0, .slice none 0 0, .slice none 0 0], .string ByteArray.empty], []⟩ 8 (by kernel_rfl) (by kernel_rfl) (by kernel_rfl) (by kernel_rfl)) ?_
  intro W base args ds gs before hval0 hW hcnd hsz0 _
  have hsz : (DataW.weightsEach Try.prog (Try.f7.params.toList ++ Rows.objfBackSpec.plain.varTypes Try.prog) (ds ++ gs)).all (· ≤ reachBytes) = true := hsz0
  have hval : ∀ (j : Nat) t v, Try.f7.params[j]? = some t → args[j]? = some v → Value.okWide Try.prog W .any base t v := hval0
  have hW' := hW
  obtain ⟨p, q, hA0, hV, rfl, hfz, hnd⟩ := hW
  have hA : DataW.TrodAll enc Try.prog W 0 (fun _ => true) true Try.f7.params.toList args.toList ds p := hA0
  rw [Try.params7] at hA hval hsz
  obtain ⟨v0, vs0, d0, ds0, p0, q0, hargs, rfl, rfl, h0, r0⟩ := trodAll_cons hA
  obtain ⟨v1, vs1, d1, ds1, p1, q1, rfl, rfl, rfl, h1, r1⟩ := trodAll_cons r0
  obtain ⟨rfl, rfl, rfl⟩ := trodAll_nil r1
  obtain rfl : args = #[v0, v1] := by cases args; simp_all
  obtain ⟨rfl, rfl⟩ := trodVars_none hV
  have k0 := h0
  have lt0 : ∀ x ∈ p0, x.block < W.heap.size := by obtain ⟨m, hm⟩ := k0; exact DataW.trod_lt m _ _ _ hm
  obtain ⟨c, A1, c1, l1, A2, c2, l2, A3, c3, l3, rfl, a1, b1, e1, a2, b2, a3, b3⟩ := open_obj (hval 0 30 v0 rfl rfl) h0
  obtain ⟨s, rfl, rfl, rfl, y1⟩ := open_string Try.underlying9 (hval 1 9 v1 rfl rfl) h1
  clear hA0 hval0 hsz0 hsz
  refine (walk c A1 c1 l1 A2 c2 l2 A3 c3 l3 s W a1 b1 e1 a2 b2 a3 b3).mono fun e W' ⟨he, bel⟩ => ?_
  subst he
  exact ⟨_, rfl, _, _, _, [], _, [], hW', trodAll_mk1 (shut_bool Try.underlying4 _), (trodAll_cons_mk (Below.trod laidOut (by kernel_rfl) (of_decide_eq_true (by kernel_rfl)) k0 bel lt0) (trodAll_cons_mk (shut_string Try.underlying9 y1) trodAll_mk0)), rfl, bel.frame _, fun h => by cases h⟩
theorem over : Rows.objfBackRow.holds Try.pinned (OpenSpec.ofChange Rows.objfBackSpec) :=
  OpenClaim.holds_of_wide 7 Try.f7 rfl rfl rfl rfl rfl rfl rfl ⟨rfl, rfl, rfl, rfl, rfl⟩ rfl rfl rfl rfl rfl (by kernel_rfl) Try.func7 (by kernel_rfl)
    (of_decide_eq_true (by kernel_rfl)) (by unfold Func.isWrapper; first | (rw [if_pos (by decide +kernel)]; kernel_rfl) | (rw [if_neg (by decide +kernel)]; exact ⟨rfl, rfl⟩))
    (fun os started H enc _ => lifted os started H enc)
theorem proved : Rows.ObjfBackSaid := over
#print axioms proved
end Go.Proofs.Ytochgjeanajoiaa.objfBack
namespace Go.Proofs.Ytochgjeanajoiaa
/-- The row, under a short name, for the claim. -/
theorem objfBack_holds : Rows.ObjfBackSaid := objfBack.proved
end Go.Proofs.Ytochgjeanajoiaa
