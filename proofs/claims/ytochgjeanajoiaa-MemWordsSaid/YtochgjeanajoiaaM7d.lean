/- Written by hand: Clone, word. -/
import Derived.Test.YtochgjeanajoiaaM7c
import Derived.WalkSpells
namespace Go.Proofs.Ytochgjeanajoiaa.HA.Mem
open Go.RowKit Go.WideMaps Go.Maps Go.Proofs.YtochgjeanajoiaaW.PrintWords Go.Proofs.YtochgjeanajoiaaW.PrintLast Go.Proofs.YtochgjeanajoiaaW.PrintMore
set_option linter.unusedVariables false
set_option linter.unusedSimpArgs false

theorem R_empty (w : World) : (Kd.int .i64).R 2 (w.alloc (.cells #[] 2 (0, 0))) w.heap.size (fun k => w.heap.size ≤ k) (.slice (some ⟨w.heap.size, 0, none⟩) 0 0) [] := by
  refine Kd.R_of_own (xs := []) ⟨rfl, .inr ⟨w.heap.size, 0, #[], rfl, Nat.le_refl _, blk_new w _, Nat.le_refl _, Nat.zero_le _, rfl, rfl⟩⟩ ?_
  intro k hk
  simp only [Value.ownBlock, Option.some.injEq] at hk
  omega
set_option maxRecDepth 100000 in
set_option maxHeartbeats 4000000 in
theorem clone_calls (A : Option Addr) (c : Nat) (l : List Int) (w : World) (hr : (Kd.int .i64).C w A l.length l) (hl : l.length ≤ 65536) :
    Calls Try.prog 81 #[.slice A l.length c] w fun e w' => ∃ v, e = .returned v ∧ (Kd.int .i64).R 2 w' w.heap.size (fun k => w.heap.size ≤ k) v l ∧ Below w.heap.size w w' := by
  have HR := Aside0.mk hr
  have hu26 := Try.underlying26
  have hnz := fun (w : World) (a : Option Addr) (n c : Nat) => Lib.run_eql_slice_nil w 26 2 a n c 0 0 Try.underlying26
  clear hr
  rcases A with _ | ad
  · have : l = [] := by
      rcases l with _ | ⟨x, l⟩
      · rfl
      · obtain ⟨ad, h, _⟩ := HR.out.2.2 (by simp); cases h
    subst this
    go_enter Try.func81, Try.ntmps81
    go_wp2
    go_ret
    exact ⟨_, rfl, Kd.R_nil _ _ _ _ _, Below.refl _ _⟩
  · go_enter Try.func81, Try.ntmps81
    go_wp2_with (first
      | (at_builtin; go_loud (refine Kd.R_append_row (w0 := w) (Value.int .i64) 0 w.heap.size rfl _ _ 26 2 (.int .i64 0) 8 rfl Try.underlying26 (by kernel_rfl) rfl (by decide) (.slice (some ⟨w.heap.size, 0, none⟩) 0 0) [] l (some ad) l.length c (fun k => w.heap.size ≤ k) rfl rfl (fun k hk => Nat.le_trans (by simp) hk) (R_empty w) (Kd.C_below HR.out (below_alloc (Below.refl _ _) _)) (below_alloc (Below.refl _ _) _) (by simp) (by simp; omega) ?_; intro v1 w1 hr1 hb1 _ _)))
    go_ret
    exact ⟨_, rfl, hr1, hb1⟩
end Go.Proofs.Ytochgjeanajoiaa.HA.Mem
