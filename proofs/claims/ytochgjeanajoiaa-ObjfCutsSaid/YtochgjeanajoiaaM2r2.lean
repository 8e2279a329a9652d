/- Written by hand: the closure that objf.Read defers (function 66). -/
import Derived.Test.YtochgjeanajoiaaM2r0
import Derived.Defers
import Derived.Recover
namespace Go.Proofs.Ytochgjeanajoiaa.HA
open Go.RowKit Go.Proofs.YtochgjeanajoiaaW.PrintWords Go.Proofs.YtochgjeanajoiaaW.PrintLast Go.Proofs.YtochgjeanajoiaaW.PrintMore
set_option linter.unusedVariables false
set_option linter.unusedSimpArgs false

/-- A store of a whole struct into a block of its type: what is known of the world behind it. -/
theorem row_event {P : Program} {ops : Array Oper} {rest : List Oper} {o : Oper} {a : Act} {Q : Exit → Act → World → Prop} {W : World} (hgd : o.guard = none) (ty : TypeId) (x y : Operand) (ho : o.op = .store ty x y)
    (g : Nat) (cells old : Array Value) (hx : a.eval x = .pointer (some ⟨g, 0, none⟩)) (hy : a.eval y = .agg cells) (hg : W.heap[g]? = some (.cells old ty (0, 0))) (hi : (P.info? ty).map (·.size) = some cells.size)
    (hold : old.size = cells.size) (h1 : cells.all (·.oneCell') = true)
    (h : ∀ w1, w1.heap[g]? = some (.cells cells ty (0, 0)) → W.grownBy w1 (some g) → (∀ B, B ≤ g → Below B W w1) → wpList P ops Q rest (a.put o.dst undef) w1) : wpList P ops Q (o :: rest) a W :=
  wpList_store_row hgd ty x y ho g cells hx hy ty old hg hi hold h1 (h _ (setRow_heap W g old cells ty _ hg)
    ⟨rfl, rfl, rfl, by simp, fun k _ hk => setRow_other W g k cells (fun e => hk (by rw [e]))⟩
    (fun B hB => ⟨rfl, rfl, rfl, by simp, fun k hk => setRow_other W g k cells (by omega)⟩))
theorem read1_idle (bo be : Nat) (w : World) :
    CallsD Try.prog 66 #[.pointer (some ⟨bo, 0, none⟩), .pointer (some ⟨be, 0, none⟩)] .returning w fun e u' w' => e = .returned (.tuple #[]) ∧ u' = .returning ∧ w' = w := by
  refine callsD_of_wpS Try.func66 rfl fun c₀ cs hu => ?_
  apply wpS_seq
  apply wpS_region
  simp [wpOpsS, go_sem, recoverD, hu, Try.ntmps66, Exit.thenS]
  apply wpS_seq
  apply wpS_region
  simp [wpOpsS, go_sem, recoverD, hu, Try.ntmps66, Exit.thenS]
  refine wpS_cond (t := false) (by simp [Act.eval, Array.replicate]) ?_
  simp only [Bool.false_eq_true, if_false]
  refine wpS_of_wp (wp_skip ?_)
  cases c₀
  simp_all [bodyPostS, results, Try.results66]

def lackR : List PanicEntry := [{ v := .iface 110 (.agg #[]), recovered := true }]
set_option maxRecDepth 100000 in
set_option maxHeartbeats 2000000 in
theorem read1_lack (bo be : Nat) (co : Array Value) (x : Value) (w : World) (ho : w.heap[bo]? = some (.cells co 30 (0, 0))) (he : w.heap[be]? = some (.cells #[x] 37 (0, 0))) (hco : co.size = 4) (hne : bo ≠ be) :
    CallsD Try.prog 66 #[.pointer (some ⟨bo, 0, none⟩), .pointer (some ⟨be, 0, none⟩)] (.panicking lackL) w fun e u' w' => e = .returned (.tuple #[]) ∧ u' = .panicking lackR ∧
      w'.heap[bo]? = some (.cells #[.string ⟨#[]⟩, .slice none 0 0, .slice none 0 0, .slice none 0 0] 30 (0, 0)) ∧ w'.heap[be]? = some (.cells #[.int .i64 9] 37 (0, 0)) ∧ (∀ B, B ≤ bo → B ≤ be → Below B w w') := by
  unfold lackL
  refine callsD_of_wpS Try.func66 rfl fun c₀ cs hu => ?_
  have hu110 := Try.underlying110
  have hu30 := Try.underlying30
  apply wpS_seq
  apply wpS_region
  simp [wpOpsS, go_sem, recoverD, hu, Try.ntmps66, Exit.thenS]
  refine wpS_of_wp ?_
  have hta : ∀ w : World, (Instr.typeAssert (.iface 110 (.agg #[])) 20 110 true).run Try.prog w = .ok (.tuple #[.agg #[], .bool true]) w := fun _ => by kernel_rfl
  show Code.wp Try.prog _ _ { tmps := #[.pointer (some ⟨bo, 0, none⟩), .pointer (some ⟨be, 0, none⟩), .iface 110 (.agg #[]), undef, undef, .iface 110 (.agg #[]), undef, undef, undef, undef, undef, undef, undef, undef, undef, undef, undef], defers := [] } w
  have HO := Aside0.mk ho
  have HE := Aside0.mk he
  clear ho he
  go_wp2_with ((with_reducible refine gate_store (p := 0) rfl ?_); go_must (
    have ho1 := blk_below HO.out (below_alloc (Below.refl w.heap.size w) (.cells #[] 110));
    have he1 := blk_below HE.out (below_alloc (Below.refl w.heap.size w) (.cells #[] 110));
    refine row_event rfl 30 _ _ rfl bo #[.string ⟨#[]⟩, .slice none 0 0, .slice none 0 0, .slice none 0 0] co (by rfl) (by rfl) ho1 (by kernel_rfl) (by rw [hco]; rfl) (by kernel_rfl) ?_;
    intro w1 hb hg hB;
    have HO1 := Aside0.mk hb; have HE1 := Aside0.mk (blk_grown he1 hg (fun e => hne (Option.some.inj e).symm)); have HB := Aside0.mk hB; clear hb hg hB ho1 he1;
    have q0 := (blk_cell HE1.out 0).trans rfl; have q1 := blk_frozen HE1.out 0))
  have e1 := blk_put HE1.out 0 (.int .i64 9) (cs' := #[.int .i64 9]) rfl
  have e2 := (Below.heap_setCell w1 ⟨be, 0, none⟩ (.int .i64 9) bo hne).trans HO1.out
  have e3 : ∀ B, B ≤ bo → B ≤ be → Below B w (w1.setCell ⟨be, 0, none⟩ (.int .i64 9)) := fun B h1 h2 => (((Below.refl B w).alloc (by have := blk_lt HO.out; omega) _).trans (HB.out B h1)).setCell h2 _
  exact ⟨rfl, _, rfl, _, results_none rfl _ _ _, rfl, rfl, e2, e1, e3⟩
end Go.Proofs.Ytochgjeanajoiaa.HA
