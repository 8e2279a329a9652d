/- Written by hand: end, untouched, read, wrote of package mem. -/
import Derived.Test.YtochgjeanajoiaaM7a
namespace Go.Proofs.Ytochgjeanajoiaa.HA.Mem
open Go.RowKit Go.WideMaps Go.Maps Go.Proofs.YtochgjeanajoiaaW.PrintWords Go.Proofs.YtochgjeanajoiaaW.PrintLast Go.Proofs.YtochgjeanajoiaaW.PrintMore
set_option linter.unusedVariables false
set_option linter.unusedSimpArgs false

/-- A store of a whole struct into a block of its type: what is known of the world behind it. -/
theorem row_event {P : Program} {ops : Array Oper} {rest : List Oper} {o : Oper} {a : Act} {Q : Exit → Act → World → Prop} {W : World} (hgd : o.guard = none) (ty : TypeId) (x y : Operand) (ho : o.op = .store ty x y)
    (g : Nat) (cells old : Array Value) (hx : a.eval x = .pointer (some ⟨g, 0, none⟩)) (hy : a.eval y = .agg cells) (hg : W.heap[g]? = some (.cells old ty (0, 0))) (hi : (P.info? ty).map (·.size) = some cells.size)
    (hold : old.size = cells.size) (h1 : cells.all (·.oneCell') = true)
    (h : ∀ w1, w1.heap[g]? = some (.cells cells ty (0, 0)) → W.grownBy w1 (some g) → wpList P ops Q rest (a.put o.dst undef) w1) : wpList P ops Q (o :: rest) a W :=
  wpList_store_row hgd ty x y ho g cells hx hy ty old hg hi hold h1 (h _ (setRow_heap W g old cells ty _ hg)
    ⟨rfl, rfl, rfl, by simp, fun k _ hk => setRow_other W g k cells (fun e => hk (by rw [e]))⟩)
theorem zero3' (w : World) : (zeroValue 3).run Try.prog w = .ok (.int .i64 0) w := by kernel_rfl
set_option maxRecDepth 100000 in
set_option maxHeartbeats 4000000 in
theorem end_calls (b : Int) (A : Option Addr) (n c : Nat) (wr : Bool) (w : World) (hb : 0 ≤ b ∧ b ≤ 1099511627776) (hn : n ≤ 65536) :
    Calls Try.prog 80 #[.agg #[.int .i64 b, .slice A n c, .bool wr]] w fun e w' => e = .returned (.int .i64 (b + 8 * n)) ∧ Below w.heap.size w w' := by
  go_enter Try.func80, Try.ntmps80
  go_wp2
  go_ret
  exact ⟨by go_num, below_alloc (Below.refl _ _) _⟩
set_option maxRecDepth 100000 in
set_option maxHeartbeats 4000000 in
theorem untouched_calls (w : World) :
    Calls Try.prog 77 #[] w fun e w' => ∃ b1 b2, e = .returned (.agg #[.map (some b1), .map (some b2)]) ∧ w.heap.size ≤ b1 ∧ w.heap.size ≤ b2 ∧ b1 ≠ b2 ∧ TMap w' b1 0 [] ∧ TMap w' b2 0 [] ∧ Below w.heap.size w w' := by
  have hmm := @run_makeMap Try.prog
  go_enter Try.func77, Try.ntmps77
  go_wp2_with (first
    | ((with_reducible refine gate_dst (N := 0) rfl ?_); refine box_event ?hg (N := 0) ?hd (cs := #[.map none, .map none]) (t := 128) ?hr ?_; (case hd => rfl); (case hg => rfl); (case hr => first | (go_simp; done) | (go_simp; rfl)); intro g hg w1 hbox hb; have HG := Aside0.mk hg; have HB := Aside0.mk hb; have BK := Aside0.mk hbox; clear hg hb hbox)
    | ((with_reducible refine gate_store (p := 0) rfl ?_); have hA := below_alloc (Below.refl w1.heap.size w1) (.map #[] 0); have hB := below_alloc (Below.refl (w1.alloc (.map #[] 0)).heap.size (w1.alloc (.map #[] 0))) (.map #[] 0); have hC := blk_below (blk_below BK.out hA) hB; clear hA hB; refine row_event rfl 128 _ _ rfl g #[.map (some w1.heap.size), .map (some (w1.heap.size + 1))] #[.map none, .map none] (by rfl) (by rfl) hC (by kernel_rfl) (by rfl) (by kernel_rfl) ?_; intro w2 hw2 hg2))
  refine bodyPost_ret (v := .agg #[.map (some w1.heap.size), .map (some (w1.heap.size + 1))]) (results_single rfl (.cell g 128 _ (0, 0) _ rfl hw2 Try.underlying128 rfl (by kernel_rfl) .nil)) rfl ?_
  have hlt := blk_lt BK.out
  have hs := HB.out.size
  have hgw := HG.out
  have e1 : (w1.alloc (.map #[] 0)).heap.size = w1.heap.size + 1 := by simp
  have T2 : TMap ((w1.alloc (.map #[] 0)).alloc (.map #[] 0)) (w1.heap.size + 1) 0 [] := e1 ▸ TMap.made _
  have T1 : TMap ((w1.alloc (.map #[] 0)).alloc (.map #[] 0)) w1.heap.size 0 [] := (TMap.made w1).kept ((below_alloc (Below.refl (w1.alloc (.map #[] 0)).heap.size _) _).block _ (by omega))
  refine ⟨_, _, rfl, hs, by omega, by omega, T1.kept (hg2.block _ (by simp; omega) (fun e => by cases e; omega)), T2.kept (hg2.block _ (by simp) (fun e => by cases e; omega)), ?_⟩
  have hb2 := below_alloc (below_alloc HB.out (.map #[] 0)) (.map #[] 0)
  exact ⟨hg2.os.trans hb2.os, hg2.tape.trans hb2.tape, hg2.output.trans hb2.output, Nat.le_trans hb2.size hg2.size, fun k hk => (hg2.block k (by simp; omega) (fun e => by cases e; omega)).trans (hb2.block k hk)⟩
set_option maxRecDepth 100000 in
set_option maxHeartbeats 4000000 in
theorem read_calls (g b1 b2 n : Nat) (l : List Int) (a : Int) (rest : List Value) (t : TypeId) (w : World) (hg : w.cell? ⟨g, 0, none⟩ = some (.map (some b1))) (ha : 0 ≤ a ∧ a ≤ 9223372036854775807) (hm : TMap w b1 n l) (hn : n < maxLen) :
    Calls Try.prog 83 #[.pointer (some ⟨g, 0, none⟩), .int .i64 a] w fun e w' => (∃ v, e = .returned v) ∧ TMap w' b1 (n + 1) (ins a l) ∧ w.grownBy w' (some b1) := by
  obtain ⟨D, hD, hh, hl⟩ := hm
  have hkey : keyOf Try.prog 2 (.int .i64 a) = some (kz a) := Maps.keyOf_int_mk Try.underlying2 (by simp only [Lit.wf, Bool.and_eq_true, decide_eq_true_eq, show IntKind.i64.min = -9223372036854775808 from by decide, show IntKind.i64.max = 9223372036854775807 from by decide]; omega)
  go_enter Try.func83, Try.ntmps83
  go_wp2_with (first
    | (at_lookup; refine wpList_lookup_own_int _ rfl _ _ 126 rfl 2 3 .i64 law2 Try.underlying126 Try.underlying3 (zero3' _) b1 n D rfl hD _ (kz a) rfl hkey ?_; intro c hat hwc)
    | (at_mapUpdate; go_loud (refine wpList_mapUpdate_own _ rfl _ _ _ 126 rfl 2 3 law2 Try.underlying126 _ b1 n D rfl hD hn _ _ (kz a) rfl rfl hkey (.lit (.int .i64 _)) [] (plainElem_int Try.underlying3 ?hv) ?_; (case hv => first | exact wrap64_wf _ | exact wf_wrap _ _); intro w1 hown1 hgrow1)))
  go_end0
  exact ⟨⟨_, rfl⟩, TMap.put hh hD.isMap hl a _ hown1, hgrow1⟩
set_option maxRecDepth 100000 in
set_option maxHeartbeats 4000000 in
theorem wrote_calls (g b1 b2 n : Nat) (l : List Int) (a : Int) (rest : List Value) (t : TypeId) (w : World) (hg : w.cell? ⟨g, 1, none⟩ = some (.map (some b1))) (ha : 0 ≤ a ∧ a ≤ 9223372036854775807) (hm : TMap w b1 n l) (hn : n < maxLen) :
    Calls Try.prog 84 #[.pointer (some ⟨g, 0, none⟩), .int .i64 a] w fun e w' => (∃ v, e = .returned v) ∧ TMap w' b1 (n + 1) (ins a l) ∧ w.grownBy w' (some b1) := by
  obtain ⟨D, hD, hh, hl⟩ := hm
  have hkey : keyOf Try.prog 2 (.int .i64 a) = some (kz a) := Maps.keyOf_int_mk Try.underlying2 (by simp only [Lit.wf, Bool.and_eq_true, decide_eq_true_eq, show IntKind.i64.min = -9223372036854775808 from by decide, show IntKind.i64.max = 9223372036854775807 from by decide]; omega)
  go_enter Try.func84, Try.ntmps84
  go_wp2_with (first
    | (at_lookup; refine wpList_lookup_own_int _ rfl _ _ 126 rfl 2 3 .i64 law2 Try.underlying126 Try.underlying3 (zero3' _) b1 n D rfl hD _ (kz a) rfl hkey ?_; intro c hat hwc)
    | (at_mapUpdate; go_loud (refine wpList_mapUpdate_own _ rfl _ _ _ 126 rfl 2 3 law2 Try.underlying126 _ b1 n D rfl hD hn _ _ (kz a) rfl rfl hkey (.lit (.int .i64 _)) [] (plainElem_int Try.underlying3 ?hv) ?_; (case hv => first | exact wrap64_wf _ | exact wf_wrap _ _); intro w1 hown1 hgrow1)))
  go_end0
  exact ⟨⟨_, rfl⟩, TMap.put hh hD.isMap hl a _ hown1, hgrow1⟩
end Go.Proofs.Ytochgjeanajoiaa.HA.Mem
