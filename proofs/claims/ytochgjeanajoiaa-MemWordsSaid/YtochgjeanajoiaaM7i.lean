/- Written by hand: Foot of package mem. -/
import Derived.Test.YtochgjeanajoiaaM7h
namespace Go.Proofs.Ytochgjeanajoiaa.HA.Mem
open Go.RowKit Go.WideMaps Go.Maps Go.Proofs.YtochgjeanajoiaaW.PrintWords Go.Proofs.YtochgjeanajoiaaW.PrintLast Go.Proofs.YtochgjeanajoiaaW.PrintMore
set_option linter.unusedVariables false
set_option linter.unusedSimpArgs false

set_option maxRecDepth 100000 in
set_option maxHeartbeats 8000000 in
theorem Foot_calls (base : Nat) (ok : Nat → Prop) (g n : Nat) (m : Mm) (w : World) (hm : MemAt base ok w g n m) (hn : n ≤ 1000000000) (hbase : base ≤ w.heap.size) :
    Calls Try.prog 38 #[.pointer (some ⟨g, 0, none⟩)] w fun e w' => ∃ v1 v2 N, e = .returned (.agg #[v1, v2]) ∧ w.heap.size ≤ N ∧ (Kd.int .i64).R 2 w' w.heap.size (fun k => w.heap.size ≤ k ∧ k < N) v1 m.rd ∧ (Kd.int .i64).R 2 w' w.heap.size (fun k => w.heap.size ≤ k ∧ k < N) v2 m.wt ∧
      MemAt base (fun k => ok k ∨ N ≤ k) w' g 0 ⟨m.rs, [], []⟩ ∧ Turn ok w w' := by
  obtain ⟨b1, b2, rv, hma⟩ := hm
  have HMw := Aside0.mk hma.bound
  have hu128 := Try.underlying128
  have hu131 := Try.underlying131
  have hu75 := Try.underlying75
  clear hma
  go_enter Try.func38, Try.ntmps38
  go_wp2_with (first
    | ((with_reducible refine gate_dst (N := 2) rfl ?_); refine box_event ?hg (N := 2) ?hd (cs := #[.slice none 0 0, .slice none 0 0]) (t := 75) ?hr ?_; (case hd => rfl); (case hg => rfl); (case hr => first | (go_simp; done) | (go_simp; rfl)); go_loud (intro gr hgr w1 hbox hb; have HB := Aside0.mk hb; have HF := Aside0.mk hbox; have HM := Aside0.mk (HMw.out.below hb); have HGR := Aside0.mk (show w.heap.size ≤ gr from by rw [hgr]; exact Nat.le_refl _); clear hb hbox hgr))
    | (go_at_call 88; go_loud (refine (foot_calls g b1 b2 n rv m.rd m.wt _ HM.out.box HM.out.m1 HM.out.m2 hn).mono ?_; rintro e w2 ⟨v1, v2, rfl, hv1, hv2, hb⟩; have hlo := HB.out.size; have V1 := Aside0.mk (Kd.R_mono (Kd.R_lower hv1 hlo) (fun k hk => Nat.le_trans hlo hk)); have V2 := Aside0.mk (Kd.R_mono (Kd.R_lower hv2 hlo) (fun k hk => Nat.le_trans hlo hk)); have HMn := Aside0.mk (HM.out.below hb); have HFn := Aside0.mk (blk_below HF.out hb); have HBn := Aside0.mk (below_step HB.out hb); clear HM HF HB hv1 hv2 hb hlo; have HM := HMn; have HF := HFn; have HB := HBn; clear HMn HFn HBn; obtain ⟨A1, c1, rfl⟩ := Kd.R_slice V1.out; obtain ⟨A2, c2, rfl⟩ := Kd.R_slice V2.out))
    | ((with_reducible refine gate_dst (N := 3) rfl ?_); refine box_event ?hg (N := 3) ?hd (cs := #[.slice none 0 0, .slice none 0 0]) (t := 75) ?hr ?_; (case hd => rfl); (case hg => rfl); (case hr => first | (go_simp; done) | (go_simp; rfl)); go_loud (intro gt hgt w3 hbox hb; have HT := Aside0.mk hbox; have HGT := Aside0.mk (show w.heap.size ≤ gt from by rw [hgt]; exact below_size HB.out); have HGN := Aside0.mk (show gr ≠ gt from by have := blk_lt HF.out; omega); have HMn := Aside0.mk (HM.out.below hb); have HFn := Aside0.mk (blk_below HF.out hb); have HBn := Aside0.mk (below_step HB.out hb); have V1n := Aside0.mk (Kd.R_below V1.out hb); have V2n := Aside0.mk (Kd.R_below V2.out hb); clear HM HF HB V1 V2 hbox hb hgt; have HM := HMn; have HF := HFn; have HB := HBn; have V1 := V1n; have V2 := V2n; clear HMn HFn HBn V1n V2n))
    | ((with_reducible refine gate_store (p := 3) rfl ?_); go_loud (refine row_event rfl 75 _ _ rfl gt #[.slice A1 m.rd.length c1, .slice A2 m.wt.length c2] #[.slice none 0 0, .slice none 0 0] (by rfl) (by rfl) HT.out (by kernel_rfl) (by rfl) (by kernel_rfl) ?_; intro w4 hw4 hg4; have hTn := Turn.of_grown (S := fun k => k = gt) hg4 (fun k hk => (Option.some.inj hk).symm); have HMn := Aside0.mk (HM.out.turn hTn (fun k hk e => by have := HGT.out; have := hk.2.2; omega)); have HFn := Aside0.mk (blk_grown HF.out hg4 (fun e => HGN.out (Option.some.inj e))); have HBn := Aside0.mk (HB.out.trans (hTn.below (fun k hk => by rw [hk]; exact HGT.out) (below_size HB.out))); have V1n := Aside0.mk (Kd.R_mono (Kd.R_grown (Kd.R_types V1.out HT.out (by decide)) hg4 (fun k hk e => hk.2 (Option.some.inj e))) (fun k hk => hk.1)); have V2n := Aside0.mk (Kd.R_mono (Kd.R_grown (Kd.R_types V2.out HT.out (by decide)) hg4 (fun k hk e => hk.2 (Option.some.inj e))) (fun k hk => hk.1)); have HTn := Aside0.mk hw4; clear HM HF HB V1 V2 HT hTn hw4 hg4; have HM := HMn; have HF := HFn; have HB := HBn; have V1 := V1n; have V2 := V2n; have HT := HTn; clear HMn HFn HBn V1n V2n HTn))
    | (go_at_call 77; go_loud (refine (untouched_calls _).mono ?_; rintro e w5 ⟨c1', c2', rfl, hb1, hb2, hne, ht1, ht2, hb⟩; have HN1 := Aside0.mk hb1; have HN2 := Aside0.mk hb2; have HNE := Aside0.mk hne; have T1 := Aside0.mk ht1; have T2 := Aside0.mk ht2; have HMn := Aside0.mk (HM.out.below hb); have HFn := Aside0.mk (blk_below HF.out hb); have HBn := Aside0.mk (below_step HB.out hb); have HTn := Aside0.mk (blk_below HT.out hb); have V1n := Aside0.mk (Kd.R_below (Kd.R_bound V1.out) hb); have V2n := Aside0.mk (Kd.R_below (Kd.R_bound V2.out) hb); have HWS := Aside0.mk (below_size HB.out); have HGL := Aside0.mk (blk_lt HF.out); clear HM HF HB HT V1 V2 hb hb1 hb2 hne ht1 ht2; have HM := HMn; have HF := HFn; have HB := HBn; have HT := HTn; have V1 := V1n; have V2 := V2n; clear HMn HFn HBn HTn V1n V2n; have hgl := blk_lt HMw.out.box; have hq1 : gt ≠ g := (by have := HGT.out; omega); have hq2 : g ≠ gt := Ne.symm hq1; have p0 := (blk_cell HM.out.box 0).trans rfl; have p1 := (blk_cell HM.out.box 1).trans rfl; have pf0 := blk_frozen HM.out.box 0; have pf1 := blk_frozen HM.out.box 1; have q0 := (blk_cell HT.out 0).trans rfl; have q1 := (blk_cell HT.out 1).trans rfl))
    | ((with_reducible refine gate_store (p := 2) rfl ?_); go_loud (have hs1 := blk_put HM.out.box 0 (.map (some c1')) rfl; have hs2 := blk_put hs1 1 (.map (some c2')) rfl; have hgr2 : gr ≠ g := (by have := HGR.out; omega); have hF1 := (Below.heap_setCell (w5.setCell ⟨g, 0, none⟩ (.map (some c1'))) ⟨g, 1, none⟩ (.map (some c2')) gr hgr2).trans ((Below.heap_setCell w5 ⟨g, 0, none⟩ (.map (some c1')) gr hgr2).trans HF.out); refine row_event rfl 75 _ _ rfl gr #[.slice A1 m.rd.length c1, .slice A2 m.wt.length c2] #[.slice none 0 0, .slice none 0 0] (by rfl) (by rfl) hF1 (by kernel_rfl) (by rfl) (by kernel_rfl) ?_; intro w6 hw6 hg6)))
  refine bodyPost_ret (v := .agg #[.slice A1 m.rd.length c1, .slice A2 m.wt.length c2]) (results_single rfl (.cell gr 75 _ (0, 0) _ rfl hw6 Try.underlying75 rfl (by kernel_rfl) .nil)) rfl ?_
  have hR : ∀ {v : Value} {l : List Int} {ok1 : Nat → Prop}, (Kd.int .i64).R 2 w5 w.heap.size ok1 v l → (Kd.int .i64).R 2 w6 w.heap.size ok1 v l := fun h =>
    Kd.R_mono (Kd.R_grown (Kd.R_types (Kd.R_set (Kd.R_set h HM.out.box (by decide) 0 _) hs1 (by decide) 1 _) hF1 (by decide)) hg6 (fun k hk e => hk.2 (Option.some.inj e))) (fun k hk => hk.1)
  have hgl4 : g < w4.heap.size := Nat.lt_of_lt_of_le hgl HWS.out
  have hgr4 : gr < w5.heap.size := blk_lt HF.out
  have hgr5 : gr ≠ g := hgr2
  have n1 := HN1.out
  have n2 := HN2.out
  have hF4 := HGL.out
  have e1 : ∀ k, k ≠ g → k ≠ gr → k < w5.heap.size → w6.heap[k]? = w5.heap[k]? := fun k h1 h2 h3 =>
    (hg6.block k (by simpa [World.setCell] using h3) (fun e => h2 (Option.some.inj e))).trans ((Below.heap_setCell _ _ _ _ h1).trans (Below.heap_setCell _ _ _ _ h1))
  refine ⟨_, _, w4.heap.size, rfl, HWS.out, Kd.R_mono (hR V1.out) (fun k hk => ⟨hk.1, hk.2.2.1⟩), Kd.R_mono (hR V2.out) (fun k hk => ⟨hk.1, hk.2.2.1⟩), ⟨c1', c2', rv, ?_⟩, ?_⟩
  · refine ⟨blk_grown hs2 hg6 (fun e => hgr5 (Option.some.inj e).symm), HM.out.bg, .inl HM.out.ok0.1, .inr n1, .inr n2, Nat.le_trans hbase (Nat.le_trans HWS.out n1), Nat.le_trans hbase (Nat.le_trans HWS.out n2), HNE.out, T1.out.kept (e1 _ (by omega) (by omega) T1.out.lt), T2.out.kept (e1 _ (by omega) (by omega) T2.out.lt), ?_⟩
    have hr1 := Kd.S_set (Kd.S_set HM.out.row HM.out.box (by decide) 0 (.map (some c1'))) hs1 (by decide) 1 (.map (some c2'))
    refine Kd.S_mono (Kd.S_grown hr1 hg6 (fun k hk e => ?_)) (fun k hk => .inl hk.1)
    have := HGR.out
    have := hk.2.2
    have := Option.some.inj e
    omega
  · have hb := HB.out
    exact ⟨hg6.os.trans hb.os, hg6.tape.trans hb.tape, hg6.output.trans hb.output, Nat.le_trans hb.size (by have := hg6.size; simpa [World.setCell] using this), fun k hk hn => (e1 k (fun e => hn (by rw [e]; exact HM.out.ok0.1)) (by have := HGR.out; omega) (Nat.lt_of_lt_of_le hk hb.size)).trans (hb.block k hk)⟩
end Go.Proofs.Ytochgjeanajoiaa.HA.Mem
