/- Written by hand (by a program of mine): the walk of ObjfReads, along the one way that is taken. -/
import Derived.Test.YtochgjeanajoiaaM4s
import Derived.Test.YtochgjeanajoiaaM2l
import Derived.Test.YtochgjeanajoiaaM2h
namespace Go.Proofs.Ytochgjeanajoiaa.HA
open Go.RowKit Go.Proofs.YtochgjeanajoiaaW.PrintWords Go.Proofs.YtochgjeanajoiaaW.PrintLast Go.Proofs.YtochgjeanajoiaaW.PrintMore
set_option linter.unusedVariables false
set_option linter.unusedSimpArgs false

theorem read_small (s : ByteArray) : ∃ cc dd yy rr E, readR (pBody s) = (cc, dd, yy, rr, E) ∧ dd.length ≤ 4096 ∧ yy.length ≤ 1000 ∧ rr.length ≤ 8000 := by
  rcases h : pBody s with _ | ⟨c, d, y, r⟩
  · exact ⟨_, _, _, _, _, rfl, by simp, by simp, by simp⟩
  · obtain ⟨h1, _⟩ := body_inv h
    have hi := ins_of h1
    exact ⟨_, _, _, _, _, rfl, hi.data, hi.nsyms, hi.nrels⟩
set_option maxRecDepth 100000 in
set_option maxHeartbeats 16000000 in
theorem Reads_calls (s : ByteArray) (w : World) : Calls Try.prog 6 #[.string s] w fun e w' => e = .returned (.bool true) ∧ Below w.heap.size w w' := by
  have HB := Aside0.mk (Below.refl w.heap.size w)
  have hu30 := Try.underlying30
  by_cases hs : s.size ≤ 5000
  · obtain ⟨cc, dd, yy, rr, E, hE, h1, h2, h3⟩ := read_small s
    have H1 : Aside0 (objf_Read.f s = some (cc, dd, yy, rr, E)) := Aside0.mk (by rw [read_f (by omega), hE])
    have H2 : Aside0 (cotterref06_Read.f s = some (cc, dd, yy, rr, E)) := Aside0.mk (by unfold cotterref06_Read.f; rw [if_pos (by omega), hE])
    obtain ⟨KK, hK⟩ : ∃ KK, KK = dd.length + yy.length + rr.length + 2 := ⟨_, rfl⟩
    have H3 : Aside0 (cotterref06_Same.f KK cc dd yy rr cc dd yy rr = some true) := Aside0.mk (by rw [Same_f _ _ _ _ _ _ _ _ (by omega) (by omega) (by omega) KK (by omega)]; simp)
    have t1 : True := trivial
    have t2 : True := trivial
    clear hE h2 h3 hK HB
    go_enter Try.func6, Try.ntmps6
    go_wp2_with (first
      | (go_at_call 29; have _t := t1; go_must ((with_reducible refine (objf_Read.calls s cc dd yy rr E _ H1.out).mono ?_); rintro e wa ⟨u1, u2, u3, rfl, hu1, hu2, hu3, hb⟩; clear t1; have HB := Aside0.mk hb; have RA := Aside0.mk (RWs.mk hu1 hu2 hu3 : RWs w.heap.size wa u1 u2 u3 dd yy rr); clear hu1 hu2 hu3 hb; obtain ⟨A1, ac1, rfl⟩ := Kd.R_slice RA.out.d; obtain ⟨A2, ac2, rfl⟩ := Kd.R_slice RA.out.y; obtain ⟨A3, ac3, rfl⟩ := Kd.R_slice RA.out.r; ))
      | (go_at_call 30; go_must (have LT := Aside0.mk (Kd.R_lt RA.out.d); have hbx := below_alloc (Below.refl wa.heap.size wa) (.cells #[.string cc, .slice A1 dd.length ac1, .slice A2 yy.length ac2, .slice A3 rr.length ac3] 30); have KA := Aside0.mk (blk_new wa (.cells #[.string cc, .slice A1 dd.length ac1, .slice A2 yy.length ac2, .slice A3 rr.length ac3] 30)); have HBn := Aside0.mk (below_step HB.out hbx); have RAn := Aside0.mk (RA.out.below hbx); have NA := Aside0.mk (blk_lt (blk_new wa (.cells #[.string cc, .slice A1 dd.length ac1, .slice A2 yy.length ac2, .slice A3 rr.length ac3] 30))); clear HB RA hbx; have HB := HBn; have RA := RAn; clear HBn RAn; (with_reducible refine (cotterref06_Read.calls s cc dd yy rr E _ H2.out).mono ?_); rintro e wb ⟨u1, u2, u3, rfl, hu1, hu2, hu3, hb⟩; have HBn := Aside0.mk (below_step HB.out hb); have hbz : wa.heap.size + 1 ≤ (wa.alloc (.cells #[.string cc, .slice A1 dd.length ac1, .slice A2 yy.length ac2, .slice A3 rr.length ac3] 30)).heap.size := (by simp); have RB := Aside0.mk (RWs.mk (Kd.R_lower hu1 hbz) (Kd.R_lower hu2 hbz) (Kd.R_lower hu3 hbz) : RWs (wa.heap.size + 1) wb u1 u2 u3 dd yy rr); clear hbz; have RAn := Aside0.mk (RA.out.below hb); have KAn := Aside0.mk (blk_below KA.out hb); clear hu1 hu2 hu3 hb HB RA KA NA; have HB := HBn; have RA := RAn; have KA := KAn; clear HBn RAn KAn; obtain ⟨B1, bc1, rfl⟩ := Kd.R_slice RB.out.d; obtain ⟨B2, bc2, rfl⟩ := Kd.R_slice RB.out.y; obtain ⟨B3, bc3, rfl⟩ := Kd.R_slice RB.out.r; have p0 := (blk_cell KA.out 0).trans rfl; have p1 := (blk_cell KA.out 1).trans rfl; have p2 := (blk_cell KA.out 2).trans rfl; have p3 := (blk_cell KA.out 3).trans rfl; have hab : wa.heap.size < wb.heap.size := blk_lt KA.out; have hab2 : wa.heap.size ≠ wb.heap.size := Nat.ne_of_lt hab))
      | (go_at_call 28; have _t := t2; go_must (have hbx := below_alloc (Below.refl wb.heap.size wb) (.cells #[.string cc, .slice B1 dd.length bc1, .slice B2 yy.length bc2, .slice B3 rr.length bc3] 30); have KB := Aside0.mk (blk_new wb (.cells #[.string cc, .slice B1 dd.length bc1, .slice B2 yy.length bc2, .slice B3 rr.length bc3] 30)); have HBn := Aside0.mk (below_step HB.out hbx); have RAn := Aside0.mk (RA.out.below hbx); have RBn := Aside0.mk (RB.out.below hbx); have KAn := Aside0.mk (blk_below KA.out hbx); clear HB RA RB KA hbx p0 p1 p2 p3; have HB := HBn; have RA := RAn; have RB := RBn; have KA := KAn; clear HBn RAn RBn KAn; (with_reducible refine (cotterref06_Same.calls KK cc A1 ac1 dd A2 ac2 yy A3 ac3 rr cc B1 bc1 dd B2 bc2 yy B3 bc3 rr true _ (Kd.R_reads' RA.out.d).2.2 (Kd.R_reads' RA.out.d).2.1 (Kd.R_reads' RA.out.y).2.2 (Kd.R_reads' RA.out.y).2.1 (Kd.R_reads' RA.out.r).2.2 (Kd.R_reads' RA.out.r).2.1 (Kd.R_reads' RB.out.d).2.2 (Kd.R_reads' RB.out.d).2.1 (Kd.R_reads' RB.out.y).2.2 (Kd.R_reads' RB.out.y).2.1 (Kd.R_reads' RB.out.r).2.2 (Kd.R_reads' RB.out.r).2.1 H3.out).mono ?_); rintro e wn ⟨rfl, hb⟩; have HBn := Aside0.mk (below_step HB.out hb); have RAn := Aside0.mk (RA.out.below hb); have RBn := Aside0.mk (RB.out.below hb); have KAn := Aside0.mk (blk_below KA.out hb); have KBn := Aside0.mk (blk_below KB.out hb); clear HB RA RB KA KB hb t2; have HB := HBn; have RA := RAn; have RB := RBn; have KA := KAn; have KB := KBn; clear HBn RAn RBn KAn KBn; have p0 := (blk_cell KA.out 0).trans rfl; have p1 := (blk_cell KA.out 1).trans rfl; have p2 := (blk_cell KA.out 2).trans rfl; have p3 := (blk_cell KA.out 3).trans rfl; have q0 := (blk_cell KB.out 0).trans rfl; have q1 := (blk_cell KB.out 1).trans rfl; have q2 := (blk_cell KB.out 2).trans rfl; have q3 := (blk_cell KB.out 3).trans rfl)))
    go_loopw [7] (fun i wr => ∃ (k : Nat) (da : List Int), k ≤ dd.length ∧ i = .int .i64 k ∧ da.length = dd.length ∧ Aside0 (Below w.heap.size w wr) ∧ Aside0 (Kd.R (Kd.int .i64) 2 wr w.heap.size (fun _ => True) (.slice A1 dd.length ac1) da) ∧ Aside0 (RWs (wa.heap.size + 1) wr (.slice B1 dd.length bc1) (.slice B2 yy.length bc2) (.slice B3 rr.length bc3) dd yy rr) ∧ Aside0 (wr.heap[wa.heap.size]? = some (.cells #[.string cc, .slice A1 dd.length ac1, .slice A2 yy.length ac2, .slice A3 rr.length ac3] 30 (0, 0))) ∧ Aside0 (wr.heap[wb.heap.size]? = some (.cells #[.string cc, .slice B1 dd.length bc1, .slice B2 yy.length bc2, .slice B3 rr.length bc3] 30 (0, 0)))) (fun i _ => dd.length - (intOf i).toNat)
    case atStart => exact ⟨0, dd, Nat.zero_le _, rfl, rfl, HB, ⟨RA.out.d⟩, RB, KA, KB⟩
    case round =>
      clear HB RA RB KA KB p0 p1 p2 p3 q0 q1 q2 q3
      obtain ⟨k, da, hk, rfl, hda, HB, RD, RB, KA, KB⟩ := hrel
      have p0 := (blk_cell KA.out 0).trans rfl
      have p1 := (blk_cell KA.out 1).trans rfl
      have p2 := (blk_cell KA.out 2).trans rfl
      have p3 := (blk_cell KA.out 3).trans rfl
      have q0 := (blk_cell KB.out 0).trans rfl
      have q1 := (blk_cell KB.out 1).trans rfl
      have q2 := (blk_cell KB.out 2).trans rfl
      have q3 := (blk_cell KB.out 3).trans rfl
      by_cases hlt : k < dd.length
      · obtain ⟨g, cap, he, hg1, hg2, cells, hcells⟩ := Kd.R_form RD.out (by omega)
        simp only [Value.slice.injEq] at he
        obtain ⟨rfl, -, rfl⟩ := he
        have hcl := (Kd.R_reads' RD.out).2.2
        obtain ⟨ad, hadd, hc⟩ := Kd.at_int hcl (k : Int) (by omega) (by omega)
        cases hadd
        rw [Int.toNat_natCast, add_plain] at hc
        have hf := blk_frozen hcells k
        have LTG := Aside0.mk (show g < wa.heap.size from LT.out g (by simp [Value.ownBlock]))
        have HC := Aside0.mk hcells
        have HDA := Aside0.mk hda
        clear hcl hcells hda
        go_wp2
        have hp := Kd.R_put (e := 2) (W := wr) (base := w.heap.size) (ok := fun _ => True) (g := g) (cap := ac1) (xs := da) (by rw [HDA.out]; exact RD.out) (k : Int) (-7)
        rw [HDA.out, Int.toNat_natCast] at hp
        have RDn := Aside0.mk hp.1
        have HG := Aside0.mk (Lib.grownBy_setCell wr g k (.int .i64 (-7)))
        clear hp
        go_roundw
        case rel =>
          refine ⟨k + 1, da.set k (-7), by omega, by go_num, by rw [List.length_set]; exact HDA.out, ⟨HB.out.setCell (p := ⟨g, k, none⟩) hg1 _⟩, RDn, ⟨Kd.R_grown1 RB.out.d rfl HG.out ?_, Kd.R_grown1 RB.out.y rfl HG.out ?_, Kd.R_grown1 RB.out.r rfl HG.out ?_⟩, ⟨blk_far KA.out (blk_ne KA.out HC.out (by decide)) _⟩, ⟨blk_far KB.out (blk_ne KB.out HC.out (by decide)) _⟩⟩
          · intro e; have := Kd.R_base RB.out.d g e.symm; have := LTG.out; omega
          · intro e; have := Kd.R_base RB.out.y g e.symm; have := LTG.out; omega
          · intro e; have := Kd.R_base RB.out.r g e.symm; have := LTG.out; omega
        case measure => simp [intOf]; omega
      · obtain rfl : k = dd.length := by omega
        have HDA := Aside0.mk hda
        clear hda
        go_wp2_with (first
          | (go_at_call 29; go_must ((with_reducible refine (objf_Read.calls s cc dd yy rr E _ H1.out).mono ?_); rintro e wc ⟨u1, u2, u3, rfl, hu1, hu2, hu3, hb⟩; have HBn := Aside0.mk (below_step HB.out hb); have RC := Aside0.mk (RWs.mk hu1 hu2 hu3 : RWs wr.heap.size wc u1 u2 u3 dd yy rr); have RBn := Aside0.mk (RB.out.below hb); have KBn := Aside0.mk (blk_below KB.out hb); clear hu1 hu2 hu3 hb HB RB KB q0 q1 q2 q3; have HB := HBn; have RB := RBn; have KB := KBn; clear HBn RBn KBn; obtain ⟨C1, cc1, rfl⟩ := Kd.R_slice RC.out.d; obtain ⟨C2, cc2, rfl⟩ := Kd.R_slice RC.out.y; obtain ⟨C3, cc3, rfl⟩ := Kd.R_slice RC.out.r; have q0 := (blk_cell KB.out 0).trans rfl; have q1 := (blk_cell KB.out 1).trans rfl; have q2 := (blk_cell KB.out 2).trans rfl; have q3 := (blk_cell KB.out 3).trans rfl; have hbc : wb.heap.size < wc.heap.size := blk_lt KB.out; have hbc2 : wb.heap.size ≠ wc.heap.size := Nat.ne_of_lt hbc))
          | (go_at_call 28; go_must (have hbx := below_alloc (Below.refl wc.heap.size wc) (.cells #[.string cc, .slice C1 dd.length cc1, .slice C2 yy.length cc2, .slice C3 rr.length cc3] 30); have KC := Aside0.mk (blk_new wc (.cells #[.string cc, .slice C1 dd.length cc1, .slice C2 yy.length cc2, .slice C3 rr.length cc3] 30)); have HBn := Aside0.mk (below_step HB.out hbx); have RCn := Aside0.mk (RC.out.below hbx); have RBn := Aside0.mk (RB.out.below hbx); have KBn := Aside0.mk (blk_below KB.out hbx); clear HB RC RB KB hbx q0 q1 q2 q3; have HB := HBn; have RC := RCn; have RB := RBn; have KB := KBn; clear HBn RCn RBn KBn; (with_reducible refine (cotterref06_Same.calls KK cc C1 cc1 dd C2 cc2 yy C3 cc3 rr cc B1 bc1 dd B2 bc2 yy B3 bc3 rr true _ (Kd.R_reads' RC.out.d).2.2 (Kd.R_reads' RC.out.d).2.1 (Kd.R_reads' RC.out.y).2.2 (Kd.R_reads' RC.out.y).2.1 (Kd.R_reads' RC.out.r).2.2 (Kd.R_reads' RC.out.r).2.1 (Kd.R_reads' RB.out.d).2.2 (Kd.R_reads' RB.out.d).2.1 (Kd.R_reads' RB.out.y).2.2 (Kd.R_reads' RB.out.y).2.1 (Kd.R_reads' RB.out.r).2.2 (Kd.R_reads' RB.out.r).2.1 H3.out).mono ?_); rintro e wn ⟨rfl, hb⟩; have HBn := Aside0.mk (below_step HB.out hb); clear HB hb; have HB := HBn; clear HBn))
          | (go_at_call 22; go_must ((with_reducible refine (cotterlaw06_live.calls true _ live06_f).mono ?_); rintro e wn ⟨rfl, hb⟩; have HBn := Aside0.mk (below_step HB.out hb); clear HB hb; have HB := HBn; clear HBn)))
        go_ret
        exact ⟨by first | rfl | (simp; done), HB.out⟩
  · have d1 : decide ((s.size : Int) > 5000) = true := by simp; omega
    have d2 : (5000 : Int) < (s.size : Int) := by omega
    have d3 : decide (5000 < s.size) = true := by simp; omega
    go_enter Try.func6, Try.ntmps6
    go_wp2_with (first
      | (go_at_call 22; go_must ((with_reducible refine (cotterlaw06_live.calls true _ live06_f).mono ?_); rintro e wn ⟨rfl, hb⟩; have HBn := Aside0.mk (below_step HB.out hb); clear HB hb; have HB := HBn; clear HBn)))
    go_ret
    exact ⟨by first | rfl | (simp; done), HB.out⟩
end Go.Proofs.Ytochgjeanajoiaa.HA
