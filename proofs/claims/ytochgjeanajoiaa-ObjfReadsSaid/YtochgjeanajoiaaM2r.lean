/- Written by hand (by a program of mine): the contract of objf.Read (function 29). -/
import Derived.Test.YtochgjeanajoiaaM2r3
namespace Go.Proofs.Ytochgjeanajoiaa.HA
open Go.RowKit Go.Proofs.YtochgjeanajoiaaW.PrintWords Go.Proofs.YtochgjeanajoiaaW.PrintLast Go.Proofs.YtochgjeanajoiaaW.PrintMore
set_option linter.unusedVariables false
set_option linter.unusedSimpArgs false

def R29_5.T5 : Bool × List (List Nat × List Nat) := (true, [([], []), ([0], [0]), ([1], [1]), ([], []), ([3], [3]), ([2, 4, 4], [2, 4]), ([0, 1, 2, 3, 4, 5], []), ([6, 5, 5, 0, 1, 2, 3, 4, 5], [5, 6])])
def R29_5.B5 : List Nat := [0, 1, 3, 0, 8, 31, 63, 127]
theorem R29_5.tab5 : rtab .any (opsOf Try.f29 5) = R29_5.T5 := by kernel_rfl
theorem R29_5.bits5 : waitsOk R29_5.T5.2 R29_5.B5 = true := by kernel_rfl
def R29_8.T8 : Bool × List (List Nat × List Nat) := (true, [([], []), ([0], [0]), ([], []), ([2], [2]), ([3], [3]), ([1, 4, 3], [1, 4]), ([0, 1, 2, 3, 4, 5], []), ([6, 5, 5, 0, 1, 2, 3, 4, 5], [5, 6])])
def R29_8.B8 : List Nat := [0, 1, 0, 4, 12, 31, 63, 127]
theorem R29_8.tab8 : rtab .any (opsOf Try.f29 8) = R29_8.T8 := by kernel_rfl
theorem R29_8.bits8 : waitsOk R29_8.T8.2 R29_8.B8 = true := by kernel_rfl
def R29_14.T14 : Bool × List (List Nat × List Nat) := (true, [([], []), ([0], [0]), ([], []), ([], []), ([], []), ([4], [4]), ([2, 3, 5], [2, 3, 5]), ([6], [6]), ([1, 7, 5], [1, 7]), ([0, 1, 2, 3, 4, 5, 6, 7, 8], []), ([9, 8, 8, 0, 1, 2, 3, 4, 5, 6, 7, 8], [8, 9])])
def R29_14.B14 : List Nat := [0, 1, 0, 0, 0, 16, 60, 124, 255, 511, 1023]
theorem R29_14.tab14 : rtab .any (opsOf Try.f29 14) = R29_14.T14 := by kernel_rfl
theorem R29_14.bits14 : waitsOk R29_14.T14.2 R29_14.B14 = true := by kernel_rfl
def R29_21.T21 : Bool × List (List Nat × List Nat) := (true, [([], []), ([0], [0]), ([], []), ([], []), ([], []), ([], []), ([5], [5]), ([2, 3, 4, 6], [2, 3, 4, 6]), ([7], [7]), ([1, 8, 6], [1, 8]), ([0, 1, 2, 3, 4, 5, 6, 7, 8, 9], []), ([10, 9, 9, 0, 1, 2, 3, 4, 5, 6, 7, 8, 9], [9, 10])])
def R29_21.B21 : List Nat := [0, 1, 0, 0, 0, 0, 32, 124, 252, 511, 1023, 2047]
theorem R29_21.tab21 : rtab .any (opsOf Try.f29 21) = R29_21.T21 := by kernel_rfl
theorem R29_21.bits21 : waitsOk R29_21.T21.2 R29_21.B21 = true := by kernel_rfl
set_option maxRecDepth 100000 in
set_option maxHeartbeats 8000000 in
theorem read_calls (a0 : ByteArray) (r : ByteArray × List Int × List S32 × List S34 × Int) (w : World) (hs : a0.size ≤ 4611686018427387904) (hF : readR (pBody a0) = r) : Calls Try.prog 29 #[.string a0] w (ReadPost w r) := by
  have HF := Aside0.mk hF
  clear hF
  have hmf : ∀ (fn : Fn) (first cap : Array Value) (w : World), (Instr.makeFunc fn first cap).run Try.prog w = .ok (.func fn first cap) w := fun _ _ _ _ => rfl
  have hu30 := Try.underlying30
  have hu116 := Try.underlying116
  go_enter_defers Try.func29, Try.ntmps29
  go_wp2_with (first
      | ((with_reducible refine gate_dst (N := 2) rfl ?_); refine box_event ?hg (N := 2) ?hd (cs := #[.string ⟨#[]⟩, .slice none 0 0, .slice none 0 0, .slice none 0 0]) (t := 30) ?hr ?_; (case hd => rfl); (case hg => rfl); (case hr => first | (go_simp; done) | (go_simp; rfl)); go_must (intro bo hg w_bo hbox hb; have G1 := Aside0.mk (show w.heap.size ≤ bo from by rw [hg]; exact Nat.le_refl _); have K1 := Aside0.mk hbox; have B1 := Aside0.mk hb; clear hg hbox hb))
      | ((with_reducible refine gate_dst (N := 3) rfl ?_); refine box_event ?hg (N := 3) ?hd (cs := #[.int .i64 0]) (t := 37) ?hr ?_; (case hd => rfl); (case hg => rfl); (case hr => first | (go_simp; done) | (go_simp; rfl)); go_must (intro be hg w_be hbox hb; have G2 := Aside0.mk (show w.heap.size ≤ be from by rw [hg]; exact B1.out.size); have K2 := Aside0.mk hbox; have K1' := Aside0.mk (blk_below K1.out hb); have B2 := Aside0.mk (below_step B1.out hb); clear hg hbox hb K1 B1))
      | ((with_reducible refine gate_dst (N := 14) rfl ?_); refine box_event ?hg (N := 14) ?hd (cs := #[.string a0, .int .i64 0]) (t := 116) ?hr ?_; (case hd => rfl); (case hg => rfl); (case hr => first | (go_simp; done) | (go_simp; rfl)); go_must (intro g hg w_g hbox hb; have G3 := Aside0.mk (show w.heap.size ≤ g from by rw [hg]; exact B2.out.size); have HX := Aside0.mk (RBx.mk (B := w.heap.size) (w := w) (g := g) (a := 0) (below_step B2.out hb) G1.out G2.out G3.out (blk_below K1'.out hb) (blk_below K2.out hb) hbox); have HR := Aside0.mk (RWs.nil w.heap.size w_g); clear hg hbox hb K1' K2 B2))
      | (go_at_call 67; go_must (refine (take_any (g := g) (s := a0) (a := 0) (n := 4) (N := 4) (by decide) HX.out.hg hs (Nat.zero_le _)).mono ?_; rintro e wn ⟨hb, ⟨m, a1, hp, rfl, hr⟩ | ⟨hn, rfl⟩⟩; rotate_left; (exact read_fail rfl rfl HX.out hb HF.out (by unfold pBody; rw [hn]; rfl)); have ha1 : a1 ≤ a0.size := (pTake_le (Nat.zero_le _) hp).2.1; have HRn := Aside0.mk (HR.out.read HX.out hb); have HXn := Aside0.mk (HX.out.read hb hr); clear HX HR hb hr; have HX := HXn; have HR := HRn; clear HXn HRn; have HM := Aside0.mk hp; clear hp))
      | ((with_reducible refine gate_store (p := 2) rfl ?_); go_must (refine row_event rfl 30 _ _ rfl bo #[.string ⟨#[]⟩, .slice none 0 0, .slice none 0 0, .slice none 0 0] _ (by rfl) (by rfl) HX.out.ho (by kernel_rfl) (by rfl) (by kernel_rfl) ?_; intro wz hz hgz hBz; have ZO := Aside0.mk hz; have ZE := Aside0.mk (blk_grown HX.out.he hgz (fun e => HX.out.ne_be (Option.some.inj e).symm)); have ZB := Aside0.mk (HX.out.bel.trans (hBz _ HX.out.bo_)); have Z2 := Aside0.mk HX.out.be_; have q0 := (blk_cell ZE.out 0).trans rfl; have q1 := blk_frozen ZE.out 0; clear hz hgz hBz HX)))
  · rename_i hne
    exact read_zero rfl rfl ZO.out ZE.out ZB.out Z2.out HF.out (by rw [pBody_of HM.out, if_neg (by simpa using hne)])
  have HP := Aside0.mk (show pBody a0 = pRest a0 a1 from by rw [pBody_of HM.out, if_pos (by simpa using (show (!m.toList == ([67, 79, 84, 49] : List UInt8)) = false from by assumption))])
  clear HM
  refine start_ (n := 8) (S := fun _ => True) (ds := [4, 5, 7]) #[false, false, false, false, false, false, false, false] (by kernel_rfl) rfl rfl ?_ (fun hHeld => ?_)
  trivial
  have HXn := Aside0.mk (HX.out.drewN 1)
  have HRn := Aside0.mk (HR.out.below (pw_below_drewN (Below.refl _ _) 1))
  clear HX HR
  have HX := HXn
  have HR := HRn
  clear HXn HRn
  refine with_tabW R29_5.tab5 R29_5.bits5 (fun HT_ HW_ => ?_)
  refine pure_ (i := 0) (N := some 21) (v := ?_) (a' := ?_) #[true, false, false, false, false, false, false, false] rfl rfl (any_of HT_.out (by kernel_rfl)) (fun _ _ _ h => read_put (N := 21) (by decide) (by decide) h) (Or.inl ⟨by rfl, ?_⟩) ?_ ?_
  rotate_left
  · intro w'
    go_simp
    with_reducible rfl
  rotate_left
  · simp only [Act.put, List.setIfInBounds_toArray, List.set_cons_zero, List.set_cons_succ, i64_w, i32_w]
    rfl
  refine pure_ (i := 1) (N := some 22) (v := ?_) (a' := ?_) #[true, true, false, false, false, false, false, false] rfl rfl (any_of HT_.out (by kernel_rfl)) (fun _ _ _ h => read_put (N := 22) (by decide) (by decide) h) (Or.inl ⟨by rfl, ?_⟩) ?_ ?_
  rotate_left
  · intro w'
    go_simp
    with_reducible rfl
  rotate_left
  · simp only [Act.put, List.setIfInBounds_toArray, List.set_cons_zero, List.set_cons_succ, i64_w, i32_w]
    rfl
  refine pure_ (i := 2) (N := some 23) (v := ?_) (a' := ?_) #[true, true, true, false, false, false, false, false] rfl rfl (any_of HT_.out (by kernel_rfl)) (fun _ _ _ h => read_put (N := 23) (by decide) (by decide) h) (Or.inl ⟨by rfl, ?_⟩) ?_ ?_
  rotate_left
  · intro w'
    go_simp
    with_reducible rfl
  rotate_left
  · simp only [Act.put, List.setIfInBounds_toArray, List.set_cons_zero, List.set_cons_succ, i64_w, i32_w]
    rfl
  refine pure_ (i := 3) (N := some 24) (v := ?_) (a' := ?_) #[true, true, true, true, false, false, false, false] rfl rfl (any_of HT_.out (by kernel_rfl)) (fun _ _ _ h => read_put (N := 24) (by decide) (by decide) h) (Or.inl ⟨by rfl, ?_⟩) ?_ ?_
  rotate_left
  · intro w'
    go_simp
    with_reducible rfl
  rotate_left
  · simp only [Act.put, List.setIfInBounds_toArray, List.set_cons_zero, List.set_cons_succ, i64_w, i32_w]
    rfl
  refine last_ (i := 4) (N := some 25) #[true, true, true, true, true, false, false, false] rfl rfl (one_of HT_.out (by kernel_rfl)) (by decide) (fun K hK => ?_)
  refine goesP_ Try.func68 (by kernel_rfl) rfl #[.pointer (some ⟨g, 0, none⟩), .int .i64 65536] (by rfl) rfl rfl (by simp only [List.map_toArray, List.map_cons, List.map_nil]; rfl) ?_
  with_reducible refine (rnum_any (g := g) (s := a0) (a := a1) (most := 65536) (N := 65536) (by decide) ?hR hs ha1 (by decide)).mono ?_
  case hR => exact HX.out.hg
  rintro e wn ⟨hb, ⟨n1, a2, hp, rfl, hr⟩ | ⟨hn, rfl⟩⟩
  rotate_left
  · exact .inr ⟨_, rfl, read_fail rfl rfl HX.out hb HF.out (by rw [HP.out]; unfold pRest; rw [hn]; rfl)⟩
  have ha2 : a2 ≤ a0.size := (pNum_le hp).2.2
  have HRn := Aside0.mk (HR.out.read HX.out hb)
  have HXn := Aside0.mk (HX.out.read hb hr)
  clear HX HR hb hr
  have HX := HXn
  have HR := HRn
  clear HXn HRn
  have HP1 := Aside0.mk hp
  clear hp
  refine .inl ⟨_, rfl, ?_⟩
  refine hK.out _ _ ?_
  clear hK K
  refine norm_ (a' := ?_) ?_ ?_
  rotate_left
  · show Act.put _ (some 25) _ = _
    simp only [Act.put, List.setIfInBounds_toArray, List.set_cons_zero, List.set_cons_succ, i64_w, i32_w]
    try rfl
  refine last_ (i := 5) (N := some 26) #[true, true, true, true, true, true, false, false] rfl rfl (one_of HT_.out (by kernel_rfl)) (by decide) (fun K hK => ?_)
  refine goesP_ Try.func67 (by kernel_rfl) rfl #[.pointer (some ⟨g, 0, none⟩), .int .i64 n1] (by rfl) rfl rfl (by simp only [List.map_toArray, List.map_cons, List.map_nil]; rfl) ?_
  with_reducible refine (take_any (g := g) (s := a0) (a := a2) (n := n1) (N := n1) (by rfl) ?hR hs ha2).mono ?_
  case hR => exact HX.out.hg
  rintro e wn ⟨hb, ⟨code, a3, hp, rfl, hr⟩ | ⟨hn, rfl⟩⟩
  rotate_left
  · exact .inr ⟨_, rfl, read_fail rfl rfl HX.out hb HF.out (by rw [HP.out]; unfold pRest; rw [HP1.out]; simp only [Option.bind_some]; rw [hn]; rfl)⟩
  have ha3 : a3 ≤ a0.size := (pTake_le ha2 hp).2.1
  have HRn := Aside0.mk (HR.out.read HX.out hb)
  have HXn := Aside0.mk (HX.out.read hb hr)
  clear HX HR hb hr
  have HX := HXn
  have HR := HRn
  clear HXn HRn
  have HP2 := Aside0.mk hp
  clear hp
  refine .inl ⟨_, rfl, ?_⟩
  refine hK.out _ _ ?_
  clear hK K
  refine norm_ (a' := ?_) ?_ ?_
  rotate_left
  · show Act.put _ (some 26) _ = _
    simp only [Act.put, List.setIfInBounds_toArray, List.set_cons_zero, List.set_cons_succ, i64_w, i32_w]
    try rfl
  refine pure_ (i := 6) (N := some 27) (v := ?_) (a' := ?_) #[true, true, true, true, true, true, true, false] rfl rfl (any_of HT_.out (by kernel_rfl)) (fun _ _ _ h => read_put (N := 27) (by decide) (by decide) h) (Or.inl ⟨by rfl, ?_⟩) ?_ ?_
  rotate_left
  · intro w'
    go_simp
    with_reducible rfl
  rotate_left
  · simp only [Act.put, List.setIfInBounds_toArray, List.set_cons_zero, List.set_cons_succ, i64_w, i32_w]
    rfl
  refine last_ (i := 7) (N := none) #[true, true, true, true, true, true, true, true] rfl rfl (one_of HT_.out (by kernel_rfl)) (by decide) (fun K hK => ?_)
  have q0 := (blk_cell HX.out.ho 0).trans rfl
  have qf := blk_frozen HX.out.ho 0
  rw [if_pos (by rfl)]
  unfold Oper.wp
  go_simp
  refine hK.out _ _ ?_
  clear q0 qf
  have HRn := Aside0.mk (HR.out.set HX.out 0 (.string code))
  have HXn := Aside0.mk (HX.out.set 0 (.string code) _ _ _ _ rfl)
  clear HX HR
  have HX := HXn
  have HR := HRn
  clear HXn HRn
  clear hK K
  refine done_ (done_of HT_.out (by kernel_rfl)) ?_
  go_wp2_with (go_at_call 68; go_must (refine (rnum_any (g := g) (s := a0) (a := a3) (most := 4096) (N := 4096) (by decide) HX.out.hg hs ha3 (by decide)).mono ?_; rintro e wn ⟨hb, ⟨nd, a4, hp, rfl, hr⟩ | ⟨hn, rfl⟩⟩; rotate_left; (exact read_fail rfl rfl HX.out hb HF.out (by rw [HP.out]; unfold pRest; rw [HP1.out]; simp only [Option.bind_some]; rw [HP2.out]; simp only [Option.bind_some]; rw [hn]; rfl)); have ha4 : a4 ≤ a0.size := (pNum_le hp).2.2; have HRn := Aside0.mk (HR.out.read HX.out hb); have HXn := Aside0.mk (HX.out.read hb hr); clear HX HR hb hr; have HX := HXn; have HR := HRn; clear HXn HRn; have HP3 := Aside0.mk hp; clear hp))
  have hnnd : nd ≤ 4096 := (pNum_le HP3.out).1
  go_loopw [30] (fun i wr => ∃ (vd : Value) (ld : List Int) (a : Nat), i = .int .i64 (ld.length : Int) ∧ a ≤ a0.size ∧ Aside0 (PAt (pWide a0) nd a4 ld a) ∧ Aside0 (RBx w.heap.size w wr bo be g a0 a code vd (.slice none 0 0) (.slice none 0 0)) ∧ Aside0 (RWs w.heap.size wr vd (.slice none 0 0) (.slice none 0 0) ld [] [])) (fun i _ => nd - (intOf i).toNat)
  case atStart => exact ⟨_, [], a4, rfl, ha4, ⟨PAt.start _ _ _⟩, HX, HR⟩
  case round =>
    clear HX HR
    obtain ⟨vd, ld, a, rfl, ha, HL, HX, HR⟩ := hrel
    by_cases hlt : ld.length < nd
    · have hltI : decide ((ld.length : Int) < (nd : Int)) = true := by simp; omega
      go_wp2
      refine start_ (n := 8) (S := fun w' => w'.cell? ⟨bo, 1, none⟩ = some vd) (ds := [5, 7]) #[false, false, false, false, false, false, false, false] (by kernel_rfl) rfl rfl ?_ (fun hHeld => ?_)
      exact (blk_cell HX.out.ho 1).trans rfl
      have HXn := Aside0.mk (HX.out.drewN 1)
      have HRn := Aside0.mk (HR.out.below (pw_below_drewN (Below.refl _ _) 1))
      clear HX HR
      have HX := HXn
      have HR := HRn
      clear HXn HRn
      refine with_tabW R29_8.tab8 R29_8.bits8 (fun HT_ HW_ => ?_)
      refine pure_ (i := 0) (N := some 32) (v := ?_) (a' := ?_) #[true, false, false, false, false, false, false, false] rfl rfl (any_of HT_.out (by kernel_rfl)) (fun _ _ _ h => read_put (N := 32) (by decide) (by decide) h) (Or.inl ⟨by rfl, ?_⟩) ?_ ?_
      rotate_left
      · intro w'
        go_simp
        with_reducible rfl
      rotate_left
      · simp only [Act.put, List.setIfInBounds_toArray, List.set_cons_zero, List.set_cons_succ, i64_w, i32_w]
        rfl
      refine take_ (i := 1) (N := some 33) (v := ?_) (a' := ?_) #[true, true, false, false, false, false, false, false] rfl rfl (take_ofW HT_.out HW_.out (by kernel_rfl)) (fun _ _ _ h => read_put (N := 33) (by decide) (by decide) h) (Or.inl ⟨by rfl, ?_⟩) hHeld ?_ ?_
      rotate_left
      · rintro w' h_
        go_simp
        with_reducible rfl
      rotate_left
      · simp only [Act.put, List.setIfInBounds_toArray, List.set_cons_zero, List.set_cons_succ, i64_w, i32_w]
        rfl
      refine pure_ (i := 2) (N := some 34) (v := ?_) (a' := ?_) #[true, true, true, false, false, false, false, false] rfl rfl (any_of HT_.out (by kernel_rfl)) (fun _ _ _ h => read_put (N := 34) (by decide) (by decide) h) (Or.inl ⟨by rfl, ?_⟩) ?_ ?_
      rotate_left
      · intro w'
        go_simp
        with_reducible rfl
      rotate_left
      · simp only [Act.put, List.setIfInBounds_toArray, List.set_cons_zero, List.set_cons_succ, i64_w, i32_w]
        rfl
      refine one_ (i := 3) (N := some 35) #[true, true, true, true, false, false, false, false] rfl rfl (one_of HT_.out (by kernel_rfl)) (by decide) (fun K hK => ?_)
      refine goesP_ Try.func69 (by kernel_rfl) rfl #[.pointer (some ⟨g, 0, none⟩)] (by rfl) rfl rfl (by simp only [List.map_toArray, List.map_cons, List.map_nil]; rfl) ?_
      with_reducible refine (rwide_any (g := g) (s := a0) (a := a) ?hR hs ha).mono ?_
      case hR => exact HX.out.hg
      rintro e wn ⟨hb, ⟨x, ax, hp, rfl, hr⟩ | ⟨hn, rfl⟩⟩
      rotate_left
      · exact .inr ⟨_, rfl, read_fail rfl rfl HX.out hb HF.out (by rw [HP.out]; unfold pRest; rw [HP1.out]; simp only [Option.bind_some]; rw [HP2.out]; simp only [Option.bind_some]; rw [HP3.out]; simp only [Option.bind_some]; rw [HL.out.fail hlt (hn)]; rfl)⟩
      have hax : ax ≤ a0.size := pWide_le ha hp
      have HRn := Aside0.mk (HR.out.read HX.out hb)
      have HXn := Aside0.mk (HX.out.read hb hr)
      clear HX HR hb hr
      have HX := HXn
      have HR := HRn
      clear HXn HRn
      have HE := Aside0.mk hp
      clear hp
      refine .inl ⟨_, rfl, ?_⟩
      refine hK.out _ _ ((blk_cell HX.out.ho 1).trans rfl) (fun hHeld => ?_)
      clear hK K
      refine norm_ (a' := ?_) ?_ ?_
      rotate_left
      · show Act.put _ (some 35) _ = _
        simp only [Act.put, List.setIfInBounds_toArray, List.set_cons_zero, List.set_cons_succ, i64_w, i32_w]
        try rfl
      refine one_ (i := 4) (N := some 36) #[true, true, true, true, true, false, false, false] rfl rfl (one_of HT_.out (by kernel_rfl)) (by decide) (fun K hK => ?_)
      refine slice_step #[.int .i64 x] 2 (by rfl) ?hrun ?_
      case hrun => first | (go_simp; done) | (go_simp; rfl) | rfl
      refine hK.out _ _ ((blk_cell (HX.out.alloc _).ho 1).trans rfl) (fun hHeld => ?_)
      clear hK K
      refine norm_ (a' := ?_) ?_ ?_
      rotate_left
      · show Act.put _ (some 36) _ = _
        simp only [Act.put, List.setIfInBounds_toArray, List.set_cons_zero, List.set_cons_succ, i64_w, i32_w]
        try rfl
      refine last_ (i := 5) (N := some 37) #[true, true, true, true, true, true, false, false] rfl rfl (one_of HT_.out (by kernel_rfl)) (by decide) (fun K hK => ?_)
      refine Kd.R_append_step (Kd.int .i64) (w0 := wn) w.heap.size (by rfl) _ _ 26 2 (.int .i64 0) 8 rfl Try.underlying26 info2 rfl (by decide) (by decide) vd ld x [.int .i64 x] (fun _ => True) (fun _ => False) (by rfl) (by rfl) (rfl) (fun _ h => h.elim) (fun _ _ => trivial) HR.out.d (Below.refl _ _) HX.out.size (by have := HL.out.1; omega) ?_
      intro v1 w1 hr1 _ hg1 _
      obtain ⟨l1, hl1⟩ : ∃ l1, l1 = ld ++ [x] := ⟨_, rfl⟩
      rw [← hl1] at hr1
      have HQ := Aside0.mk hl1
      clear hl1
      obtain ⟨A1, c1, rfl⟩ := Kd.R_slice hr1
      have HXn := Aside0.mk (HX.out.row HR.out.d (by decide) (by decide) (by decide) hg1)
      have HRn := Aside0.mk (HR.out.app_d hr1 hg1)
      clear HX HR hr1 hg1
      have HX := HXn
      have HR := HRn
      clear HXn HRn
      refine hK.out _ _ ?_
      clear hK K
      refine norm_ (a' := ?_) ?_ ?_
      rotate_left
      · show Act.put _ (some 37) _ = _
        simp only [Act.put, List.setIfInBounds_toArray, List.set_cons_zero, List.set_cons_succ, i64_w, i32_w]
        try rfl
      refine pure_ (i := 6) (N := some 38) (v := ?_) (a' := ?_) #[true, true, true, true, true, true, true, false] rfl rfl (any_of HT_.out (by kernel_rfl)) (fun _ _ _ h => read_put (N := 38) (by decide) (by decide) h) (Or.inl ⟨by rfl, ?_⟩) ?_ ?_
      rotate_left
      · intro w'
        go_simp
        with_reducible rfl
      rotate_left
      · simp only [Act.put, List.setIfInBounds_toArray, List.set_cons_zero, List.set_cons_succ, i64_w, i32_w]
        rfl
      refine last_ (i := 7) (N := none) #[true, true, true, true, true, true, true, true] rfl rfl (one_of HT_.out (by kernel_rfl)) (by decide) (fun K hK => ?_)
      have q0 := (blk_cell HX.out.ho 1).trans rfl
      have qf := blk_frozen HX.out.ho 1
      rw [if_pos (by rfl)]
      unfold Oper.wp
      go_simp
      refine hK.out _ _ ?_
      clear q0 qf
      have HRn := Aside0.mk (HR.out.set HX.out 1 (.slice A1 l1.length c1))
      have HXn := Aside0.mk (HX.out.set 1 (.slice A1 l1.length c1) _ _ _ _ rfl)
      clear HX HR
      have HX := HXn
      have HR := HRn
      clear HXn HRn
      clear hK K
      refine done_ (done_of HT_.out (by kernel_rfl)) ?_
      go_wp2
      go_roundw
      case rel => exact ⟨_, l1, ax, by rw [HQ.out]; simp only [List.length_append, List.length_singleton]; go_num, hax, ⟨by rw [HQ.out]; exact HL.out.next hlt HE.out⟩, HX, HR⟩
      case measure => simp [intOf]; omega
    · obtain rfl : nd = ld.length := by have := HL.out.1; omega
      have HP4 := Aside0.mk (HL.out.done rfl)
      have hlq : ld.length ≤ 4096 := by have := HL.out.1; omega
      clear HL hlt
      go_wp2_with (go_at_call 68; go_must (refine (rnum_any (g := g) (s := a0) (a := a) (most := 1000) (N := 1000) (by decide) HX.out.hg hs ha (by decide)).mono ?_; rintro e wn ⟨hb, ⟨ns, a5, hp, rfl, hr⟩ | ⟨hn, rfl⟩⟩; rotate_left; (exact read_fail rfl rfl HX.out hb HF.out (by rw [HP.out]; unfold pRest; rw [HP1.out]; simp only [Option.bind_some]; rw [HP2.out]; simp only [Option.bind_some]; rw [HP3.out]; simp only [Option.bind_some]; rw [HP4.out]; simp only [Option.bind_some]; rw [hn]; rfl)); have ha5 : a5 ≤ a0.size := (pNum_le hp).2.2; have HRn := Aside0.mk (HR.out.read HX.out hb); have HXn := Aside0.mk (HX.out.read hb hr); clear HX HR hb hr; have HX := HXn; have HR := HRn; clear HXn HRn; have HP5 := Aside0.mk hp; clear hp))
      have hnns : ns ≤ 1000 := (pNum_le HP5.out).1
      go_loopw [42] (fun i wr => ∃ (vy : Value) (ly : List S32) (z : Nat), i = .int .i64 (ly.length : Int) ∧ z ≤ a0.size ∧ Aside0 (PAt (pSym a0) ns a5 ly z) ∧ Aside0 (RBx w.heap.size w wr bo be g a0 z code vd vy (.slice none 0 0)) ∧ Aside0 (RWs w.heap.size wr vd vy (.slice none 0 0) ld ly [])) (fun i _ => ns - (intOf i).toNat)
      case atStart => exact ⟨_, [], a5, rfl, ha5, ⟨PAt.start _ _ _⟩, HX, HR⟩
      case round =>
        clear HX HR
        obtain ⟨vy, ly, z, rfl, hz, HL, HX, HR⟩ := hrel
        by_cases hlt : ly.length < ns
        · have hltI : decide ((ly.length : Int) < (ns : Int)) = true := by simp; omega
          go_wp2_with (first
      | (go_at_call 70; go_must (refine (rname_any (g := g) (s := a0) (a := z) HX.out.hg hs hz).mono ?_; rintro e wn ⟨hb, ⟨nm, z1, hp, rfl, hr⟩ | ⟨hn, rfl⟩⟩; rotate_left; (exact read_fail rfl rfl HX.out hb HF.out (by rw [HP.out]; unfold pRest; rw [HP1.out]; simp only [Option.bind_some]; rw [HP2.out]; simp only [Option.bind_some]; rw [HP3.out]; simp only [Option.bind_some]; rw [HP4.out]; simp only [Option.bind_some]; rw [HP5.out]; simp only [Option.bind_some]; rw [HL.out.fail hlt (by unfold pSym; rw [hn]; rfl)]; rfl)); have hz1 : z1 ≤ a0.size := pName_le hp; have HRn := Aside0.mk (HR.out.read HX.out hb); have HXn := Aside0.mk (HX.out.read hb hr); clear HX HR hb hr; have HX := HXn; have HR := HRn; clear HXn HRn; have HE1 := Aside0.mk hp; clear hp))
      | (go_at_call 71; go_must (refine (rone_any (g := g) (s := a0) (a := z1) HX.out.hg hs hz1).mono ?_; rintro e wn ⟨hb, ⟨kd, z2, hp, rfl, hr⟩ | ⟨hn, rfl⟩⟩; rotate_left; (exact read_fail rfl rfl HX.out hb HF.out (by rw [HP.out]; unfold pRest; rw [HP1.out]; simp only [Option.bind_some]; rw [HP2.out]; simp only [Option.bind_some]; rw [HP3.out]; simp only [Option.bind_some]; rw [HP4.out]; simp only [Option.bind_some]; rw [HP5.out]; simp only [Option.bind_some]; rw [HL.out.fail hlt (by unfold pSym; rw [HE1.out]; simp only [Option.bind_some]; rw [hn]; rfl)]; rfl)); have hz2 : z2 ≤ a0.size := pOne_le hz1 hp; have HRn := Aside0.mk (HR.out.read HX.out hb); have HXn := Aside0.mk (HX.out.read hb hr); clear HX HR hb hr; have HX := HXn; have HR := HRn; clear HXn HRn; have HE2 := Aside0.mk hp; clear hp)))
          refine start_ (n := 11) (S := fun w' => w'.cell? ⟨bo, 2, none⟩ = some vy) (ds := [8, 10]) #[false, false, false, false, false, false, false, false, false, false, false] (by kernel_rfl) rfl rfl ?_ (fun hHeld => ?_)
          exact (blk_cell HX.out.ho 2).trans rfl
          have HXn := Aside0.mk (HX.out.drewN 1)
          have HRn := Aside0.mk (HR.out.below (pw_below_drewN (Below.refl _ _) 1))
          clear HX HR
          have HX := HXn
          have HR := HRn
          clear HXn HRn
          refine with_tabW R29_14.tab14 R29_14.bits14 (fun HT_ HW_ => ?_)
          refine pure_ (i := 0) (N := some 48) (v := ?_) (a' := ?_) #[true, false, false, false, false, false, false, false, false, false, false] rfl rfl (any_of HT_.out (by kernel_rfl)) (fun _ _ _ h => read_put (N := 48) (by decide) (by decide) h) (Or.inl ⟨by rfl, ?_⟩) ?_ ?_
          rotate_left
          · intro w'
            go_simp
            with_reducible rfl
          rotate_left
          · simp only [Act.put, List.setIfInBounds_toArray, List.set_cons_zero, List.set_cons_succ, i64_w, i32_w]
            rfl
          refine take_ (i := 1) (N := some 49) (v := ?_) (a' := ?_) #[true, true, false, false, false, false, false, false, false, false, false] rfl rfl (take_ofW HT_.out HW_.out (by kernel_rfl)) (fun _ _ _ h => read_put (N := 49) (by decide) (by decide) h) (Or.inl ⟨by rfl, ?_⟩) hHeld ?_ ?_
          rotate_left
          · rintro w' h_
            go_simp
            with_reducible rfl
          rotate_left
          · simp only [Act.put, List.setIfInBounds_toArray, List.set_cons_zero, List.set_cons_succ, i64_w, i32_w]
            rfl
          refine pure_ (i := 2) (N := some 50) (v := ?_) (a' := ?_) #[true, true, true, false, false, false, false, false, false, false, false] rfl rfl (any_of HT_.out (by kernel_rfl)) (fun _ _ _ h => read_put (N := 50) (by decide) (by decide) h) (Or.inl ⟨by rfl, ?_⟩) ?_ ?_
          rotate_left
          · intro w'
            go_simp
            with_reducible rfl
          rotate_left
          · simp only [Act.put, List.setIfInBounds_toArray, List.set_cons_zero, List.set_cons_succ, i64_w, i32_w]
            rfl
          refine pure_ (i := 3) (N := some 51) (v := ?_) (a' := ?_) #[true, true, true, true, false, false, false, false, false, false, false] rfl rfl (any_of HT_.out (by kernel_rfl)) (fun _ _ _ h => read_put (N := 51) (by decide) (by decide) h) (Or.inl ⟨by rfl, ?_⟩) ?_ ?_
          rotate_left
          · intro w'
            go_simp
            with_reducible rfl
          rotate_left
          · simp only [Act.put, List.setIfInBounds_toArray, List.set_cons_zero, List.set_cons_succ, i64_w, i32_w]
            rfl
          refine pure_ (i := 4) (N := some 52) (v := ?_) (a' := ?_) #[true, true, true, true, true, false, false, false, false, false, false] rfl rfl (any_of HT_.out (by kernel_rfl)) (fun _ _ _ h => read_put (N := 52) (by decide) (by decide) h) (Or.inl ⟨by rfl, ?_⟩) ?_ ?_
          rotate_left
          · intro w'
            go_simp
            with_reducible rfl
          rotate_left
          · simp only [Act.put, List.setIfInBounds_toArray, List.set_cons_zero, List.set_cons_succ, i64_w, i32_w]
            rfl
          refine one_ (i := 5) (N := some 53) #[true, true, true, true, true, true, false, false, false, false, false] rfl rfl (one_of HT_.out (by kernel_rfl)) (by decide) (fun K hK => ?_)
          refine goesP_ Try.func68 (by kernel_rfl) rfl #[.pointer (some ⟨g, 0, none⟩), .int .i64 65536] (by rfl) rfl rfl (by simp only [List.map_toArray, List.map_cons, List.map_nil]; rfl) ?_
          with_reducible refine (rnum_any (g := g) (s := a0) (a := z2) (most := 65536) (N := 65536) (by decide) ?hR hs hz2 (by decide)).mono ?_
          case hR => exact HX.out.hg
          rintro e wn ⟨hb, ⟨u, z3, hp, rfl, hr⟩ | ⟨hn, rfl⟩⟩
          rotate_left
          · exact .inr ⟨_, rfl, read_fail rfl rfl HX.out hb HF.out (by rw [HP.out]; unfold pRest; rw [HP1.out]; simp only [Option.bind_some]; rw [HP2.out]; simp only [Option.bind_some]; rw [HP3.out]; simp only [Option.bind_some]; rw [HP4.out]; simp only [Option.bind_some]; rw [HP5.out]; simp only [Option.bind_some]; rw [HL.out.fail hlt (by unfold pSym; rw [HE1.out]; simp only [Option.bind_some]; rw [HE2.out]; simp only [Option.bind_some]; rw [hn]; rfl)]; rfl)⟩
          have hz3 : z3 ≤ a0.size := (pNum_le hp).2.2
          have HRn := Aside0.mk (HR.out.read HX.out hb)
          have HXn := Aside0.mk (HX.out.read hb hr)
          clear HX HR hb hr
          have HX := HXn
          have HR := HRn
          clear HXn HRn
          have HE3 := Aside0.mk hp
          clear hp
          refine .inl ⟨_, rfl, ?_⟩
          refine hK.out _ _ ((blk_cell HX.out.ho 2).trans rfl) (fun hHeld => ?_)
          clear hK K
          refine norm_ (a' := ?_) ?_ ?_
          rotate_left
          · show Act.put _ (some 53) _ = _
            simp only [Act.put, List.setIfInBounds_toArray, List.set_cons_zero, List.set_cons_succ, i64_w, i32_w]
            try rfl
          refine pure_ (i := 6) (N := some 54) (v := ?_) (a' := ?_) #[true, true, true, true, true, true, true, false, false, false, false] rfl rfl (any_of HT_.out (by kernel_rfl)) (fun _ _ _ h => read_put (N := 54) (by decide) (by decide) h) (Or.inl ⟨by rfl, ?_⟩) ?_ ?_
          rotate_left
          · intro w'
            go_simp
            with_reducible rfl
          rotate_left
          · simp only [Act.put, List.setIfInBounds_toArray, List.set_cons_zero, List.set_cons_succ, i64_w, i32_w]
            rfl
          refine one_ (i := 7) (N := some 55) #[true, true, true, true, true, true, true, true, false, false, false] rfl rfl (one_of HT_.out (by kernel_rfl)) (by decide) (fun K hK => ?_)
          refine slice_step #[.string nm, .int .i64 kd, .int .i64 u] 32 (by rfl) ?hrun ?_
          case hrun => first | (go_simp; done) | (go_simp; rfl) | rfl
          refine hK.out _ _ ((blk_cell (HX.out.alloc _).ho 2).trans rfl) (fun hHeld => ?_)
          clear hK K
          refine norm_ (a' := ?_) ?_ ?_
          rotate_left
          · show Act.put _ (some 55) _ = _
            simp only [Act.put, List.setIfInBounds_toArray, List.set_cons_zero, List.set_cons_succ, i64_w, i32_w]
            try rfl
          refine last_ (i := 8) (N := some 56) #[true, true, true, true, true, true, true, true, true, false, false] rfl rfl (one_of HT_.out (by kernel_rfl)) (by decide) (fun K hK => ?_)
          refine Kd.R_append_step k32 (w0 := wn) w.heap.size (by rfl) _ _ 27 32 (.agg #[(.string ⟨#[]⟩), (.int .i64 0), (.int .i64 0)]) 32 rfl Try.underlying27 info32 rfl (by decide) (by decide) vy ly ⟨nm, kd, u⟩ [.string nm, .int .i64 kd, .int .i64 u] (fun _ => True) (fun _ => False) (by rfl) (by rfl) (k32_mkM _ _ _ ⟨nm, kd, u⟩) (fun _ h => h.elim) (fun _ _ => trivial) HR.out.y (Below.refl _ _) HX.out.size (by have := HL.out.1; omega) ?_
          intro v1 w1 hr1 _ hg1 _
          obtain ⟨l1, hl1⟩ : ∃ l1, l1 = ly ++ [⟨nm, kd, u⟩] := ⟨_, rfl⟩
          rw [← hl1] at hr1
          have HQ := Aside0.mk hl1
          clear hl1
          obtain ⟨A1, c1, rfl⟩ := Kd.R_slice hr1
          have HXn := Aside0.mk (HX.out.row HR.out.y (by decide) (by decide) (by decide) hg1)
          have HRn := Aside0.mk (HR.out.app_y hr1 hg1)
          clear HX HR hr1 hg1
          have HX := HXn
          have HR := HRn
          clear HXn HRn
          refine hK.out _ _ ?_
          clear hK K
          refine norm_ (a' := ?_) ?_ ?_
          rotate_left
          · show Act.put _ (some 56) _ = _
            simp only [Act.put, List.setIfInBounds_toArray, List.set_cons_zero, List.set_cons_succ, i64_w, i32_w]
            try rfl
          refine pure_ (i := 9) (N := some 57) (v := ?_) (a' := ?_) #[true, true, true, true, true, true, true, true, true, true, false] rfl rfl (any_of HT_.out (by kernel_rfl)) (fun _ _ _ h => read_put (N := 57) (by decide) (by decide) h) (Or.inl ⟨by rfl, ?_⟩) ?_ ?_
          rotate_left
          · intro w'
            go_simp
            with_reducible rfl
          rotate_left
          · simp only [Act.put, List.setIfInBounds_toArray, List.set_cons_zero, List.set_cons_succ, i64_w, i32_w]
            rfl
          refine last_ (i := 10) (N := none) #[true, true, true, true, true, true, true, true, true, true, true] rfl rfl (one_of HT_.out (by kernel_rfl)) (by decide) (fun K hK => ?_)
          have q0 := (blk_cell HX.out.ho 2).trans rfl
          have qf := blk_frozen HX.out.ho 2
          rw [if_pos (by rfl)]
          unfold Oper.wp
          go_simp
          refine hK.out _ _ ?_
          clear q0 qf
          have HRn := Aside0.mk (HR.out.set HX.out 2 (.slice A1 l1.length c1))
          have HXn := Aside0.mk (HX.out.set 2 (.slice A1 l1.length c1) _ _ _ _ rfl)
          clear HX HR
          have HX := HXn
          have HR := HRn
          clear HXn HRn
          clear hK K
          refine done_ (done_of HT_.out (by kernel_rfl)) ?_
          go_wp2
          go_roundw
          case rel => exact ⟨_, l1, z3, by rw [HQ.out]; simp only [List.length_append, List.length_singleton]; go_num, hz3, ⟨by rw [HQ.out]; exact HL.out.next hlt (by unfold pSym; rw [HE1.out]; simp only [Option.bind_some]; rw [HE2.out]; simp only [Option.bind_some]; rw [HE3.out]; rfl)⟩, HX, HR⟩
          case measure => simp [intOf]; omega
        · obtain rfl : ns = ly.length := by have := HL.out.1; omega
          have HP6 := Aside0.mk (HL.out.done rfl)
          clear HL hlt
          go_wp2_with (go_at_call 68; go_must (refine (rnum_any (g := g) (s := a0) (a := z) (most := 8000) (N := 8000) (by decide) HX.out.hg hs hz (by decide)).mono ?_; rintro e wn ⟨hb, ⟨nr, a6, hp, rfl, hr⟩ | ⟨hn, rfl⟩⟩; rotate_left; (exact read_fail rfl rfl HX.out hb HF.out (by rw [HP.out]; unfold pRest; rw [HP1.out]; simp only [Option.bind_some]; rw [HP2.out]; simp only [Option.bind_some]; rw [HP3.out]; simp only [Option.bind_some]; rw [HP4.out]; simp only [Option.bind_some]; rw [HP5.out]; simp only [Option.bind_some]; rw [HP6.out]; simp only [Option.bind_some]; rw [hn]; rfl)); have ha6 : a6 ≤ a0.size := (pNum_le hp).2.2; have HRn := Aside0.mk (HR.out.read HX.out hb); have HXn := Aside0.mk (HX.out.read hb hr); clear HX HR hb hr; have HX := HXn; have HR := HRn; clear HXn HRn; have HP7 := Aside0.mk hp; clear hp))
          have hnnr : nr ≤ 8000 := (pNum_le HP7.out).1
          go_loopw [61] (fun i wr => ∃ (vr : Value) (lr : List S34) (y : Nat), i = .int .i64 (lr.length : Int) ∧ y ≤ a0.size ∧ Aside0 (PAt (pRel a0) nr a6 lr y) ∧ Aside0 (RBx w.heap.size w wr bo be g a0 y code vd vy vr) ∧ Aside0 (RWs w.heap.size wr vd vy vr ld ly lr)) (fun i _ => nr - (intOf i).toNat)
          case atStart => exact ⟨_, [], a6, rfl, ha6, ⟨PAt.start _ _ _⟩, HX, HR⟩
          case round =>
            clear HX HR
            obtain ⟨vr, lr, y, rfl, hy, HL, HX, HR⟩ := hrel
            by_cases hlt : lr.length < nr
            · have hltI : decide ((lr.length : Int) < (nr : Int)) = true := by simp; omega
              go_wp2_with (first
      | (go_at_call 68; go_must (refine (rnum_any (g := g) (s := a0) (a := y) (most := 65536) (N := 65536) (by decide) HX.out.hg hs hy (by decide)).mono ?_; rintro e wn ⟨hb, ⟨u, y1, hp, rfl, hr⟩ | ⟨hn, rfl⟩⟩; rotate_left; (exact read_fail rfl rfl HX.out hb HF.out (by rw [HP.out]; unfold pRest; rw [HP1.out]; simp only [Option.bind_some]; rw [HP2.out]; simp only [Option.bind_some]; rw [HP3.out]; simp only [Option.bind_some]; rw [HP4.out]; simp only [Option.bind_some]; rw [HP5.out]; simp only [Option.bind_some]; rw [HP6.out]; simp only [Option.bind_some]; rw [HP7.out]; simp only [Option.bind_some]; rw [HL.out.fail hlt (by unfold pRel; rw [hn]; rfl)]; rfl)); have hy1 : y1 ≤ a0.size := (pNum_le hp).2.2; have HRn := Aside0.mk (HR.out.read HX.out hb); have HXn := Aside0.mk (HX.out.read hb hr); clear HX HR hb hr; have HX := HXn; have HR := HRn; clear HXn HRn; have HE1 := Aside0.mk hp; clear hp))
      | (go_at_call 71; go_must (refine (rone_any (g := g) (s := a0) (a := y1) HX.out.hg hs hy1).mono ?_; rintro e wn ⟨hb, ⟨kd, y2, hp, rfl, hr⟩ | ⟨hn, rfl⟩⟩; rotate_left; (exact read_fail rfl rfl HX.out hb HF.out (by rw [HP.out]; unfold pRest; rw [HP1.out]; simp only [Option.bind_some]; rw [HP2.out]; simp only [Option.bind_some]; rw [HP3.out]; simp only [Option.bind_some]; rw [HP4.out]; simp only [Option.bind_some]; rw [HP5.out]; simp only [Option.bind_some]; rw [HP6.out]; simp only [Option.bind_some]; rw [HP7.out]; simp only [Option.bind_some]; rw [HL.out.fail hlt (by unfold pRel; rw [HE1.out]; simp only [Option.bind_some]; rw [hn]; rfl)]; rfl)); have hy2 : y2 ≤ a0.size := pOne_le hy1 hp; have HRn := Aside0.mk (HR.out.read HX.out hb); have HXn := Aside0.mk (HX.out.read hb hr); clear HX HR hb hr; have HX := HXn; have HR := HRn; clear HXn HRn; have HE2 := Aside0.mk hp; clear hp))
      | (go_at_call 70; go_must (refine (rname_any (g := g) (s := a0) (a := y2) HX.out.hg hs hy2).mono ?_; rintro e wn ⟨hb, ⟨nm, y3, hp, rfl, hr⟩ | ⟨hn, rfl⟩⟩; rotate_left; (exact read_fail rfl rfl HX.out hb HF.out (by rw [HP.out]; unfold pRest; rw [HP1.out]; simp only [Option.bind_some]; rw [HP2.out]; simp only [Option.bind_some]; rw [HP3.out]; simp only [Option.bind_some]; rw [HP4.out]; simp only [Option.bind_some]; rw [HP5.out]; simp only [Option.bind_some]; rw [HP6.out]; simp only [Option.bind_some]; rw [HP7.out]; simp only [Option.bind_some]; rw [HL.out.fail hlt (by unfold pRel; rw [HE1.out]; simp only [Option.bind_some]; rw [HE2.out]; simp only [Option.bind_some]; rw [hn]; rfl)]; rfl)); have hy3 : y3 ≤ a0.size := pName_le hp; have HRn := Aside0.mk (HR.out.read HX.out hb); have HXn := Aside0.mk (HX.out.read hb hr); clear HX HR hb hr; have HX := HXn; have HR := HRn; clear HXn HRn; have HE3 := Aside0.mk hp; clear hp)))
              refine start_ (n := 12) (S := fun w' => w'.cell? ⟨bo, 3, none⟩ = some vr) (ds := [9, 11]) #[false, false, false, false, false, false, false, false, false, false, false, false] (by kernel_rfl) rfl rfl ?_ (fun hHeld => ?_)
              exact (blk_cell HX.out.ho 3).trans rfl
              have HXn := Aside0.mk (HX.out.drewN 1)
              have HRn := Aside0.mk (HR.out.below (pw_below_drewN (Below.refl _ _) 1))
              clear HX HR
              have HX := HXn
              have HR := HRn
              clear HXn HRn
              refine with_tabW R29_21.tab21 R29_21.bits21 (fun HT_ HW_ => ?_)
              refine pure_ (i := 0) (N := some 69) (v := ?_) (a' := ?_) #[true, false, false, false, false, false, false, false, false, false, false, false] rfl rfl (any_of HT_.out (by kernel_rfl)) (fun _ _ _ h => read_put (N := 69) (by decide) (by decide) h) (Or.inl ⟨by rfl, ?_⟩) ?_ ?_
              rotate_left
              · intro w'
                go_simp
                with_reducible rfl
              rotate_left
              · simp only [Act.put, List.setIfInBounds_toArray, List.set_cons_zero, List.set_cons_succ, i64_w, i32_w]
                rfl
              refine take_ (i := 1) (N := some 70) (v := ?_) (a' := ?_) #[true, true, false, false, false, false, false, false, false, false, false, false] rfl rfl (take_ofW HT_.out HW_.out (by kernel_rfl)) (fun _ _ _ h => read_put (N := 70) (by decide) (by decide) h) (Or.inl ⟨by rfl, ?_⟩) hHeld ?_ ?_
              rotate_left
              · rintro w' h_
                go_simp
                with_reducible rfl
              rotate_left
              · simp only [Act.put, List.setIfInBounds_toArray, List.set_cons_zero, List.set_cons_succ, i64_w, i32_w]
                rfl
              refine pure_ (i := 2) (N := some 71) (v := ?_) (a' := ?_) #[true, true, true, false, false, false, false, false, false, false, false, false] rfl rfl (any_of HT_.out (by kernel_rfl)) (fun _ _ _ h => read_put (N := 71) (by decide) (by decide) h) (Or.inl ⟨by rfl, ?_⟩) ?_ ?_
              rotate_left
              · intro w'
                go_simp
                with_reducible rfl
              rotate_left
              · simp only [Act.put, List.setIfInBounds_toArray, List.set_cons_zero, List.set_cons_succ, i64_w, i32_w]
                rfl
              refine pure_ (i := 3) (N := some 72) (v := ?_) (a' := ?_) #[true, true, true, true, false, false, false, false, false, false, false, false] rfl rfl (any_of HT_.out (by kernel_rfl)) (fun _ _ _ h => read_put (N := 72) (by decide) (by decide) h) (Or.inl ⟨by rfl, ?_⟩) ?_ ?_
              rotate_left
              · intro w'
                go_simp
                with_reducible rfl
              rotate_left
              · simp only [Act.put, List.setIfInBounds_toArray, List.set_cons_zero, List.set_cons_succ, i64_w, i32_w]
                rfl
              refine pure_ (i := 4) (N := some 73) (v := ?_) (a' := ?_) #[true, true, true, true, true, false, false, false, false, false, false, false] rfl rfl (any_of HT_.out (by kernel_rfl)) (fun _ _ _ h => read_put (N := 73) (by decide) (by decide) h) (Or.inl ⟨by rfl, ?_⟩) ?_ ?_
              rotate_left
              · intro w'
                go_simp
                with_reducible rfl
              rotate_left
              · simp only [Act.put, List.setIfInBounds_toArray, List.set_cons_zero, List.set_cons_succ, i64_w, i32_w]
                rfl
              refine pure_ (i := 5) (N := some 74) (v := ?_) (a' := ?_) #[true, true, true, true, true, true, false, false, false, false, false, false] rfl rfl (any_of HT_.out (by kernel_rfl)) (fun _ _ _ h => read_put (N := 74) (by decide) (by decide) h) (Or.inl ⟨by rfl, ?_⟩) ?_ ?_
              rotate_left
              · intro w'
                go_simp
                with_reducible rfl
              rotate_left
              · simp only [Act.put, List.setIfInBounds_toArray, List.set_cons_zero, List.set_cons_succ, i64_w, i32_w]
                rfl
              refine one_ (i := 6) (N := some 75) #[true, true, true, true, true, true, true, false, false, false, false, false] rfl rfl (one_of HT_.out (by kernel_rfl)) (by decide) (fun K hK => ?_)
              refine goesP_ Try.func69 (by kernel_rfl) rfl #[.pointer (some ⟨g, 0, none⟩)] (by rfl) rfl rfl (by simp only [List.map_toArray, List.map_cons, List.map_nil]; rfl) ?_
              with_reducible refine (rwide_any (g := g) (s := a0) (a := y3) ?hR hs hy3).mono ?_
              case hR => exact HX.out.hg
              rintro e wn ⟨hb, ⟨x, y4, hp, rfl, hr⟩ | ⟨hn, rfl⟩⟩
              rotate_left
              · exact .inr ⟨_, rfl, read_fail rfl rfl HX.out hb HF.out (by rw [HP.out]; unfold pRest; rw [HP1.out]; simp only [Option.bind_some]; rw [HP2.out]; simp only [Option.bind_some]; rw [HP3.out]; simp only [Option.bind_some]; rw [HP4.out]; simp only [Option.bind_some]; rw [HP5.out]; simp only [Option.bind_some]; rw [HP6.out]; simp only [Option.bind_some]; rw [HP7.out]; simp only [Option.bind_some]; rw [HL.out.fail hlt (by unfold pRel; rw [HE1.out]; simp only [Option.bind_some]; rw [HE2.out]; simp only [Option.bind_some]; rw [HE3.out]; simp only [Option.bind_some]; rw [hn]; rfl)]; rfl)⟩
              have hy4 : y4 ≤ a0.size := pWide_le hy3 hp
              have HRn := Aside0.mk (HR.out.read HX.out hb)
              have HXn := Aside0.mk (HX.out.read hb hr)
              clear HX HR hb hr
              have HX := HXn
              have HR := HRn
              clear HXn HRn
              have HE4 := Aside0.mk hp
              clear hp
              refine .inl ⟨_, rfl, ?_⟩
              refine hK.out _ _ ((blk_cell HX.out.ho 3).trans rfl) (fun hHeld => ?_)
              clear hK K
              refine norm_ (a' := ?_) ?_ ?_
              rotate_left
              · show Act.put _ (some 75) _ = _
                simp only [Act.put, List.setIfInBounds_toArray, List.set_cons_zero, List.set_cons_succ, i64_w, i32_w]
                try rfl
              refine pure_ (i := 7) (N := some 76) (v := ?_) (a' := ?_) #[true, true, true, true, true, true, true, true, false, false, false, false] rfl rfl (any_of HT_.out (by kernel_rfl)) (fun _ _ _ h => read_put (N := 76) (by decide) (by decide) h) (Or.inl ⟨by rfl, ?_⟩) ?_ ?_
              rotate_left
              · intro w'
                go_simp
                with_reducible rfl
              rotate_left
              · simp only [Act.put, List.setIfInBounds_toArray, List.set_cons_zero, List.set_cons_succ, i64_w, i32_w]
                rfl
              refine one_ (i := 8) (N := some 77) #[true, true, true, true, true, true, true, true, true, false, false, false] rfl rfl (one_of HT_.out (by kernel_rfl)) (by decide) (fun K hK => ?_)
              refine slice_step #[.int .i64 u, .int .i64 kd, .string nm, .int .i64 x] 34 (by rfl) ?hrun ?_
              case hrun => first | (go_simp; done) | (go_simp; rfl) | rfl
              refine hK.out _ _ ((blk_cell (HX.out.alloc _).ho 3).trans rfl) (fun hHeld => ?_)
              clear hK K
              refine norm_ (a' := ?_) ?_ ?_
              rotate_left
              · show Act.put _ (some 77) _ = _
                simp only [Act.put, List.setIfInBounds_toArray, List.set_cons_zero, List.set_cons_succ, i64_w, i32_w]
                try rfl
              refine last_ (i := 9) (N := some 78) #[true, true, true, true, true, true, true, true, true, true, false, false] rfl rfl (one_of HT_.out (by kernel_rfl)) (by decide) (fun K hK => ?_)
              refine Kd.R_append_step k34 (w0 := wn) w.heap.size (by rfl) _ _ 28 34 (.agg #[(.int .i64 0), (.int .i64 0), (.string ⟨#[]⟩), (.int .i64 0)]) 40 rfl Try.underlying28 info34 rfl (by decide) (by decide) vr lr ⟨u, kd, nm, x⟩ [.int .i64 u, .int .i64 kd, .string nm, .int .i64 x] (fun _ => True) (fun _ => False) (by rfl) (by rfl) (k34_mkM _ _ _ ⟨u, kd, nm, x⟩) (fun _ h => h.elim) (fun _ _ => trivial) HR.out.r (Below.refl _ _) HX.out.size (by have := HL.out.1; omega) ?_
              intro v1 w1 hr1 _ hg1 _
              obtain ⟨l1, hl1⟩ : ∃ l1, l1 = lr ++ [⟨u, kd, nm, x⟩] := ⟨_, rfl⟩
              rw [← hl1] at hr1
              have HQ := Aside0.mk hl1
              clear hl1
              obtain ⟨A1, c1, rfl⟩ := Kd.R_slice hr1
              have HXn := Aside0.mk (HX.out.row HR.out.r (by decide) (by decide) (by decide) hg1)
              have HRn := Aside0.mk (HR.out.app_r hr1 hg1)
              clear HX HR hr1 hg1
              have HX := HXn
              have HR := HRn
              clear HXn HRn
              refine hK.out _ _ ?_
              clear hK K
              refine norm_ (a' := ?_) ?_ ?_
              rotate_left
              · show Act.put _ (some 78) _ = _
                simp only [Act.put, List.setIfInBounds_toArray, List.set_cons_zero, List.set_cons_succ, i64_w, i32_w]
                try rfl
              refine pure_ (i := 10) (N := some 79) (v := ?_) (a' := ?_) #[true, true, true, true, true, true, true, true, true, true, true, false] rfl rfl (any_of HT_.out (by kernel_rfl)) (fun _ _ _ h => read_put (N := 79) (by decide) (by decide) h) (Or.inl ⟨by rfl, ?_⟩) ?_ ?_
              rotate_left
              · intro w'
                go_simp
                with_reducible rfl
              rotate_left
              · simp only [Act.put, List.setIfInBounds_toArray, List.set_cons_zero, List.set_cons_succ, i64_w, i32_w]
                rfl
              refine last_ (i := 11) (N := none) #[true, true, true, true, true, true, true, true, true, true, true, true] rfl rfl (one_of HT_.out (by kernel_rfl)) (by decide) (fun K hK => ?_)
              have q0 := (blk_cell HX.out.ho 3).trans rfl
              have qf := blk_frozen HX.out.ho 3
              rw [if_pos (by rfl)]
              unfold Oper.wp
              go_simp
              refine hK.out _ _ ?_
              clear q0 qf
              have HRn := Aside0.mk (HR.out.set HX.out 3 (.slice A1 l1.length c1))
              have HXn := Aside0.mk (HX.out.set 3 (.slice A1 l1.length c1) _ _ _ _ rfl)
              clear HX HR
              have HX := HXn
              have HR := HRn
              clear HXn HRn
              clear hK K
              refine done_ (done_of HT_.out (by kernel_rfl)) ?_
              go_wp2
              go_roundw
              case rel => exact ⟨_, l1, y4, by rw [HQ.out]; simp only [List.length_append, List.length_singleton]; go_num, hy4, ⟨by rw [HQ.out]; exact HL.out.next hlt (by unfold pRel; rw [HE1.out]; simp only [Option.bind_some]; rw [HE2.out]; simp only [Option.bind_some]; rw [HE3.out]; simp only [Option.bind_some]; rw [HE4.out]; rfl)⟩, HX, HR⟩
              case measure => simp [intOf]; omega
            · obtain rfl : nr = lr.length := by have := HL.out.1; omega
              have HP8 := Aside0.mk (HL.out.done rfl)
              have hlr : lr.length ≤ 8000 := by have := HL.out.1; omega
              clear HL hlt
              obtain ⟨A1, c1, rfl, hl1, hc1⟩ := Kd.R_reads HR.out.d
              obtain ⟨A2, c2, rfl, hl2, hc2⟩ := Kd.R_reads HR.out.y
              obtain ⟨A3, c3, rfl, hl3, hc3⟩ := Kd.R_reads HR.out.r
              have HL1 := Aside0.mk hl1
              have HL2 := Aside0.mk hl2
              have HL3 := Aside0.mk hl3
              have HC1 := Aside0.mk hc1
              have HC2 := Aside0.mk hc2
              have HC3 := Aside0.mk hc3
              clear hl1 hl2 hl3 hc1 hc2 hc3
              have gq := (blk_cell HX.out.hg 1).trans rfl
              have q0 := (blk_cell HX.out.ho 0).trans rfl
              have q1 := (blk_cell HX.out.ho 1).trans rfl
              have q2 := (blk_cell HX.out.ho 2).trans rfl
              have q3 := (blk_cell HX.out.ho 3).trans rfl
              by_cases hyz : y = a0.size
              · subst hyz
                by_cases hok : checkOk code ld ly lr = true
                · have HK : Aside0 (objf_Check.f (2 * lr.length + 1) code ld ly lr = some 0) := Aside0.mk (by rw [check_f code ld ly lr (by omega) _ (Nat.le_refl _), if_pos hok])
                  have HV : Aside0 (pBody a0 = some (code, ld, ly, lr)) := Aside0.mk (by rw [HP.out]; unfold pRest; rw [HP1.out]; simp only [Option.bind_some]; rw [HP2.out]; simp only [Option.bind_some]; rw [HP3.out]; simp only [Option.bind_some]; rw [HP4.out]; simp only [Option.bind_some]; rw [HP5.out]; simp only [Option.bind_some]; rw [HP6.out]; simp only [Option.bind_some]; rw [HP7.out]; simp only [Option.bind_some]; rw [HP8.out]; simp only [Option.bind_some]; rw [if_pos ⟨by trivial, hok⟩])
                  clear hok
                  go_wp2_with (first
                    | (go_at_call 26; go_must (refine (objf_Check.calls _ _ _ _ _ _ _ _ _ _ _ _ _ HC1.out HL1.out HC2.out HL2.out HC3.out HL3.out HK.out).mono ?_; rintro e w2 ⟨rfl, hb⟩; have HXn := Aside0.mk (HX.out.below hb); have HRn := Aside0.mk (HR.out.below hb); clear HX HR hb q0 q1 q2 q3 gq HC1 HC2 HC3; have HX := HXn; have HR := HRn; clear HXn HRn; have q0 := (blk_cell HX.out.ho 0).trans rfl; have q1 := (blk_cell HX.out.ho 1).trans rfl; have q2 := (blk_cell HX.out.ho 2).trans rfl; have q3 := (blk_cell HX.out.ho 3).trans rfl))
                    | ((with_reducible refine gate_store (p := 2) rfl ?_); go_must (refine row_event rfl 30 _ _ rfl bo #[.string code, .slice A1 ld.length c1, .slice A2 ly.length c2, .slice A3 lr.length c3] _ (by rfl) (by rfl) HX.out.ho (by kernel_rfl) (by rfl) (by kernel_rfl) ?_; intro wz hz hgz hBz; have ZO := Aside0.mk hz; have ZE := Aside0.mk (blk_grown HX.out.he hgz (fun e => HX.out.ne_be (Option.some.inj e).symm)); have ZB := Aside0.mk (HX.out.bel.trans (hBz _ HX.out.bo_)); have Z2 := Aside0.mk HX.out.be_; have ZR := Aside0.mk (HR.out.grown HX.out.ho (by decide) (by decide) (by decide) hgz); have z0 := (blk_cell ZE.out 0).trans rfl; have z1 := blk_frozen ZE.out 0; clear hz hgz hBz q0 q1 q2 q3 HX HR)))
                  have hr : r = (code, ld, ly, lr, 0) := by rw [← HF.out, HV.out]; rfl
                  subst hr
                  exact read_ret rfl rfl ((Below.heap_setCell wz ⟨be, 0, none⟩ _ bo (blk_apart ZO.out ZE.out (by decide))).trans ZO.out) (blk_put ZE.out 0 _ rfl) (ZR.out.grown ZE.out (by decide) (by decide) (by decide) (Lib.grownBy_setCell wz be 0 _)) (ZB.out.setCell Z2.out _)
                · have HK : Aside0 (objf_Check.f (2 * lr.length + 1) code ld ly lr = some 1) := Aside0.mk (by rw [check_f code ld ly lr (by omega) _ (Nat.le_refl _), if_neg hok])
                  have HV : Aside0 (pBody a0 = none) := Aside0.mk (by rw [HP.out]; unfold pRest; rw [HP1.out]; simp only [Option.bind_some]; rw [HP2.out]; simp only [Option.bind_some]; rw [HP3.out]; simp only [Option.bind_some]; rw [HP4.out]; simp only [Option.bind_some]; rw [HP5.out]; simp only [Option.bind_some]; rw [HP6.out]; simp only [Option.bind_some]; rw [HP7.out]; simp only [Option.bind_some]; rw [HP8.out]; simp only [Option.bind_some]; rw [if_neg (fun h => hok h.2)])
                  clear hok
                  go_wp2_with (first
                    | (go_at_call 26; go_must (refine (objf_Check.calls _ _ _ _ _ _ _ _ _ _ _ _ _ HC1.out HL1.out HC2.out HL2.out HC3.out HL3.out HK.out).mono ?_; rintro e w2 ⟨rfl, hb⟩; have HXn := Aside0.mk (HX.out.below hb); have HRn := Aside0.mk (HR.out.below hb); clear HX HR hb q0 q1 q2 q3 gq HC1 HC2 HC3; have HX := HXn; have HR := HRn; clear HXn HRn; have q0 := (blk_cell HX.out.ho 0).trans rfl; have q1 := (blk_cell HX.out.ho 1).trans rfl; have q2 := (blk_cell HX.out.ho 2).trans rfl; have q3 := (blk_cell HX.out.ho 3).trans rfl))
                    | ((with_reducible refine gate_store (p := 2) rfl ?_); go_must (refine row_event rfl 30 _ _ rfl bo #[.string ⟨#[]⟩, .slice none 0 0, .slice none 0 0, .slice none 0 0] _ (by rfl) (by rfl) HX.out.ho (by kernel_rfl) (by rfl) (by kernel_rfl) ?_; intro wz hz hgz hBz; have ZO := Aside0.mk hz; have ZE := Aside0.mk (blk_grown HX.out.he hgz (fun e => HX.out.ne_be (Option.some.inj e).symm)); have ZB := Aside0.mk (HX.out.bel.trans (hBz _ HX.out.bo_)); have Z2 := Aside0.mk HX.out.be_; have z0 := (blk_cell ZE.out 0).trans rfl; have z1 := blk_frozen ZE.out 0; clear hz hgz hBz q0 q1 q2 q3 HX)))
                  exact read_zero rfl rfl ZO.out ZE.out ZB.out Z2.out HF.out HV.out
              · have HV : Aside0 (pBody a0 = none) := Aside0.mk (by rw [HP.out]; unfold pRest; rw [HP1.out]; simp only [Option.bind_some]; rw [HP2.out]; simp only [Option.bind_some]; rw [HP3.out]; simp only [Option.bind_some]; rw [HP4.out]; simp only [Option.bind_some]; rw [HP5.out]; simp only [Option.bind_some]; rw [HP6.out]; simp only [Option.bind_some]; rw [HP7.out]; simp only [Option.bind_some]; rw [HP8.out]; simp only [Option.bind_some]; rw [if_neg (fun h => hyz h.1)])
                have d1 : ((y : Int) = (a0.size : Int)) = False := by simp; omega
                go_wp2_with (first
                    | ((with_reducible refine gate_store (p := 2) rfl ?_); go_must (refine row_event rfl 30 _ _ rfl bo #[.string ⟨#[]⟩, .slice none 0 0, .slice none 0 0, .slice none 0 0] _ (by rfl) (by rfl) HX.out.ho (by kernel_rfl) (by rfl) (by kernel_rfl) ?_; intro wz hz hgz hBz; have ZO := Aside0.mk hz; have ZE := Aside0.mk (blk_grown HX.out.he hgz (fun e => HX.out.ne_be (Option.some.inj e).symm)); have ZB := Aside0.mk (HX.out.bel.trans (hBz _ HX.out.bo_)); have Z2 := Aside0.mk HX.out.be_; have z0 := (blk_cell ZE.out 0).trans rfl; have z1 := blk_frozen ZE.out 0; clear hz hgz hBz q0 q1 q2 q3 HX)))
                exact read_zero rfl rfl ZO.out ZE.out ZB.out Z2.out HF.out HV.out

theorem objf_Read.calls (a0 : ByteArray) (r1 : ByteArray) (r2 : List Int) (r3 : List S32) (r4 : List S34) (r5 : Int) (w : World) (h : objf_Read.f a0 = some (r1, r2, r3, r4, r5)) :
    Calls Try.prog 29 #[.string a0] w fun e w' => ∃ v1_ v2_ v3_ : Value, e = .returned (.tuple #[.agg #[.string r1, v1_, v2_, v3_], .int .i64 r5]) ∧ Kd.R (Kd.int .i64) 2 w' w.heap.size (fun _ => True) v1_ r2 ∧ Kd.R k32 32 w' w.heap.size (fun _ => True) v2_ r3 ∧ Kd.R k34 34 w' w.heap.size (fun _ => True) v3_ r4 ∧ Below w.heap.size w w' := by
  unfold objf_Read.f at h
  by_cases hs : a0.size ≤ 4611686018427387904
  · rw [if_pos hs] at h
    exact read_calls a0 (r1, r2, r3, r4, r5) w hs (Option.some.inj h)
  · rw [if_neg hs] at h; cases h
end Go.Proofs.Ytochgjeanajoiaa.HA
