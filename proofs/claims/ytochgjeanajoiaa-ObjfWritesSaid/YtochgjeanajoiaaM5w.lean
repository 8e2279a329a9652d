/- Written by hand (by a program of mine): the walk of ObjfWrites, along the one way that is taken. -/
import Derived.Test.YtochgjeanajoiaaM4s
import Derived.Test.YtochgjeanajoiaaM2l
import Derived.Test.YtochgjeanajoiaaM2g
import Derived.Test.YtochgjeanajoiaaHAGSm
import Derived.Test.YtochgjeanajoiaaHAGCp
import Derived.Test.YtochgjeanajoiaaHAGRc
namespace Go.Proofs.Ytochgjeanajoiaa.HA
open Go.RowKit Go.Proofs.YtochgjeanajoiaaW.PrintWords Go.Proofs.YtochgjeanajoiaaW.PrintLast Go.Proofs.YtochgjeanajoiaaW.PrintMore
set_option linter.unusedVariables false
set_option linter.unusedSimpArgs false

def R5.T6 : Bool × List (List Nat × List Nat) := (true, [([], []), ([], []), ([0, 1], [0, 1]), ([2], [2]), ([3], [3]), ([3], [3]), ([4, 5, 3], [3, 4, 5]), ([3, 6], [3, 6]), ([7, 3], [7]), ([8], [8]), ([9, 8, 8], [8, 9]), ([8], [8]), ([11, 10, 8], [8, 11]), ([10, 12, 8], [8, 10, 12]), ([8, 13], [8, 13]), ([14, 12], [14]), ([15], [15]), ([15], [15]), ([16, 17, 15, 15], [15, 16, 17]), ([15, 18], [15, 18]), ([19, 18], [19]), ([20, 20], [20]), ([20, 21], [20, 21]), ([22, 21, 0, 1, 2, 3, 4, 5, 6, 7, 8, 9, 10, 11, 12, 13, 14, 15, 16, 17, 18, 19, 20, 21, 22], [22])])
def R5.B6 : List Nat := [0, 0, 3, 7, 15, 15, 63, 127, 255, 511, 1023, 511, 4095, 8191, 16383, 32767, 65535, 65535, 262143, 524287, 1048575, 2097151, 4194303, 8388607]
theorem R5.tab6 : rtab .any (opsOf Try.f5 6) = R5.T6 := by kernel_rfl
theorem R5.bits6 : waitsOk R5.T6.2 R5.B6 = true := by kernel_rfl
set_option maxRecDepth 100000 in
set_option maxHeartbeats 16000000 in
theorem Writes_calls (c : ByteArray) (A1 : Option Addr) (c1 : Nat) (d : List Int) (A2 : Option Addr) (c2 : Nat) (y : List S32) (A3 : Option Addr) (c3 : Nat) (r : List S34) (w : World) (hr1 : Kd.C (Kd.int .i64) w A1 d.length d) (hc1 : d.length ≤ c1) (hr2 : Kd.C k32 w A2 y.length y) (hc2 : y.length ≤ c2) (hr3 : Kd.C k34 w A3 r.length r) (hc3 : r.length ≤ c3)
    (z : d.length < 17592186044416 ∧ y.length < 4398046511104 ∧ r.length < 3518437208883) :
    Calls Try.prog 5 #[.agg #[.string c, .slice A1 d.length c1, .slice A2 y.length c2, .slice A3 r.length c3]] w fun e w' => e = .returned (.bool true) ∧ Below w.heap.size w w' := by
  obtain ⟨h1, h2, h3⟩ := z
  obtain ⟨k0, hm⟩ := May_f c d y r (by omega) (by omega)
  obtain ⟨KK, hK⟩ : ∃ KK, KK = k0 + 2 * r.length + 1 + d.length + y.length + r.length + 2 := ⟨_, rfl⟩
  have hm' := at_rounds (g := fun k => cotterref06_May.f k c d y r) (fun k => cotterref06_May.mono _ _ _ _ k) (show k0 ≤ KK by omega) hm
  obtain ⟨b, E, hbE⟩ : ∃ b E, (b, E) = (if checkOk c d y r then (formB c d y r, (0 : Int)) else ((⟨#[]⟩ : ByteArray), 1)) := ⟨_, _, rfl⟩
  have hE : E = if checkOk c d y r then 0 else 1 := by
    have := congrArg Prod.snd hbE
    simp only at this
    rw [this]; split <;> rfl
  have HCP : Aside0 (cotterref06_Copy.f c d y r = some (c, d, y, r)) := Aside0.mk (by
    unfold cotterref06_Copy.f
    rw [if_pos (by simpa using h1), if_pos (by simpa using h2), if_pos (by simpa using h3)]
    rfl)
  have HW1 : Aside0 (objf_Write.f c d y r = some (b, E)) := Aside0.mk (by rw [hbE]; rfl)
  have HW2 : Aside0 (cotterref06_Write.f KK c d y r = some (b, E)) := Aside0.mk (by
    unfold cotterref06_Write.f
    rw [hm', hbE]
    simp only [Option.bind_some, if_true])
  have HK1 : Aside0 (objf_Check.f KK c d y r = some E) := Aside0.mk (by rw [check_f c d y r (by omega) KK (by omega), hE])
  have HK2 : Aside0 (cotterref06_Check.f KK c d y r = some E) := Aside0.mk (by
    unfold cotterref06_Check.f
    rw [hm', hE]
    simp only [Option.bind_some]
    split <;> rfl)
  have HK3 : Aside0 (cotterref06_Same.f KK c d y r c d y r = some true) := Aside0.mk (by rw [Same_f c c d d y y r r (by omega) (by omega) (by omega) KK (by omega)]; simp)
  have HS0 : Aside0 (cotterlaw06_small.f c d y r = some (decide ((y.length : Int) ≤ 200))) := Aside0.mk rfl
  clear hm hm' hK hE hbE h1 h2 h3
  have hu30 := Try.underlying30
  have HR1 := Aside0.mk hr1
  have HR2 := Aside0.mk hr2
  have HR3 := Aside0.mk hr3
  have HC1 := Aside0.mk hc1
  have HC2 := Aside0.mk hc2
  have HC3 := Aside0.mk hc3
  have HB := Aside0.mk (Below.refl w.heap.size w)
  clear hr1 hr2 hr3 hc1 hc2 hc3
  by_cases hsm : decide ((y.length : Int) ≤ 200) = true
  · rw [hsm] at HS0
    have HS := HS0
    clear hsm HS0
    go_enter Try.func5, Try.ntmps5
    go_wp2_with (first
      | ((with_reducible refine gate_dst (N := 1) rfl ?_); refine box_event ?hg (N := 1) ?hd (cs := #[.string c, .slice A1 d.length c1, .slice A2 y.length c2, .slice A3 r.length c3]) (t := 30) ?hr ?_; (case hd => rfl); (case hg => rfl); (case hr => first | (go_simp; done) | (go_simp; rfl)); intro gb hg w1 hbox hb; have HB1 := Aside0.mk (below_step HB.out hb); have KB := Aside0.mk hbox; clear hbox hb hg HB; have HB := HB1; clear HB1; have q0 := (blk_cell KB.out 0).trans rfl; have q1 := (blk_cell KB.out 1).trans rfl; have q2 := (blk_cell KB.out 2).trans rfl; have q3 := (blk_cell KB.out 3).trans rfl)
      | (go_at_call 21; go_must ((with_reducible refine (cotterlaw06_small.calls c A1 c1 d A2 c2 y A3 c3 r _ _ (Kd.C_below HR1.out HB.out) HC1.out (Kd.C_below HR2.out HB.out) HC2.out (Kd.C_below HR3.out HB.out) HC3.out HS.out).mono ?_); rintro e wn ⟨rfl, hb⟩; have HBn := Aside0.mk (below_step HB.out hb); have KBn := Aside0.mk (blk_below KB.out hb); clear HB KB q0 q1 q2 q3; have HB := HBn; have KB := KBn; clear HBn KBn; clear hb; have q0 := (blk_cell KB.out 0).trans rfl; have q1 := (blk_cell KB.out 1).trans rfl; have q2 := (blk_cell KB.out 2).trans rfl; have q3 := (blk_cell KB.out 3).trans rfl))
      | (go_at_call 23; go_must ((with_reducible refine (cotterref06_Copy.calls c A1 c1 d A2 c2 y A3 c3 r c d y r _ (Kd.C_below HR1.out HB.out) HC1.out (Kd.C_below HR2.out HB.out) HC2.out (Kd.C_below HR3.out HB.out) HC3.out HCP.out).mono ?_); rintro e wc ⟨u1, u2, u3, rfl, hu1, hu2, hu3, hb⟩; have HBn := Aside0.mk (below_step HB.out hb); have KBn := Aside0.mk (blk_below KB.out hb); have HB0 := Aside0.mk HB.out.size; clear HB KB q0 q1 q2 q3; have HB := HBn; have KB := KBn; clear HBn KBn; have HN := Aside0.mk (RWs.mk (Kd.R_lower hu1 HB0.out) (Kd.R_lower hu2 HB0.out) (Kd.R_lower hu3 HB0.out) : RWs w.heap.size wc u1 u2 u3 d y r); clear hu1 hu2 hu3; obtain ⟨B1, e1, rfl⟩ := Kd.R_slice HN.out.d; obtain ⟨B2, e2, rfl⟩ := Kd.R_slice HN.out.y; obtain ⟨B3, e3, rfl⟩ := Kd.R_slice HN.out.r; have HE1 := Aside0.mk (Kd.R_reads' HN.out.d).2.1; have HE2 := Aside0.mk (Kd.R_reads' HN.out.y).2.1; have HE3 := Aside0.mk (Kd.R_reads' HN.out.r).2.1; clear hb; have q0 := (blk_cell KB.out 0).trans rfl; have q1 := (blk_cell KB.out 1).trans rfl; have q2 := (blk_cell KB.out 2).trans rfl; have q3 := (blk_cell KB.out 3).trans rfl))
      | (go_at_call 24; go_must (have hbx := below_alloc (Below.refl wc.heap.size wc) (.cells #[.string c, .slice B1 d.length e1, .slice B2 y.length e2, .slice B3 r.length e3] 30); have KO := Aside0.mk (blk_new wc (.cells #[.string c, .slice B1 d.length e1, .slice B2 y.length e2, .slice B3 r.length e3] 30)); have HBa := Aside0.mk (below_step HB.out hbx); have KBa := Aside0.mk (blk_below KB.out hbx); have HNa := Aside0.mk (HN.out.below hbx); clear HB KB HN hbx q0 q1 q2 q3; have HB := HBa; have KB := KBa; have HN := HNa; clear HBa KBa HNa; (with_reducible refine (objf_Write.calls c B1 e1 d B2 e2 y B3 e3 r b E _ (Kd.R_reads' HN.out.d).2.2 HE1.out (Kd.R_reads' HN.out.y).2.2 HE2.out (Kd.R_reads' HN.out.r).2.2 HE3.out HW1.out).mono ?_); rintro e wn ⟨rfl, hb⟩; have HBn := Aside0.mk (below_step HB.out hb); have KBn := Aside0.mk (blk_below KB.out hb); have KOn := Aside0.mk (blk_below KO.out hb); have HNn := Aside0.mk (HN.out.below hb); clear HB KB KO HN hb; have HB := HBn; have KB := KBn; have KO := KOn; have HN := HNn; clear HBn KBn KOn HNn; have q0 := (blk_cell KB.out 0).trans rfl; have p0 := (blk_cell KO.out 0).trans rfl; have q1 := (blk_cell KB.out 1).trans rfl; have p1 := (blk_cell KO.out 1).trans rfl; have q2 := (blk_cell KB.out 2).trans rfl; have p2 := (blk_cell KO.out 2).trans rfl; have q3 := (blk_cell KB.out 3).trans rfl; have p3 := (blk_cell KO.out 3).trans rfl))
      | (go_at_call 25; go_must ((with_reducible refine (cotterref06_Write.calls KK c A1 c1 d A2 c2 y A3 c3 r b E _ (Kd.C_below HR1.out HB.out) HC1.out (Kd.C_below HR2.out HB.out) HC2.out (Kd.C_below HR3.out HB.out) HC3.out HW2.out).mono ?_); rintro e wn ⟨rfl, hb⟩; clear q0 q1 q2 q3 p0 p1 p2 p3; have HBn := Aside0.mk (below_step HB.out hb); have KBn := Aside0.mk (blk_below KB.out hb); have KOn := Aside0.mk (blk_below KO.out hb); have HNn := Aside0.mk (HN.out.below hb); clear HB KB KO HN hb; have HB := HBn; have KB := KBn; have KO := KOn; have HN := HNn; clear HBn KBn KOn HNn; have q0 := (blk_cell KB.out 0).trans rfl; have p0 := (blk_cell KO.out 0).trans rfl; have q1 := (blk_cell KB.out 1).trans rfl; have p1 := (blk_cell KO.out 1).trans rfl; have q2 := (blk_cell KB.out 2).trans rfl; have p2 := (blk_cell KO.out 2).trans rfl; have q3 := (blk_cell KB.out 3).trans rfl; have p3 := (blk_cell KO.out 3).trans rfl)))
    refine start_ (n := 24) (S := fun w' => w'.cell? ⟨wc.heap.size, 0, none⟩ = some (.string c) ∧ w'.cell? ⟨wc.heap.size, 1, none⟩ = some (.slice B1 d.length e1) ∧ w'.cell? ⟨wc.heap.size, 2, none⟩ = some (.slice B2 y.length e2) ∧ w'.cell? ⟨wc.heap.size, 3, none⟩ = some (.slice B3 r.length e3) ∧ w'.cell? ⟨gb, 0, none⟩ = some (.string c) ∧ w'.cell? ⟨gb, 1, none⟩ = some (.slice A1 d.length c1) ∧ w'.cell? ⟨gb, 2, none⟩ = some (.slice A2 y.length c2) ∧ w'.cell? ⟨gb, 3, none⟩ = some (.slice A3 r.length c3)) (ds := []) #[false, false, false, false, false, false, false, false, false, false, false, false, false, false, false, false, false, false, false, false, false, false, false, false] (by kernel_rfl) rfl rfl ?_ (fun hHeld => ?_)
    case refine_1 => exact ⟨(blk_cell KO.out 0).trans rfl, (blk_cell KO.out 1).trans rfl, (blk_cell KO.out 2).trans rfl, (blk_cell KO.out 3).trans rfl, (blk_cell KB.out 0).trans rfl, (blk_cell KB.out 1).trans rfl, (blk_cell KB.out 2).trans rfl, (blk_cell KB.out 3).trans rfl⟩
    have HBn := Aside0.mk (below_drew HB.out)
    have KOn := Aside0.mk (blk_drew KO.out)
    have KBn := Aside0.mk (blk_drew KB.out)
    have HNn := Aside0.mk (HN.out.below (below_drew (Below.refl _ _)))
    clear HB KO KB HN
    have HB := HBn
    have KO := KOn
    have KB := KBn
    have HN := HNn
    clear HBn KOn KBn HNn
    refine with_tabW R5.tab6 R5.bits6 (fun HT_ HW_ => ?_)
    refine pure_ (i := 0) (N := some 24) (v := ?_) (a' := ?_) #[true, false, false, false, false, false, false, false, false, false, false, false, false, false, false, false, false, false, false, false, false, false, false, false] rfl rfl (any_of HT_.out (by kernel_rfl)) (fun _ _ _ h => h) (Or.inl ⟨by rfl, ?_⟩) ?_ ?_
    rotate_left
    · intro w'
      go_simp
      with_reducible rfl
    rotate_left
    · simp only [Act.put, List.setIfInBounds_toArray, List.set_cons_zero, List.set_cons_succ, i64_w, i32_w]
      rfl
    refine pure_ (i := 1) (N := some 25) (v := ?_) (a' := ?_) #[true, true, false, false, false, false, false, false, false, false, false, false, false, false, false, false, false, false, false, false, false, false, false, false] rfl rfl (any_of HT_.out (by kernel_rfl)) (fun _ _ _ h => h) (Or.inl ⟨by rfl, ?_⟩) ?_ ?_
    rotate_left
    · intro w'
      go_simp
      with_reducible rfl
    rotate_left
    · simp only [Act.put, List.setIfInBounds_toArray, List.set_cons_zero, List.set_cons_succ, i64_w, i32_w]
      rfl
    refine pure_ (i := 2) (N := some 26) (v := ?_) (a' := ?_) #[true, true, true, false, false, false, false, false, false, false, false, false, false, false, false, false, false, false, false, false, false, false, false, false] rfl rfl (any_of HT_.out (by kernel_rfl)) (fun _ _ _ h => h) (Or.inl ⟨by rfl, ?_⟩) ?_ ?_
    rotate_left
    · intro w'
      go_simp
      with_reducible rfl
    rotate_left
    · simp only [Act.put, List.setIfInBounds_toArray, List.set_cons_zero, List.set_cons_succ, i64_w, i32_w]
      rfl
    refine pure_ (i := 3) (N := some 27) (v := ?_) (a' := ?_) #[true, true, true, true, false, false, false, false, false, false, false, false, false, false, false, false, false, false, false, false, false, false, false, false] rfl rfl (any_of HT_.out (by kernel_rfl)) (fun _ _ _ h => h) (Or.inl ⟨by rfl, ?_⟩) ?_ ?_
    rotate_left
    · intro w'
      go_simp
      with_reducible rfl
    rotate_left
    · simp only [Act.put, List.setIfInBounds_toArray, List.set_cons_zero, List.set_cons_succ, i64_w, i32_w]
      rfl
    refine pure_ (i := 4) (N := some 28) (v := ?_) (a' := ?_) #[true, true, true, true, true, false, false, false, false, false, false, false, false, false, false, false, false, false, false, false, false, false, false, false] rfl rfl (any_of HT_.out (by kernel_rfl)) (fun _ _ _ h => h) (Or.inl ⟨by rfl, ?_⟩) ?_ ?_
    rotate_left
    · intro w'
      go_simp
      with_reducible rfl
    rotate_left
    · simp only [Act.put, List.setIfInBounds_toArray, List.set_cons_zero, List.set_cons_succ, i64_w, i32_w]
      rfl
    refine pure_ (i := 5) (N := some 29) (v := ?_) (a' := ?_) #[true, true, true, true, true, true, false, false, false, false, false, false, false, false, false, false, false, false, false, false, false, false, false, false] rfl rfl (any_of HT_.out (by kernel_rfl)) (fun _ _ _ h => h) (Or.inl ⟨by rfl, ?_⟩) ?_ ?_
    rotate_left
    · intro w'
      go_simp
      with_reducible rfl
    rotate_left
    · simp only [Act.put, List.setIfInBounds_toArray, List.set_cons_zero, List.set_cons_succ, i64_w, i32_w]
      rfl
    refine pure_ (i := 6) (N := some 30) (v := ?_) (a' := ?_) #[true, true, true, true, true, true, true, false, false, false, false, false, false, false, false, false, false, false, false, false, false, false, false, false] rfl rfl (any_of HT_.out (by kernel_rfl)) (fun _ _ _ h => h) (Or.inl ⟨by rfl, ?_⟩) ?_ ?_
    rotate_left
    · intro w'
      go_simp
      with_reducible rfl
    rotate_left
    · simp only [Act.put, List.setIfInBounds_toArray, List.set_cons_zero, List.set_cons_succ, i64_w, i32_w]
      rfl
    refine pure_ (i := 7) (N := some 31) (v := ?_) (a' := ?_) #[true, true, true, true, true, true, true, true, false, false, false, false, false, false, false, false, false, false, false, false, false, false, false, false] rfl rfl (any_of HT_.out (by kernel_rfl)) (fun _ _ _ h => h) (Or.inl ⟨by rfl, ?_⟩) ?_ ?_
    rotate_left
    · intro w'
      go_simp
      with_reducible rfl
    rotate_left
    · simp only [Act.put, List.setIfInBounds_toArray, List.set_cons_zero, List.set_cons_succ, i64_w, i32_w]
      rfl
    refine pure_ (i := 8) (N := some 32) (v := ?_) (a' := ?_) #[true, true, true, true, true, true, true, true, true, false, false, false, false, false, false, false, false, false, false, false, false, false, false, false] rfl rfl (any_of HT_.out (by kernel_rfl)) (fun _ _ _ h => h) (Or.inl ⟨by rfl, ?_⟩) ?_ ?_
    rotate_left
    · intro w'
      go_simp
      with_reducible rfl
    rotate_left
    · simp only [Act.put, List.setIfInBounds_toArray, List.set_cons_zero, List.set_cons_succ, i64_w, i32_w]
      rfl
    refine take_ (i := 9) (N := some 33) (v := ?_) (a' := ?_) #[true, true, true, true, true, true, true, true, true, true, false, false, false, false, false, false, false, false, false, false, false, false, false, false] rfl rfl (take_ofW HT_.out HW_.out (by kernel_rfl)) (fun _ _ _ h => h) (Or.inl ⟨by rfl, ?_⟩) hHeld ?_ ?_
    rotate_left
    · rintro w' ⟨s0, s1, s2, s3, s4, s5, s6, s7⟩
      go_simp
      with_reducible rfl
    rotate_left
    · simp only [Act.put, List.setIfInBounds_toArray, List.set_cons_zero, List.set_cons_succ, i64_w, i32_w]
      rfl
    refine take_ (i := 11) (N := some 35) (v := ?_) (a' := ?_) #[true, true, true, true, true, true, true, true, true, true, false, true, false, false, false, false, false, false, false, false, false, false, false, false] rfl rfl (take_ofW HT_.out HW_.out (by kernel_rfl)) (fun _ _ _ h => h) (Or.inl ⟨by rfl, ?_⟩) hHeld ?_ ?_
    rotate_left
    · rintro w' ⟨s0, s1, s2, s3, s4, s5, s6, s7⟩
      go_simp
      with_reducible rfl
    rotate_left
    · simp only [Act.put, List.setIfInBounds_toArray, List.set_cons_zero, List.set_cons_succ, i64_w, i32_w]
      rfl
    refine one_ (i := 10) (N := some 34) #[true, true, true, true, true, true, true, true, true, true, true, true, false, false, false, false, false, false, false, false, false, false, false, false] rfl rfl (one_of HT_.out (by kernel_rfl)) (by decide) (fun K hK => ?_)
    refine goes_ Try.func26 (by kernel_rfl) rfl #[.agg #[.string c, .slice B1 d.length e1, .slice B2 y.length e2, .slice B3 r.length e3]] (by rfl) rfl rfl (by simp only [List.map_toArray, List.map_cons, List.map_nil] <;> rfl) ?_
    with_reducible refine (objf_Check.calls KK c B1 e1 d B2 e2 y B3 e3 r E _ (Kd.R_reads' HN.out.d).2.2 HE1.out (Kd.R_reads' HN.out.y).2.2 HE2.out (Kd.R_reads' HN.out.r).2.2 HE3.out HK1.out).mono ?_
    rintro e wn ⟨rfl, hb⟩
    have HBn := Aside0.mk (below_step HB.out hb)
    have KOn := Aside0.mk (blk_below KO.out hb)
    have KBn := Aside0.mk (blk_below KB.out hb)
    have HNn := Aside0.mk (HN.out.below hb)
    clear HB KO KB HN hb
    have HB := HBn
    have KO := KOn
    have KB := KBn
    have HN := HNn
    clear HBn KOn KBn HNn
    refine ⟨_, rfl, ?_⟩
    refine hK.out _ _ (⟨(blk_cell KO.out 0).trans rfl, (blk_cell KO.out 1).trans rfl, (blk_cell KO.out 2).trans rfl, (blk_cell KO.out 3).trans rfl, (blk_cell KB.out 0).trans rfl, (blk_cell KB.out 1).trans rfl, (blk_cell KB.out 2).trans rfl, (blk_cell KB.out 3).trans rfl⟩) (fun hHeld => ?_)
    clear hK K
    refine norm_ (a' := ?_) ?_ ?_
    rotate_left
    · show Act.put _ (some 34) _ = _
      simp only [Act.put, List.setIfInBounds_toArray, List.set_cons_zero, List.set_cons_succ, i64_w, i32_w]
      try rfl
    refine one_ (i := 12) (N := some 36) #[true, true, true, true, true, true, true, true, true, true, true, true, true, false, false, false, false, false, false, false, false, false, false, false] rfl rfl (one_of HT_.out (by kernel_rfl)) (by decide) (fun K hK => ?_)
    refine goes_ Try.func27 (by kernel_rfl) rfl #[.agg #[.string c, .slice A1 d.length c1, .slice A2 y.length c2, .slice A3 r.length c3]] (by rfl) rfl rfl (by simp only [List.map_toArray, List.map_cons, List.map_nil] <;> rfl) ?_
    with_reducible refine (cotterref06_Check.calls KK c A1 c1 d A2 c2 y A3 c3 r E _ (Kd.C_below HR1.out HB.out) HC1.out (Kd.C_below HR2.out HB.out) HC2.out (Kd.C_below HR3.out HB.out) HC3.out HK2.out).mono ?_
    rintro e wn ⟨rfl, hb⟩
    have HBn := Aside0.mk (below_step HB.out hb)
    have KOn := Aside0.mk (blk_below KO.out hb)
    have KBn := Aside0.mk (blk_below KB.out hb)
    have HNn := Aside0.mk (HN.out.below hb)
    clear HB KO KB HN hb
    have HB := HBn
    have KO := KOn
    have KB := KBn
    have HN := HNn
    clear HBn KOn KBn HNn
    refine ⟨_, rfl, ?_⟩
    refine hK.out _ _ (⟨(blk_cell KO.out 0).trans rfl, (blk_cell KO.out 1).trans rfl, (blk_cell KO.out 2).trans rfl, (blk_cell KO.out 3).trans rfl, (blk_cell KB.out 0).trans rfl, (blk_cell KB.out 1).trans rfl, (blk_cell KB.out 2).trans rfl, (blk_cell KB.out 3).trans rfl⟩) (fun hHeld => ?_)
    clear hK K
    refine norm_ (a' := ?_) ?_ ?_
    rotate_left
    · show Act.put _ (some 36) _ = _
      simp only [Act.put, List.setIfInBounds_toArray, List.set_cons_zero, List.set_cons_succ, i64_w, i32_w]
      try rfl
    refine pure_ (i := 13) (N := some 37) (v := ?_) (a' := ?_) #[true, true, true, true, true, true, true, true, true, true, true, true, true, true, false, false, false, false, false, false, false, false, false, false] rfl rfl (any_of HT_.out (by kernel_rfl)) (fun _ _ _ h => h) (Or.inl ⟨by rfl, ?_⟩) ?_ ?_
    rotate_left
    · intro w'
      go_simp
      with_reducible rfl
    rotate_left
    · simp only [Act.put, List.setIfInBounds_toArray, List.set_cons_zero, List.set_cons_succ, i64_w, i32_w]
      rfl
    refine pure_ (i := 14) (N := some 38) (v := ?_) (a' := ?_) #[true, true, true, true, true, true, true, true, true, true, true, true, true, true, true, false, false, false, false, false, false, false, false, false] rfl rfl (any_of HT_.out (by kernel_rfl)) (fun _ _ _ h => h) (Or.inl ⟨by rfl, ?_⟩) ?_ ?_
    rotate_left
    · intro w'
      go_simp
      with_reducible rfl
    rotate_left
    · simp only [Act.put, List.setIfInBounds_toArray, List.set_cons_zero, List.set_cons_succ, i64_w, i32_w]
      rfl
    refine pure_ (i := 15) (N := some 39) (v := ?_) (a' := ?_) #[true, true, true, true, true, true, true, true, true, true, true, true, true, true, true, true, false, false, false, false, false, false, false, false] rfl rfl (any_of HT_.out (by kernel_rfl)) (fun _ _ _ h => h) (Or.inl ⟨by rfl, ?_⟩) ?_ ?_
    rotate_left
    · intro w'
      go_simp
      with_reducible rfl
    rotate_left
    · simp only [Act.put, List.setIfInBounds_toArray, List.set_cons_zero, List.set_cons_succ, i64_w, i32_w]
      rfl
    refine take_ (i := 16) (N := some 40) (v := ?_) (a' := ?_) #[true, true, true, true, true, true, true, true, true, true, true, true, true, true, true, true, true, false, false, false, false, false, false, false] rfl rfl (take_ofW HT_.out HW_.out (by kernel_rfl)) (fun _ _ _ h => h) (Or.inl ⟨by rfl, ?_⟩) hHeld ?_ ?_
    rotate_left
    · rintro w' ⟨s0, s1, s2, s3, s4, s5, s6, s7⟩
      go_simp
      with_reducible rfl
    rotate_left
    · simp only [Act.put, List.setIfInBounds_toArray, List.set_cons_zero, List.set_cons_succ, i64_w, i32_w]
      rfl
    refine take_ (i := 17) (N := some 41) (v := ?_) (a' := ?_) #[true, true, true, true, true, true, true, true, true, true, true, true, true, true, true, true, true, true, false, false, false, false, false, false] rfl rfl (take_ofW HT_.out HW_.out (by kernel_rfl)) (fun _ _ _ h => h) (Or.inl ⟨by rfl, ?_⟩) hHeld ?_ ?_
    rotate_left
    · rintro w' ⟨s0, s1, s2, s3, s4, s5, s6, s7⟩
      go_simp
      with_reducible rfl
    rotate_left
    · simp only [Act.put, List.setIfInBounds_toArray, List.set_cons_zero, List.set_cons_succ, i64_w, i32_w]
      rfl
    refine one_ (i := 18) (N := some 42) #[true, true, true, true, true, true, true, true, true, true, true, true, true, true, true, true, true, true, true, false, false, false, false, false] rfl rfl (one_of HT_.out (by kernel_rfl)) (by decide) (fun K hK => ?_)
    refine goes_ Try.func28 (by kernel_rfl) rfl #[.agg #[.string c, .slice B1 d.length e1, .slice B2 y.length e2, .slice B3 r.length e3], .agg #[.string c, .slice A1 d.length c1, .slice A2 y.length c2, .slice A3 r.length c3]] (by rfl) rfl rfl (by simp only [List.map_toArray, List.map_cons, List.map_nil] <;> rfl) ?_
    with_reducible refine (cotterref06_Same.calls KK c B1 e1 d B2 e2 y B3 e3 r c A1 c1 d A2 c2 y A3 c3 r true _ (Kd.R_reads' HN.out.d).2.2 HE1.out (Kd.R_reads' HN.out.y).2.2 HE2.out (Kd.R_reads' HN.out.r).2.2 HE3.out (Kd.C_below HR1.out HB.out) HC1.out (Kd.C_below HR2.out HB.out) HC2.out (Kd.C_below HR3.out HB.out) HC3.out HK3.out).mono ?_
    rintro e wn ⟨rfl, hb⟩
    have HBn := Aside0.mk (below_step HB.out hb)
    have KOn := Aside0.mk (blk_below KO.out hb)
    have KBn := Aside0.mk (blk_below KB.out hb)
    have HNn := Aside0.mk (HN.out.below hb)
    clear HB KO KB HN hb
    have HB := HBn
    have KO := KOn
    have KB := KBn
    have HN := HNn
    clear HBn KOn KBn HNn
    refine ⟨_, rfl, ?_⟩
    refine hK.out _ _ (⟨(blk_cell KO.out 0).trans rfl, (blk_cell KO.out 1).trans rfl, (blk_cell KO.out 2).trans rfl, (blk_cell KO.out 3).trans rfl, (blk_cell KB.out 0).trans rfl, (blk_cell KB.out 1).trans rfl, (blk_cell KB.out 2).trans rfl, (blk_cell KB.out 3).trans rfl⟩) (fun hHeld => ?_)
    clear hK K
    refine norm_ (a' := ?_) ?_ ?_
    rotate_left
    · show Act.put _ (some 42) _ = _
      simp only [Act.put, List.setIfInBounds_toArray, List.set_cons_zero, List.set_cons_succ, i64_w, i32_w]
      try rfl
    refine pure_ (i := 19) (N := some 43) (v := ?_) (a' := ?_) #[true, true, true, true, true, true, true, true, true, true, true, true, true, true, true, true, true, true, true, true, false, false, false, false] rfl rfl (any_of HT_.out (by kernel_rfl)) (fun _ _ _ h => h) (Or.inl ⟨by rfl, ?_⟩) ?_ ?_
    rotate_left
    · intro w'
      go_simp
      with_reducible rfl
    rotate_left
    · simp only [Act.put, List.setIfInBounds_toArray, List.set_cons_zero, List.set_cons_succ, i64_w, i32_w]
      rfl
    refine pure_ (i := 20) (N := some 44) (v := ?_) (a' := ?_) #[true, true, true, true, true, true, true, true, true, true, true, true, true, true, true, true, true, true, true, true, true, false, false, false] rfl rfl (any_of HT_.out (by kernel_rfl)) (fun _ _ _ h => h) (Or.inl ⟨by rfl, ?_⟩) ?_ ?_
    rotate_left
    · intro w'
      go_simp
      with_reducible rfl
    rotate_left
    · simp only [Act.put, List.setIfInBounds_toArray, List.set_cons_zero, List.set_cons_succ, i64_w, i32_w]
      rfl
    refine one_ (i := 21) (N := some 45) #[true, true, true, true, true, true, true, true, true, true, true, true, true, true, true, true, true, true, true, true, true, true, false, false] rfl rfl (one_of HT_.out (by kernel_rfl)) (by decide) (fun K hK => ?_)
    refine goes_ Try.func22 (by kernel_rfl) rfl #[] (by rfl) rfl rfl (by simp only [List.map_toArray, List.map_cons, List.map_nil] <;> rfl) ?_
    with_reducible refine (cotterlaw06_live.calls true _ live06_f).mono ?_
    rintro e wn ⟨rfl, hb⟩
    have HBn := Aside0.mk (below_step HB.out hb)
    have KOn := Aside0.mk (blk_below KO.out hb)
    have KBn := Aside0.mk (blk_below KB.out hb)
    have HNn := Aside0.mk (HN.out.below hb)
    clear HB KO KB HN hb
    have HB := HBn
    have KO := KOn
    have KB := KBn
    have HN := HNn
    clear HBn KOn KBn HNn
    refine ⟨_, rfl, ?_⟩
    refine hK.out _ _ (⟨(blk_cell KO.out 0).trans rfl, (blk_cell KO.out 1).trans rfl, (blk_cell KO.out 2).trans rfl, (blk_cell KO.out 3).trans rfl, (blk_cell KB.out 0).trans rfl, (blk_cell KB.out 1).trans rfl, (blk_cell KB.out 2).trans rfl, (blk_cell KB.out 3).trans rfl⟩) (fun hHeld => ?_)
    clear hK K
    refine norm_ (a' := ?_) ?_ ?_
    rotate_left
    · show Act.put _ (some 45) _ = _
      simp only [Act.put, List.setIfInBounds_toArray, List.set_cons_zero, List.set_cons_succ, i64_w, i32_w]
      try rfl
    refine pure_ (i := 22) (N := some 46) (v := ?_) (a' := ?_) #[true, true, true, true, true, true, true, true, true, true, true, true, true, true, true, true, true, true, true, true, true, true, true, false] rfl rfl (any_of HT_.out (by kernel_rfl)) (fun _ _ _ h => h) (Or.inl ⟨by rfl, ?_⟩) ?_ ?_
    rotate_left
    · intro w'
      go_simp
      with_reducible rfl
    rotate_left
    · simp only [Act.put, List.setIfInBounds_toArray, List.set_cons_zero, List.set_cons_succ, i64_w, i32_w]
      rfl
    refine pure_ (i := 23) (N := some 2) (v := ?_) (a' := ?_) #[true, true, true, true, true, true, true, true, true, true, true, true, true, true, true, true, true, true, true, true, true, true, true, true] rfl rfl (any_of HT_.out (by kernel_rfl)) (fun _ _ _ h => h) (Or.inl ⟨by rfl, ?_⟩) ?_ ?_
    rotate_left
    · intro w'
      go_simp
      with_reducible rfl
    rotate_left
    · simp only [Act.put, List.setIfInBounds_toArray, List.set_cons_zero, List.set_cons_succ, i64_w, i32_w]
      rfl
    refine done_ (done_of HT_.out (by kernel_rfl)) ?_
    go_wp2
    go_ret
    exact ⟨by first | rfl | (simp; done), HB.out⟩
  · simp only [Bool.not_eq_true] at hsm
    rw [hsm] at HS0
    have HS := HS0
    clear hsm HS0
    go_enter Try.func5, Try.ntmps5
    go_wp2_with (first
      | ((with_reducible refine gate_dst (N := 1) rfl ?_); refine box_event ?hg (N := 1) ?hd (cs := #[.string c, .slice A1 d.length c1, .slice A2 y.length c2, .slice A3 r.length c3]) (t := 30) ?hr ?_; (case hd => rfl); (case hg => rfl); (case hr => first | (go_simp; done) | (go_simp; rfl)); intro gb hg w1 hbox hb; have HB1 := Aside0.mk (below_step HB.out hb); have KB := Aside0.mk hbox; clear hbox hb hg HB; have HB := HB1; clear HB1; have q0 := (blk_cell KB.out 0).trans rfl; have q1 := (blk_cell KB.out 1).trans rfl; have q2 := (blk_cell KB.out 2).trans rfl; have q3 := (blk_cell KB.out 3).trans rfl)
      | (go_at_call 21; go_must ((with_reducible refine (cotterlaw06_small.calls c A1 c1 d A2 c2 y A3 c3 r _ _ (Kd.C_below HR1.out HB.out) HC1.out (Kd.C_below HR2.out HB.out) HC2.out (Kd.C_below HR3.out HB.out) HC3.out HS.out).mono ?_); rintro e wn ⟨rfl, hb⟩; have HBn := Aside0.mk (below_step HB.out hb); have KBn := Aside0.mk (blk_below KB.out hb); clear HB KB q0 q1 q2 q3; have HB := HBn; have KB := KBn; clear HBn KBn; clear hb; have q0 := (blk_cell KB.out 0).trans rfl; have q1 := (blk_cell KB.out 1).trans rfl; have q2 := (blk_cell KB.out 2).trans rfl; have q3 := (blk_cell KB.out 3).trans rfl))
      | (go_at_call 22; go_must ((with_reducible refine (cotterlaw06_live.calls true _ live06_f).mono ?_); rintro e wn ⟨rfl, hb⟩; have HBn := Aside0.mk (below_step HB.out hb); have KBn := Aside0.mk (blk_below KB.out hb); clear HB KB q0 q1 q2 q3; have HB := HBn; have KB := KBn; clear HBn KBn; clear hb; have q0 := (blk_cell KB.out 0).trans rfl; have q1 := (blk_cell KB.out 1).trans rfl; have q2 := (blk_cell KB.out 2).trans rfl; have q3 := (blk_cell KB.out 3).trans rfl)))
    go_ret
    exact ⟨by first | rfl | (simp; done), HB.out⟩
end Go.Proofs.Ytochgjeanajoiaa.HA
