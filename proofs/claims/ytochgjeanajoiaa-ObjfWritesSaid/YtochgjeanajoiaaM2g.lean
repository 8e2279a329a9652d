/- Written by hand (by a program of mine): the reference's Write (function 25). -/
import Derived.Test.YtochgjeanajoiaaM2f
import Derived.Test.YtochgjeanajoiaaM2y
namespace Go.Proofs.Ytochgjeanajoiaa.HA
open Go.RowKit Go.Proofs.YtochgjeanajoiaaW.PrintWords Go.Proofs.YtochgjeanajoiaaW.PrintLast Go.Proofs.YtochgjeanajoiaaW.PrintMore
set_option linter.unusedVariables false
set_option linter.unusedSimpArgs false

def R25.T3 : Bool × List (List Nat × List Nat) := (true, [([], []), ([0], [0]), ([], []), ([2], [2]), ([], []), ([4], [4]), ([1, 3, 5], [1, 3, 5]), ([], []), ([7], [7]), ([8], [8]), ([9, 6], [9]), ([6, 10], [6, 10]), ([11], [11]), ([12, 10, 0, 1, 2, 3, 4, 5, 6, 7, 8, 9, 10, 11, 12], [12])])
def R25.B3 : List Nat := [0, 1, 0, 4, 0, 16, 63, 0, 128, 384, 1023, 2047, 4095, 8191]
theorem R25.tab3 : rtab .any (opsOf Try.f25 3) = R25.T3 := by kernel_rfl
theorem R25.bits3 : waitsOk R25.T3.2 R25.B3 = true := by kernel_rfl
def R25.T8 : Bool × List (List Nat × List Nat) := (true, [([], []), ([], []), ([1], [1]), ([2], [2]), ([], []), ([4], [4]), ([5], [5]), ([6], [6]), ([7], [7]), ([3, 8], [3, 8]), ([], []), ([10], [10]), ([11, 3], [11]), ([9, 12], [9, 12]), ([], []), ([14], [14]), ([15, 12], [15]), ([13, 16], [13, 16]), ([0, 17, 16], [0, 17]), ([18, 18, 0, 1, 2, 3, 4, 5, 6, 7, 8, 9, 10, 11, 12, 13, 14, 15, 16, 17, 18], [0, 18])])
def R25.B8 : List Nat := [0, 0, 2, 6, 0, 16, 48, 112, 240, 510, 0, 1024, 3086, 8190, 0, 16384, 56334, 131070, 262143, 524287]
theorem R25.tab8 : rtab .any (opsOf Try.f25 8) = R25.T8 := by kernel_rfl
theorem R25.bits8 : waitsOk R25.T8.2 R25.B8 = true := by kernel_rfl
def cotterref06_Write.f (k : Nat) (a0 : ByteArray) (l1 : List Int) (l2 : List S32) (l3 : List S34) : Option (ByteArray × Int) := (cotterref06_May.f k a0 l1 l2 l3).bind fun b => if b = checkOk a0 l1 l2 l3 then some (if b then (formB a0 l1 l2 l3, 0) else ((⟨#[]⟩ : ByteArray), 1)) else none
theorem cotterref06_Write.mono : ∀ a0 a1 a2 a3 k, LeO (cotterref06_Write.f k a0 a1 a2 a3) (cotterref06_Write.f (k + 1) a0 a1 a2 a3) := by
  intro a0 a1 a2 a3 k
  unfold cotterref06_Write.f
  exact LeO.bind (cotterref06_May.mono _ _ _ _ _) (fun _ => LeO.refl _)
theorem strL_bytes (s : ByteArray) : ∀ x ∈ strL s, 0 ≤ x ∧ x < 256 := by
  intro x hx
  rcases List.mem_append.1 hx with h | h
  · exact putL_bytes _ x h
  · simp only [bytesOf, List.mem_map] at h
    obtain ⟨b, _, rfl⟩ := h
    have := b.toNat_lt
    omega
theorem symL_bytes (s : S32) : ∀ x ∈ symL s, 0 ≤ x ∧ x < 256 := by
  intro x hx
  rcases List.mem_append.1 hx with h | h
  · rcases List.mem_append.1 h with h | h
    · exact strL_bytes _ x h
    · simp only [List.mem_singleton] at h; omega
  · exact putL_bytes _ x h
theorem front_bytes {mark : List Int} (hm : ∀ x ∈ mark, 0 ≤ x ∧ x < 256) (code : ByteArray) (data : List Int) (syms : List S32) : ∀ x ∈ frontL mark code data syms, 0 ≤ x ∧ x < 256 := by
  intro x hx
  simp only [frontL, List.mem_append, List.mem_flatMap] at hx
  rcases hx with ((((h | h) | h) | h) | h) | h
  · exact hm x h
  · exact strL_bytes _ x h
  · exact putL_bytes _ x h
  · obtain ⟨y, _, h⟩ := h; exact le8_bytes _ x h
  · exact putL_bytes _ x h
  · obtain ⟨y, _, h⟩ := h; exact symL_bytes _ x h
theorem front_len {mark code : ByteArray} {data : List Int} {syms : List S32} (h : FrontOk mark code data syms) : (frontL (bytesOf mark) code data syms).length ≤ 200000 := by
  have q1 := h.mark; have q2 := h.code; have q3 := h.data; have q4 := h.nsyms
  have p : ∀ n, n < 18446744073709551616 → (putL n).length ≤ 11 := putL_len10
  have a1 := p code.size (by omega)
  have a2 := p data.length (by omega)
  have a3 := p syms.length (by omega)
  have b1 := flatMap_len le8 8 data (fun x _ => Nat.le_refl _)
  have b2 := flatMap_len symL 51 syms (fun x hx => by
    obtain ⟨x1, x2, x3⟩ := h.syms x hx
    have := p x.f0.size (by omega)
    have := p x.f2.toNat (by omega)
    simp only [symL, strL, List.length_append, List.length_singleton, bytesOf_length]; omega)
  simp only [frontL, strL, List.length_append, bytesOf_length]
  omega
theorem checked_front {a0 : ByteArray} {l1 : List Int} {l2 : List S32} {l3 : List S34} (h : Checked a0 l1 l2 l3) : FrontOk ⟨#[67, 79, 84, 49]⟩ a0 l1 l2 :=
  ⟨by decide, h.code, h.data, h.nsyms, fun s hs => by have := h.syms s hs; omega⟩
set_option maxRecDepth 100000 in
set_option maxHeartbeats 8000000 in
theorem cotterref06_Write.calls (k0 : Nat) (a0_0 : ByteArray) (A0_1 : Option Addr) (c0_1 : Nat) (l0_1 : List Int) (A0_2 : Option Addr) (c0_2 : Nat) (l0_2 : List (S32)) (A0_3 : Option Addr) (c0_3 : Nat) (l0_3 : List (S34)) (r1 : ByteArray) (r2 : Int) (w : World) (hr0_1 : Kd.C (Kd.int .i64) w A0_1 l0_1.length l0_1) (hc0_1 : l0_1.length ≤ c0_1) (hr0_2 : Kd.C k32 w A0_2 l0_2.length l0_2) (hc0_2 : l0_2.length ≤ c0_2) (hr0_3 : Kd.C k34 w A0_3 l0_3.length l0_3) (hc0_3 : l0_3.length ≤ c0_3) (h : cotterref06_Write.f k0 a0_0 l0_1 l0_2 l0_3 = some (r1, r2)) :
    Calls Try.prog 25 #[.agg #[.string a0_0, .slice A0_1 l0_1.length c0_1, .slice A0_2 l0_2.length c0_2, .slice A0_3 l0_3.length c0_3]] w fun e w' => e = .returned (.tuple #[.string r1, .int .i64 r2]) ∧ Below w.heap.size w w' := by
  have hu30 := Try.underlying30
  have hu34 := Try.underlying34
  have HR1 := Aside0.mk hr0_1
  have HR2 := Aside0.mk hr0_2
  have HR3 := Aside0.mk hr0_3
  have HC1 := Aside0.mk hc0_1
  have HC2 := Aside0.mk hc0_2
  have HC3 := Aside0.mk hc0_3
  have HB := Aside0.mk (Below.refl w.heap.size w)
  clear hr0_1 hr0_2 hr0_3 hc0_1 hc0_2 hc0_3
  unfold cotterref06_Write.f at h
  obtain ⟨b, hm, h⟩ := Option.bind_eq_some_iff.1 h
  by_cases hbc : b = checkOk a0_0 l0_1 l0_2 l0_3
  case neg => rw [if_neg hbc] at h; cases h
  rw [if_pos hbc] at h
  have HF := Aside0.mk (Option.some.inj h)
  have HBC := Aside0.mk hbc
  have HM := Aside0.mk hm
  clear h hbc hm
  by_cases hok : checkOk a0_0 l0_1 l0_2 l0_3 = true
  · obtain rfl : true = b := (HBC.out.trans hok).symm
    have HCK := Aside0.mk (checked hok)
    have HK' := HM
    have HF' : Aside0 ((formB a0_0 l0_1 l0_2 l0_3, (0 : Int)) = (r1, r2)) := HF
    clear HF hok HBC HM
    obtain ⟨rfl, rfl⟩ := Prod.mk.inj HF'.out
    have HFO := Aside0.mk (checked_front HCK.out)
    have hlen3 := HCK.out.nrels
    have hq1 : (frontB ⟨#[67, 79, 84, 49]⟩ a0_0 l0_1 l0_2).size ≤ 200000 := by rw [frontB, strOfNums_size]; exact front_len HFO.out
    have hq2 := putB_size l0_3.length (by omega)
    have hq3 : ¬ (9223372036854775807 < (frontB ⟨#[67, 79, 84, 49]⟩ a0_0 l0_1 l0_2).size + (putB l0_3.length).size) := by omega
    have kv := fun (W : World) (s : ByteArray) => Lib.run_convert_string_bytes (P := Try.prog) W 9 91 5 s Try.underlying9 Try.underlying91 Try.underlying5
    go_enter Try.func25, Try.ntmps25
    go_wp2_with (first
      | ((with_reducible refine gate_dst (N := 1) rfl ?_); refine box_event ?hg (N := 1) ?hd (cs := #[.string a0_0, .slice A0_1 l0_1.length c0_1, .slice A0_2 l0_2.length c0_2, .slice A0_3 l0_3.length c0_3]) (t := 30) ?hr ?_; (case hd => rfl); (case hg => rfl); (case hr => first | (go_simp; done) | (go_simp; rfl)); intro gb hg w1 hbox hb; have HG := Aside0.mk (show w.heap.size ≤ gb from by rw [hg]; simp); have HB1 := Aside0.mk (below_step HB.out hb); have BK1 := Aside0.mk hbox; clear hbox hb hg; have q0 := (blk_cell BK1.out 0).trans rfl; have q1 := (blk_cell BK1.out 1).trans rfl; have q2 := (blk_cell BK1.out 2).trans rfl; have q3 := (blk_cell BK1.out 3).trans rfl)
      | (go_at_call 59; refine (cotterref06_May.calls _ _ _ _ _ _ _ _ _ _ _ _ _ (Kd.C_below HR1.out HB1.out) HC1.out (Kd.C_below HR2.out HB1.out) HC2.out (Kd.C_below HR3.out HB1.out) HC3.out HK'.out).mono ?_; rintro e w2 ⟨rfl, hb2⟩; have HB2 := Aside0.mk (below_step HB1.out hb2); have BK2 := Aside0.mk (blk_below BK1.out hb2); clear hb2 q0 q1 q2 q3 BK1; have q0 := (blk_cell BK2.out 0).trans rfl; have q1 := (blk_cell BK2.out 1).trans rfl; have q2 := (blk_cell BK2.out 2).trans rfl; have q3 := (blk_cell BK2.out 3).trans rfl))
    refine start_ (n := 14) (S := fun w' => w'.cell? ⟨gb, 0, none⟩ = some (.string a0_0) ∧ w'.cell? ⟨gb, 1, none⟩ = some (.slice A0_1 l0_1.length c0_1) ∧ w'.cell? ⟨gb, 2, none⟩ = some (.slice A0_2 l0_2.length c0_2) ∧ w'.cell? ⟨gb, 3, none⟩ = some (.slice A0_3 l0_3.length c0_3)) (ds := [12]) #[false, false, false, false, false, false, false, false, false, false, false, false, false, false] (by kernel_rfl) rfl rfl ?_ (fun hHeld => ?_)
    case refine_1 => exact ⟨(blk_cell BK2.out 0).trans rfl, (blk_cell BK2.out 1).trans rfl, (blk_cell BK2.out 2).trans rfl, (blk_cell BK2.out 3).trans rfl⟩
    have HB2d := Aside0.mk (below_drew HB2.out)
    have BK2d := Aside0.mk (blk_drew BK2.out)
    refine with_tabW R25.tab3 R25.bits3 (fun HT_ HW_ => ?_)
    refine pure_ (i := 0) (N := some 10) (v := ?_) (a' := ?_) #[true, false, false, false, false, false, false, false, false, false, false, false, false, false] rfl rfl (any_of HT_.out (by kernel_rfl)) (fun _ _ _ h => h) (Or.inl ⟨by rfl, ?_⟩) ?_ ?_
    rotate_left
    · intro w'
      go_simp
      with_reducible rfl
    rotate_left
    · simp only [Act.put, List.setIfInBounds_toArray, List.set_cons_zero, List.set_cons_succ, i64_w, i32_w]
      rfl
    refine take_ (i := 1) (N := some 11) (v := ?_) (a' := ?_) #[true, true, false, false, false, false, false, false, false, false, false, false, false, false] rfl rfl (take_ofW HT_.out HW_.out (by kernel_rfl)) (fun _ _ _ h => h) (Or.inl ⟨by rfl, ?_⟩) hHeld ?_ ?_
    rotate_left
    · rintro w' ⟨s0, s1, s2, s3⟩
      go_simp
      with_reducible rfl
    rotate_left
    · simp only [Act.put, List.setIfInBounds_toArray, List.set_cons_zero, List.set_cons_succ, i64_w, i32_w]
      rfl
    refine pure_ (i := 2) (N := some 12) (v := ?_) (a' := ?_) #[true, true, true, false, false, false, false, false, false, false, false, false, false, false] rfl rfl (any_of HT_.out (by kernel_rfl)) (fun _ _ _ h => h) (Or.inl ⟨by rfl, ?_⟩) ?_ ?_
    rotate_left
    · intro w'
      go_simp
      with_reducible rfl
    rotate_left
    · simp only [Act.put, List.setIfInBounds_toArray, List.set_cons_zero, List.set_cons_succ, i64_w, i32_w]
      rfl
    refine take_ (i := 3) (N := some 13) (v := ?_) (a' := ?_) #[true, true, true, true, false, false, false, false, false, false, false, false, false, false] rfl rfl (take_ofW HT_.out HW_.out (by kernel_rfl)) (fun _ _ _ h => h) (Or.inl ⟨by rfl, ?_⟩) hHeld ?_ ?_
    rotate_left
    · rintro w' ⟨s0, s1, s2, s3⟩
      go_simp
      with_reducible rfl
    rotate_left
    · simp only [Act.put, List.setIfInBounds_toArray, List.set_cons_zero, List.set_cons_succ, i64_w, i32_w]
      rfl
    refine pure_ (i := 4) (N := some 14) (v := ?_) (a' := ?_) #[true, true, true, true, true, false, false, false, false, false, false, false, false, false] rfl rfl (any_of HT_.out (by kernel_rfl)) (fun _ _ _ h => h) (Or.inl ⟨by rfl, ?_⟩) ?_ ?_
    rotate_left
    · intro w'
      go_simp
      with_reducible rfl
    rotate_left
    · simp only [Act.put, List.setIfInBounds_toArray, List.set_cons_zero, List.set_cons_succ, i64_w, i32_w]
      rfl
    refine take_ (i := 5) (N := some 15) (v := ?_) (a' := ?_) #[true, true, true, true, true, true, false, false, false, false, false, false, false, false] rfl rfl (take_ofW HT_.out HW_.out (by kernel_rfl)) (fun _ _ _ h => h) (Or.inl ⟨by rfl, ?_⟩) hHeld ?_ ?_
    rotate_left
    · rintro w' ⟨s0, s1, s2, s3⟩
      go_simp
      with_reducible rfl
    rotate_left
    · simp only [Act.put, List.setIfInBounds_toArray, List.set_cons_zero, List.set_cons_succ, i64_w, i32_w]
      rfl
    refine pure_ (i := 7) (N := some 17) (v := ?_) (a' := ?_) #[true, true, true, true, true, true, false, true, false, false, false, false, false, false] rfl rfl (any_of HT_.out (by kernel_rfl)) (fun _ _ _ h => h) (Or.inl ⟨by rfl, ?_⟩) ?_ ?_
    rotate_left
    · intro w'
      go_simp
      with_reducible rfl
    rotate_left
    · simp only [Act.put, List.setIfInBounds_toArray, List.set_cons_zero, List.set_cons_succ, i64_w, i32_w]
      rfl
    refine take_ (i := 8) (N := some 18) (v := ?_) (a' := ?_) #[true, true, true, true, true, true, false, true, true, false, false, false, false, false] rfl rfl (take_ofW HT_.out HW_.out (by kernel_rfl)) (fun _ _ _ h => h) (Or.inl ⟨by rfl, ?_⟩) hHeld ?_ ?_
    rotate_left
    · rintro w' ⟨s0, s1, s2, s3⟩
      go_simp
      with_reducible rfl
    rotate_left
    · simp only [Act.put, List.setIfInBounds_toArray, List.set_cons_zero, List.set_cons_succ, i64_w, i32_w]
      rfl
    refine pure_ (i := 9) (N := some 19) (v := ?_) (a' := ?_) #[true, true, true, true, true, true, false, true, true, true, false, false, false, false] rfl rfl (any_of HT_.out (by kernel_rfl)) (fun _ _ _ h => h) (Or.inl ⟨by rfl, ?_⟩) ?_ ?_
    rotate_left
    · intro w'
      go_simp
      with_reducible rfl
    rotate_left
    · simp only [Act.put, List.setIfInBounds_toArray, List.set_cons_zero, List.set_cons_succ, i64_w, i32_w]
      rfl
    refine one_ (i := 6) (N := some 16) #[true, true, true, true, true, true, true, true, true, true, false, false, false, false] rfl rfl (one_of HT_.out (by kernel_rfl)) (by decide) (fun K hK => ?_)
    refine goes_ Try.func60 (by kernel_rfl) rfl #[.string ⟨#[67, 79, 84, 49]⟩, .string a0_0, .slice A0_1 l0_1.length c0_1, .slice A0_2 l0_2.length c0_2] (by rfl) rfl rfl (by simp only [List.map_toArray, List.map_cons, List.map_nil]; rfl) ?_
    with_reducible refine (ref_Front_calls _ _ _ _ _ _ _ _ _ (Kd.C_below HR1.out HB2d.out) (Kd.C_below HR2.out HB2d.out) HFO.out).mono ?_
    rintro e w3 ⟨rfl, hb3⟩
    have HB3 := Aside0.mk (below_step HB2d.out hb3)
    have BK3 := Aside0.mk (blk_below BK2d.out hb3)
    clear hb3
    refine ⟨_, rfl, ?_⟩
    refine hK.out _ _ (⟨(blk_cell BK3.out 0).trans rfl, (blk_cell BK3.out 1).trans rfl, (blk_cell BK3.out 2).trans rfl, (blk_cell BK3.out 3).trans rfl⟩) (fun hHeld => ?_)
    clear hK K
    refine norm_ (a' := ?_) ?_ ?_
    rotate_left
    · show Act.put _ (some 16) _ = _
      simp only [Act.put, List.setIfInBounds_toArray, List.set_cons_zero, List.set_cons_succ, i64_w, i32_w]
      try rfl
    refine one_ (i := 10) (N := some 20) #[true, true, true, true, true, true, true, true, true, true, true, false, false, false] rfl rfl (one_of HT_.out (by kernel_rfl)) (by decide) (fun K hK => ?_)
    refine goes_ Try.func61 (by kernel_rfl) rfl #[.int .i64 (l0_3.length : Int)] (by rfl) rfl rfl (by simp only [List.map_toArray, List.map_cons, List.map_nil]; rfl) ?_
    with_reducible refine (rnum_len l0_3.length _ (by omega)).mono ?_
    rintro e w4 ⟨rfl, hb4⟩
    have HB4 := Aside0.mk (below_step HB3.out hb4)
    have BK4 := Aside0.mk (blk_below BK3.out hb4)
    clear hb4
    refine ⟨_, rfl, ?_⟩
    refine hK.out _ _ (⟨(blk_cell BK4.out 0).trans rfl, (blk_cell BK4.out 1).trans rfl, (blk_cell BK4.out 2).trans rfl, (blk_cell BK4.out 3).trans rfl⟩) (fun hHeld => ?_)
    clear hK K
    refine norm_ (a' := ?_) ?_ ?_
    rotate_left
    · show Act.put _ (some 20) _ = _
      simp only [Act.put, List.setIfInBounds_toArray, List.set_cons_zero, List.set_cons_succ, i64_w, i32_w]
      try rfl
    refine pure_ (i := 11) (N := some 21) (v := ?_) (a' := ?_) #[true, true, true, true, true, true, true, true, true, true, true, true, false, false] rfl rfl (any_of HT_.out (by kernel_rfl)) (fun _ _ _ h => h) (Or.inl ⟨by rfl, ?_⟩) ?_ ?_
    rotate_left
    · intro w'
      go_simp
      with_reducible rfl
    rotate_left
    · simp only [Act.put, List.setIfInBounds_toArray, List.set_cons_zero, List.set_cons_succ, i64_w, i32_w]
      rfl
    refine last_ (i := 12) (N := some 22) #[true, true, true, true, true, true, true, true, true, true, true, true, true, false] rfl rfl (one_of HT_.out (by kernel_rfl)) (by decide) (fun K hK => ?_)
    refine event_step (w1 := Lib.bytesWorld w4 5 (frontB ⟨#[67, 79, 84, 49]⟩ a0_0 l0_1 l0_2 ++ putB l0_3.length)) (v := .slice (some ⟨w4.heap.size, 0, none⟩) ((frontB ⟨#[67, 79, 84, 49]⟩ a0_0 l0_1 l0_2).size + (putB l0_3.length).size) (grownCap w4 ((frontB ⟨#[67, 79, 84, 49]⟩ a0_0 l0_1 l0_2).size + (putB l0_3.length).size) 0 5)) (by rfl) ?hrun ?_
    case hrun => go_simp
    refine hK.out _ _ ?_
    clear hK K
    refine norm_ (a' := ?_) ?_ ?_
    rotate_left
    · show Act.put _ (some 22) _ = _
      simp only [Act.put, List.setIfInBounds_toArray, List.set_cons_zero, List.set_cons_succ, i64_w, i32_w]
      try rfl
    refine pure_ (i := 13) (N := some 4) (v := ?_) (a' := ?_) #[true, true, true, true, true, true, true, true, true, true, true, true, true, true] rfl rfl (any_of HT_.out (by kernel_rfl)) (fun _ _ _ h => h) (Or.inl ⟨by rfl, ?_⟩) ?_ ?_
    rotate_left
    · intro w'
      go_simp
      with_reducible rfl
    rotate_left
    · simp only [Act.put, List.setIfInBounds_toArray, List.set_cons_zero, List.set_cons_succ, i64_w, i32_w]
      rfl
    refine done_ (done_of HT_.out (by kernel_rfl)) ?_
    have hsz : (frontB ⟨#[67, 79, 84, 49]⟩ a0_0 l0_1 l0_2 ++ putB l0_3.length).size ≤ 300000 := by rw [ByteArray.size_append]; omega
    have HB5 := Aside0.mk (below_step HB4.out (below_bytes w4 (frontB ⟨#[67, 79, 84, 49]⟩ a0_0 l0_1 l0_2 ++ putB l0_3.length)))
    have BK5 := Aside0.mk (blk_below BK4.out (below_bytes w4 (frontB ⟨#[67, 79, 84, 49]⟩ a0_0 l0_1 l0_2 ++ putB l0_3.length)))
    have hbx : bytesOf (frontB ⟨#[67, 79, 84, 49]⟩ a0_0 l0_1 l0_2 ++ putB l0_3.length) = frontL [67, 79, 84, 49] a0_0 l0_1 l0_2 ++ putL l0_3.length := by
      rw [bytesOf_app, bytesOf_putB, frontB, bytesOf_str]
      · rfl
      · exact front_bytes (by decide) a0_0 l0_1 l0_2
    have HR5 := BRow.conv (base := w.heap.size) (W := w4) (frontB ⟨#[67, 79, 84, 49]⟩ a0_0 l0_1 l0_2 ++ putB l0_3.length) (below_size HB4.out) (by simp only [maxLen]; omega)
    rw [bytesOf_length, hbx, ByteArray.size_append] at HR5
    have hlx : (frontL [67, 79, 84, 49] a0_0 l0_1 l0_2 ++ putL l0_3.length).length ≤ 300000 := by rw [← hbx, bytesOf_length]; exact hsz
    obtain ⟨X, hX⟩ : ∃ X, X = frontL [67, 79, 84, 49] a0_0 l0_1 l0_2 ++ putL l0_3.length := ⟨_, rfl⟩
    rw [← hX] at HR5 hlx
    have HX5 := Aside0.mk hX
    have HR := Aside0.mk HR5
    have HLX := Aside0.mk hlx
    obtain ⟨W5, hW5⟩ : ∃ W5, W5 = Lib.bytesWorld w4 5 (frontB ⟨#[67, 79, 84, 49]⟩ a0_0 l0_1 l0_2 ++ putB l0_3.length) := ⟨_, rfl⟩
    rw [← hW5] at HR HB5 BK5 ⊢
    clear hW5 HB4 BK4 HB3 BK3 HB2d BK2d BK2 HB2 hX hlx HR5 hbx hsz
    have HE := HB5
    have BKX := BK5
    clear HB5 BK5
    have q3 := (blk_cell BKX.out 3).trans rfl
    go_wp2
    go_loopw [4, 5] (fun v i wr => ∃ k : Nat, k ≤ l0_3.length ∧ i = .int .i64 k ∧ Aside0 (BRow w.heap.size wr v (X ++ (l0_3.take k).flatMap relL)) ∧ Aside0 (Below w.heap.size w wr) ∧ Aside0 (wr.heap[gb]? = some (.cells #[.string a0_0, .slice A0_1 l0_1.length c0_1, .slice A0_2 l0_2.length c0_2, .slice A0_3 l0_3.length c0_3] 30 (0, 0)))) (fun _ i _ => l0_3.length - (intOf i).toNat)
    case atStart => exact ⟨0, Nat.zero_le _, rfl, ⟨by simpa using HR.out⟩, HE, BKX⟩
    case round =>
      clear HR HE BKX q3 hHeld
      obtain ⟨k, hk, rfl, HR, HE, BKX⟩ := hrel
      have q3 := (blk_cell BKX.out 3).trans rfl
      by_cases hlt : k < l0_3.length
      · obtain ⟨ad, rfl, g0, g1, g2, g3⟩ := at_T34 (Kd.C_below HR3.out HE.out) (k : Int) (by omega) (by omega)
        simp only [Int.toNat_natCast] at g0 g1 g2 g3
        obtain ⟨x, hx⟩ : ∃ x, l0_3[k]? = some x := ⟨_, List.getElem?_eq_getElem hlt⟩
        rw [show rd_T34 l0_3 (k : Int) = x from by simp [rd_T34, hx]] at g0 g1 g2 g3
        obtain ⟨z0, z1, z2, z3⟩ := HCK.out.rels x (List.mem_of_getElem? hx)
        have HX := Aside0.mk hx
        clear hx
        obtain ⟨pl, kd, nm, ad2⟩ := x
        dsimp only at g0 g1 g2 g3 z0 z1 z2 z3
        have HL : Aside0 ((X ++ (l0_3.take k).flatMap relL).length ≤ 300000 + 59 * k) := Aside0.mk (by
          have := HLX.out
          have := flatMap_len relL 59 (l0_3.take k) (fun x hx => by
            obtain ⟨y0, y1, y2, y3⟩ := HCK.out.rels x (List.mem_of_mem_take hx)
            have := putL_len10 x.f0.toNat (by omega)
            have := putL_len10 x.f2.size (by omega)
            simp only [relL, strL, List.length_append, bytesOf_length, List.length_singleton, le8_len]
            omega)
          have := List.length_take_le k l0_3
          rw [List.length_append]; omega)
        go_wp2
        have hbx := below_alloc (Below.refl wr.heap.size wr) (.cells #[.int .i64 pl, .int .i64 kd, .string nm, .int .i64 ad2] 34)
        have HEn := Aside0.mk (below_step HE.out hbx)
        have HRn := Aside0.mk (HR.out.below hbx)
        have BKXn := Aside0.mk (blk_below BKX.out hbx)
        have BKR := Aside0.mk (blk_new wr (.cells #[.int .i64 pl, .int .i64 kd, .string nm, .int .i64 ad2] 34))
        obtain ⟨wb, hwb⟩ : ∃ wb, wb = wr.alloc (.cells #[.int .i64 pl, .int .i64 kd, .string nm, .int .i64 ad2] 34) := ⟨_, rfl⟩
        rw [← hwb] at HEn HRn BKXn BKR
        first | rw [← hwb] | skip
        clear hwb hbx HE HR BKX q3 g0 g1 g2 g3
        have HE := HEn
        have HR := HRn
        have BKX := BKXn
        clear HEn HRn BKXn
        refine start_ (n := 20) (S := fun w' => w'.cell? ⟨wr.heap.size, 0, none⟩ = some (.int .i64 pl) ∧ w'.cell? ⟨wr.heap.size, 1, none⟩ = some (.int .i64 kd) ∧ w'.cell? ⟨wr.heap.size, 2, none⟩ = some (.string nm) ∧ w'.cell? ⟨wr.heap.size, 3, none⟩ = some (.int .i64 ad2)) (ds := [18]) #[false, false, false, false, false, false, false, false, false, false, false, false, false, false, false, false, false, false, false, false] (by kernel_rfl) rfl rfl ?_ (fun hHeld => ?_)
        case refine_1 => exact ⟨(blk_cell BKR.out 0).trans rfl, (blk_cell BKR.out 1).trans rfl, (blk_cell BKR.out 2).trans rfl, (blk_cell BKR.out 3).trans rfl⟩
        refine with_tabW R25.tab8 R25.bits8 (fun HT_ HW_ => ?_)
        refine pure_ (i := 0) (N := some 35) (v := ?_) (a' := ?_) #[true, false, false, false, false, false, false, false, false, false, false, false, false, false, false, false, false, false, false, false] rfl rfl (any_of HT_.out (by kernel_rfl)) (fun _ _ _ h => h) (Or.inl ⟨by rfl, ?_⟩) ?_ ?_
        rotate_left
        · intro w'
          go_simp
          with_reducible rfl
        rotate_left
        · simp only [Act.put, List.setIfInBounds_toArray, List.set_cons_zero, List.set_cons_succ, i64_w, i32_w]
          rfl
        refine pure_ (i := 1) (N := some 36) (v := ?_) (a' := ?_) #[true, true, false, false, false, false, false, false, false, false, false, false, false, false, false, false, false, false, false, false] rfl rfl (any_of HT_.out (by kernel_rfl)) (fun _ _ _ h => h) (Or.inl ⟨by rfl, ?_⟩) ?_ ?_
        rotate_left
        · intro w'
          go_simp
          with_reducible rfl
        rotate_left
        · simp only [Act.put, List.setIfInBounds_toArray, List.set_cons_zero, List.set_cons_succ, i64_w, i32_w]
          rfl
        refine take_ (i := 2) (N := some 37) (v := ?_) (a' := ?_) #[true, true, true, false, false, false, false, false, false, false, false, false, false, false, false, false, false, false, false, false] rfl rfl (take_ofW HT_.out HW_.out (by kernel_rfl)) (fun _ _ _ h => h) (Or.inl ⟨by rfl, ?_⟩) hHeld ?_ ?_
        rotate_left
        · rintro w' ⟨s0, s1, s2, s3⟩
          go_simp
          with_reducible rfl
        rotate_left
        · simp only [Act.put, List.setIfInBounds_toArray, List.set_cons_zero, List.set_cons_succ, i64_w, i32_w]
          rfl
        refine pure_ (i := 4) (N := some 39) (v := ?_) (a' := ?_) #[true, true, true, false, true, false, false, false, false, false, false, false, false, false, false, false, false, false, false, false] rfl rfl (any_of HT_.out (by kernel_rfl)) (fun _ _ _ h => h) (Or.inl ⟨by rfl, ?_⟩) ?_ ?_
        rotate_left
        · intro w'
          go_simp
          with_reducible rfl
        rotate_left
        · simp only [Act.put, List.setIfInBounds_toArray, List.set_cons_zero, List.set_cons_succ, i64_w, i32_w]
          rfl
        refine take_ (i := 5) (N := some 40) (v := ?_) (a' := ?_) #[true, true, true, false, true, true, false, false, false, false, false, false, false, false, false, false, false, false, false, false] rfl rfl (take_ofW HT_.out HW_.out (by kernel_rfl)) (fun _ _ _ h => h) (Or.inl ⟨by rfl, ?_⟩) hHeld ?_ ?_
        rotate_left
        · rintro w' ⟨s0, s1, s2, s3⟩
          go_simp
          with_reducible rfl
        rotate_left
        · simp only [Act.put, List.setIfInBounds_toArray, List.set_cons_zero, List.set_cons_succ, i64_w, i32_w]
          rfl
        refine pure_ (i := 6) (N := some 41) (v := ?_) (a' := ?_) #[true, true, true, false, true, true, true, false, false, false, false, false, false, false, false, false, false, false, false, false] rfl rfl (any_of HT_.out (by kernel_rfl)) (fun _ _ _ h => h) (Or.inl ⟨by rfl, ?_⟩) ?_ ?_
        rotate_left
        · intro w'
          go_simp
          with_reducible rfl
        rotate_left
        · simp only [Act.put, List.setIfInBounds_toArray, List.set_cons_zero, List.set_cons_succ, i64_w, i32_w]
          rfl
        refine pure_ (i := 10) (N := some 45) (v := ?_) (a' := ?_) #[true, true, true, false, true, true, true, false, false, false, true, false, false, false, false, false, false, false, false, false] rfl rfl (any_of HT_.out (by kernel_rfl)) (fun _ _ _ h => h) (Or.inl ⟨by rfl, ?_⟩) ?_ ?_
        rotate_left
        · intro w'
          go_simp
          with_reducible rfl
        rotate_left
        · simp only [Act.put, List.setIfInBounds_toArray, List.set_cons_zero, List.set_cons_succ, i64_w, i32_w]
          rfl
        refine take_ (i := 11) (N := some 46) (v := ?_) (a' := ?_) #[true, true, true, false, true, true, true, false, false, false, true, true, false, false, false, false, false, false, false, false] rfl rfl (take_ofW HT_.out HW_.out (by kernel_rfl)) (fun _ _ _ h => h) (Or.inl ⟨by rfl, ?_⟩) hHeld ?_ ?_
        rotate_left
        · rintro w' ⟨s0, s1, s2, s3⟩
          go_simp
          with_reducible rfl
        rotate_left
        · simp only [Act.put, List.setIfInBounds_toArray, List.set_cons_zero, List.set_cons_succ, i64_w, i32_w]
          rfl
        refine pure_ (i := 14) (N := some 49) (v := ?_) (a' := ?_) #[true, true, true, false, true, true, true, false, false, false, true, true, false, false, true, false, false, false, false, false] rfl rfl (any_of HT_.out (by kernel_rfl)) (fun _ _ _ h => h) (Or.inl ⟨by rfl, ?_⟩) ?_ ?_
        rotate_left
        · intro w'
          go_simp
          with_reducible rfl
        rotate_left
        · simp only [Act.put, List.setIfInBounds_toArray, List.set_cons_zero, List.set_cons_succ, i64_w, i32_w]
          rfl
        refine take_ (i := 15) (N := some 50) (v := ?_) (a' := ?_) #[true, true, true, false, true, true, true, false, false, false, true, true, false, false, true, true, false, false, false, false] rfl rfl (take_ofW HT_.out HW_.out (by kernel_rfl)) (fun _ _ _ h => h) (Or.inl ⟨by rfl, ?_⟩) hHeld ?_ ?_
        rotate_left
        · rintro w' ⟨s0, s1, s2, s3⟩
          go_simp
          with_reducible rfl
        rotate_left
        · simp only [Act.put, List.setIfInBounds_toArray, List.set_cons_zero, List.set_cons_succ, i64_w, i32_w]
          rfl
        refine calm_ HT_.out [3, 7, 8, 9, 12, 13, 16, 17] #[true, true, true, false, true, true, true, false, false, false, true, true, false, false, true, true, false, false, false, false] #[true, true, true, true, true, true, true, true, true, true, true, true, true, true, true, true, true, true, false, false] (by kernel_rfl) rfl ?I ?h0 ?hstep ?hend
        case I => exact fun a1 bs a w' => ∃ (b0 b1 b2 b3 b4 b5 b6 b7 : Bool) (nb : Nat), bs = [b0, b1, b2, b3, b4, b5, b6, b7] ∧ a = putIf b7 52 (.string (putB pl.toNat ++ oneB kd ++ textB nm ++ le8B ad2)) (putIf b6 51 (.string (le8B ad2)) (putIf b5 48 (.string (putB pl.toNat ++ oneB kd ++ textB nm)) (putIf b4 47 (.string (textB nm)) (putIf b3 44 (.string (putB pl.toNat ++ oneB kd)) (putIf b2 43 (.string (oneB kd)) (putIf b1 42 (.slice (some ⟨nb, 0, none⟩) 1 1) (putIf b0 38 (.string (putB pl.toNat)) (a1)))))))) ∧ Aside0 (Below w.heap.size w w') ∧ Aside0 (BRow w.heap.size w' u4 (X ++ (l0_3.take k).flatMap relL)) ∧ Aside0 (w'.heap[gb]? = some (.cells #[.string a0_0, .slice A0_1 l0_1.length c0_1, .slice A0_2 l0_2.length c0_2, .slice (some ad) l0_3.length c0_3] 30 (0, 0))) ∧ Aside0 (b1 = true → w'.heap[nb]? = some (.cells #[.int .u8 (kd % 256)] 5 (0, 0)))
        case h0 => exact ⟨false, false, false, false, false, false, false, false, 0, rfl, rfl, ⟨below_drew HE.out⟩, ⟨HR.out⟩, ⟨BKX.out⟩, ⟨fun h => by cases h⟩⟩
        case hstep =>
          rintro j i r hj hr bs a w' hb hn ⟨b0, b1, b2, b3, b4, b5, b6, b7, nb, rfl, ha, HE, HR, BKX, hnb⟩
          have HA := Aside0.mk ha
          clear ha
          rcases j with _ | _ | _ | _ | _ | _ | _ | _ | j
          · obtain rfl : 3 = i := Option.some.inj hj
            obtain rfl : (([2], [2]) : List Nat × List Nat) = r := Option.some.inj hr
            obtain rfl : b0 = false := Option.some.inj hb
            clear hj hr hb hn
            refine wpOp_step (by rfl) (fun K hK => ?_)
            have e37 : a.eval (.tmp 37) = .int .i64 pl := by rw [HA.out]; simp only [eval_putIf_ne, ne_eq, Nat.reduceEqDiff, not_false_eq_true]; rfl
            have f37 : a.tmps[37]?.getD undef = .int .i64 pl := (by have := e37; simpa [Act.eval, Array.getD_eq_getD_getElem?] using this)
            refine goes_ (N := some 38) Try.func61 (by kernel_rfl) rfl #[.int .i64 pl] (by rfl) rfl rfl (by simp only [List.map_toArray, List.map_cons, List.map_nil]; exact congrArg (fun z => #[z]) e37) ?_
            refine (rnum_c pl w' (by omega) (by omega)).mono ?_
            rintro e w1 ⟨rfl, hb1⟩
            refine ⟨_, rfl, hK _ _ ⟨fun _ hS => ⟨pw_cell_below hb1 hS.1, pw_cell_below hb1 hS.2.1, pw_cell_below hb1 hS.2.2.1, pw_cell_below hb1 hS.2.2.2⟩, ?_⟩⟩
            exact ⟨_, _, _, _, _, _, _, _, nb, rfl, by show Act.put _ (some 38) _ = _; rw [HA.out]; simp only [put_putIf, putIf_true, putIf_false, ne_eq, Nat.reduceEqDiff, not_false_eq_true], ⟨below_step HE.out hb1⟩, ⟨HR.out.below hb1⟩, ⟨blk_below BKX.out hb1⟩, ⟨fun h => blk_below (hnb.out h) hb1⟩⟩
          · obtain rfl : 7 = i := Option.some.inj hj
            obtain rfl : (([6], [6]) : List Nat × List Nat) = r := Option.some.inj hr
            obtain rfl : b1 = false := Option.some.inj hb
            clear hj hr hb hn
            refine wpOp_step (by rfl) (fun K hK => ?_)
            have e41 : a.eval (.tmp 41) = .int .u8 (kd % 256) := by rw [HA.out]; simp only [eval_putIf_ne, ne_eq, Nat.reduceEqDiff, not_false_eq_true]; rfl
            have f41 : a.tmps[41]?.getD undef = .int .u8 (kd % 256) := (by have := e41; simpa [Act.eval, Array.getD_eq_getD_getElem?] using this)
            refine event_step (w1 := w'.alloc (.cells #[.int .u8 (kd % 256)] 5 (0, 0))) (v := .slice (some ⟨w'.heap.size, 0, none⟩) 1 1) (by rfl) ?hrun ?_
            case hrun => first | (go_simp; done) | (go_simp; rfl)
            have hb1 := below_alloc (Below.refl w'.heap.size w') (.cells #[.int .u8 (kd % 256)] 5 (0, 0))
            refine hK _ _ ⟨fun _ hS => ⟨pw_cell_below hb1 hS.1, pw_cell_below hb1 hS.2.1, pw_cell_below hb1 hS.2.2.1, pw_cell_below hb1 hS.2.2.2⟩, ?_⟩
            exact ⟨_, _, _, _, _, _, _, _, w'.heap.size, rfl, by show Act.put _ (some 42) _ = _; rw [HA.out]; simp only [put_putIf, putIf_true, putIf_false, ne_eq, Nat.reduceEqDiff, not_false_eq_true], ⟨below_step HE.out hb1⟩, ⟨HR.out.below hb1⟩, ⟨blk_below BKX.out hb1⟩, ⟨fun _ => blk_new w' _⟩⟩
          · obtain rfl : 8 = i := Option.some.inj hj
            obtain rfl : (([7], [7]) : List Nat × List Nat) = r := Option.some.inj hr
            obtain rfl : b2 = false := Option.some.inj hb
            obtain rfl : b1 = true := Option.some.inj (hn 1 7 rfl (by rfl))
            clear hj hr hb hn
            refine wpOp_step (by rfl) (fun K hK => ?_)
            have e42 : a.eval (.tmp 42) = .slice (some ⟨nb, 0, none⟩) 1 1 := by rw [HA.out]; simp only [eval_putIf_ne, ne_eq, Nat.reduceEqDiff, not_false_eq_true]; exact eval_putIf_eq (by simp only [size_putIf]; show 42 < 56; decide)
            have f42 : a.tmps[42]?.getD undef = .slice (some ⟨nb, 0, none⟩) 1 1 := (by have := e42; simpa [Act.eval, Array.getD_eq_getD_getElem?] using this)
            have hc := run_convert_bytes_arg (P := Try.prog) w' 91 5 Try.underlying91 Try.underlying5 nb 0 1 1 [kd % 256] rfl (fun i hi => (by obtain rfl : i = 0 := (by omega); exact (blk_cell (hnb.out rfl) 0).trans rfl)) 9 Try.underlying9
            refine event_step (w1 := w') (v := .string (oneB kd)) (by rfl) ?hrun ?_
            case hrun => go_simp; rfl
            refine hK _ _ ⟨fun _ hS => hS, ?_⟩
            exact ⟨_, _, _, _, _, _, _, _, nb, rfl, by show Act.put _ (some 43) _ = _; rw [HA.out]; simp only [put_putIf, putIf_true, putIf_false, ne_eq, Nat.reduceEqDiff, not_false_eq_true], ⟨HE.out⟩, ⟨HR.out⟩, ⟨BKX.out⟩, ⟨hnb.out⟩⟩
          · obtain rfl : 9 = i := Option.some.inj hj
            obtain rfl : (([3, 8], [3, 8]) : List Nat × List Nat) = r := Option.some.inj hr
            obtain rfl : b3 = false := Option.some.inj hb
            obtain rfl : b0 = true := Option.some.inj (hn 0 3 rfl (by rfl))
            obtain rfl : b2 = true := Option.some.inj (hn 2 8 rfl (by rfl))
            clear hj hr hb hn
            refine wpOp_step (by rfl) (fun K hK => ?_)
            have e38 : a.eval (.tmp 38) = .string (putB pl.toNat) := by rw [HA.out]; simp only [eval_putIf_ne, ne_eq, Nat.reduceEqDiff, not_false_eq_true]; exact eval_putIf_eq (by simp only [size_putIf]; show 38 < 56; decide)
            have f38 : a.tmps[38]?.getD undef = .string (putB pl.toNat) := (by have := e38; simpa [Act.eval, Array.getD_eq_getD_getElem?] using this)
            have e43 : a.eval (.tmp 43) = .string (oneB kd) := by rw [HA.out]; simp only [eval_putIf_ne, ne_eq, Nat.reduceEqDiff, not_false_eq_true]; exact eval_putIf_eq (by simp only [size_putIf]; show 43 < 56; decide)
            have f43 : a.tmps[43]?.getD undef = .string (oneB kd) := (by have := e43; simpa [Act.eval, Array.getD_eq_getD_getElem?] using this)
            have hz1 := textB_size nm (by omega)
            have hz2 : (oneB kd).size = 1 := by simp [oneB, strOfNums_size]
            have hz3 := putB_size pl.toNat (by omega)
            have hz4 : (le8B ad2).size = 8 := by simp [le8B, strOfNums_size, le8]
            refine event_step (w1 := w') (v := .string (putB pl.toNat ++ oneB kd)) (by rfl) ?hrun ?_
            case hrun => go_simp; omega
            refine hK _ _ ⟨fun _ hS => hS, ?_⟩
            exact ⟨_, _, _, _, _, _, _, _, nb, rfl, by show Act.put _ (some 44) _ = _; rw [HA.out]; simp only [put_putIf, putIf_true, putIf_false, ne_eq, Nat.reduceEqDiff, not_false_eq_true], ⟨HE.out⟩, ⟨HR.out⟩, ⟨BKX.out⟩, ⟨hnb.out⟩⟩
          · obtain rfl : 12 = i := Option.some.inj hj
            obtain rfl : (([11, 3], [11]) : List Nat × List Nat) = r := Option.some.inj hr
            obtain rfl : b4 = false := Option.some.inj hb
            obtain rfl : b0 = true := Option.some.inj (hn 0 3 rfl (by rfl))
            clear hj hr hb hn
            refine wpOp_step (by rfl) (fun K hK => ?_)
            have e46 : a.eval (.tmp 46) = .string nm := by rw [HA.out]; simp only [eval_putIf_ne, ne_eq, Nat.reduceEqDiff, not_false_eq_true]; rfl
            have f46 : a.tmps[46]?.getD undef = .string nm := (by have := e46; simpa [Act.eval, Array.getD_eq_getD_getElem?] using this)
            refine goes_ (N := some 47) Try.func62 (by kernel_rfl) rfl #[.string nm] (by rfl) rfl rfl (by simp only [List.map_toArray, List.map_cons, List.map_nil]; exact congrArg (fun z => #[z]) e46) ?_
            refine (rtext_c nm w' (by omega)).mono ?_
            rintro e w1 ⟨rfl, hb1⟩
            refine ⟨_, rfl, hK _ _ ⟨fun _ hS => ⟨pw_cell_below hb1 hS.1, pw_cell_below hb1 hS.2.1, pw_cell_below hb1 hS.2.2.1, pw_cell_below hb1 hS.2.2.2⟩, ?_⟩⟩
            exact ⟨_, _, _, _, _, _, _, _, nb, rfl, by show Act.put _ (some 47) _ = _; rw [HA.out]; simp only [put_putIf, putIf_true, putIf_false, ne_eq, Nat.reduceEqDiff, not_false_eq_true], ⟨below_step HE.out hb1⟩, ⟨HR.out.below hb1⟩, ⟨blk_below BKX.out hb1⟩, ⟨fun h => blk_below (hnb.out h) hb1⟩⟩
          · obtain rfl : 13 = i := Option.some.inj hj
            obtain rfl : (([9, 12], [9, 12]) : List Nat × List Nat) = r := Option.some.inj hr
            obtain rfl : b5 = false := Option.some.inj hb
            obtain rfl : b3 = true := Option.some.inj (hn 3 9 rfl (by rfl))
            obtain rfl : b4 = true := Option.some.inj (hn 4 12 rfl (by rfl))
            clear hj hr hb hn
            refine wpOp_step (by rfl) (fun K hK => ?_)
            have e44 : a.eval (.tmp 44) = .string (putB pl.toNat ++ oneB kd) := by rw [HA.out]; simp only [eval_putIf_ne, ne_eq, Nat.reduceEqDiff, not_false_eq_true]; exact eval_putIf_eq (by simp only [size_putIf]; show 44 < 56; decide)
            have f44 : a.tmps[44]?.getD undef = .string (putB pl.toNat ++ oneB kd) := (by have := e44; simpa [Act.eval, Array.getD_eq_getD_getElem?] using this)
            have e47 : a.eval (.tmp 47) = .string (textB nm) := by rw [HA.out]; simp only [eval_putIf_ne, ne_eq, Nat.reduceEqDiff, not_false_eq_true]; exact eval_putIf_eq (by simp only [size_putIf]; show 47 < 56; decide)
            have f47 : a.tmps[47]?.getD undef = .string (textB nm) := (by have := e47; simpa [Act.eval, Array.getD_eq_getD_getElem?] using this)
            have hz1 := textB_size nm (by omega)
            have hz2 : (oneB kd).size = 1 := by simp [oneB, strOfNums_size]
            have hz3 := putB_size pl.toNat (by omega)
            have hz4 : (le8B ad2).size = 8 := by simp [le8B, strOfNums_size, le8]
            refine event_step (w1 := w') (v := .string (putB pl.toNat ++ oneB kd ++ textB nm)) (by rfl) ?hrun ?_
            case hrun => go_simp; omega
            refine hK _ _ ⟨fun _ hS => hS, ?_⟩
            exact ⟨_, _, _, _, _, _, _, _, nb, rfl, by show Act.put _ (some 48) _ = _; rw [HA.out]; simp only [put_putIf, putIf_true, putIf_false, ne_eq, Nat.reduceEqDiff, not_false_eq_true], ⟨HE.out⟩, ⟨HR.out⟩, ⟨BKX.out⟩, ⟨hnb.out⟩⟩
          · obtain rfl : 16 = i := Option.some.inj hj
            obtain rfl : (([15, 12], [15]) : List Nat × List Nat) = r := Option.some.inj hr
            obtain rfl : b6 = false := Option.some.inj hb
            obtain rfl : b4 = true := Option.some.inj (hn 4 12 rfl (by rfl))
            clear hj hr hb hn
            refine wpOp_step (by rfl) (fun K hK => ?_)
            have e50 : a.eval (.tmp 50) = .int .i64 ad2 := by rw [HA.out]; simp only [eval_putIf_ne, ne_eq, Nat.reduceEqDiff, not_false_eq_true]; rfl
            have f50 : a.tmps[50]?.getD undef = .int .i64 ad2 := (by have := e50; simpa [Act.eval, Array.getD_eq_getD_getElem?] using this)
            refine goes_ (N := some 51) Try.func63 (by kernel_rfl) rfl #[.int .i64 ad2] (by rfl) rfl rfl (by simp only [List.map_toArray, List.map_cons, List.map_nil]; exact congrArg (fun z => #[z]) e50) ?_
            refine (rwide_c ad2 w').mono ?_
            rintro e w1 ⟨rfl, hb1⟩
            refine ⟨_, rfl, hK _ _ ⟨fun _ hS => ⟨pw_cell_below hb1 hS.1, pw_cell_below hb1 hS.2.1, pw_cell_below hb1 hS.2.2.1, pw_cell_below hb1 hS.2.2.2⟩, ?_⟩⟩
            exact ⟨_, _, _, _, _, _, _, _, nb, rfl, by show Act.put _ (some 51) _ = _; rw [HA.out]; simp only [put_putIf, putIf_true, putIf_false, ne_eq, Nat.reduceEqDiff, not_false_eq_true], ⟨below_step HE.out hb1⟩, ⟨HR.out.below hb1⟩, ⟨blk_below BKX.out hb1⟩, ⟨fun h => blk_below (hnb.out h) hb1⟩⟩
          · obtain rfl : 17 = i := Option.some.inj hj
            obtain rfl : (([13, 16], [13, 16]) : List Nat × List Nat) = r := Option.some.inj hr
            obtain rfl : b7 = false := Option.some.inj hb
            obtain rfl : b5 = true := Option.some.inj (hn 5 13 rfl (by rfl))
            obtain rfl : b6 = true := Option.some.inj (hn 6 16 rfl (by rfl))
            clear hj hr hb hn
            refine wpOp_step (by rfl) (fun K hK => ?_)
            have e48 : a.eval (.tmp 48) = .string (putB pl.toNat ++ oneB kd ++ textB nm) := by rw [HA.out]; simp only [eval_putIf_ne, ne_eq, Nat.reduceEqDiff, not_false_eq_true]; exact eval_putIf_eq (by simp only [size_putIf]; show 48 < 56; decide)
            have f48 : a.tmps[48]?.getD undef = .string (putB pl.toNat ++ oneB kd ++ textB nm) := (by have := e48; simpa [Act.eval, Array.getD_eq_getD_getElem?] using this)
            have e51 : a.eval (.tmp 51) = .string (le8B ad2) := by rw [HA.out]; simp only [eval_putIf_ne, ne_eq, Nat.reduceEqDiff, not_false_eq_true]; exact eval_putIf_eq (by simp only [size_putIf]; show 51 < 56; decide)
            have f51 : a.tmps[51]?.getD undef = .string (le8B ad2) := (by have := e51; simpa [Act.eval, Array.getD_eq_getD_getElem?] using this)
            have hz1 := textB_size nm (by omega)
            have hz2 : (oneB kd).size = 1 := by simp [oneB, strOfNums_size]
            have hz3 := putB_size pl.toNat (by omega)
            have hz4 : (le8B ad2).size = 8 := by simp [le8B, strOfNums_size, le8]
            refine event_step (w1 := w') (v := .string (putB pl.toNat ++ oneB kd ++ textB nm ++ le8B ad2)) (by rfl) ?hrun ?_
            case hrun => go_simp; omega
            refine hK _ _ ⟨fun _ hS => hS, ?_⟩
            exact ⟨_, _, _, _, _, _, _, _, nb, rfl, by show Act.put _ (some 52) _ = _; rw [HA.out]; simp only [put_putIf, putIf_true, putIf_false, ne_eq, Nat.reduceEqDiff, not_false_eq_true], ⟨HE.out⟩, ⟨HR.out⟩, ⟨BKX.out⟩, ⟨hnb.out⟩⟩
          · simp at hj
        rintro a w' ⟨b0, b1, b2, b3, b4, b5, b6, b7, nb, hbs, rfl, HE, HR, BKX, hnb⟩
        simp only [List.map_cons, List.map_nil, List.cons.injEq, and_true] at hbs
        obtain ⟨rfl, rfl, rfl, rfl, rfl, rfl, rfl, rfl⟩ := hbs
        simp only [putIf_true, Act.put, List.setIfInBounds_toArray, List.set_cons_zero, List.set_cons_succ]
        refine last_ (i := 18) (N := some 53) #[true, true, true, true, true, true, true, true, true, true, true, true, true, true, true, true, true, true, true, false] rfl rfl (one_of HT_.out (by kernel_rfl)) (by decide) (fun K hK => ?_)
        refine step_brow (w0 := w) w.heap.size rfl _ _ 91 9 rfl Try.underlying91 Try.underlying9 info5 u4 (X ++ (l0_3.take k).flatMap relL) (putB pl.toNat ++ oneB kd ++ textB nm ++ le8B ad2) rfl rfl HR.out HE.out (below_size HE.out) (by have := HL.out; have := textB_size nm (by omega); have := putB_size pl.toNat (by omega); have : (oneB kd).size = 1 := (by simp [oneB, strOfNums_size]); have : (le8B ad2).size = 8 := (by simp [le8B, strOfNums_size, le8]); simp only [ByteArray.size_append]; omega) ?_
        intro v5 w5 hr5 hb5 hg5
        rw [show bytesOf (putB pl.toNat ++ oneB kd ++ textB nm ++ le8B ad2) = relL ⟨pl, kd, nm, ad2⟩ from (by rw [bytesOf_app, bytesOf_app, bytesOf_app, bytesOf_textB, bytesOf_oneB, bytesOf_putB, bytesOf_le8B]; rfl), List.append_assoc, ← flatMap_take_succ relL l0_3 k _ HX.out] at hr5
        have HR5 := Aside0.mk hr5
        have HE5 := Aside0.mk hb5
        clear hr5 hb5
        have BK5 := Aside0.mk (blk_grown BKX.out hg5 (HR.out.ne_blk BKX.out (by decide)))
        clear hg5
        refine hK.out _ _ ?_
        clear hHeld HR HE
        clear hK K
        refine norm_ (a' := ?_) ?_ ?_
        rotate_left
        · show Act.put _ (some 53) _ = _
          simp only [Act.put, List.setIfInBounds_toArray, List.set_cons_zero, List.set_cons_succ, i64_w, i32_w]
          try rfl
        refine pure_ (i := 19) (N := some 4) (v := ?_) (a' := ?_) #[true, true, true, true, true, true, true, true, true, true, true, true, true, true, true, true, true, true, true, true] rfl rfl (any_of HT_.out (by kernel_rfl)) (fun _ _ _ h => h) (Or.inl ⟨by rfl, ?_⟩) ?_ ?_
        rotate_left
        · intro w'
          go_simp
          with_reducible rfl
        rotate_left
        · simp only [Act.put, List.setIfInBounds_toArray, List.set_cons_zero, List.set_cons_succ, i64_w, i32_w]
          rfl
        refine done_ (done_of HT_.out (by kernel_rfl)) ?_
        go_wp2
        go_roundw
        case rel => exact ⟨k + 1, by omega, by go_num, HR5, HE5, BK5⟩
        case measure => simp [intOf]; omega
      · obtain rfl : k = l0_3.length := by omega
        have hfx : X ++ l0_3.flatMap relL = formL a0_0 l0_1 l0_2 l0_3 := by rw [HX5.out]; rfl
        rw [List.take_length, hfx] at HR
        have hcv := HR.out.string (P := Try.prog) Try.underlying91 Try.underlying5 Try.underlying9
        have HFB : Aside0 (formB a0_0 l0_1 l0_2 l0_3 = strOfNums (formL a0_0 l0_1 l0_2 l0_3)) := Aside0.mk rfl
        generalize formL a0_0 l0_1 l0_2 l0_3 = L at hcv HFB
        clear HR hfx
        go_wp2
        go_ret2
        exact ⟨by rw [HFB.out]; first | rfl | (simp; done), HE.out⟩
  · have hb : b = false := HBC.out.trans (by simpa using hok)
    subst hb
    have HK' := HM
    have HF' : Aside0 (((⟨#[]⟩ : ByteArray), (1 : Int)) = (r1, r2)) := HF
    clear HF hok HM HBC
    obtain ⟨rfl, rfl⟩ := Prod.mk.inj HF'.out
    go_enter Try.func25, Try.ntmps25
    go_wp2_with (first
      | ((with_reducible refine gate_dst (N := 1) rfl ?_); refine box_event ?hg (N := 1) ?hd (cs := #[.string a0_0, .slice A0_1 l0_1.length c0_1, .slice A0_2 l0_2.length c0_2, .slice A0_3 l0_3.length c0_3]) (t := 30) ?hr ?_; (case hd => rfl); (case hg => rfl); (case hr => first | (go_simp; done) | (go_simp; rfl)); intro gb hg w1 hbox hb; have HG := Aside0.mk (show w.heap.size ≤ gb from by rw [hg]; simp); have HB1 := Aside0.mk (below_step HB.out hb); have BK1 := Aside0.mk hbox; clear hbox hb hg; have q0 := (blk_cell BK1.out 0).trans rfl; have q1 := (blk_cell BK1.out 1).trans rfl; have q2 := (blk_cell BK1.out 2).trans rfl; have q3 := (blk_cell BK1.out 3).trans rfl)
      | (go_at_call 59; refine (cotterref06_May.calls _ _ _ _ _ _ _ _ _ _ _ _ _ (Kd.C_below HR1.out HB1.out) HC1.out (Kd.C_below HR2.out HB1.out) HC2.out (Kd.C_below HR3.out HB1.out) HC3.out HK'.out).mono ?_; rintro e w2 ⟨rfl, hb2⟩; have HB2 := Aside0.mk (below_step HB1.out hb2); have BK2 := Aside0.mk (blk_below BK1.out hb2); clear hb2 q0 q1 q2 q3 BK1; have q0 := (blk_cell BK2.out 0).trans rfl; have q1 := (blk_cell BK2.out 1).trans rfl; have q2 := (blk_cell BK2.out 2).trans rfl; have q3 := (blk_cell BK2.out 3).trans rfl))
    go_ret2
    exact ⟨by first | rfl | (simp; done), HB2.out⟩
end Go.Proofs.Ytochgjeanajoiaa.HA
