/- Written by hand: the reference's Front (function 60). -/
import Derived.Test.YtochgjeanajoiaaM2b
import Derived.Test.YtochgjeanajoiaaM2s
import Derived.Test.YtochgjeanajoiaaM0r
namespace Go.Proofs.Ytochgjeanajoiaa.HA
open Go.RowKit Go.Proofs.YtochgjeanajoiaaW.PrintWords Go.Proofs.YtochgjeanajoiaaW.PrintLast Go.Proofs.YtochgjeanajoiaaW.PrintMore
set_option linter.unusedVariables false
set_option linter.unusedSimpArgs false

theorem bytesOf_app (a b : ByteArray) : bytesOf (a ++ b) = bytesOf a ++ bytesOf b := by
  simp [bytesOf, ByteArray.data_append]
theorem bytesOf_putB (n : Nat) : bytesOf (putB n) = putL n := bytesOf_str _ (putL_bytes n)
theorem bytesOf_le8B (n : Int) : bytesOf (le8B n) = le8 n := bytesOf_str _ (le8_bytes n)
def textB (s : ByteArray) : ByteArray := putB s.size ++ s
theorem bytesOf_textB (s : ByteArray) : bytesOf (textB s) = strL s := by rw [textB, bytesOf_app, bytesOf_putB]; rfl
theorem putB_size (n : Nat) (h : n < 18446744073709551616) : (putB n).size ≤ 11 := by rw [putB, strOfNums_size]; exact putL_len10 _ h
theorem textB_size (s : ByteArray) (h : s.size < 18446744073709551616) : (textB s).size ≤ 11 + s.size := by
  have := putB_size s.size h
  rw [textB, ByteArray.size_append]; omega
theorem rnum_c (n : Int) (w : World) (h0 : 0 ≤ n) (h1 : n ≤ 9223372036854775807) : Calls Try.prog 61 #[.int .i64 n] w fun e w' => e = .returned (.string (putB n.toNat)) ∧ Below w.heap.size w w' :=
  cotterref06_number.calls 10 n _ w (by
    unfold cotterref06_number.f
    have e : IntKind.u64.wrap n = n := by rw [wrap_u64]; omega
    rw [e, ref_Put_f h0 (by omega)]; rfl)
theorem rnum_len (n : Nat) (w : World) (h1 : n ≤ 9223372036854775807) : Calls Try.prog 61 #[.int .i64 (n : Int)] w fun e w' => e = .returned (.string (putB n)) ∧ Below w.heap.size w w' := by
  have := rnum_c (n : Int) w (by omega) (by omega)
  rwa [Int.toNat_natCast] at this
theorem rtext_c (s : ByteArray) (w : World) (h1 : s.size ≤ 1099511627776) : Calls Try.prog 62 #[.string s] w fun e w' => e = .returned (.string (textB s)) ∧ Below w.heap.size w w' :=
  cotterref06_text.calls 10 s _ w (by
    unfold cotterref06_text.f cotterref06_number.f
    have e : IntKind.u64.wrap (s.size : Int) = (s.size : Int) := by rw [wrap_u64]; omega
    have := putB_size s.size (by omega)
    rw [e, ref_Put_f (by omega) (by omega), Int.toNat_natCast]
    simp only [Option.bind_some]
    rw [if_pos (by omega)]; rfl)
theorem rwide_c (n : Int) (w : World) : Calls Try.prog 63 #[.int .i64 n] w fun e w' => e = .returned (.string (le8B n)) ∧ Below w.heap.size w w' :=
  cotterref06_wide.calls 10 n _ w (by unfold cotterref06_wide.f; rw [ref_Bytes_8]; rfl)

/-- What Front asks. -/
structure FrontOk (mark code : ByteArray) (data : List Int) (syms : List S32) : Prop where
  mark : mark.size ≤ 8
  code : code.size ≤ 65536
  data : data.length ≤ 4096
  nsyms : syms.length ≤ 1000
  syms : ∀ s ∈ syms, 0 ≤ s.f2 ∧ s.f2 ≤ 65536 ∧ s.f0.size ≤ 28
def frontB (mark code : ByteArray) (data : List Int) (syms : List S32) : ByteArray := strOfNums (frontL (bytesOf mark) code data syms)

def oneB (x : Int) : ByteArray := strOfNums [x % 256]
theorem bytesOf_oneB (x : Int) : bytesOf (oneB x) = [x % 256] := bytesOf_str _ (by simp; omega)
def R60.T10 : Bool × List (List Nat × List Nat) := (true, [([], []), ([], []), ([], []), ([1, 2], [1, 2]), ([3], [3]), ([4], [4]), ([5], [5]), ([], []), ([], []), ([7, 8], [7, 8]), ([9], [9]), ([10], [10]), ([11], [11]), ([12], [12]), ([13], [13]), ([6, 14], [6, 14]), ([], []), ([], []), ([16, 17], [16, 17]), ([18], [18]), ([19], [19]), ([20, 6], [20]), ([15, 21], [15, 21]), ([0, 22, 21], [0, 22]), ([23, 23, 0, 1, 2, 3, 4, 5, 6, 7, 8, 9, 10, 11, 12, 13, 14, 15, 16, 17, 18, 19, 20, 21, 22, 23], [0, 23])])
def R60.B10 : List Nat := [0, 0, 0, 6, 14, 30, 62, 0, 0, 384, 896, 1920, 3968, 8064, 16256, 32766, 0, 0, 196608, 458752, 983040, 2031742, 4194302, 8388607, 16777215]
theorem R60.tab10 : rtab .any (opsOf Try.f60 10) = R60.T10 := by kernel_rfl
theorem R60.bits10 : waitsOk R60.T10.2 R60.B10 = true := by kernel_rfl
set_option maxRecDepth 100000 in
set_option maxHeartbeats 4000000 in
theorem ref_Front_calls (a0 a1 : ByteArray) (A2 : Option Addr) (c2 : Nat) (l2 : List Int) (A3 : Option Addr) (c3 : Nat) (l3 : List S32) (w : World) (hr2 : Kd.C (Kd.int .i64) w A2 l2.length l2) (hr3 : Kd.C k32 w A3 l3.length l3) (h : FrontOk a0 a1 l2 l3) :
    Calls Try.prog 60 #[.string a0, .string a1, .slice A2 l2.length c2, .slice A3 l3.length c3] w fun e w' => e = .returned (.string (frontB a0 a1 l2 l3)) ∧ Below w.heap.size w w' := by
  have HR2 := Aside0.mk hr2
  have HR3 := Aside0.mk hr3
  have HF := Aside0.mk h
  have HB := Aside0.mk (Below.refl w.heap.size w)
  have hlen2 := h.data
  have hlen3 := h.nsyms
  have z1 : (textB a1).size ≤ 65547 := by have := textB_size a1 (by have := h.code; omega); have := h.code; omega
  have z2 := putB_size l2.length (by omega)
  have z0 := h.mark
  clear hr2 hr3 h
  have kv := fun (W : World) (s : ByteArray) => Lib.run_convert_string_bytes (P := Try.prog) W 9 91 5 s Try.underlying9 Try.underlying91 Try.underlying5
  go_enter Try.func60, Try.ntmps60
  go_wp2_with (first
    | (go_at_call 62; refine (rtext_c a1 _ (by have := HF.out.code; omega)).mono ?_; rintro e w1 ⟨rfl, hb1⟩; have HB1 := Aside0.mk hb1; clear hb1)
    | (go_at_call 61; refine (rnum_len l2.length _ (by omega)).mono ?_; rintro e w2 ⟨rfl, hb2⟩; have HB2 := Aside0.mk hb2; clear hb2))
  have HB3 := Aside0.mk (below_step (below_step HB1.out HB2.out) (below_bytes w2 (a0 ++ textB a1 ++ putB l2.length)))
  have HX : Aside0 (bytesOf (a0 ++ textB a1 ++ putB l2.length) = bytesOf a0 ++ strL a1 ++ putL l2.length) := Aside0.mk (by rw [bytesOf_app, bytesOf_app, bytesOf_textB, bytesOf_putB])
  have HZ : Aside0 (a0.size + (textB a1).size + (putB l2.length).size = (bytesOf (a0 ++ textB a1 ++ putB l2.length)).length) := Aside0.mk (by rw [bytesOf_length, ByteArray.size_append, ByteArray.size_append])
  have HZ2 : Aside0 ((bytesOf a0 ++ strL a1 ++ putL l2.length).length ≤ 65600) := Aside0.mk (by rw [← HX.out, ← HZ.out]; omega)
  have HR := Aside0.mk (BRow.conv (base := w.heap.size) (W := w2) (a0 ++ textB a1 ++ putB l2.length) (below_size (below_step HB1.out HB2.out)) (by simp only [ByteArray.size_append, maxLen]; omega))
  obtain ⟨X1, hX1⟩ : ∃ X1, X1 = bytesOf a0 ++ strL a1 ++ putL l2.length := ⟨_, rfl⟩
  have HX1 := Aside0.mk hX1
  rw [← hX1] at HX HZ2
  clear hX1
  rw [HX.out] at HR
  have HZ' := HZ.out
  rw [HX.out] at HZ'
  have HR' := HR.out
  rw [ByteArray.size_append, ByteArray.size_append, ← HZ'] at HR'
  clear HZ' HR
  have HR := Aside0.mk HR'
  clear HR' HX HZ
  obtain ⟨W3, hW3⟩ : ∃ W3, W3 = Lib.bytesWorld w2 5 (a0 ++ textB a1 ++ putB l2.length) := ⟨_, rfl⟩
  rw [← hW3] at HR HB3 ⊢
  clear hW3 HB1 HB2 z1 z2
  go_loopw [9, 10] (fun v i wr => ∃ k : Nat, k ≤ l2.length ∧ i = .int .i64 k ∧ Aside0 (BRow w.heap.size wr v (X1 ++ (l2.take k).flatMap le8)) ∧ Aside0 (Below w.heap.size w wr)) (fun _ i _ => l2.length - (intOf i).toNat)
  case atStart => exact ⟨0, Nat.zero_le _, rfl, ⟨by simpa using HR.out⟩, HB3⟩
  case round =>
    clear HR HB3
    obtain ⟨k, hk, rfl, HR, HE⟩ := hrel
    by_cases hlt : k < l2.length
    · obtain ⟨ad, rfl, hc⟩ := Kd.at_int (Kd.C_below HR2.out HE.out) (k : Int) (by omega) (by omega)
      rw [Int.toNat_natCast] at hc
      obtain ⟨x, hx⟩ : ∃ x, l2[k]? = some x := ⟨_, List.getElem?_eq_getElem hlt⟩
      rw [show rd l2 (k : Int) = x from by simp [rd, hx]] at hc
      have HX := Aside0.mk hx
      clear hx
      have HL : Aside0 ((X1 ++ (l2.take k).flatMap le8).length ≤ 65600 + 8 * k) := Aside0.mk (by have := HZ2.out; have := flatMap_len le8 8 (l2.take k) (fun x _ => Nat.le_of_eq (le8_len x)); have := List.length_take_le k l2; rw [List.length_append]; omega)
      go_wp2_with (first
        | (go_at_call 63; refine (rwide_c x _).mono ?_; rintro e w4 ⟨rfl, hb4⟩; have HE4 := Aside0.mk (below_step HE.out hb4); have HR4 := Aside0.mk (HR.out.below hb4); clear hb4 HE HR hc)
        | (at_builtin; refine brow_append (w0 := w) w.heap.size rfl _ _ 91 9 rfl Try.underlying91 Try.underlying9 info5 _ _ (le8B x) rfl rfl HR4.out HE4.out (below_size HE4.out) (by have := HL.out; have : (le8B x).size = 8 := (by simp [le8B, strOfNums_size, le8]); omega) ?_; intro v5 w5 hr5 hb5; rw [bytesOf_le8B, List.append_assoc, ← flatMap_take_succ le8 l2 k x HX.out] at hr5; have HR5 := Aside0.mk hr5; have HE5 := Aside0.mk hb5; clear hr5 hb5 HR4 HE4))
      go_roundw
      case rel => exact ⟨k + 1, by omega, by go_num, HR5, HE5⟩
      case measure => simp [intOf]; omega
    · obtain rfl : k = l2.length := by omega
      rw [List.take_length] at HR
      clear hlt hlen2 hk
      have HL : Aside0 ((X1 ++ l2.flatMap le8).length ≤ 98400) := Aside0.mk (by have := HZ2.out; have := HF.out.data; have := flatMap_len le8 8 l2 (fun x _ => Nat.le_of_eq (le8_len x)); rw [List.length_append]; omega)
      go_wp2_with (first
        | (go_at_call 61; refine (rnum_len l3.length _ (by omega)).mono ?_; rintro e w4 ⟨rfl, hb4⟩; have HE4 := Aside0.mk (below_step HE.out hb4); have HR4 := Aside0.mk (HR.out.below hb4); clear hb4 HE HR)
        | (at_builtin; refine brow_append (w0 := w) w.heap.size rfl _ _ 91 9 rfl Try.underlying91 Try.underlying9 info5 _ _ (putB l3.length) rfl rfl HR4.out HE4.out (below_size HE4.out) (by have := HL.out; have := putB_size l3.length (by omega); omega) ?_; intro v5 w5 hr5 hb5; rw [bytesOf_putB] at hr5; have HR5 := Aside0.mk hr5; have HE5 := Aside0.mk hb5; clear hr5 hb5 HR4 HE4))
      have HZ3 : Aside0 ((X1 ++ l2.flatMap le8 ++ putL l3.length).length ≤ 98411) := Aside0.mk (by have := HL.out; have := putL_len10 l3.length (by omega); rw [List.length_append]; omega)
      have HXX : Aside0 (X1 ++ l2.flatMap le8 ++ putL l3.length ++ l3.flatMap symL = frontL (bytesOf a0) a1 l2 l3) := Aside0.mk (by rw [HX1.out]; simp [frontL, List.append_assoc])
      generalize X1 ++ l2.flatMap le8 ++ putL l3.length = X2 at HR5 HZ3 HXX
      clear HL HZ2
      have HR := HR5
      have HE := HE5
      clear HR5 HE5
      go_loopw [9, 11] (fun v i wr => ∃ k : Nat, k ≤ l3.length ∧ i = .int .i64 k ∧ Aside0 (BRow w.heap.size wr v (X2 ++ (l3.take k).flatMap symL)) ∧ Aside0 (Below w.heap.size w wr)) (fun _ i _ => l3.length - (intOf i).toNat)
      case atStart => exact ⟨0, Nat.zero_le _, rfl, ⟨by simpa using HR.out⟩, HE⟩
      case round =>
        clear HR HE
        obtain ⟨k, hk, rfl, HR, HE⟩ := hrel
        by_cases hlt : k < l3.length
        · obtain ⟨ad, rfl, g0, g1, g2⟩ := at_T32 (Kd.C_below HR3.out HE.out) (k : Int) (by omega) (by omega)
          simp only [Int.toNat_natCast] at g0 g1 g2
          obtain ⟨x, hx⟩ : ∃ x, l3[k]? = some x := ⟨_, List.getElem?_eq_getElem hlt⟩
          rw [show rd_T32 l3 (k : Int) = x from by simp [rd_T32, hx]] at g0 g1 g2
          obtain ⟨q0, q1, q2⟩ := HF.out.syms x (List.mem_of_getElem? hx)
          have HX := Aside0.mk hx
          clear hx
          obtain ⟨nm, kd, pl⟩ := x
          dsimp only at g0 g1 g2 q0 q1 q2
          have HL : Aside0 ((X2 ++ (l3.take k).flatMap symL).length ≤ 98411 + 51 * k) := Aside0.mk (by
            have := HZ3.out
            have := flatMap_len symL 51 (l3.take k) (fun x hx => by
              obtain ⟨y0, y1, y2⟩ := HF.out.syms x (List.mem_of_mem_take hx)
              have := putL_len10 x.f0.size (by omega)
              have := putL_len10 x.f2.toNat (by omega)
              simp only [symL, strL, List.length_append, bytesOf_length, List.length_singleton]
              omega)
            have := List.length_take_le k l3
            rw [List.length_append]; omega)
          go_wp2
          refine start_ (n := 25) (S := fun w' => w'.cell? (ad.add (k * 3)) = some (.string nm) ∧ w'.cell? ⟨(ad.add (k * 3)).block, (ad.add (k * 3)).off + 1, none⟩ = some (.int .i64 kd) ∧ w'.cell? ⟨(ad.add (k * 3)).block, (ad.add (k * 3)).off + 2, none⟩ = some (.int .i64 pl)) (ds := [23]) #[false, false, false, false, false, false, false, false, false, false, false, false, false, false, false, false, false, false, false, false, false, false, false, false, false] (by kernel_rfl) rfl rfl ?_ (fun hHeld => ?_)
          case refine_1 => exact ⟨g0, g1, g2⟩
          refine with_tabW R60.tab10 R60.bits10 (fun HT_ HW_ => ?_)
          refine pure_ (i := 0) (N := some 45) (v := ?_) (a' := ?_) #[true, false, false, false, false, false, false, false, false, false, false, false, false, false, false, false, false, false, false, false, false, false, false, false, false] rfl rfl (any_of HT_.out (by kernel_rfl)) (fun _ _ _ h => h) (Or.inl ⟨by rfl, ?_⟩) ?_ ?_
          rotate_left
          · intro w'
            go_simp
            with_reducible rfl
          rotate_left
          · simp only [Act.put, List.setIfInBounds_toArray, List.set_cons_zero, List.set_cons_succ, i64_w, i32_w]
            rfl
          refine pure_ (i := 1) (N := some 46) (v := ?_) (a' := ?_) #[true, true, false, false, false, false, false, false, false, false, false, false, false, false, false, false, false, false, false, false, false, false, false, false, false] rfl rfl (any_of HT_.out (by kernel_rfl)) (fun _ _ _ h => h) (Or.inl ⟨by rfl, ?_⟩) ?_ ?_
          rotate_left
          · intro w'
            go_simp
            with_reducible rfl
          rotate_left
          · simp only [Act.put, List.setIfInBounds_toArray, List.set_cons_zero, List.set_cons_succ, i64_w, i32_w]
            rfl
          refine pure_ (i := 2) (N := some 47) (v := ?_) (a' := ?_) #[true, true, true, false, false, false, false, false, false, false, false, false, false, false, false, false, false, false, false, false, false, false, false, false, false] rfl rfl (any_of HT_.out (by kernel_rfl)) (fun _ _ _ h => h) (Or.inl ⟨by rfl, ?_⟩) ?_ ?_
          rotate_left
          · intro w'
            go_simp
            with_reducible rfl
          rotate_left
          · simp only [Act.put, List.setIfInBounds_toArray, List.set_cons_zero, List.set_cons_succ, i64_w, i32_w]
            rfl
          refine pure_ (i := 3) (N := some 48) (v := ?_) (a' := ?_) #[true, true, true, true, false, false, false, false, false, false, false, false, false, false, false, false, false, false, false, false, false, false, false, false, false] rfl rfl (any_of HT_.out (by kernel_rfl)) (fun _ _ _ h => h) (Or.inl ⟨by rfl, ?_⟩) ?_ ?_
          rotate_left
          · intro w'
            go_simp
            with_reducible rfl
          rotate_left
          · simp only [Act.put, List.setIfInBounds_toArray, List.set_cons_zero, List.set_cons_succ, i64_w, i32_w]
            rfl
          refine pure_ (i := 4) (N := some 49) (v := ?_) (a' := ?_) #[true, true, true, true, true, false, false, false, false, false, false, false, false, false, false, false, false, false, false, false, false, false, false, false, false] rfl rfl (any_of HT_.out (by kernel_rfl)) (fun _ _ _ h => h) (Or.inl ⟨by rfl, ?_⟩) ?_ ?_
          rotate_left
          · intro w'
            go_simp
            with_reducible rfl
          rotate_left
          · simp only [Act.put, List.setIfInBounds_toArray, List.set_cons_zero, List.set_cons_succ, i64_w, i32_w]
            rfl
          refine take_ (i := 5) (N := some 50) (v := ?_) (a' := ?_) #[true, true, true, true, true, true, false, false, false, false, false, false, false, false, false, false, false, false, false, false, false, false, false, false, false] rfl rfl (take_ofW HT_.out HW_.out (by kernel_rfl)) (fun _ _ _ h => h) (Or.inl ⟨by rfl, ?_⟩) hHeld ?_ ?_
          rotate_left
          · rintro w' ⟨s0, s1, s2⟩
            go_simp
            with_reducible rfl
          rotate_left
          · simp only [Act.put, List.setIfInBounds_toArray, List.set_cons_zero, List.set_cons_succ, i64_w, i32_w]
            rfl
          refine pure_ (i := 7) (N := some 52) (v := ?_) (a' := ?_) #[true, true, true, true, true, true, false, true, false, false, false, false, false, false, false, false, false, false, false, false, false, false, false, false, false] rfl rfl (any_of HT_.out (by kernel_rfl)) (fun _ _ _ h => h) (Or.inl ⟨by rfl, ?_⟩) ?_ ?_
          rotate_left
          · intro w'
            go_simp
            with_reducible rfl
          rotate_left
          · simp only [Act.put, List.setIfInBounds_toArray, List.set_cons_zero, List.set_cons_succ, i64_w, i32_w]
            rfl
          refine pure_ (i := 8) (N := some 53) (v := ?_) (a' := ?_) #[true, true, true, true, true, true, false, true, true, false, false, false, false, false, false, false, false, false, false, false, false, false, false, false, false] rfl rfl (any_of HT_.out (by kernel_rfl)) (fun _ _ _ h => h) (Or.inl ⟨by rfl, ?_⟩) ?_ ?_
          rotate_left
          · intro w'
            go_simp
            with_reducible rfl
          rotate_left
          · simp only [Act.put, List.setIfInBounds_toArray, List.set_cons_zero, List.set_cons_succ, i64_w, i32_w]
            rfl
          refine pure_ (i := 9) (N := some 54) (v := ?_) (a' := ?_) #[true, true, true, true, true, true, false, true, true, true, false, false, false, false, false, false, false, false, false, false, false, false, false, false, false] rfl rfl (any_of HT_.out (by kernel_rfl)) (fun _ _ _ h => h) (Or.inl ⟨by rfl, ?_⟩) ?_ ?_
          rotate_left
          · intro w'
            go_simp
            with_reducible rfl
          rotate_left
          · simp only [Act.put, List.setIfInBounds_toArray, List.set_cons_zero, List.set_cons_succ, i64_w, i32_w]
            rfl
          refine pure_ (i := 10) (N := some 55) (v := ?_) (a' := ?_) #[true, true, true, true, true, true, false, true, true, true, true, false, false, false, false, false, false, false, false, false, false, false, false, false, false] rfl rfl (any_of HT_.out (by kernel_rfl)) (fun _ _ _ h => h) (Or.inl ⟨by rfl, ?_⟩) ?_ ?_
          rotate_left
          · intro w'
            go_simp
            with_reducible rfl
          rotate_left
          · simp only [Act.put, List.setIfInBounds_toArray, List.set_cons_zero, List.set_cons_succ, i64_w, i32_w]
            rfl
          refine take_ (i := 11) (N := some 56) (v := ?_) (a' := ?_) #[true, true, true, true, true, true, false, true, true, true, true, true, false, false, false, false, false, false, false, false, false, false, false, false, false] rfl rfl (take_ofW HT_.out HW_.out (by kernel_rfl)) (fun _ _ _ h => h) (Or.inl ⟨by rfl, ?_⟩) hHeld ?_ ?_
          rotate_left
          · rintro w' ⟨s0, s1, s2⟩
            go_simp
            with_reducible rfl
          rotate_left
          · simp only [Act.put, List.setIfInBounds_toArray, List.set_cons_zero, List.set_cons_succ, i64_w, i32_w]
            rfl
          refine pure_ (i := 12) (N := some 57) (v := ?_) (a' := ?_) #[true, true, true, true, true, true, false, true, true, true, true, true, true, false, false, false, false, false, false, false, false, false, false, false, false] rfl rfl (any_of HT_.out (by kernel_rfl)) (fun _ _ _ h => h) (Or.inl ⟨by rfl, ?_⟩) ?_ ?_
          rotate_left
          · intro w'
            go_simp
            with_reducible rfl
          rotate_left
          · simp only [Act.put, List.setIfInBounds_toArray, List.set_cons_zero, List.set_cons_succ, i64_w, i32_w]
            rfl
          refine pure_ (i := 16) (N := some 61) (v := ?_) (a' := ?_) #[true, true, true, true, true, true, false, true, true, true, true, true, true, false, false, false, true, false, false, false, false, false, false, false, false] rfl rfl (any_of HT_.out (by kernel_rfl)) (fun _ _ _ h => h) (Or.inl ⟨by rfl, ?_⟩) ?_ ?_
          rotate_left
          · intro w'
            go_simp
            with_reducible rfl
          rotate_left
          · simp only [Act.put, List.setIfInBounds_toArray, List.set_cons_zero, List.set_cons_succ, i64_w, i32_w]
            rfl
          refine pure_ (i := 17) (N := some 62) (v := ?_) (a' := ?_) #[true, true, true, true, true, true, false, true, true, true, true, true, true, false, false, false, true, true, false, false, false, false, false, false, false] rfl rfl (any_of HT_.out (by kernel_rfl)) (fun _ _ _ h => h) (Or.inl ⟨by rfl, ?_⟩) ?_ ?_
          rotate_left
          · intro w'
            go_simp
            with_reducible rfl
          rotate_left
          · simp only [Act.put, List.setIfInBounds_toArray, List.set_cons_zero, List.set_cons_succ, i64_w, i32_w]
            rfl
          refine pure_ (i := 18) (N := some 63) (v := ?_) (a' := ?_) #[true, true, true, true, true, true, false, true, true, true, true, true, true, false, false, false, true, true, true, false, false, false, false, false, false] rfl rfl (any_of HT_.out (by kernel_rfl)) (fun _ _ _ h => h) (Or.inl ⟨by rfl, ?_⟩) ?_ ?_
          rotate_left
          · intro w'
            go_simp
            with_reducible rfl
          rotate_left
          · simp only [Act.put, List.setIfInBounds_toArray, List.set_cons_zero, List.set_cons_succ, i64_w, i32_w]
            rfl
          refine pure_ (i := 19) (N := some 64) (v := ?_) (a' := ?_) #[true, true, true, true, true, true, false, true, true, true, true, true, true, false, false, false, true, true, true, true, false, false, false, false, false] rfl rfl (any_of HT_.out (by kernel_rfl)) (fun _ _ _ h => h) (Or.inl ⟨by rfl, ?_⟩) ?_ ?_
          rotate_left
          · intro w'
            go_simp
            with_reducible rfl
          rotate_left
          · simp only [Act.put, List.setIfInBounds_toArray, List.set_cons_zero, List.set_cons_succ, i64_w, i32_w]
            rfl
          refine take_ (i := 20) (N := some 65) (v := ?_) (a' := ?_) #[true, true, true, true, true, true, false, true, true, true, true, true, true, false, false, false, true, true, true, true, true, false, false, false, false] rfl rfl (take_ofW HT_.out HW_.out (by kernel_rfl)) (fun _ _ _ h => h) (Or.inl ⟨by rfl, ?_⟩) hHeld ?_ ?_
          rotate_left
          · rintro w' ⟨s0, s1, s2⟩
            go_simp
            with_reducible rfl
          rotate_left
          · simp only [Act.put, List.setIfInBounds_toArray, List.set_cons_zero, List.set_cons_succ, i64_w, i32_w]
            rfl
          refine calm_ HT_.out [6, 13, 14, 15, 21, 22] #[true, true, true, true, true, true, false, true, true, true, true, true, true, false, false, false, true, true, true, true, true, false, false, false, false] #[true, true, true, true, true, true, true, true, true, true, true, true, true, true, true, true, true, true, true, true, true, true, true, false, false] (by kernel_rfl) rfl ?I ?h0 ?hstep ?hend
          case I => exact fun a1 bs a w' => ∃ (b0 b1 b2 b3 b4 b5 : Bool) (nb : Nat), bs = [b0, b1, b2, b3, b4, b5] ∧ a = putIf b5 67 (.string (textB nm ++ oneB kd ++ putB pl.toNat)) (putIf b4 66 (.string (putB pl.toNat)) (putIf b3 60 (.string (textB nm ++ oneB kd)) (putIf b2 59 (.string (oneB kd)) (putIf b1 58 (.slice (some ⟨nb, 0, none⟩) 1 1) (putIf b0 51 (.string (textB nm)) (a1)))))) ∧ Aside0 (Below w.heap.size w w') ∧ Aside0 (BRow w.heap.size w' u9 (X2 ++ (l3.take k).flatMap symL)) ∧ Aside0 (b1 = true → w'.heap[nb]? = some (.cells #[.int .u8 (kd % 256)] 5 (0, 0)))
          case h0 => exact ⟨false, false, false, false, false, false, 0, rfl, rfl, ⟨below_drew HE.out⟩, ⟨HR.out⟩, ⟨fun h => by cases h⟩⟩
          case hstep =>
            rintro j i r hj hr bs a w' hb hn ⟨b0, b1, b2, b3, b4, b5, nb, rfl, ha, HE, HR, hnb⟩
            have HA := Aside0.mk ha
            clear ha
            rcases j with _ | _ | _ | _ | _ | _ | j
            · obtain rfl : 6 = i := Option.some.inj hj
              obtain rfl : (([5], [5]) : List Nat × List Nat) = r := Option.some.inj hr
              obtain rfl : b0 = false := Option.some.inj hb
              clear hj hr hb hn
              refine wpOp_step (by rfl) (fun K hK => ?_)
              have e50 : a.eval (.tmp 50) = .string nm := by rw [HA.out]; simp only [eval_putIf_ne, ne_eq, Nat.reduceEqDiff, not_false_eq_true]; rfl
              have f50 : a.tmps[50]?.getD undef = .string nm := (by have := e50; simpa [Act.eval, Array.getD_eq_getD_getElem?] using this)
              refine goes_ (N := some 51) Try.func62 (by kernel_rfl) rfl #[.string nm] (by rfl) rfl rfl (by simp only [List.map_toArray, List.map_cons, List.map_nil]; exact congrArg (fun z => #[z]) e50) ?_
              refine (rtext_c nm w' (by omega)).mono ?_
              rintro e w1 ⟨rfl, hb1⟩
              refine ⟨_, rfl, hK _ _ ⟨fun _ hS => ⟨pw_cell_below hb1 hS.1, pw_cell_below hb1 hS.2.1, pw_cell_below hb1 hS.2.2⟩, ?_⟩⟩
              exact ⟨_, _, _, _, _, _, nb, rfl, by show Act.put _ (some 51) _ = _; rw [HA.out]; simp only [put_putIf, putIf_true, putIf_false, ne_eq, Nat.reduceEqDiff, not_false_eq_true], ⟨below_step HE.out hb1⟩, ⟨HR.out.below hb1⟩, ⟨fun h => blk_below (hnb.out h) hb1⟩⟩
            · obtain rfl : 13 = i := Option.some.inj hj
              obtain rfl : (([12], [12]) : List Nat × List Nat) = r := Option.some.inj hr
              obtain rfl : b1 = false := Option.some.inj hb
              clear hj hr hb hn
              refine wpOp_step (by rfl) (fun K hK => ?_)
              have e57 : a.eval (.tmp 57) = .int .u8 (kd % 256) := by rw [HA.out]; simp only [eval_putIf_ne, ne_eq, Nat.reduceEqDiff, not_false_eq_true]; rfl
              have f57 : a.tmps[57]?.getD undef = .int .u8 (kd % 256) := (by have := e57; simpa [Act.eval, Array.getD_eq_getD_getElem?] using this)
              refine event_step (w1 := w'.alloc (.cells #[.int .u8 (kd % 256)] 5 (0, 0))) (v := .slice (some ⟨w'.heap.size, 0, none⟩) 1 1) (by rfl) ?hrun ?_
              case hrun => first | (go_simp; done) | (go_simp; rfl)
              have hb1 := below_alloc (Below.refl w'.heap.size w') (.cells #[.int .u8 (kd % 256)] 5 (0, 0))
              refine hK _ _ ⟨fun _ hS => ⟨pw_cell_below hb1 hS.1, pw_cell_below hb1 hS.2.1, pw_cell_below hb1 hS.2.2⟩, ?_⟩
              exact ⟨_, _, _, _, _, _, w'.heap.size, rfl, by show Act.put _ (some 58) _ = _; rw [HA.out]; simp only [put_putIf, putIf_true, putIf_false, ne_eq, Nat.reduceEqDiff, not_false_eq_true], ⟨below_step HE.out hb1⟩, ⟨HR.out.below hb1⟩, ⟨fun _ => blk_new w' _⟩⟩
            · obtain rfl : 14 = i := Option.some.inj hj
              obtain rfl : (([13], [13]) : List Nat × List Nat) = r := Option.some.inj hr
              obtain rfl : b2 = false := Option.some.inj hb
              obtain rfl : b1 = true := Option.some.inj (hn 1 13 rfl (by rfl))
              clear hj hr hb hn
              refine wpOp_step (by rfl) (fun K hK => ?_)
              have e58 : a.eval (.tmp 58) = .slice (some ⟨nb, 0, none⟩) 1 1 := by rw [HA.out]; simp only [eval_putIf_ne, ne_eq, Nat.reduceEqDiff, not_false_eq_true]; exact eval_putIf_eq (by simp only [size_putIf]; show 58 < 71; decide)
              have f58 : a.tmps[58]?.getD undef = .slice (some ⟨nb, 0, none⟩) 1 1 := (by have := e58; simpa [Act.eval, Array.getD_eq_getD_getElem?] using this)
              have hc := run_convert_bytes_arg (P := Try.prog) w' 91 5 Try.underlying91 Try.underlying5 nb 0 1 1 [kd % 256] rfl (fun i hi => (by obtain rfl : i = 0 := (by omega); exact (blk_cell (hnb.out rfl) 0).trans rfl)) 9 Try.underlying9
              refine event_step (w1 := w') (v := .string (oneB kd)) (by rfl) ?hrun ?_
              case hrun => go_simp; rfl
              refine hK _ _ ⟨fun _ hS => hS, ?_⟩
              exact ⟨_, _, _, _, _, _, nb, rfl, by show Act.put _ (some 59) _ = _; rw [HA.out]; simp only [put_putIf, putIf_true, putIf_false, ne_eq, Nat.reduceEqDiff, not_false_eq_true], HE, HR, hnb⟩
            · obtain rfl : 15 = i := Option.some.inj hj
              obtain rfl : (([6, 14], [6, 14]) : List Nat × List Nat) = r := Option.some.inj hr
              obtain rfl : b3 = false := Option.some.inj hb
              obtain rfl : b0 = true := Option.some.inj (hn 0 6 rfl (by rfl))
              obtain rfl : b2 = true := Option.some.inj (hn 2 14 rfl (by rfl))
              clear hj hr hb hn
              refine wpOp_step (by rfl) (fun K hK => ?_)
              have e51 : a.eval (.tmp 51) = .string (textB nm) := by rw [HA.out]; simp only [eval_putIf_ne, ne_eq, Nat.reduceEqDiff, not_false_eq_true]; exact eval_putIf_eq (by simp only [size_putIf]; show 51 < 71; decide)
              have f51 : a.tmps[51]?.getD undef = .string (textB nm) := (by have := e51; simpa [Act.eval, Array.getD_eq_getD_getElem?] using this)
              have e59 : a.eval (.tmp 59) = .string (oneB kd) := by rw [HA.out]; simp only [eval_putIf_ne, ne_eq, Nat.reduceEqDiff, not_false_eq_true]; exact eval_putIf_eq (by simp only [size_putIf]; show 59 < 71; decide)
              have f59 : a.tmps[59]?.getD undef = .string (oneB kd) := (by have := e59; simpa [Act.eval, Array.getD_eq_getD_getElem?] using this)
              have hz1 := textB_size nm (by omega)
              have hz2 : (oneB kd).size = 1 := by simp [oneB, strOfNums_size]
              refine event_step (w1 := w') (v := .string (textB nm ++ oneB kd)) (by rfl) ?hrun ?_
              case hrun => go_simp; omega
              refine hK _ _ ⟨fun _ hS => hS, ?_⟩
              exact ⟨_, _, _, _, _, _, nb, rfl, by show Act.put _ (some 60) _ = _; rw [HA.out]; simp only [put_putIf, putIf_true, putIf_false, ne_eq, Nat.reduceEqDiff, not_false_eq_true], HE, HR, hnb⟩
            · obtain rfl : 21 = i := Option.some.inj hj
              obtain rfl : (([20, 6], [20]) : List Nat × List Nat) = r := Option.some.inj hr
              obtain rfl : b4 = false := Option.some.inj hb
              obtain rfl : b0 = true := Option.some.inj (hn 0 6 rfl (by rfl))
              clear hj hr hb hn
              refine wpOp_step (by rfl) (fun K hK => ?_)
              have e65 : a.eval (.tmp 65) = .int .i64 pl := by rw [HA.out]; simp only [eval_putIf_ne, ne_eq, Nat.reduceEqDiff, not_false_eq_true]; rfl
              have f65 : a.tmps[65]?.getD undef = .int .i64 pl := (by have := e65; simpa [Act.eval, Array.getD_eq_getD_getElem?] using this)
              refine goes_ (N := some 66) Try.func61 (by kernel_rfl) rfl #[.int .i64 pl] (by rfl) rfl rfl (by simp only [List.map_toArray, List.map_cons, List.map_nil]; exact congrArg (fun z => #[z]) e65) ?_
              refine (rnum_c pl w' (by omega) (by omega)).mono ?_
              rintro e w1 ⟨rfl, hb1⟩
              refine ⟨_, rfl, hK _ _ ⟨fun _ hS => ⟨pw_cell_below hb1 hS.1, pw_cell_below hb1 hS.2.1, pw_cell_below hb1 hS.2.2⟩, ?_⟩⟩
              exact ⟨_, _, _, _, _, _, nb, rfl, by show Act.put _ (some 66) _ = _; rw [HA.out]; simp only [put_putIf, putIf_true, putIf_false, ne_eq, Nat.reduceEqDiff, not_false_eq_true], ⟨below_step HE.out hb1⟩, ⟨HR.out.below hb1⟩, ⟨fun h => blk_below (hnb.out h) hb1⟩⟩
            · obtain rfl : 22 = i := Option.some.inj hj
              obtain rfl : (([15, 21], [15, 21]) : List Nat × List Nat) = r := Option.some.inj hr
              obtain rfl : b5 = false := Option.some.inj hb
              obtain rfl : b3 = true := Option.some.inj (hn 3 15 rfl (by rfl))
              obtain rfl : b4 = true := Option.some.inj (hn 4 21 rfl (by rfl))
              clear hj hr hb hn
              refine wpOp_step (by rfl) (fun K hK => ?_)
              have e60 : a.eval (.tmp 60) = .string (textB nm ++ oneB kd) := by rw [HA.out]; simp only [eval_putIf_ne, ne_eq, Nat.reduceEqDiff, not_false_eq_true]; exact eval_putIf_eq (by simp only [size_putIf]; show 60 < 71; decide)
              have f60 : a.tmps[60]?.getD undef = .string (textB nm ++ oneB kd) := (by have := e60; simpa [Act.eval, Array.getD_eq_getD_getElem?] using this)
              have e66 : a.eval (.tmp 66) = .string (putB pl.toNat) := by rw [HA.out]; simp only [eval_putIf_ne, ne_eq, Nat.reduceEqDiff, not_false_eq_true]; exact eval_putIf_eq (by simp only [size_putIf]; show 66 < 71; decide)
              have f66 : a.tmps[66]?.getD undef = .string (putB pl.toNat) := (by have := e66; simpa [Act.eval, Array.getD_eq_getD_getElem?] using this)
              have hz1 := textB_size nm (by omega)
              have hz2 : (oneB kd).size = 1 := by simp [oneB, strOfNums_size]
              have hz3 := putB_size pl.toNat (by omega)
              refine event_step (w1 := w') (v := .string (textB nm ++ oneB kd ++ putB pl.toNat)) (by rfl) ?hrun ?_
              case hrun => go_simp; omega
              refine hK _ _ ⟨fun _ hS => hS, ?_⟩
              exact ⟨_, _, _, _, _, _, nb, rfl, by show Act.put _ (some 67) _ = _; rw [HA.out]; simp only [put_putIf, putIf_true, putIf_false, ne_eq, Nat.reduceEqDiff, not_false_eq_true], HE, HR, hnb⟩
            · simp at hj
          rintro a w' ⟨b0, b1, b2, b3, b4, b5, nb, hbs, rfl, HE, HR, hnb⟩
          simp only [List.map_cons, List.map_nil, List.cons.injEq, and_true] at hbs
          obtain ⟨rfl, rfl, rfl, rfl, rfl, rfl⟩ := hbs
          simp only [putIf_true, Act.put, List.setIfInBounds_toArray, List.set_cons_zero, List.set_cons_succ]
          refine last_ (i := 23) (N := some 68) #[true, true, true, true, true, true, true, true, true, true, true, true, true, true, true, true, true, true, true, true, true, true, true, true, false] rfl rfl (one_of HT_.out (by kernel_rfl)) (by decide) (fun K hK => ?_)
          refine step_brow (w0 := w) w.heap.size rfl _ _ 91 9 rfl Try.underlying91 Try.underlying9 info5 u9 (X2 ++ (l3.take k).flatMap symL) (textB nm ++ oneB kd ++ putB pl.toNat) rfl rfl HR.out HE.out (below_size HE.out) (by have := HL.out; have := textB_size nm (by omega); have := putB_size pl.toNat (by omega); have : (oneB kd).size = 1 := (by simp [oneB, strOfNums_size]); simp only [ByteArray.size_append]; omega) ?_
          intro v5 w5 hr5 hb5 _
          rw [show bytesOf (textB nm ++ oneB kd ++ putB pl.toNat) = symL ⟨nm, kd, pl⟩ from (by rw [bytesOf_app, bytesOf_app, bytesOf_textB, bytesOf_oneB, bytesOf_putB]; rfl), List.append_assoc, ← flatMap_take_succ symL l3 k _ HX.out] at hr5
          have HR5 := Aside0.mk hr5
          have HE5 := Aside0.mk hb5
          clear hr5 hb5
          refine hK.out _ _ ?_
          clear hHeld HR HE
          clear hK K
          refine norm_ (a' := ?_) ?_ ?_
          rotate_left
          · show Act.put _ (some 68) _ = _
            simp only [Act.put, List.setIfInBounds_toArray, List.set_cons_zero, List.set_cons_succ, i64_w, i32_w]
            try rfl
          refine pure_ (i := 24) (N := some 9) (v := ?_) (a' := ?_) #[true, true, true, true, true, true, true, true, true, true, true, true, true, true, true, true, true, true, true, true, true, true, true, true, true] rfl rfl (any_of HT_.out (by kernel_rfl)) (fun _ _ _ h => h) (Or.inl ⟨by rfl, ?_⟩) ?_ ?_
          rotate_left
          · intro w'
            go_simp
            with_reducible rfl
          rotate_left
          · simp only [Act.put, List.setIfInBounds_toArray, List.set_cons_zero, List.set_cons_succ, i64_w, i32_w]
            rfl
          refine done_ (done_of HT_.out (by kernel_rfl)) ?_

          go_wp2
          go_roundw
          case rel => exact ⟨k + 1, by omega, by go_num, HR5, HE5⟩
          case measure => simp [intOf]; omega
        · obtain rfl : k = l3.length := by omega
          rw [List.take_length, HXX.out] at HR
          have hcv := HR.out.string (P := Try.prog) Try.underlying91 Try.underlying5 Try.underlying9
          have HFB : Aside0 (frontB a0 a1 l2 l3 = strOfNums (frontL (bytesOf a0) a1 l2 l3)) := Aside0.mk rfl
          generalize frontL (bytesOf a0) a1 l2 l3 = L at hcv HFB
          clear HR HXX
          go_wp2
          go_ret
          exact ⟨by rw [HFB.out]; rfl, HE.out⟩
end Go.Proofs.Ytochgjeanajoiaa.HA
