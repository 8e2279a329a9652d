/- Written by hand: the contract of objf.Write (function 24). -/
import Derived.Test.YtochgjeanajoiaaM2s
import Derived.Lib.SlBytesConst
namespace Go.Proofs.Ytochgjeanajoiaa.HA
open Go.RowKit Go.Proofs.YtochgjeanajoiaaW.PrintWords Go.Proofs.YtochgjeanajoiaaW.PrintLast Go.Proofs.YtochgjeanajoiaaW.PrintMore
set_option linter.unusedVariables false
set_option linter.unusedSimpArgs false

set_option maxRecDepth 100000 in
set_option maxHeartbeats 8000000 in
theorem objf_Write.calls (a0_0 : ByteArray) (A0_1 : Option Addr) (c0_1 : Nat) (l0_1 : List Int) (A0_2 : Option Addr) (c0_2 : Nat) (l0_2 : List (S32)) (A0_3 : Option Addr) (c0_3 : Nat) (l0_3 : List (S34)) (r1 : ByteArray) (r2 : Int) (w : World) (hr0_1 : Kd.C (Kd.int .i64) w A0_1 l0_1.length l0_1) (hc0_1 : l0_1.length ≤ c0_1) (hr0_2 : Kd.C k32 w A0_2 l0_2.length l0_2) (hc0_2 : l0_2.length ≤ c0_2) (hr0_3 : Kd.C k34 w A0_3 l0_3.length l0_3) (hc0_3 : l0_3.length ≤ c0_3) (h : objf_Write.f a0_0 l0_1 l0_2 l0_3 = some (r1, r2)) :
    Calls Try.prog 24 #[.agg #[.string a0_0, .slice A0_1 l0_1.length c0_1, .slice A0_2 l0_2.length c0_2, .slice A0_3 l0_3.length c0_3]] w fun e w' => e = .returned (.tuple #[.string r1, .int .i64 r2]) ∧ Below w.heap.size w w' := by
  have hu30 := Try.underlying30
  have hu32 := Try.underlying32
  have hu34 := Try.underlying34
  have hu99 := Try.underlying99
  have HR1 := Aside0.mk hr0_1
  have HR2 := Aside0.mk hr0_2
  have HR3 := Aside0.mk hr0_3
  have HC1 := Aside0.mk hc0_1
  have HC2 := Aside0.mk hc0_2
  have HC3 := Aside0.mk hc0_3
  have HF := Aside0.mk (Option.some.inj h)
  have HB := Aside0.mk (Below.refl w.heap.size w)
  have hlen3 := hr0_3.2.1
  clear hr0_1 hr0_2 hr0_3 hc0_1 hc0_2 hc0_3 h
  by_cases hok : checkOk a0_0 l0_1 l0_2 l0_3 = true
  · have HCK := Aside0.mk (checked hok)
    have HK' : Aside0 (objf_Check.f (2 * l0_3.length + 1) a0_0 l0_1 l0_2 l0_3 = some 0) := Aside0.mk (by rw [check_f a0_0 l0_1 l0_2 l0_3 (by have := HCK.out.nrels; omega) _ (Nat.le_refl _), if_pos hok])
    have HF' : Aside0 ((formB a0_0 l0_1 l0_2 l0_3, (0 : Int)) = (r1, r2)) := Aside0.mk (by rw [← HF.out, if_pos hok])
    clear HF hok
    obtain ⟨rfl, rfl⟩ := Prod.mk.inj HF'.out
    have kc := fun (w : World) (C : Array Value) (n c : Nat) => Lib.run_convert_bytes_const (P := Try.prog) w 91 5 C n c Try.underlying91 Try.underlying5
    go_enter Try.func24, Try.ntmps24
    go_wp2_with (first
      | ((with_reducible refine gate_dst (N := 1) rfl ?_); refine box_event ?hg (N := 1) ?hd (cs := #[.string a0_0, .slice A0_1 l0_1.length c0_1, .slice A0_2 l0_2.length c0_2, .slice A0_3 l0_3.length c0_3]) (t := 30) ?hr ?_; (case hd => rfl); (case hg => rfl); (case hr => first | (go_simp; done) | (go_simp; rfl)); intro gb hg w1 hbox hb; have HB1 := Aside0.mk (below_step HB.out hb); have BK1 := Aside0.mk hbox; clear hbox hb hg; have q0 := (blk_cell BK1.out 0).trans rfl; have q1 := (blk_cell BK1.out 1).trans rfl; have q2 := (blk_cell BK1.out 2).trans rfl; have q3 := (blk_cell BK1.out 3).trans rfl)
      | (go_at_call 26; refine (objf_Check.calls _ _ _ _ _ _ _ _ _ _ _ _ _ (Kd.C_below HR1.out HB1.out) HC1.out (Kd.C_below HR2.out HB1.out) HC2.out (Kd.C_below HR3.out HB1.out) HC3.out HK'.out).mono ?_; rintro e w2 ⟨rfl, hb2⟩; have HB2 := Aside0.mk (below_step HB1.out hb2); have BK2 := Aside0.mk (blk_below BK1.out hb2); clear hb2 q0 q1 q2 q3 BK1; have q0 := (blk_cell BK2.out 0).trans rfl; have q1 := (blk_cell BK2.out 1).trans rfl; have q2 := (blk_cell BK2.out 2).trans rfl; have q3 := (blk_cell BK2.out 3).trans rfl)
      | ((with_reducible refine gate_dst (N := 20) rfl ?_); refine box_event ?hg (N := 20) ?hd (cs := #[.slice (some ⟨w2.heap.size, 0, none⟩) 4 4]) (t := 99) ?hr ?_; (case hd => rfl); (case hg => rfl); (case hr => first | (go_simp; done) | (go_simp; rfl)); intro g hg w3 hbox hb; have HG := Aside0.mk (show w2.heap.size ≤ g from by rw [hg]; simp); have HE := Aside0.mk (below_then (below_alloc (Below.refl w2.heap.size w2) _) (by simp) hb); have HW0 : Aside0 (WrF 99 w2.heap.size w3 g [67, 79, 84, 49]) := Aside0.mk ⟨_, _, hbox, HG.out, .inr ⟨w2.heap.size, _, _, rfl, rfl, Nat.le_refl _, blk_below (blk_new w2 _) hb, rfl⟩⟩; clear hbox hb hg q0 q1 q2 q3; have q0 := (blk_cell (blk_below BK2.out HE.out) 0).trans rfl; have q1 := (blk_cell (blk_below BK2.out HE.out) 1).trans rfl; have q2 := (blk_cell (blk_below BK2.out HE.out) 2).trans rfl; have q3 := (blk_cell (blk_below BK2.out HE.out) 3).trans rfl)
      | (go_at_call 55; refine (text_f (M := 4) HW0.out (by decide) (by decide) (by have := HCK.out.code; omega)).mono ?_; rintro e wn ⟨rfl, hw, hb, hk⟩; (try simp only [Int.toNat_natCast] at hw); have n1 := Aside0.mk hw; have n2 := Aside0.mk (HE.out.trans hb); clear HW0 HE hw hb hk q0 q1 q2 q3; have HW := n1; have HE := n2; clear n1 n2; have q0 := (blk_cell (blk_below BK2.out HE.out) 0).trans rfl; have q1 := (blk_cell (blk_below BK2.out HE.out) 1).trans rfl; have q2 := (blk_cell (blk_below BK2.out HE.out) 2).trans rfl; have q3 := (blk_cell (blk_below BK2.out HE.out) 3).trans rfl)
      | (go_at_call 56; refine (number_n HW.out (by have := HCK.out.code; have := HCK.out.data; have := HCK.out.nsyms; have := HCK.out.nrels; omega) (by first | omega | (have := HCK.out.code; have := HCK.out.data; have := HCK.out.nsyms; have := HCK.out.nrels; omega)) (by first | omega | (have := HCK.out.code; have := HCK.out.data; have := HCK.out.nsyms; have := HCK.out.nrels; omega))).mono ?_; rintro e wn ⟨rfl, hw, hb, hk⟩; (try simp only [Int.toNat_natCast] at hw); have n1 := Aside0.mk hw; have n2 := Aside0.mk (HE.out.trans hb); clear HW HE hw hb hk q0 q1 q2 q3; have HW := n1; have HE := n2; clear n1 n2; have q0 := (blk_cell (blk_below BK2.out HE.out) 0).trans rfl; have q1 := (blk_cell (blk_below BK2.out HE.out) 1).trans rfl; have q2 := (blk_cell (blk_below BK2.out HE.out) 2).trans rfl; have q3 := (blk_cell (blk_below BK2.out HE.out) 3).trans rfl)
      | (go_at_call 57; refine (wide_n HW.out (by have := HCK.out.code; have := HCK.out.data; have := HCK.out.nsyms; have := HCK.out.nrels; omega)).mono ?_; rintro e wn ⟨rfl, hw, hb, hk⟩; (try simp only [Int.toNat_natCast] at hw); have n1 := Aside0.mk hw; have n2 := Aside0.mk (HE.out.trans hb); clear HW HE hw hb hk q0 q1 q2 q3; have HW := n1; have HE := n2; clear n1 n2; have q0 := (blk_cell (blk_below BK2.out HE.out) 0).trans rfl; have q1 := (blk_cell (blk_below BK2.out HE.out) 1).trans rfl; have q2 := (blk_cell (blk_below BK2.out HE.out) 2).trans rfl; have q3 := (blk_cell (blk_below BK2.out HE.out) 3).trans rfl)
      | (go_at_call 58; refine (one_n HW.out (by have := HCK.out.code; have := HCK.out.data; have := HCK.out.nsyms; have := HCK.out.nrels; omega)).mono ?_; rintro e wn ⟨rfl, hw, hb, hk⟩; (try simp only [Int.toNat_natCast] at hw); have n1 := Aside0.mk hw; have n2 := Aside0.mk (HE.out.trans hb); clear HW HE hw hb hk q0 q1 q2 q3; have HW := n1; have HE := n2; clear n1 n2; have q0 := (blk_cell (blk_below BK2.out HE.out) 0).trans rfl; have q1 := (blk_cell (blk_below BK2.out HE.out) 1).trans rfl; have q2 := (blk_cell (blk_below BK2.out HE.out) 2).trans rfl; have q3 := (blk_cell (blk_below BK2.out HE.out) 3).trans rfl)
      | (go_at_call 55; refine (text_n HW.out (by have := HCK.out.code; have := HCK.out.data; have := HCK.out.nsyms; have := HCK.out.nrels; omega) (by first | omega | (have := HCK.out.code; omega))).mono ?_; rintro e wn ⟨rfl, hw, hb, hk⟩; (try simp only [Int.toNat_natCast] at hw); have n1 := Aside0.mk hw; have n2 := Aside0.mk (HE.out.trans hb); clear HW HE hw hb hk q0 q1 q2 q3; have HW := n1; have HE := n2; clear n1 n2; have q0 := (blk_cell (blk_below BK2.out HE.out) 0).trans rfl; have q1 := (blk_cell (blk_below BK2.out HE.out) 1).trans rfl; have q2 := (blk_cell (blk_below BK2.out HE.out) 2).trans rfl; have q3 := (blk_cell (blk_below BK2.out HE.out) 3).trans rfl))
    go_loopw [33] (fun i wr => ∃ k : Nat, k ≤ l0_1.length ∧ i = .int .i64 k ∧ Aside0 (WrN 99 w2.heap.size wr g ([67, 79, 84, 49] ++ strL a0_0 ++ putL l0_1.length ++ (l0_1.take k).flatMap le8) (4 + 11 + a0_0.size + 11 + 8 * k)) ∧ Aside0 (Below w2.heap.size w2 wr)) (fun i _ => l0_1.length - (intOf i).toNat)
    case atStart => exact ⟨0, Nat.zero_le _, rfl, ⟨by simpa using HW.out⟩, HE⟩
    case round =>
      clear HW HE q0 q1 q2 q3
      obtain ⟨k, hk, rfl, HW, HE⟩ := hrel
      have hmaxk : k ≤ 4096 := by have := HCK.out.data; omega
      have q0 := (blk_cell (blk_below BK2.out HE.out) 0).trans rfl
      have q1 := (blk_cell (blk_below BK2.out HE.out) 1).trans rfl
      have q2 := (blk_cell (blk_below BK2.out HE.out) 2).trans rfl
      have q3 := (blk_cell (blk_below BK2.out HE.out) 3).trans rfl
      by_cases hlt : k < l0_1.length
      · obtain ⟨ad, rfl, hc⟩ := Kd.at_int (Kd.C_below HR1.out (below_step HB2.out HE.out)) (k : Int) (by omega) (by omega)
        rw [Int.toNat_natCast] at hc
        obtain ⟨x, hx⟩ : ∃ x, l0_1[k]? = some x := ⟨_, List.getElem?_eq_getElem hlt⟩
        rw [show rd l0_1 (k : Int) = x from by simp [rd, hx]] at hc
        have HX := Aside0.mk hx
        clear hx
        go_wp2_with (first
      | (go_at_call 56; refine (number_n HW.out (by have := HCK.out.code; have := HCK.out.data; have := HCK.out.nsyms; have := HCK.out.nrels; omega) (by first | omega | (have := HCK.out.code; have := HCK.out.data; have := HCK.out.nsyms; have := HCK.out.nrels; omega)) (by first | omega | (have := HCK.out.code; have := HCK.out.data; have := HCK.out.nsyms; have := HCK.out.nrels; omega))).mono ?_; rintro e wn ⟨rfl, hw, hb, hk⟩; (try simp only [Int.toNat_natCast] at hw); have n1 := Aside0.mk hw; have n2 := Aside0.mk (HE.out.trans hb); clear HW HE hw hb hk q0 q1 q2 q3; have HW := n1; have HE := n2; clear n1 n2; have q0 := (blk_cell (blk_below BK2.out HE.out) 0).trans rfl; have q1 := (blk_cell (blk_below BK2.out HE.out) 1).trans rfl; have q2 := (blk_cell (blk_below BK2.out HE.out) 2).trans rfl; have q3 := (blk_cell (blk_below BK2.out HE.out) 3).trans rfl)
      | (go_at_call 57; refine (wide_n HW.out (by have := HCK.out.code; have := HCK.out.data; have := HCK.out.nsyms; have := HCK.out.nrels; omega)).mono ?_; rintro e wn ⟨rfl, hw, hb, hk⟩; (try simp only [Int.toNat_natCast] at hw); have n1 := Aside0.mk hw; have n2 := Aside0.mk (HE.out.trans hb); clear HW HE hw hb hk q0 q1 q2 q3; have HW := n1; have HE := n2; clear n1 n2; have q0 := (blk_cell (blk_below BK2.out HE.out) 0).trans rfl; have q1 := (blk_cell (blk_below BK2.out HE.out) 1).trans rfl; have q2 := (blk_cell (blk_below BK2.out HE.out) 2).trans rfl; have q3 := (blk_cell (blk_below BK2.out HE.out) 3).trans rfl)
      | (go_at_call 58; refine (one_n HW.out (by have := HCK.out.code; have := HCK.out.data; have := HCK.out.nsyms; have := HCK.out.nrels; omega)).mono ?_; rintro e wn ⟨rfl, hw, hb, hk⟩; (try simp only [Int.toNat_natCast] at hw); have n1 := Aside0.mk hw; have n2 := Aside0.mk (HE.out.trans hb); clear HW HE hw hb hk q0 q1 q2 q3; have HW := n1; have HE := n2; clear n1 n2; have q0 := (blk_cell (blk_below BK2.out HE.out) 0).trans rfl; have q1 := (blk_cell (blk_below BK2.out HE.out) 1).trans rfl; have q2 := (blk_cell (blk_below BK2.out HE.out) 2).trans rfl; have q3 := (blk_cell (blk_below BK2.out HE.out) 3).trans rfl)
      | (go_at_call 55; refine (text_n HW.out (by have := HCK.out.code; have := HCK.out.data; have := HCK.out.nsyms; have := HCK.out.nrels; omega) (by first | omega | (have := HCK.out.code; omega))).mono ?_; rintro e wn ⟨rfl, hw, hb, hk⟩; (try simp only [Int.toNat_natCast] at hw); have n1 := Aside0.mk hw; have n2 := Aside0.mk (HE.out.trans hb); clear HW HE hw hb hk q0 q1 q2 q3; have HW := n1; have HE := n2; clear n1 n2; have q0 := (blk_cell (blk_below BK2.out HE.out) 0).trans rfl; have q1 := (blk_cell (blk_below BK2.out HE.out) 1).trans rfl; have q2 := (blk_cell (blk_below BK2.out HE.out) 2).trans rfl; have q3 := (blk_cell (blk_below BK2.out HE.out) 3).trans rfl))
        go_roundw
        case rel => exact ⟨k + 1, by omega, by go_num, ⟨by rw [flatMap_take_succ le8 l0_1 k _ HX.out, ← List.append_assoc]; exact HW.out⟩, HE⟩
        case measure => simp [intOf]; omega
      · obtain rfl : k = l0_1.length := by omega
        rw [List.take_length] at HW
        go_wp2_with (first
      | (go_at_call 56; refine (number_n HW.out (by have := HCK.out.code; have := HCK.out.data; have := HCK.out.nsyms; have := HCK.out.nrels; omega) (by first | omega | (have := HCK.out.code; have := HCK.out.data; have := HCK.out.nsyms; have := HCK.out.nrels; omega)) (by first | omega | (have := HCK.out.code; have := HCK.out.data; have := HCK.out.nsyms; have := HCK.out.nrels; omega))).mono ?_; rintro e wn ⟨rfl, hw, hb, hk⟩; (try simp only [Int.toNat_natCast] at hw); have n1 := Aside0.mk hw; have n2 := Aside0.mk (HE.out.trans hb); clear HW HE hw hb hk q0 q1 q2 q3; have HW := n1; have HE := n2; clear n1 n2; have q0 := (blk_cell (blk_below BK2.out HE.out) 0).trans rfl; have q1 := (blk_cell (blk_below BK2.out HE.out) 1).trans rfl; have q2 := (blk_cell (blk_below BK2.out HE.out) 2).trans rfl; have q3 := (blk_cell (blk_below BK2.out HE.out) 3).trans rfl))
        go_loopw [49] (fun i wr => ∃ k : Nat, k ≤ l0_2.length ∧ i = .int .i64 k ∧ Aside0 (WrN 99 w2.heap.size wr g ([67, 79, 84, 49] ++ strL a0_0 ++ putL l0_1.length ++ l0_1.flatMap le8 ++ putL l0_2.length ++ (l0_2.take k).flatMap symL) (4 + 11 + a0_0.size + 11 + 8 * l0_1.length + 11 + 51 * k)) ∧ Aside0 (Below w2.heap.size w2 wr)) (fun i _ => l0_2.length - (intOf i).toNat)
        case atStart => exact ⟨0, Nat.zero_le _, rfl, ⟨by simpa using HW.out⟩, HE⟩
        case round =>
          clear HW HE q0 q1 q2 q3
          obtain ⟨k, hk, rfl, HW, HE⟩ := hrel
          have hmaxk : k ≤ 1000 := by have := HCK.out.nsyms; omega
          have q0 := (blk_cell (blk_below BK2.out HE.out) 0).trans rfl
          have q1 := (blk_cell (blk_below BK2.out HE.out) 1).trans rfl
          have q2 := (blk_cell (blk_below BK2.out HE.out) 2).trans rfl
          have q3 := (blk_cell (blk_below BK2.out HE.out) 3).trans rfl
          by_cases hlt : k < l0_2.length
          · obtain ⟨ad, rfl, g0, g1, g2⟩ := at_T32 (Kd.C_below HR2.out (below_step HB2.out HE.out)) (k : Int) (by omega) (by omega)
            simp only [Int.toNat_natCast] at g0 g1 g2
            obtain ⟨x, hx⟩ : ∃ x, l0_2[k]? = some x := ⟨_, List.getElem?_eq_getElem hlt⟩
            rw [show rd_T32 l0_2 (k : Int) = x from by simp [rd_T32, hx]] at g0 g1 g2
            obtain ⟨z0, z1, z2, z3, _⟩ := HCK.out.syms x (List.mem_of_getElem? hx)
            have HX := Aside0.mk hx
            clear hx
            obtain ⟨nm, kd, pl⟩ := x
            dsimp only at g0 g1 g2 z0 z1 z2 z3
            have tok : True := trivial
            go_wp2_with (first
          | (go_at_call 55; have _t := tok; refine (text_n (HW.out.alloc _) (by have := HCK.out.code; have := HCK.out.data; have := HCK.out.nsyms; have := HCK.out.nrels; omega) (by first | omega | (have := HCK.out.code; omega))).mono ?_; rintro e wn ⟨rfl, hw, hb, hk⟩; (try simp only [Int.toNat_natCast] at hw); have n1 := Aside0.mk hw; have n2 := Aside0.mk ((HE.out.alloc HE.out.size _).trans hb); have BKS := Aside0.mk (box_keep HW.out.lt hk (by decide)); have BNE := Aside0.mk (Nat.ne_of_gt HW.out.lt); clear tok; have s0 := (blk_cell BKS.out 0).trans rfl; have s1 := (blk_cell BKS.out 1).trans rfl; have s2 := (blk_cell BKS.out 2).trans rfl; clear HW HE hw hb hk q0 q1 q2 q3; have HW := n1; have HE := n2; clear n1 n2; have q0 := (blk_cell (blk_below BK2.out HE.out) 0).trans rfl; have q1 := (blk_cell (blk_below BK2.out HE.out) 1).trans rfl; have q2 := (blk_cell (blk_below BK2.out HE.out) 2).trans rfl; have q3 := (blk_cell (blk_below BK2.out HE.out) 3).trans rfl)
          | (go_at_call 56; refine (number_n HW.out (by have := HCK.out.code; have := HCK.out.data; have := HCK.out.nsyms; have := HCK.out.nrels; omega) (by first | omega | (have := HCK.out.code; have := HCK.out.data; have := HCK.out.nsyms; have := HCK.out.nrels; omega)) (by first | omega | (have := HCK.out.code; have := HCK.out.data; have := HCK.out.nsyms; have := HCK.out.nrels; omega))).mono ?_; rintro e wn ⟨rfl, hw, hb, hk⟩; (try simp only [Int.toNat_natCast] at hw); have n1 := Aside0.mk hw; have n2 := Aside0.mk (HE.out.trans hb); have n3 := Aside0.mk (box_keep2 BKS.out BNE.out hk (by decide)); clear BKS; have BKS := n3; clear n3; clear s0 s1 s2; have s0 := (blk_cell BKS.out 0).trans rfl; have s1 := (blk_cell BKS.out 1).trans rfl; have s2 := (blk_cell BKS.out 2).trans rfl; clear HW HE hw hb hk q0 q1 q2 q3; have HW := n1; have HE := n2; clear n1 n2; have q0 := (blk_cell (blk_below BK2.out HE.out) 0).trans rfl; have q1 := (blk_cell (blk_below BK2.out HE.out) 1).trans rfl; have q2 := (blk_cell (blk_below BK2.out HE.out) 2).trans rfl; have q3 := (blk_cell (blk_below BK2.out HE.out) 3).trans rfl)
          | (go_at_call 57; refine (wide_n HW.out (by have := HCK.out.code; have := HCK.out.data; have := HCK.out.nsyms; have := HCK.out.nrels; omega)).mono ?_; rintro e wn ⟨rfl, hw, hb, hk⟩; (try simp only [Int.toNat_natCast] at hw); have n1 := Aside0.mk hw; have n2 := Aside0.mk (HE.out.trans hb); have n3 := Aside0.mk (box_keep2 BKS.out BNE.out hk (by decide)); clear BKS; have BKS := n3; clear n3; clear s0 s1 s2; have s0 := (blk_cell BKS.out 0).trans rfl; have s1 := (blk_cell BKS.out 1).trans rfl; have s2 := (blk_cell BKS.out 2).trans rfl; clear HW HE hw hb hk q0 q1 q2 q3; have HW := n1; have HE := n2; clear n1 n2; have q0 := (blk_cell (blk_below BK2.out HE.out) 0).trans rfl; have q1 := (blk_cell (blk_below BK2.out HE.out) 1).trans rfl; have q2 := (blk_cell (blk_below BK2.out HE.out) 2).trans rfl; have q3 := (blk_cell (blk_below BK2.out HE.out) 3).trans rfl)
          | (go_at_call 58; refine (one_n HW.out (by have := HCK.out.code; have := HCK.out.data; have := HCK.out.nsyms; have := HCK.out.nrels; omega)).mono ?_; rintro e wn ⟨rfl, hw, hb, hk⟩; (try simp only [Int.toNat_natCast] at hw); have n1 := Aside0.mk hw; have n2 := Aside0.mk (HE.out.trans hb); have n3 := Aside0.mk (box_keep2 BKS.out BNE.out hk (by decide)); clear BKS; have BKS := n3; clear n3; clear s0 s1 s2; have s0 := (blk_cell BKS.out 0).trans rfl; have s1 := (blk_cell BKS.out 1).trans rfl; have s2 := (blk_cell BKS.out 2).trans rfl; clear HW HE hw hb hk q0 q1 q2 q3; have HW := n1; have HE := n2; clear n1 n2; have q0 := (blk_cell (blk_below BK2.out HE.out) 0).trans rfl; have q1 := (blk_cell (blk_below BK2.out HE.out) 1).trans rfl; have q2 := (blk_cell (blk_below BK2.out HE.out) 2).trans rfl; have q3 := (blk_cell (blk_below BK2.out HE.out) 3).trans rfl)
          | (go_at_call 55; refine (text_n HW.out (by have := HCK.out.code; have := HCK.out.data; have := HCK.out.nsyms; have := HCK.out.nrels; omega) (by first | omega | (have := HCK.out.code; omega))).mono ?_; rintro e wn ⟨rfl, hw, hb, hk⟩; (try simp only [Int.toNat_natCast] at hw); have n1 := Aside0.mk hw; have n2 := Aside0.mk (HE.out.trans hb); have n3 := Aside0.mk (box_keep2 BKS.out BNE.out hk (by decide)); clear BKS; have BKS := n3; clear n3; clear s0 s1 s2; have s0 := (blk_cell BKS.out 0).trans rfl; have s1 := (blk_cell BKS.out 1).trans rfl; have s2 := (blk_cell BKS.out 2).trans rfl; clear HW HE hw hb hk q0 q1 q2 q3; have HW := n1; have HE := n2; clear n1 n2; have q0 := (blk_cell (blk_below BK2.out HE.out) 0).trans rfl; have q1 := (blk_cell (blk_below BK2.out HE.out) 1).trans rfl; have q2 := (blk_cell (blk_below BK2.out HE.out) 2).trans rfl; have q3 := (blk_cell (blk_below BK2.out HE.out) 3).trans rfl))
            go_roundw
            case rel => exact ⟨k + 1, by omega, by go_num, ⟨by rw [flatMap_take_succ symL l0_2 k _ HX.out, ← List.append_assoc]; exact ⟨by simpa [symL, List.append_assoc] using HW.out.1, by have := HW.out.2; simp only [symL, List.length_append] at this ⊢; omega⟩⟩, HE⟩
            case measure => simp [intOf]; omega
          · obtain rfl : k = l0_2.length := by omega
            rw [List.take_length] at HW
            go_wp2_with (first
      | (go_at_call 56; refine (number_n HW.out (by have := HCK.out.code; have := HCK.out.data; have := HCK.out.nsyms; have := HCK.out.nrels; omega) (by first | omega | (have := HCK.out.code; have := HCK.out.data; have := HCK.out.nsyms; have := HCK.out.nrels; omega)) (by first | omega | (have := HCK.out.code; have := HCK.out.data; have := HCK.out.nsyms; have := HCK.out.nrels; omega))).mono ?_; rintro e wn ⟨rfl, hw, hb, hk⟩; (try simp only [Int.toNat_natCast] at hw); have n1 := Aside0.mk hw; have n2 := Aside0.mk (HE.out.trans hb); clear HW HE hw hb hk q0 q1 q2 q3; have HW := n1; have HE := n2; clear n1 n2; have q0 := (blk_cell (blk_below BK2.out HE.out) 0).trans rfl; have q1 := (blk_cell (blk_below BK2.out HE.out) 1).trans rfl; have q2 := (blk_cell (blk_below BK2.out HE.out) 2).trans rfl; have q3 := (blk_cell (blk_below BK2.out HE.out) 3).trans rfl))
            go_loopw [74] (fun i wr => ∃ k : Nat, k ≤ l0_3.length ∧ i = .int .i64 k ∧ Aside0 (WrN 99 w2.heap.size wr g ([67, 79, 84, 49] ++ strL a0_0 ++ putL l0_1.length ++ l0_1.flatMap le8 ++ putL l0_2.length ++ l0_2.flatMap symL ++ putL l0_3.length ++ (l0_3.take k).flatMap relL) (4 + 11 + a0_0.size + 11 + 8 * l0_1.length + 11 + 51 * l0_2.length + 11 + 59 * k)) ∧ Aside0 (Below w2.heap.size w2 wr)) (fun i _ => l0_3.length - (intOf i).toNat)
            case atStart => exact ⟨0, Nat.zero_le _, rfl, ⟨by simpa using HW.out⟩, HE⟩
            case round =>
              clear HW HE q0 q1 q2 q3
              obtain ⟨k, hk, rfl, HW, HE⟩ := hrel
              have hmaxk : k ≤ 8000 := by have := HCK.out.nrels; omega
              have q0 := (blk_cell (blk_below BK2.out HE.out) 0).trans rfl
              have q1 := (blk_cell (blk_below BK2.out HE.out) 1).trans rfl
              have q2 := (blk_cell (blk_below BK2.out HE.out) 2).trans rfl
              have q3 := (blk_cell (blk_below BK2.out HE.out) 3).trans rfl
              by_cases hlt : k < l0_3.length
              · obtain ⟨ad, rfl, g0, g1, g2, g3⟩ := at_T34 (Kd.C_below HR3.out (below_step HB2.out HE.out)) (k : Int) (by omega) (by omega)
                simp only [Int.toNat_natCast] at g0 g1 g2 g3
                obtain ⟨x, hx⟩ : ∃ x, l0_3[k]? = some x := ⟨_, List.getElem?_eq_getElem hlt⟩
                rw [show rd_T34 l0_3 (k : Int) = x from by simp [rd_T34, hx]] at g0 g1 g2 g3
                obtain ⟨z0, z1, z2, z3⟩ := HCK.out.rels x (List.mem_of_getElem? hx)
                have HX := Aside0.mk hx
                clear hx
                obtain ⟨pl, kd, nm, ad2⟩ := x
                dsimp only at g0 g1 g2 g3 z0 z1 z2 z3
                have tok : True := trivial
                go_wp2_with (first
              | (go_at_call 56; have _t := tok; refine (number_n (HW.out.alloc _) (by have := HCK.out.code; have := HCK.out.data; have := HCK.out.nsyms; have := HCK.out.nrels; omega) (by first | omega | (have := HCK.out.code; have := HCK.out.data; have := HCK.out.nsyms; have := HCK.out.nrels; omega)) (by first | omega | (have := HCK.out.code; have := HCK.out.data; have := HCK.out.nsyms; have := HCK.out.nrels; omega))).mono ?_; rintro e wn ⟨rfl, hw, hb, hk⟩; (try simp only [Int.toNat_natCast] at hw); have n1 := Aside0.mk hw; have n2 := Aside0.mk ((HE.out.alloc HE.out.size _).trans hb); have BKS := Aside0.mk (box_keep HW.out.lt hk (by decide)); have BNE := Aside0.mk (Nat.ne_of_gt HW.out.lt); clear tok; have s0 := (blk_cell BKS.out 0).trans rfl; have s1 := (blk_cell BKS.out 1).trans rfl; have s2 := (blk_cell BKS.out 2).trans rfl; have s3 := (blk_cell BKS.out 3).trans rfl; clear HW HE hw hb hk q0 q1 q2 q3; have HW := n1; have HE := n2; clear n1 n2; have q0 := (blk_cell (blk_below BK2.out HE.out) 0).trans rfl; have q1 := (blk_cell (blk_below BK2.out HE.out) 1).trans rfl; have q2 := (blk_cell (blk_below BK2.out HE.out) 2).trans rfl; have q3 := (blk_cell (blk_below BK2.out HE.out) 3).trans rfl)
              | (go_at_call 56; refine (number_n HW.out (by have := HCK.out.code; have := HCK.out.data; have := HCK.out.nsyms; have := HCK.out.nrels; omega) (by first | omega | (have := HCK.out.code; have := HCK.out.data; have := HCK.out.nsyms; have := HCK.out.nrels; omega)) (by first | omega | (have := HCK.out.code; have := HCK.out.data; have := HCK.out.nsyms; have := HCK.out.nrels; omega))).mono ?_; rintro e wn ⟨rfl, hw, hb, hk⟩; (try simp only [Int.toNat_natCast] at hw); have n1 := Aside0.mk hw; have n2 := Aside0.mk (HE.out.trans hb); have n3 := Aside0.mk (box_keep2 BKS.out BNE.out hk (by decide)); clear BKS; have BKS := n3; clear n3; clear s0 s1 s2 s3; have s0 := (blk_cell BKS.out 0).trans rfl; have s1 := (blk_cell BKS.out 1).trans rfl; have s2 := (blk_cell BKS.out 2).trans rfl; have s3 := (blk_cell BKS.out 3).trans rfl; clear HW HE hw hb hk q0 q1 q2 q3; have HW := n1; have HE := n2; clear n1 n2; have q0 := (blk_cell (blk_below BK2.out HE.out) 0).trans rfl; have q1 := (blk_cell (blk_below BK2.out HE.out) 1).trans rfl; have q2 := (blk_cell (blk_below BK2.out HE.out) 2).trans rfl; have q3 := (blk_cell (blk_below BK2.out HE.out) 3).trans rfl)
              | (go_at_call 57; refine (wide_n HW.out (by have := HCK.out.code; have := HCK.out.data; have := HCK.out.nsyms; have := HCK.out.nrels; omega)).mono ?_; rintro e wn ⟨rfl, hw, hb, hk⟩; (try simp only [Int.toNat_natCast] at hw); have n1 := Aside0.mk hw; have n2 := Aside0.mk (HE.out.trans hb); have n3 := Aside0.mk (box_keep2 BKS.out BNE.out hk (by decide)); clear BKS; have BKS := n3; clear n3; clear s0 s1 s2 s3; have s0 := (blk_cell BKS.out 0).trans rfl; have s1 := (blk_cell BKS.out 1).trans rfl; have s2 := (blk_cell BKS.out 2).trans rfl; have s3 := (blk_cell BKS.out 3).trans rfl; clear HW HE hw hb hk q0 q1 q2 q3; have HW := n1; have HE := n2; clear n1 n2; have q0 := (blk_cell (blk_below BK2.out HE.out) 0).trans rfl; have q1 := (blk_cell (blk_below BK2.out HE.out) 1).trans rfl; have q2 := (blk_cell (blk_below BK2.out HE.out) 2).trans rfl; have q3 := (blk_cell (blk_below BK2.out HE.out) 3).trans rfl)
              | (go_at_call 58; refine (one_n HW.out (by have := HCK.out.code; have := HCK.out.data; have := HCK.out.nsyms; have := HCK.out.nrels; omega)).mono ?_; rintro e wn ⟨rfl, hw, hb, hk⟩; (try simp only [Int.toNat_natCast] at hw); have n1 := Aside0.mk hw; have n2 := Aside0.mk (HE.out.trans hb); have n3 := Aside0.mk (box_keep2 BKS.out BNE.out hk (by decide)); clear BKS; have BKS := n3; clear n3; clear s0 s1 s2 s3; have s0 := (blk_cell BKS.out 0).trans rfl; have s1 := (blk_cell BKS.out 1).trans rfl; have s2 := (blk_cell BKS.out 2).trans rfl; have s3 := (blk_cell BKS.out 3).trans rfl; clear HW HE hw hb hk q0 q1 q2 q3; have HW := n1; have HE := n2; clear n1 n2; have q0 := (blk_cell (blk_below BK2.out HE.out) 0).trans rfl; have q1 := (blk_cell (blk_below BK2.out HE.out) 1).trans rfl; have q2 := (blk_cell (blk_below BK2.out HE.out) 2).trans rfl; have q3 := (blk_cell (blk_below BK2.out HE.out) 3).trans rfl)
              | (go_at_call 55; refine (text_n HW.out (by have := HCK.out.code; have := HCK.out.data; have := HCK.out.nsyms; have := HCK.out.nrels; omega) (by first | omega | (have := HCK.out.code; omega))).mono ?_; rintro e wn ⟨rfl, hw, hb, hk⟩; (try simp only [Int.toNat_natCast] at hw); have n1 := Aside0.mk hw; have n2 := Aside0.mk (HE.out.trans hb); have n3 := Aside0.mk (box_keep2 BKS.out BNE.out hk (by decide)); clear BKS; have BKS := n3; clear n3; clear s0 s1 s2 s3; have s0 := (blk_cell BKS.out 0).trans rfl; have s1 := (blk_cell BKS.out 1).trans rfl; have s2 := (blk_cell BKS.out 2).trans rfl; have s3 := (blk_cell BKS.out 3).trans rfl; clear HW HE hw hb hk q0 q1 q2 q3; have HW := n1; have HE := n2; clear n1 n2; have q0 := (blk_cell (blk_below BK2.out HE.out) 0).trans rfl; have q1 := (blk_cell (blk_below BK2.out HE.out) 1).trans rfl; have q2 := (blk_cell (blk_below BK2.out HE.out) 2).trans rfl; have q3 := (blk_cell (blk_below BK2.out HE.out) 3).trans rfl))
                go_roundw
                case rel => exact ⟨k + 1, by omega, by go_num, ⟨by rw [flatMap_take_succ relL l0_3 k _ HX.out, ← List.append_assoc]; exact ⟨by simpa [relL, List.append_assoc] using HW.out.1, by have := HW.out.2; simp only [relL, List.length_append] at this ⊢; omega⟩⟩, HE⟩
                case measure => simp [intOf]; omega
              · obtain rfl : k = l0_3.length := by omega
                rw [List.take_length] at HW
                have hL : formL a0_0 l0_1 l0_2 l0_3 = [67, 79, 84, 49] ++ strL a0_0 ++ putL l0_1.length ++ l0_1.flatMap le8 ++ putL l0_2.length ++ l0_2.flatMap symL ++ putL l0_3.length ++ l0_3.flatMap relL := by simp [formL, frontL, List.append_assoc]
                rw [← hL] at HW
                have HFB := Aside0.mk (show formB a0_0 l0_1 l0_2 l0_3 = strOfNums (formL a0_0 l0_1 l0_2 l0_3) from rfl)
                have HD := Aside0.mk (below_weaken HB2.out HB2.out.size HE.out)
                clear hL HF' HE
                generalize formL a0_0 l0_1 l0_2 l0_3 = L at HW HFB
                obtain ⟨AF, cF, hF, HGF, HOF0⟩ := HW.out.1
                have hcF := (blk_cell hF 0).trans rfl
                have hcv := own_string (P := Try.prog) Try.underlying91 Try.underlying5 Try.underlying9 HOF0
                clear hF HGF HOF0
                go_wp2
                go_ret2
                exact ⟨by rw [HFB.out]; first | rfl | (simp; done), HD.out⟩
  · have HK' : Aside0 (objf_Check.f (2 * l0_3.length + 1) a0_0 l0_1 l0_2 l0_3 = some 1) := Aside0.mk (by rw [check_f a0_0 l0_1 l0_2 l0_3 (by omega) _ (Nat.le_refl _), if_neg hok])
    have HF' : Aside0 (((⟨#[]⟩ : ByteArray), (1 : Int)) = (r1, r2)) := Aside0.mk (by rw [← HF.out, if_neg hok])
    clear HF hok
    obtain ⟨rfl, rfl⟩ := Prod.mk.inj HF'.out
    go_enter Try.func24, Try.ntmps24
    go_wp2_with (first
      | ((with_reducible refine gate_dst (N := 1) rfl ?_); refine box_event ?hg (N := 1) ?hd (cs := #[.string a0_0, .slice A0_1 l0_1.length c0_1, .slice A0_2 l0_2.length c0_2, .slice A0_3 l0_3.length c0_3]) (t := 30) ?hr ?_; (case hd => rfl); (case hg => rfl); (case hr => first | (go_simp; done) | (go_simp; rfl)); intro gb hg w1 hbox hb; have HB1 := Aside0.mk (below_step HB.out hb); have BK1 := Aside0.mk hbox; clear hbox hb hg; have q0 := (blk_cell BK1.out 0).trans rfl; have q1 := (blk_cell BK1.out 1).trans rfl; have q2 := (blk_cell BK1.out 2).trans rfl; have q3 := (blk_cell BK1.out 3).trans rfl)
      | (go_at_call 26; refine (objf_Check.calls _ _ _ _ _ _ _ _ _ _ _ _ _ (Kd.C_below HR1.out HB1.out) HC1.out (Kd.C_below HR2.out HB1.out) HC2.out (Kd.C_below HR3.out HB1.out) HC3.out HK'.out).mono ?_; rintro e w2 ⟨rfl, hb2⟩; have HB2 := Aside0.mk (below_step HB1.out hb2); have BK2 := Aside0.mk (blk_below BK1.out hb2); clear hb2 q0 q1 q2 q3 BK1; have q0 := (blk_cell BK2.out 0).trans rfl; have q1 := (blk_cell BK2.out 1).trans rfl; have q2 := (blk_cell BK2.out 2).trans rfl; have q3 := (blk_cell BK2.out 3).trans rfl))
    go_ret2
    exact ⟨by first | rfl | (simp; done), HB2.out⟩
end Go.Proofs.Ytochgjeanajoiaa.HA
