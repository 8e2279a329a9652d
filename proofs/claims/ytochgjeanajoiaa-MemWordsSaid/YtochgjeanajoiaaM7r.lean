/- Written by hand: the walk of MemWords. -/
import Derived.Test.YtochgjeanajoiaaM7l
import Derived.Test.YtochgjeanajoiaaM7q
namespace Go.Proofs.Ytochgjeanajoiaa.HA.Mem
open Go.Proofs.YtochgjeanajoiaaW
open Go.RowKit Go.WideMaps Go.Maps Go.Proofs.YtochgjeanajoiaaW.PrintWords Go.Proofs.YtochgjeanajoiaaW.PrintLast Go.Proofs.YtochgjeanajoiaaW.PrintMore
set_option linter.unusedVariables false
set_option linter.unusedSimpArgs false
theorem MemAt.size {base : Nat} {ok : Nat → Prop} {W : World} {g n : Nat} {m : Mm} (h : MemAt base ok W g n m) : base ≤ W.heap.size := by
  obtain ⟨b1, b2, rv, h⟩ := h
  exact Nat.le_of_lt (Nat.lt_of_le_of_lt h.bg (blk_lt h.box))
theorem addrs_len (b : Int) (i : Nat) : (addrs b i).length = i := by simp [addrs]
theorem memOk_all' {l : List Rg} (h : memOk l = true) : ∀ r ∈ l, regOk r = true := by
  simp only [memOk, Bool.and_eq_true] at h
  exact regs_base h.2
set_option maxRecDepth 100000 in
set_option maxHeartbeats 8000000 in
theorem Words_law (l : List Rg) (A : Option Addr) (c : Nat) (q : Int) (w : World) (hr : Kd.C k59 w A l.length l) :
    Calls Try.prog 12 #[.slice A l.length c, .int .i64 q] w fun e w' => e = .returned (.bool true) ∧ Below w.heap.size w w' := by
  have HR := Aside0.mk hr
  have hlen : l.length ≤ 9223372036854775807 := hr.2.1
  have hu59 := Try.underlying59
  have hu75 := Try.underlying75
  clear hr
  go_enter Try.func12, Try.ntmps12
  go_wp2
  go_loopw [5] (fun i wr => ∃ k : Nat, k ≤ l.length ∧ i = .int .i64 k ∧ Aside0 (∀ o ∈ l.take k, o.words.length ≤ 2000) ∧ Aside0 (Below w.heap.size w wr)) (fun i _ => l.length - (nOf i).toNat)
  case atStart => exact ⟨0, Nat.zero_le _, rfl, ⟨by simp⟩, ⟨Below.refl _ _⟩⟩
  case round =>
    obtain ⟨k, hk, rfl, HS, HB⟩ := hrel
    by_cases hlt : k < l.length
    · obtain ⟨ad, B, cb, rfl, hat⟩ := at_Rg (Kd.C_below HR.out HB.out) (k : Int) (by omega) (by omega)
      obtain ⟨x, hx⟩ : ∃ x, l[k]? = some x := ⟨_, List.getElem?_eq_getElem hlt⟩
      rw [show rdR l (k : Int) = x from by simp [rdR, hx]] at hat
      obtain ⟨c0, c1, c2, _, _⟩ := hat
      simp only [Int.toNat_natCast] at c0 c1 c2
      have HX := Aside0.mk hx
      clear hx
      by_cases hbig : 2000 < x.words.length
      · go_wp2_with (first
          | (go_at_call 31; go_loud (refine (live_calls _).mono ?_; rintro e wl ⟨rfl, hb⟩; have HBn := Aside0.mk (below_step HB.out hb); clear hb HB; have HB := HBn; clear HBn)))
        go_ret
        exact ⟨rfl, HB.out⟩
      · have HSn := Aside0.mk (show ∀ o ∈ l.take (k + 1), o.words.length ≤ 2000 from fun o ho => by
          rw [List.take_add_one, HX.out, List.mem_append] at ho
          rcases ho with ho | ho
          · exact HS.out o ho
          · simp only [Option.toList_some, List.mem_singleton] at ho
            rw [ho]; omega)
        go_wp2
        go_roundw
        case rel => exact ⟨k + 1, by omega, by go_num, HSn, HB⟩
        case measure => simp [nOf]; omega
    obtain rfl : k = l.length := by omega
    rw [List.take_length] at HS
    by_cases hok : memOk l = true
    case neg =>
      have HN := Aside0.mk (show memOk l = false from by simpa using hok)
      clear hok
      go_wp2_with (first
        | (go_at_call 32; go_loud (refine (new_calls l A c _ (Kd.C_below HR.out HB.out)).mono ?_; rintro e w3 ⟨⟨_, rfl⟩ | ⟨h, _⟩, hb⟩; rotate_left; (exact absurd h (by rw [HN.out]; decide)); have HBn := Aside0.mk (below_step HB.out hb); clear hb HB; have HB := HBn; clear HBn))
        | (go_at_call 31; go_loud (refine (live_calls _).mono ?_; rintro e wl ⟨rfl, hb⟩; have HBn := Aside0.mk (below_step HB.out hb); clear hb HB; have HB := HBn; clear HBn)))
      go_ret
      exact ⟨rfl, HB.out⟩
    have HN := Aside0.mk hok
    have hall := Aside0.mk (memOk_all' hok)
    clear hok
    obtain ⟨ws, hws⟩ : ∃ ws, wordsOf l q = ws := ⟨_, rfl⟩
    have HWD := Aside0.mk hws
    clear hws
    by_cases q1 : q < 0
    · obtain rfl : ws = [] := by rw [← HWD.out]; unfold wordsOf; rw [if_pos q1]
      go_wp2_with (first
        | (go_at_call 32; go_loud (refine (new_calls l A c _ (Kd.C_below HR.out HB.out)).mono ?_; rintro e w3 ⟨⟨h, _⟩ | ⟨_, g, rfl, hm⟩, hb⟩; (exact absurd h (by rw [HN.out]; decide)); have HM := Aside0.mk (hm.bound.mono (fun k hk => (⟨hk.2.2, hk.2.1⟩ : k < w3.heap.size ∧ wr.heap.size ≤ k))); have HB3 := Aside0.mk (below_size HB.out); have HBn := Aside0.mk (below_step HB.out hb); have HS3 := Aside0.mk hb.size; clear hb hm HB; have HB := HBn; clear HBn))
        | (go_at_call 41; go_loud (refine (Words_calls _ _ g 0 ⟨l, [], []⟩ q _ HM.out hall.out).mono ?_; rintro e w4 ⟨v, rfl, hv, hb⟩; rw [HWD.out] at hv; have HV := Aside0.mk hv; obtain ⟨A8, c8, rfl⟩ := Kd.R_slice hv; have HMn := Aside0.mk (HM.out.below hb); have HBn := Aside0.mk (below_step HB.out hb); have HS4 := Aside0.mk hb.size; clear hb hv HM HB; have HM := HMn; have HB := HBn; clear HMn HBn))
        | (go_at_call 38; go_loud (refine (Foot_calls _ _ g 0 ⟨l, [], []⟩ _ HM.out (by decide) (Nat.le_trans HS3.out HS4.out)).mono ?_; rintro e w5 ⟨v1, v2, N, rfl, hN, h1, h2, hm, ht⟩; obtain ⟨A1, c1, rfl⟩ := Kd.R_slice h1; obtain ⟨A2, c2, rfl⟩ := Kd.R_slice h2; have HM := Aside0.mk hm; have HVn := Aside0.mk (Kd.R_step (Kd.R_lower (Kd.R_mono (Kd.R_bound HV.out) (fun k hk => (⟨hk.2.1, hk.2.2.1⟩ : w3.heap.size ≤ k ∧ k < w4.heap.size))) HS3.out) (fun k hk hlt => ht.block k hlt (fun hs => by have := hs.1; have := hk.1; omega))); have HNN := Aside0.mk hN; have HBn := Aside0.mk (HB.out.trans (ht.below (fun k hk => Nat.le_trans HB3.out hk.2) (below_size HB.out))); have HS5 := Aside0.mk ht.size; clear HB HV h1 h2 hm ht hN; have HB := HBn; have HV := HVn; clear HBn HVn))
        | ((with_reducible refine gate_dst (N := 9) rfl ?_); refine box_event ?hg (N := 9) ?hd (cs := #[.slice none 0 0, .slice none 0 0]) (t := 75) ?hr ?_; (case hd => rfl); (case hg => rfl); (case hr => first | (go_simp; done) | (go_simp; rfl)); go_loud (intro gf hgf w6 hbox hb; have HX := Aside0.mk hbox; have HGB := Aside0.mk (show w.heap.size ≤ gf from by rw [hgf]; exact below_size HB.out); have HMn := Aside0.mk (MemAt.below (MemAt.bound HM.out) hb); have HVn := Aside0.mk (Kd.R_below HV.out hb); have HBn := Aside0.mk (below_step HB.out hb); have HGF := Aside0.mk hgf; clear HM HV HB hbox hb hgf; have HM := HMn; have HV := HVn; have HB := HBn; clear HMn HVn HBn))
        | ((with_reducible refine gate_store (p := 9) rfl ?_); go_loud (refine row_event rfl 75 _ _ rfl gf #[.slice A1 0 c1, .slice A2 0 c2] #[.slice none 0 0, .slice none 0 0] (by rfl) (by rfl) HX.out (by kernel_rfl) (by rfl) (by kernel_rfl) ?_; intro w7 hw7 hg7; have hTn := Turn.of_grown (S := fun k => k = gf) hg7 (fun k hk => (Option.some.inj hk).symm); have HPK := Aside0.mk (show ∃ OK : Nat → Prop, MemAt wr.heap.size OK w7 g 0 ⟨l, [], []⟩ ∧ (∀ k, OK k → k ≠ gf ∧ w.heap.size ≤ k) ∧ (Kd.int .i64).R 2 w7 wr.heap.size (fun k => ¬ OK k) (.slice A8 0 c8) [] from ⟨_, HM.out.turn hTn (fun k hk e => by have := HGF.out; have := hk.2.2; omega), fun k hk => ⟨fun e => by have := HGF.out; have := hk.2.2; omega, Nat.le_trans HB3.out hk.2.1⟩, Kd.R_mono (Kd.R_grown (Kd.R_types HV.out HX.out (by decide)) hg7 (fun k hk e => hk.2 (Option.some.inj e))) (fun k hk ho => by have := HNN.out; have := hk.1; rcases ho.1 with hx | hx; (have := hx.1; omega); omega)⟩); have HBn := Aside0.mk (HB.out.trans (hTn.below (fun k hk => by rw [hk]; exact HGB.out) (below_size HB.out))); have HXn := Aside0.mk hw7; clear HX HM HV HB hw7 hg7 hTn; have HX := HXn; have HB := HBn; clear HXn HBn; have e0 := (blk_cell HX.out 0).trans rfl; have e1 := (blk_cell HX.out 1).trans rfl))
        | (go_at_call 31; go_loud (refine (live_calls _).mono ?_; rintro e wl ⟨rfl, hb⟩; have HBn := Aside0.mk (below_step HB.out hb); clear hb HB; have HB := HBn; clear HBn)))
      go_ret
      exact ⟨rfl, HB.out⟩
    by_cases q2 : q < (l.length : Int)
    case neg =>
      obtain rfl : ws = [] := by rw [← HWD.out]; unfold wordsOf; rw [if_neg q1, List.getElem?_eq_none (by omega)]; rfl
      go_wp2_with (first
        | (go_at_call 32; go_loud (refine (new_calls l A c _ (Kd.C_below HR.out HB.out)).mono ?_; rintro e w3 ⟨⟨h, _⟩ | ⟨_, g, rfl, hm⟩, hb⟩; (exact absurd h (by rw [HN.out]; decide)); have HM := Aside0.mk (hm.bound.mono (fun k hk => (⟨hk.2.2, hk.2.1⟩ : k < w3.heap.size ∧ wr.heap.size ≤ k))); have HB3 := Aside0.mk (below_size HB.out); have HBn := Aside0.mk (below_step HB.out hb); have HS3 := Aside0.mk hb.size; clear hb hm HB; have HB := HBn; clear HBn))
        | (go_at_call 41; go_loud (refine (Words_calls _ _ g 0 ⟨l, [], []⟩ q _ HM.out hall.out).mono ?_; rintro e w4 ⟨v, rfl, hv, hb⟩; rw [HWD.out] at hv; have HV := Aside0.mk hv; obtain ⟨A8, c8, rfl⟩ := Kd.R_slice hv; have HMn := Aside0.mk (HM.out.below hb); have HBn := Aside0.mk (below_step HB.out hb); have HS4 := Aside0.mk hb.size; clear hb hv HM HB; have HM := HMn; have HB := HBn; clear HMn HBn))
        | (go_at_call 38; go_loud (refine (Foot_calls _ _ g 0 ⟨l, [], []⟩ _ HM.out (by decide) (Nat.le_trans HS3.out HS4.out)).mono ?_; rintro e w5 ⟨v1, v2, N, rfl, hN, h1, h2, hm, ht⟩; obtain ⟨A1, c1, rfl⟩ := Kd.R_slice h1; obtain ⟨A2, c2, rfl⟩ := Kd.R_slice h2; have HM := Aside0.mk hm; have HVn := Aside0.mk (Kd.R_step (Kd.R_lower (Kd.R_mono (Kd.R_bound HV.out) (fun k hk => (⟨hk.2.1, hk.2.2.1⟩ : w3.heap.size ≤ k ∧ k < w4.heap.size))) HS3.out) (fun k hk hlt => ht.block k hlt (fun hs => by have := hs.1; have := hk.1; omega))); have HNN := Aside0.mk hN; have HBn := Aside0.mk (HB.out.trans (ht.below (fun k hk => Nat.le_trans HB3.out hk.2) (below_size HB.out))); have HS5 := Aside0.mk ht.size; clear HB HV h1 h2 hm ht hN; have HB := HBn; have HV := HVn; clear HBn HVn))
        | ((with_reducible refine gate_dst (N := 9) rfl ?_); refine box_event ?hg (N := 9) ?hd (cs := #[.slice none 0 0, .slice none 0 0]) (t := 75) ?hr ?_; (case hd => rfl); (case hg => rfl); (case hr => first | (go_simp; done) | (go_simp; rfl)); go_loud (intro gf hgf w6 hbox hb; have HX := Aside0.mk hbox; have HGB := Aside0.mk (show w.heap.size ≤ gf from by rw [hgf]; exact below_size HB.out); have HMn := Aside0.mk (MemAt.below (MemAt.bound HM.out) hb); have HVn := Aside0.mk (Kd.R_below HV.out hb); have HBn := Aside0.mk (below_step HB.out hb); have HGF := Aside0.mk hgf; clear HM HV HB hbox hb hgf; have HM := HMn; have HV := HVn; have HB := HBn; clear HMn HVn HBn))
        | ((with_reducible refine gate_store (p := 9) rfl ?_); go_loud (refine row_event rfl 75 _ _ rfl gf #[.slice A1 0 c1, .slice A2 0 c2] #[.slice none 0 0, .slice none 0 0] (by rfl) (by rfl) HX.out (by kernel_rfl) (by rfl) (by kernel_rfl) ?_; intro w7 hw7 hg7; have hTn := Turn.of_grown (S := fun k => k = gf) hg7 (fun k hk => (Option.some.inj hk).symm); have HPK := Aside0.mk (show ∃ OK : Nat → Prop, MemAt wr.heap.size OK w7 g 0 ⟨l, [], []⟩ ∧ (∀ k, OK k → k ≠ gf ∧ w.heap.size ≤ k) ∧ (Kd.int .i64).R 2 w7 wr.heap.size (fun k => ¬ OK k) (.slice A8 0 c8) [] from ⟨_, HM.out.turn hTn (fun k hk e => by have := HGF.out; have := hk.2.2; omega), fun k hk => ⟨fun e => by have := HGF.out; have := hk.2.2; omega, Nat.le_trans HB3.out hk.2.1⟩, Kd.R_mono (Kd.R_grown (Kd.R_types HV.out HX.out (by decide)) hg7 (fun k hk e => hk.2 (Option.some.inj e))) (fun k hk ho => by have := HNN.out; have := hk.1; rcases ho.1 with hx | hx; (have := hx.1; omega); omega)⟩); have HBn := Aside0.mk (HB.out.trans (hTn.below (fun k hk => by rw [hk]; exact HGB.out) (below_size HB.out))); have HXn := Aside0.mk hw7; clear HX HM HV HB hw7 hg7 hTn; have HX := HXn; have HB := HBn; clear HXn HBn; have e0 := (blk_cell HX.out 0).trans rfl; have e1 := (blk_cell HX.out 1).trans rfl))
        | (go_at_call 31; go_loud (refine (live_calls _).mono ?_; rintro e wl ⟨rfl, hb⟩; have HBn := Aside0.mk (below_step HB.out hb); clear hb HB; have HB := HBn; clear HBn)))
      go_ret
      exact ⟨rfl, HB.out⟩
    obtain ⟨ad, B, cb, rfl, hat⟩ := at_Rg HR.out q (by omega) q2
    obtain ⟨x, hx⟩ : ∃ x, l[q.toNat]? = some x := ⟨_, List.getElem?_eq_getElem (by omega)⟩
    rw [show rdR l q = x from by simp [rdR, hx]] at hat
    obtain ⟨xb, xs, xw⟩ := x
    obtain rfl : xs = ws := by rw [← HWD.out]; unfold wordsOf; rw [if_neg q1, hx]; rfl
    have HAT := Aside0.mk hat
    have HQX := Aside0.mk hx
    have HW2 := Aside0.mk (HS.out _ (List.mem_of_getElem? hx))
    obtain ⟨⟨r1, r1'⟩, r2, r3⟩ := regOk_iff (hall.out _ (List.mem_of_getElem? hx))
    dsimp only at r1 r1' r2 r3
    clear hat hx HS
    have hw2 : xs.length ≤ 2000 := HW2.out
    go_wp2_with (first
      | (go_at_call 32; go_loud (refine (new_calls l (some ad) c _ (Kd.C_below HR.out HB.out)).mono ?_; rintro e w3 ⟨⟨h, _⟩ | ⟨_, g, rfl, hm⟩, hb⟩; (exact absurd h (by rw [HN.out]; decide)); have HM := Aside0.mk (hm.bound.mono (fun k hk => (⟨hk.2.2, hk.2.1⟩ : k < w3.heap.size ∧ wr.heap.size ≤ k))); have HB3 := Aside0.mk (below_size HB.out); have HBn := Aside0.mk (below_step HB.out hb); have HS3 := Aside0.mk hb.size; clear hb hm HB; have HB := HBn; clear HBn))
      | (go_at_call 41; go_loud (refine (Words_calls _ _ g 0 ⟨l, [], []⟩ q _ HM.out hall.out).mono ?_; rintro e w4 ⟨v, rfl, hv, hb⟩; rw [HWD.out] at hv; have HV := Aside0.mk hv; obtain ⟨A8, c8, rfl⟩ := Kd.R_slice hv; have HMn := Aside0.mk (HM.out.below hb); have HBn := Aside0.mk (below_step HB.out hb); have HS4 := Aside0.mk hb.size; clear hb hv HM HB; have HM := HMn; have HB := HBn; clear HMn HBn))
      | (go_at_call 38; go_loud (refine (Foot_calls _ _ g 0 ⟨l, [], []⟩ _ HM.out (by decide) (Nat.le_trans HS3.out HS4.out)).mono ?_; rintro e w5 ⟨v1, v2, N, rfl, hN, h1, h2, hm, ht⟩; obtain ⟨A1, c1, rfl⟩ := Kd.R_slice h1; obtain ⟨A2, c2, rfl⟩ := Kd.R_slice h2; have HM := Aside0.mk hm; have HVn := Aside0.mk (Kd.R_step (Kd.R_lower (Kd.R_mono (Kd.R_bound HV.out) (fun k hk => (⟨hk.2.1, hk.2.2.1⟩ : w3.heap.size ≤ k ∧ k < w4.heap.size))) HS3.out) (fun k hk hlt => ht.block k hlt (fun hs => by have := hs.1; have := hk.1; omega))); have HNN := Aside0.mk hN; have HBn := Aside0.mk (HB.out.trans (ht.below (fun k hk => Nat.le_trans HB3.out hk.2) (below_size HB.out))); have HS5 := Aside0.mk ht.size; clear HB HV h1 h2 hm ht hN; have HB := HBn; have HV := HVn; clear HBn HVn))
      | ((with_reducible refine gate_dst (N := 9) rfl ?_); refine box_event ?hg (N := 9) ?hd (cs := #[.slice none 0 0, .slice none 0 0]) (t := 75) ?hr ?_; (case hd => rfl); (case hg => rfl); (case hr => first | (go_simp; done) | (go_simp; rfl)); go_loud (intro gf hgf w6 hbox hb; have HX := Aside0.mk hbox; have HGB := Aside0.mk (show w.heap.size ≤ gf from by rw [hgf]; exact below_size HB.out); have HMn := Aside0.mk (MemAt.below (MemAt.bound HM.out) hb); have HVn := Aside0.mk (Kd.R_below HV.out hb); have HBn := Aside0.mk (below_step HB.out hb); have HGF := Aside0.mk hgf; clear HM HV HB hbox hb hgf; have HM := HMn; have HV := HVn; have HB := HBn; clear HMn HVn HBn))
      | ((with_reducible refine gate_store (p := 9) rfl ?_); go_loud (refine row_event rfl 75 _ _ rfl gf #[.slice A1 0 c1, .slice A2 0 c2] #[.slice none 0 0, .slice none 0 0] (by rfl) (by rfl) HX.out (by kernel_rfl) (by rfl) (by kernel_rfl) ?_; intro w7 hw7 hg7; have hTn := Turn.of_grown (S := fun k => k = gf) hg7 (fun k hk => (Option.some.inj hk).symm); have HPK := Aside0.mk (show ∃ OK : Nat → Prop, MemAt wr.heap.size OK w7 g 0 ⟨l, [], []⟩ ∧ (∀ k, OK k → k ≠ gf ∧ w.heap.size ≤ k) ∧ (Kd.int .i64).R 2 w7 wr.heap.size (fun k => ¬ OK k) (.slice A8 xs.length c8) xs from ⟨_, HM.out.turn hTn (fun k hk e => by have := HGF.out; have := hk.2.2; omega), fun k hk => ⟨fun e => by have := HGF.out; have := hk.2.2; omega, Nat.le_trans HB3.out hk.2.1⟩, Kd.R_mono (Kd.R_grown (Kd.R_types HV.out HX.out (by decide)) hg7 (fun k hk e => hk.2 (Option.some.inj e))) (fun k hk ho => by have := HNN.out; have := hk.1; rcases ho.1 with hx | hx; (have := hx.1; omega); omega)⟩); have HBn := Aside0.mk (HB.out.trans (hTn.below (fun k hk => by rw [hk]; exact HGB.out) (below_size HB.out))); have HXn := Aside0.mk hw7; clear HX HM HV HB hw7 hg7 hTn; have HX := HXn; have HB := HBn; clear HXn HBn; have e0 := (blk_cell HX.out 0).trans rfl; have e1 := (blk_cell HX.out 1).trans rfl; have c0 := pw_cell_below HB.out HAT.out.c0; have c1q := pw_cell_below HB.out HAT.out.c1; have c2q := pw_cell_below HB.out HAT.out.c2; dsimp only at c0 c1q c2q)))
    obtain ⟨OK, hm, hOK', hv⟩ := HPK.out
    have hOK := Aside0.mk hOK'
    have HM := Aside0.mk (show MemAt wr.heap.size OK w7 g 0 ⟨l, addrs xb 0, []⟩ from hm)
    have HV := Aside0.mk hv
    have hload : Aside0 (∀ (k : Nat) (v : Int), k ≤ 100000 → xs[k]? = some v → ∀ W, MemAt wr.heap.size OK W g k ⟨l, addrs xb k, []⟩ → Calls Try.prog 33 #[.pointer (some ⟨g, 0, none⟩), .int .i64 (xb + 8 * (k : Int))] W fun e w' => e = .returned (.tuple #[.int .i64 v, .int .i64 0]) ∧ MemAt wr.heap.size OK w' g (k + 1) ⟨l, addrs xb (k + 1), []⟩ ∧ Turn OK W w') := ⟨fun k v hk hv W hM => by
      have := load_calls _ _ g k ⟨l, addrs xb k, []⟩ (xb + 8 * (k : Int)) W hM hall.out (by omega) (by unfold maxLen; omega)
      rw [load_word HN.out HQX.out hv, addrs_ins] at this
      exact this⟩
    clear HPK hm hv hOK' e0 e1 c0 c1q c2q
    go_loopw [10] (fun i wr2 => ∃ k : Nat, k ≤ xs.length ∧ i = .int .i64 k ∧ Aside0 (MemAt wr.heap.size OK wr2 g k ⟨l, addrs xb k, []⟩) ∧ Aside0 ((Kd.int .i64).R 2 wr2 wr.heap.size (fun k => ¬ OK k) (.slice A8 xs.length c8) xs) ∧ Aside0 (wr2.heap[gf]? = some (.cells #[.slice A1 0 c1, .slice A2 0 c2] 75 (0, 0))) ∧ Aside0 (Below w.heap.size w wr2)) (fun i _ => xs.length - (nOf i).toNat)
    case atStart => exact ⟨0, Nat.zero_le _, rfl, HM, HV, HX, HB⟩
    case round =>
      clear HM HV HX HB
      obtain ⟨k, hk, rfl, HM, HV, HX, HB⟩ := hrel
      by_cases hlt : k < xs.length
      case neg =>
        obtain rfl : k = xs.length := by omega
        have e0 := (blk_cell HX.out 0).trans rfl
        have e1 := (blk_cell HX.out 1).trans rfl
        go_wp2_with (first
          | (go_at_call 38; go_loud (refine (Foot_calls _ _ g xs.length ⟨l, addrs xb xs.length, []⟩ _ HM.out (by have := HW2.out; omega) HM.out.size).mono ?_; rintro e w9 ⟨v1, v2, N2, rfl, _, h1, h2, _, ht⟩; obtain ⟨A3, c3, h3⟩ := Kd.R_slice h1; rw [addrs_len] at h3; subst h3; obtain ⟨A4, c4, rfl⟩ := Kd.R_slice h2; have HXn := Aside0.mk ((ht.block _ (blk_lt HX.out) (fun h => (hOK.out _ h).1 rfl)).trans HX.out); have HBn := Aside0.mk (HB.out.trans (ht.below (fun j hj => (hOK.out _ hj).2) (below_size HB.out))); clear HM HV HX HB h1 h2 ht; have HX := HXn; have HB := HBn; clear HXn HBn))
          | ((with_reducible refine gate_store (p := 9) rfl ?_); go_loud (refine row_event rfl 75 _ _ rfl gf #[.slice A3 xs.length c3, .slice A4 0 c4] #[.slice A1 0 c1, .slice A2 0 c2] (by rfl) (by rfl) HX.out (by kernel_rfl) (by rfl) (by kernel_rfl) ?_; intro wz hwz hgz; have HBn := Aside0.mk (HB.out.trans ((Turn.of_grown (S := fun k => k = gf) hgz (fun k hk => (Option.some.inj hk).symm)).below (fun k hk => by rw [hk]; exact HGB.out) (below_size HB.out))); clear HB HX; have HB := HBn; clear HBn; have e0 := (blk_cell hwz 0).trans rfl; have e1 := (blk_cell hwz 1).trans rfl))
          | (go_at_call 31; go_loud (refine (live_calls _).mono ?_; rintro e wl ⟨rfl, hb⟩; have HBn := Aside0.mk (below_step HB.out hb); clear hb HB; have HB := HBn; clear HBn)))
        go_ret
        exact ⟨rfl, HB.out⟩
      have c0 := pw_cell_below HB.out HAT.out.c0
      have c1' := pw_cell_below HB.out HAT.out.c1
      have c2' := pw_cell_below HB.out HAT.out.c2
      dsimp only at c0 c1' c2'
      obtain ⟨v, hv⟩ : ∃ v, xs[k]? = some v := ⟨_, List.getElem?_eq_getElem hlt⟩
      have hk2 : k ≤ 100000 := by omega
      go_wp2_with (first
        | (go_at_call 33; go_loud ((with_reducible refine (hload.out k v hk2 hv _ HM.out).mono ?_); rintro e w8 ⟨rfl, hm, ht⟩; have HMn := Aside0.mk hm; have HVn := Aside0.mk (Kd.R_step HV.out (fun j ho hlt => ht.block j hlt ho)); have HXn := Aside0.mk ((ht.block _ (blk_lt HX.out) (fun h => (hOK.out _ h).1 rfl)).trans HX.out); have HBn := Aside0.mk (HB.out.trans (ht.below (fun j hj => (hOK.out _ hj).2) (below_size HB.out))); clear HM HV HX HB hm ht; have HM := HMn; have HV := HVn; have HX := HXn; have HB := HBn; clear HMn HVn HXn HBn c0 c1' c2'; obtain ⟨ad8, h8, d1⟩ := Kd.at_int (Kd.R_reads' HV.out).2.2 (k : Int) (by omega) (by omega); cases h8; rw [show PrintWords.rd xs (k : Int) = v from by simp [PrintWords.rd, hv]] at d1; simp only [Int.toNat_natCast] at d1)))
      go_roundw
      case rel => exact ⟨k + 1, by omega, by go_num, HM, HV, HX, HB⟩
      case measure => simp [nOf]; omega
end Go.Proofs.Ytochgjeanajoiaa.HA.Mem
