/- Written by hand: the walk of MemStays. -/
import Derived.Test.YtochgjeanajoiaaM7l
namespace Go.Proofs.Ytochgjeanajoiaa.HA.Mem
open Go.Proofs.YtochgjeanajoiaaW
open Go.RowKit Go.WideMaps Go.Maps Go.Proofs.YtochgjeanajoiaaW.PrintWords Go.Proofs.YtochgjeanajoiaaW.PrintLast Go.Proofs.YtochgjeanajoiaaW.PrintMore
set_option linter.unusedVariables false
set_option linter.unusedSimpArgs false
theorem load_rs (m : Mm) (a : Int) : (load m a).1.rs = m.rs := by unfold load; cases wordAt m.rs a <;> rfl
theorem store_ok (m : Mm) (a n : Int) (h : ∀ r ∈ m.rs, regOk r = true) : ∀ r ∈ (store m a n).1.rs, regOk r = true := by
  unfold store
  cases hw : wordAt m.rs a with
  | none => exact h
  | some p =>
    by_cases hm : mayAt m.rs p = true
    · simp only [hm, if_true]
      intro r hr
      obtain ⟨q, hq⟩ := List.getElem?_of_mem hr
      unfold setAt at hq
      rw [List.getElem?_modify] at hq
      obtain ⟨r0, hr0, he⟩ := Option.map_eq_some_iff.1 hq
      have h0 := h r0 (List.mem_of_getElem? hr0)
      split at he
      · subst he; simpa [regOk] using h0
      · rw [← he]; exact h0
    · simp only [hm]; exact h
theorem memOk_all {l : List Rg} (h : memOk l = true) : ∀ r ∈ l, regOk r = true := by
  simp only [memOk, Bool.and_eq_true] at h
  exact regs_base h.2
set_option maxRecDepth 100000 in
set_option maxHeartbeats 8000000 in
theorem Stays_calls (l : List Rg) (A : Option Addr) (c : Nat) (at_ other n : Int) (w : World) (hr : Kd.C k59 w A l.length l) (h1 : -9223372036854775808 ≤ at_ ∧ at_ ≤ 9223372036854775807) (h2 : -9223372036854775808 ≤ other ∧ other ≤ 9223372036854775807) :
    Calls Try.prog 10 #[.agg #[.slice A l.length c, .int .i64 at_, .int .i64 other, .int .i64 n]] w fun e w' => e = .returned (.bool true) ∧ Below w.heap.size w w' := by
  have HR := Aside0.mk hr
  have hlen : l.length ≤ 9223372036854775807 := hr.2.1
  have hu57 := Try.underlying57
  have hu59 := Try.underlying59
  clear hr
  go_enter Try.func10, Try.ntmps10
  go_wp2_with (first
    | ((with_reducible refine gate_dst (N := 1) rfl ?_); refine box_event ?hg (N := 1) ?hd (cs := #[.slice A l.length c, .int .i64 at_, .int .i64 other, .int .i64 n]) (t := 57) ?hr ?_; (case hd => rfl); (case hg => rfl); (case hr => first | (go_simp; done) | (go_simp; rfl)); go_loud (intro gc hgc w1 hbox hb; have HB := Aside0.mk hb; have q0 := (blk_cell hbox 0).trans rfl; have q1 := (blk_cell hbox 1).trans rfl; have q2 := (blk_cell hbox 2).trans rfl; have q3 := (blk_cell hbox 3).trans rfl; clear hgc hb hbox)))
  go_quiet (fail)
  have HBd := Aside0.mk (pw_below_drewN HB.out nq)
  generalize w1.drewN nq = w2 at HBd ⊢
  clear HB q0 q1 q2 q3
  have HB := HBd
  clear HBd
  go_wp2
  go_loopw [7] (fun i wr => ∃ k : Nat, k ≤ l.length ∧ i = .int .i64 k ∧ Aside0 (Below w.heap.size w wr)) (fun i _ => l.length - (nOf i).toNat)
  case atStart => exact ⟨0, Nat.zero_le _, rfl, HB⟩
  case round =>
    clear HB
    obtain ⟨k, hk, rfl, HB⟩ := hrel
    by_cases hlt : k < l.length
    · obtain ⟨ad, B, cb, rfl, hat⟩ := at_Rg (Kd.C_below HR.out HB.out) (k : Int) (by omega) (by omega)
      obtain ⟨c0, c1, c2, _, _⟩ := hat
      simp only [Int.toNat_natCast] at c0 c1 c2
      by_cases hbig : 2000 < (rdR l (k : Int)).words.length
      · go_wp2_with (first
          | (go_at_call 31; go_loud (refine (live_calls _).mono ?_; rintro e w3 ⟨rfl, hb⟩; have HBn := Aside0.mk (below_step HB.out hb); clear hb)))
        go_ret
        exact ⟨rfl, HBn.out⟩
      · go_wp2
        go_roundw
        case rel => exact ⟨k + 1, by omega, by go_num, HB⟩
        case measure => simp [nOf]; omega
    obtain rfl : k = l.length := by omega
    by_cases hok : memOk l = true
    case neg =>
      have HN := Aside0.mk (show memOk l = false from by simpa using hok)
      clear hok
      go_wp2_with (first
        | (go_at_call 32; go_loud (refine (new_calls l A c _ (Kd.C_below HR.out HB.out)).mono ?_; rintro e w3 ⟨⟨_, rfl⟩ | ⟨h, _⟩, hb⟩; rotate_left; (exact absurd h (by rw [HN.out]; decide)); have HBn := Aside0.mk (below_step HB.out hb); clear hb HB; have HB := HBn; clear HBn))
        | (go_at_call 31; go_loud (refine (live_calls _).mono ?_; rintro e w4 ⟨rfl, hb⟩; have HBn := Aside0.mk (below_step HB.out hb); clear hb HB; have HB := HBn; clear HBn)))
      go_ret
      exact ⟨rfl, HB.out⟩
    have HN := Aside0.mk hok
    have HBB := Aside0.mk (below_size HB.out)
    have hall := memOk_all hok
    obtain ⟨m1, vx, fx, hx⟩ : ∃ m1 vx fx, load ⟨l, [], []⟩ other = (m1, vx, fx) := ⟨_, _, _, rfl⟩
    obtain ⟨m2, ey, hy⟩ : ∃ m2 ey, store m1 at_ n = (m2, ey) := ⟨_, _, rfl⟩
    obtain ⟨m3, vz, fz, hz⟩ : ∃ m3 vz fz, load m2 other = (m3, vz, fz) := ⟨_, _, _, rfl⟩
    obtain ⟨m4, vd, fd, hd⟩ : ∃ m4 vd fd, load m3 at_ = (m4, vd, fd) := ⟨_, _, _, rfl⟩
    have k1 : ∀ r ∈ m1.rs, regOk r = true := by
      have := load_rs ⟨l, [], []⟩ other
      rw [hx] at this
      exact fun r hr => hall r (by have h3 : m1.rs = l := this; rw [← h3]; exact hr)
    have k2 : ∀ r ∈ m2.rs, regOk r = true := by
      have := store_ok m1 at_ n k1
      rw [hy] at this
      exact this
    have k3 : ∀ r ∈ m3.rs, regOk r = true := by
      have := load_rs m2 other
      rw [hz] at this
      exact fun r hr => k2 r (by have h3 : m3.rs = m2.rs := this; rw [← h3]; exact hr)
    have st := stays hok [] [] at_ other n
    simp only [hx, hy, hz, hd] at st
    obtain ⟨s1, s2, s3⟩ := st
    have L1 : Aside0 (∀ (g : Nat) (W : World), MemAt wr.heap.size (fun k => wr.heap.size ≤ k) W g 0 ⟨l, [], []⟩ → Calls Try.prog 33 #[.pointer (some ⟨g, 0, none⟩), .int .i64 other] W fun e w' => e = .returned (.tuple #[.int .i64 vx, .int .i64 fx]) ∧ MemAt wr.heap.size (fun k => wr.heap.size ≤ k) w' g 1 m1 ∧ Turn (fun k => wr.heap.size ≤ k) W w') := ⟨fun g W hm => by
      have := load_calls _ _ g 0 ⟨l, [], []⟩ other W hm hall h2 (by decide)
      rw [hx] at this; exact this⟩
    have L2 : Aside0 (∀ (g : Nat) (W : World), MemAt wr.heap.size (fun k => wr.heap.size ≤ k) W g 1 m1 → Calls Try.prog 34 #[.pointer (some ⟨g, 0, none⟩), .int .i64 at_, .int .i64 n] W fun e w' => e = .returned (.int .i64 ey) ∧ MemAt wr.heap.size (fun k => wr.heap.size ≤ k) w' g 2 m2 ∧ Turn (fun k => wr.heap.size ≤ k) W w') := ⟨fun g W hm => by
      have := store_calls _ _ g 1 m1 at_ n W hm k1 h1 (by decide)
      rw [hy] at this; exact this⟩
    have L3 : Aside0 (∀ (g : Nat) (W : World), MemAt wr.heap.size (fun k => wr.heap.size ≤ k) W g 2 m2 → Calls Try.prog 33 #[.pointer (some ⟨g, 0, none⟩), .int .i64 other] W fun e w' => e = .returned (.tuple #[.int .i64 vz, .int .i64 fz]) ∧ MemAt wr.heap.size (fun k => wr.heap.size ≤ k) w' g 3 m3 ∧ Turn (fun k => wr.heap.size ≤ k) W w') := ⟨fun g W hm => by
      have := load_calls _ _ g 2 m2 other W hm k2 h2 (by decide)
      rw [hz] at this; exact this⟩
    have L4 : Aside0 (∀ (g : Nat) (W : World), MemAt wr.heap.size (fun k => wr.heap.size ≤ k) W g 3 m3 → Calls Try.prog 33 #[.pointer (some ⟨g, 0, none⟩), .int .i64 at_] W fun e w' => e = .returned (.tuple #[.int .i64 vd, .int .i64 fd]) ∧ MemAt wr.heap.size (fun k => wr.heap.size ≤ k) w' g 4 m4 ∧ Turn (fun k => wr.heap.size ≤ k) W w') := ⟨fun g W hm => by
      have := load_calls _ _ g 3 m3 at_ W hm k3 h1 (by decide)
      rw [hd] at this; exact this⟩
    clear hx hy hz hd k1 k2 k3 hall hok
    subst s1
    have t1 : True := trivial
    have t2 : True := trivial
    have t3 : True := trivial
    have t4 : True := trivial
    by_cases he : ey = 0
    · obtain ⟨rfl, rfl⟩ := s2 he
      subst he
      by_cases hao : at_ = other
      · clear s3 s2
        subst hao
        go_wp2_with (first
      | (go_at_call 32; go_loud (refine (new_calls l A c _ (Kd.C_below HR.out HB.out)).mono ?_; rintro e w3 ⟨⟨h, _⟩ | ⟨_, g, rfl, hm⟩, hb⟩; (exact absurd h (by rw [HN.out]; decide)); have HM := Aside0.mk hm; have HBn := Aside0.mk (below_step HB.out hb); clear hb hm HB; have HB := HBn; clear HBn))
      | (go_at_call 33; have _t := t1; go_loud ((with_reducible refine (L1.out g _ HM.out).mono ?_); rintro e w4 ⟨rfl, hm, ht⟩; have HMn := Aside0.mk hm; have HBn := Aside0.mk (HB.out.trans (ht.below (fun k hk => Nat.le_trans HBB.out hk) (below_size HB.out))); clear HM HB hm ht t1; have HM := HMn; have HB := HBn; clear HMn HBn))
      | (go_at_call 34; have _t := t2; go_loud ((with_reducible refine (L2.out g _ HM.out).mono ?_); rintro e w5 ⟨rfl, hm, ht⟩; have HMn := Aside0.mk hm; have HBn := Aside0.mk (HB.out.trans (ht.below (fun k hk => Nat.le_trans HBB.out hk) (below_size HB.out))); clear HM HB hm ht t2; have HM := HMn; have HB := HBn; clear HMn HBn))
      | (go_at_call 33; have _t := t3; go_loud ((with_reducible refine (L3.out g _ HM.out).mono ?_); rintro e w6 ⟨rfl, hm, ht⟩; have HMn := Aside0.mk hm; have HBn := Aside0.mk (HB.out.trans (ht.below (fun k hk => Nat.le_trans HBB.out hk) (below_size HB.out))); clear HM HB hm ht t3; have HM := HMn; have HB := HBn; clear HMn HBn))
      | (go_at_call 33; have _t := t4; go_loud ((with_reducible refine (L4.out g _ HM.out).mono ?_); rintro e w7 ⟨rfl, hm, ht⟩; have HMn := Aside0.mk hm; have HBn := Aside0.mk (HB.out.trans (ht.below (fun k hk => Nat.le_trans HBB.out hk) (below_size HB.out))); clear HM HB hm ht t4; have HM := HMn; have HB := HBn; clear HMn HBn))
      | (go_at_call 31; go_loud (refine (live_calls _).mono ?_; rintro e w8 ⟨rfl, hb⟩; have HBn := Aside0.mk (below_step HB.out hb); clear hb HB; have HB := HBn; clear HBn)))
        go_ret
        exact ⟨rfl, HB.out⟩
      · obtain rfl := s3 hao
        clear s3 s2
        go_wp2_with (first
      | (go_at_call 32; go_loud (refine (new_calls l A c _ (Kd.C_below HR.out HB.out)).mono ?_; rintro e w3 ⟨⟨h, _⟩ | ⟨_, g, rfl, hm⟩, hb⟩; (exact absurd h (by rw [HN.out]; decide)); have HM := Aside0.mk hm; have HBn := Aside0.mk (below_step HB.out hb); clear hb hm HB; have HB := HBn; clear HBn))
      | (go_at_call 33; have _t := t1; go_loud ((with_reducible refine (L1.out g _ HM.out).mono ?_); rintro e w4 ⟨rfl, hm, ht⟩; have HMn := Aside0.mk hm; have HBn := Aside0.mk (HB.out.trans (ht.below (fun k hk => Nat.le_trans HBB.out hk) (below_size HB.out))); clear HM HB hm ht t1; have HM := HMn; have HB := HBn; clear HMn HBn))
      | (go_at_call 34; have _t := t2; go_loud ((with_reducible refine (L2.out g _ HM.out).mono ?_); rintro e w5 ⟨rfl, hm, ht⟩; have HMn := Aside0.mk hm; have HBn := Aside0.mk (HB.out.trans (ht.below (fun k hk => Nat.le_trans HBB.out hk) (below_size HB.out))); clear HM HB hm ht t2; have HM := HMn; have HB := HBn; clear HMn HBn))
      | (go_at_call 33; have _t := t3; go_loud ((with_reducible refine (L3.out g _ HM.out).mono ?_); rintro e w6 ⟨rfl, hm, ht⟩; have HMn := Aside0.mk hm; have HBn := Aside0.mk (HB.out.trans (ht.below (fun k hk => Nat.le_trans HBB.out hk) (below_size HB.out))); clear HM HB hm ht t3; have HM := HMn; have HB := HBn; clear HMn HBn))
      | (go_at_call 33; have _t := t4; go_loud ((with_reducible refine (L4.out g _ HM.out).mono ?_); rintro e w7 ⟨rfl, hm, ht⟩; have HMn := Aside0.mk hm; have HBn := Aside0.mk (HB.out.trans (ht.below (fun k hk => Nat.le_trans HBB.out hk) (below_size HB.out))); clear HM HB hm ht t4; have HM := HMn; have HB := HBn; clear HMn HBn))
      | (go_at_call 31; go_loud (refine (live_calls _).mono ?_; rintro e w8 ⟨rfl, hb⟩; have HBn := Aside0.mk (below_step HB.out hb); clear hb HB; have HB := HBn; clear HBn)))
        go_ret
        exact ⟨rfl, HB.out⟩
    · by_cases hao : at_ = other
      · clear s3 s2
        subst hao
        go_wp2_with (first
      | (go_at_call 32; go_loud (refine (new_calls l A c _ (Kd.C_below HR.out HB.out)).mono ?_; rintro e w3 ⟨⟨h, _⟩ | ⟨_, g, rfl, hm⟩, hb⟩; (exact absurd h (by rw [HN.out]; decide)); have HM := Aside0.mk hm; have HBn := Aside0.mk (below_step HB.out hb); clear hb hm HB; have HB := HBn; clear HBn))
      | (go_at_call 33; have _t := t1; go_loud ((with_reducible refine (L1.out g _ HM.out).mono ?_); rintro e w4 ⟨rfl, hm, ht⟩; have HMn := Aside0.mk hm; have HBn := Aside0.mk (HB.out.trans (ht.below (fun k hk => Nat.le_trans HBB.out hk) (below_size HB.out))); clear HM HB hm ht t1; have HM := HMn; have HB := HBn; clear HMn HBn))
      | (go_at_call 34; have _t := t2; go_loud ((with_reducible refine (L2.out g _ HM.out).mono ?_); rintro e w5 ⟨rfl, hm, ht⟩; have HMn := Aside0.mk hm; have HBn := Aside0.mk (HB.out.trans (ht.below (fun k hk => Nat.le_trans HBB.out hk) (below_size HB.out))); clear HM HB hm ht t2; have HM := HMn; have HB := HBn; clear HMn HBn))
      | (go_at_call 33; have _t := t3; go_loud ((with_reducible refine (L3.out g _ HM.out).mono ?_); rintro e w6 ⟨rfl, hm, ht⟩; have HMn := Aside0.mk hm; have HBn := Aside0.mk (HB.out.trans (ht.below (fun k hk => Nat.le_trans HBB.out hk) (below_size HB.out))); clear HM HB hm ht t3; have HM := HMn; have HB := HBn; clear HMn HBn))
      | (go_at_call 33; have _t := t4; go_loud ((with_reducible refine (L4.out g _ HM.out).mono ?_); rintro e w7 ⟨rfl, hm, ht⟩; have HMn := Aside0.mk hm; have HBn := Aside0.mk (HB.out.trans (ht.below (fun k hk => Nat.le_trans HBB.out hk) (below_size HB.out))); clear HM HB hm ht t4; have HM := HMn; have HB := HBn; clear HMn HBn))
      | (go_at_call 31; go_loud (refine (live_calls _).mono ?_; rintro e w8 ⟨rfl, hb⟩; have HBn := Aside0.mk (below_step HB.out hb); clear hb HB; have HB := HBn; clear HBn)))
        go_ret
        exact ⟨rfl, HB.out⟩
      · obtain rfl := s3 hao
        clear s3 s2
        go_wp2_with (first
      | (go_at_call 32; go_loud (refine (new_calls l A c _ (Kd.C_below HR.out HB.out)).mono ?_; rintro e w3 ⟨⟨h, _⟩ | ⟨_, g, rfl, hm⟩, hb⟩; (exact absurd h (by rw [HN.out]; decide)); have HM := Aside0.mk hm; have HBn := Aside0.mk (below_step HB.out hb); clear hb hm HB; have HB := HBn; clear HBn))
      | (go_at_call 33; have _t := t1; go_loud ((with_reducible refine (L1.out g _ HM.out).mono ?_); rintro e w4 ⟨rfl, hm, ht⟩; have HMn := Aside0.mk hm; have HBn := Aside0.mk (HB.out.trans (ht.below (fun k hk => Nat.le_trans HBB.out hk) (below_size HB.out))); clear HM HB hm ht t1; have HM := HMn; have HB := HBn; clear HMn HBn))
      | (go_at_call 34; have _t := t2; go_loud ((with_reducible refine (L2.out g _ HM.out).mono ?_); rintro e w5 ⟨rfl, hm, ht⟩; have HMn := Aside0.mk hm; have HBn := Aside0.mk (HB.out.trans (ht.below (fun k hk => Nat.le_trans HBB.out hk) (below_size HB.out))); clear HM HB hm ht t2; have HM := HMn; have HB := HBn; clear HMn HBn))
      | (go_at_call 33; have _t := t3; go_loud ((with_reducible refine (L3.out g _ HM.out).mono ?_); rintro e w6 ⟨rfl, hm, ht⟩; have HMn := Aside0.mk hm; have HBn := Aside0.mk (HB.out.trans (ht.below (fun k hk => Nat.le_trans HBB.out hk) (below_size HB.out))); clear HM HB hm ht t3; have HM := HMn; have HB := HBn; clear HMn HBn))
      | (go_at_call 33; have _t := t4; go_loud ((with_reducible refine (L4.out g _ HM.out).mono ?_); rintro e w7 ⟨rfl, hm, ht⟩; have HMn := Aside0.mk hm; have HBn := Aside0.mk (HB.out.trans (ht.below (fun k hk => Nat.le_trans HBB.out hk) (below_size HB.out))); clear HM HB hm ht t4; have HM := HMn; have HB := HBn; clear HMn HBn))
      | (go_at_call 31; go_loud (refine (live_calls _).mono ?_; rintro e w8 ⟨rfl, hb⟩; have HBn := Aside0.mk (below_step HB.out hb); clear hb HB; have HB := HBn; clear HBn)))
        go_ret
        exact ⟨rfl, HB.out⟩
end Go.Proofs.Ytochgjeanajoiaa.HA.Mem
