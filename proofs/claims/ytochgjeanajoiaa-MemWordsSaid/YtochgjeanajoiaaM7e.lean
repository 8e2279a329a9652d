/- Written by hand: New of package mem. -/
import Derived.Test.YtochgjeanajoiaaM7d
import Derived.Laws.BitsLemmas
namespace Go.Proofs.Ytochgjeanajoiaa.HA.Mem
open Go.RowKit Go.WideMaps Go.Maps Go.Proofs.YtochgjeanajoiaaW.PrintWords Go.Proofs.YtochgjeanajoiaaW.PrintLast Go.Proofs.YtochgjeanajoiaaW.PrintMore
set_option linter.unusedVariables false
set_option linter.unusedSimpArgs false

theorem and7 (n : Int) : bits .and .i64 n 7 = n % 8 := by
  have h7 : (BitVec.ofInt 64 7).toNat = 2 ^ 3 - 1 := by decide
  have key : (BitVec.ofInt 64 n &&& BitVec.ofInt 64 7).toNat = (n % ((2 ^ 64 : Nat) : Int)).toNat % 2 ^ 3 := by
    rw [BitVec.toNat_and, BitVec.toNat_ofInt, h7, Nat.and_two_pow_sub_one_eq_mod]
  show IntKind.i64.wrap ((BitVec.ofInt 64 n &&& BitVec.ofInt 64 7).toNat : Nat) = n % 8
  rw [key, IntKind.wrap_i64]
  omega
theorem regsFrom_app : ∀ (a b prev : List Rg), regsFrom prev (a ++ b) = (regsFrom prev a && regsFrom (prev ++ a) b)
  | [], b, prev => by simp [regsFrom]
  | r :: a, b, prev => by
    simp only [List.cons_append, regsFrom, regsFrom_app a b (prev ++ [r]), List.append_assoc, List.singleton_append, List.cons_append, List.nil_append, Bool.and_assoc]
theorem regs_take {l : List Rg} {k : Nat} {x : Rg} (hx : l[k]? = some x) : regsFrom [] (l.take (k + 1)) = (regsFrom [] (l.take k) && (regOk x && !((l.take k).any (hit x)))) := by
  rw [List.take_add_one, hx, regsFrom_app]
  have : (l.take k).all (apartR x) = !((l.take k).any (hit x)) := by
    rw [List.not_any_eq_all_not]; rfl
  simp [regsFrom, this]
theorem regs_bad {l : List Rg} {k : Nat} (h : regsFrom [] (l.take k) = false) : memOk l = false := by
  have : regsFrom [] l = false := by
    rw [← List.take_append_drop k l, regsFrom_app, h, Bool.false_and]
  simp [memOk, this]
theorem regs_ok {l : List Rg} (h : regsFrom [] l = true) : ∀ o ∈ l, regOk o = true := regs_base h
section
variable {base : Nat} {ok ok' S : Nat → Prop} {W W1 : World} {g n b1 b2 : Nat} {rv : Value} {m : Mm}
theorem MemA.turn (h : MemA base ok W g n b1 b2 rv m) (ht : Turn S W W1) (hd : ∀ k, ok k → ¬ S k) : MemA base ok W1 g n b1 b2 rv m :=
  ⟨(ht.block _ (blk_lt h.box) (hd _ h.ok0)).trans h.box, h.bg, h.ok0, h.ok1, h.ok2, h.base1, h.base2, h.ne, h.m1.kept (ht.block _ h.m1.lt (hd _ h.ok1)), h.m2.kept (ht.block _ h.m2.lt (hd _ h.ok2)), Kd.S_kept h.row ht.kept hd⟩
theorem MemA.below (h : MemA base ok W g n b1 b2 rv m) (hb : Below W.heap.size W W1) : MemA base ok W1 g n b1 b2 rv m := h.turn (Turn.of_below hb (fun _ => False)) (fun _ _ h => h)
theorem MemA.mono (h : MemA base ok W g n b1 b2 rv m) (hk : ∀ k, ok k → ok' k) : MemA base ok' W g n b1 b2 rv m :=
  ⟨h.box, h.bg, hk _ h.ok0, hk _ h.ok1, hk _ h.ok2, h.base1, h.base2, h.ne, h.m1, h.m2, Kd.S_mono h.row hk⟩
theorem MemA.bound (h : MemA base ok W g n b1 b2 rv m) : MemA base (fun k => ok k ∧ base ≤ k ∧ k < W.heap.size) W g n b1 b2 rv m :=
  ⟨h.box, h.bg, ⟨h.ok0, h.bg, blk_lt h.box⟩, ⟨h.ok1, h.base1, h.m1.lt⟩, ⟨h.ok2, h.base2, h.m2.lt⟩, h.base1, h.base2, h.ne, h.m1, h.m2, Kd.S_mono (Kd.S_bound h.row) (fun k hk => ⟨hk.1, hk.2.1, hk.2.2.1⟩)⟩
theorem MemA.g1 (h : MemA base ok W g n b1 b2 rv m) : g ≠ b1 := fun e => by
  obtain ⟨es, cl, hb⟩ := h.m1.blk
  rw [← e, h.box] at hb; cases hb
theorem MemA.g2 (h : MemA base ok W g n b1 b2 rv m) : g ≠ b2 := fun e => by
  obtain ⟨es, cl, hb⟩ := h.m2.blk
  rw [← e, h.box] at hb; cases hb
theorem MemA.v1 (h : MemA base ok W g n b1 b2 rv m) : some b1 ≠ rv.ownBlock := fun e => by
  obtain ⟨es, cl, hb⟩ := h.m1.blk
  obtain ⟨cs, hc⟩ := Kd.S_typed h.row b1 e.symm
  rw [hc] at hb; cases hb
theorem MemA.v2 (h : MemA base ok W g n b1 b2 rv m) : some b2 ≠ rv.ownBlock := fun e => by
  obtain ⟨es, cl, hb⟩ := h.m2.blk
  obtain ⟨cs, hc⟩ := Kd.S_typed h.row b2 e.symm
  rw [hc] at hb; cases hb
theorem MemA.gv (h : MemA base ok W g n b1 b2 rv m) : some g ≠ rv.ownBlock := Kd.S_ne h.row h.box (by decide)
/-- The row's slice put anew. -/
theorem MemA.put (h : MemA base ok W g n b1 b2 rv m) {v1 : Value} {l1 : List Rg} {W2 : World} (hk : Turn S W W2) (hS : ∀ k, S k → k ≠ g ∧ k ≠ b1 ∧ k ≠ b2) (hr : Kd.S k59 59 W2 base ok' v1 l1) (hok : ∀ k, ok k → ok' k) : MemA base ok' (W2.setCell ⟨g, 2, none⟩ v1) g n b1 b2 v1 ⟨l1, m.rd, m.wt⟩ := by
  have hbox : W2.heap[g]? = some (.cells #[.map (some b1), .map (some b2), rv] 131 (0, 0)) := (hk.block _ (blk_lt h.box) (fun hs => (hS _ hs).1 rfl)).trans h.box
  have e1 := (Below.heap_setCell W2 ⟨g, 2, none⟩ v1 b1 (fun e => h.g1 e.symm))
  have e2 := (Below.heap_setCell W2 ⟨g, 2, none⟩ v1 b2 (fun e => h.g2 e.symm))
  exact ⟨blk_put hbox 2 v1 rfl, h.bg, hok _ h.ok0, hok _ h.ok1, hok _ h.ok2, h.base1, h.base2, h.ne,
    h.m1.kept (e1.trans (hk.block _ h.m1.lt (fun hs => (hS _ hs).2.1 rfl))), h.m2.kept (e2.trans (hk.block _ h.m2.lt (fun hs => (hS _ hs).2.2 rfl))), Kd.S_set hr hbox (by decide) 2 v1⟩
end
def R32.T12 : Bool × List (List Nat × List Nat) := (true, [([], []), ([], []), ([1], [1]), ([2], [2]), ([3], [3]), ([], []), ([5], [5]), ([4, 6], [4, 6]), ([0, 0, 1, 2, 3, 4, 5, 6, 7], [0]), ([8, 0, 1, 2, 3, 4, 5, 6, 7], [8]), ([9, 7, 7, 0, 1, 2, 3, 4, 5, 6, 7], [7, 9])])
def R32.B12 : List Nat := [0, 0, 2, 6, 14, 0, 32, 126, 255, 511, 1023]
theorem R32.tab12 : rtab .any (opsOf Try.f32 12) = R32.T12 := by kernel_rfl
theorem R32.bits12 : waitsOk R32.T12.2 R32.B12 = true := by kernel_rfl
set_option maxRecDepth 100000 in
set_option maxHeartbeats 8000000 in
theorem new_calls (l : List Rg) (A : Option Addr) (c : Nat) (w : World) (hr : Kd.C k59 w A l.length l) :
    Calls Try.prog 32 #[.slice A l.length c] w fun e w' => ((memOk l = false ∧ e = .returned (.tuple #[.pointer none, .int .i64 1])) ∨
      (memOk l = true ∧ ∃ g, e = .returned (.tuple #[.pointer (some ⟨g, 0, none⟩), .int .i64 0]) ∧ MemAt w.heap.size (fun k => w.heap.size ≤ k) w' g 0 ⟨l, [], []⟩)) ∧ Below w.heap.size w w' := by
  have HR := Aside0.mk hr
  have hu59 := Try.underlying59
  have hu131 := Try.underlying131
  have hu128 := Try.underlying128
  clear hr
  by_cases h16 : l.length ≤ 16
  case neg =>
    go_enter Try.func32, Try.ntmps32
    go_wp2
    go_ret2
    exact ⟨.inl ⟨by simp [memOk, h16], rfl⟩, Below.refl _ _⟩
  go_enter Try.func32, Try.ntmps32
  go_wp2_with (first
    | (go_at_call 77; go_loud (refine (untouched_calls _).mono ?_; rintro e w1 ⟨b1, b2, rfl, hb1, hb2, hne, ht1, ht2, hbw⟩; have HB1 := Aside0.mk hb1; have HB2 := Aside0.mk hb2; have HNE := Aside0.mk hne; have HT1 := Aside0.mk ht1; have HT2 := Aside0.mk ht2; have HB := Aside0.mk hbw; clear hb1 hb2 hne ht1 ht2 hbw))
    | ((with_reducible refine gate_dst (N := 12) rfl ?_); refine box_event ?hg (N := 12) ?hd (cs := #[.map (some b1), .map (some b2), .slice none 0 0]) (t := 131) ?hr ?_; (case hd => rfl); (case hg => rfl); (case hr => first | (go_simp; done) | (go_simp; rfl)); intro g hg w2 hbox hb; have HBX := Aside0.mk hbox; have HGE := Aside0.mk (show w.heap.size ≤ g from by rw [hg]; exact HB.out.size); have HM := Aside0.mk (MemA.mk (ok := fun k => w.heap.size ≤ k) (rv := .slice none 0 0) (n := 0) (m := ⟨[], [], []⟩) hbox HGE.out HGE.out HB1.out HB2.out HB1.out HB2.out HNE.out (HT1.out.kept (hb.block _ HT1.out.lt)) (HT2.out.kept (hb.block _ HT2.out.lt)) (Kd.S_nil _ _ _ _ _)); have HBn := Aside0.mk (below_step HB.out hb); clear HB hbox hb hg HT1 HT2 HB1 HB2 HNE HBX HGE; have HB := HBn; clear HBn))
  go_loopw [15] (fun i wr => ∃ (k : Nat) (rv : Value), k ≤ l.length ∧ i = .int .i64 k ∧ regsFrom [] (l.take k) = true ∧ Aside0 (MemA w.heap.size (fun k => w.heap.size ≤ k) wr g 0 b1 b2 rv ⟨l.take k, [], []⟩) ∧ Aside0 (Below w.heap.size w wr)) (fun i _ => l.length - (nOf i).toNat)
  case atStart => exact ⟨0, _, Nat.zero_le _, rfl, rfl, HM, HB⟩
  case round =>
    clear HM HB
    obtain ⟨k, rv, hk, rfl, hok, HM, HB⟩ := hrel
    have HOK := Aside0.mk hok
    clear hok
    by_cases hlt : k < l.length
    case neg =>
      obtain rfl : k = l.length := by omega
      go_wp2
      go_ret2
      have h1 := HOK.out
      have h2 := HM.out
      rw [List.take_length] at h1 h2
      exact ⟨.inr ⟨by simp [memOk, h16, h1], g, rfl, b1, b2, rv, h2⟩, HB.out⟩
    obtain ⟨ad, B, cb, rfl, hat⟩ := at_Rg (Kd.C_below HR.out HB.out) (k : Int) (by omega) (by omega)
    obtain ⟨x, hx⟩ : ∃ x, l[k]? = some x := ⟨_, List.getElem?_eq_getElem hlt⟩
    rw [show rdR l (k : Int) = x from by simp [rdR, hx]] at hat
    have HX := Aside0.mk hx
    have HAT := Aside0.mk hat
    obtain ⟨c0, c1, c2, _, _⟩ := hat
    simp only [Int.toNat_natCast] at c0 c1 c2
    clear hx
    have hand := and7 x.base
    by_cases hxo : regOk x = true
    case neg =>
      have hbad : regsFrom [] (l.take (k + 1)) = false := by rw [regs_take HX.out]; simp [hxo]
      have HBAD := Aside0.mk (regs_bad hbad)
      have hno : x.base < 0 ∨ 1099511627776 < x.base ∨ x.base % 8 ≠ 0 ∨ 65536 < x.words.length := by
        simp only [regOk, decide_eq_true_eq] at hxo; omega
      clear hxo hbad
      by_cases q1 : x.base < 0
      · go_wp2
        go_ret2
        exact ⟨.inl ⟨HBAD.out, rfl⟩, below_alloc HB.out _⟩
      by_cases q2 : 1099511627776 < x.base
      · go_wp2
        go_ret2
        exact ⟨.inl ⟨HBAD.out, rfl⟩, below_alloc HB.out _⟩
      by_cases q3 : x.base % 8 = 0
      · have q4 : 65536 < x.words.length := by omega
        clear hno
        go_wp2
        go_ret2
        exact ⟨.inl ⟨HBAD.out, rfl⟩, below_alloc HB.out _⟩
      · clear hno
        go_wp2
        go_ret2
        exact ⟨.inl ⟨HBAD.out, rfl⟩, below_alloc HB.out _⟩
    have HXO := Aside0.mk hxo
    have HNX := Aside0.mk (regs_take HX.out)
    obtain ⟨lk, hlk⟩ : ∃ lk, lk = l.take k := ⟨_, rfl⟩
    rw [← hlk] at HM HOK HNX
    have HLN : Aside0 (lk.length = k) := Aside0.mk (by rw [hlk, List.length_take]; omega)
    have HLK := Aside0.mk (show l.take (k + 1) = lk ++ [x] from by rw [hlk, List.take_add_one, HX.out]; rfl)
    clear hlk
    obtain ⟨hb1, hb2, hb3⟩ := regOk_iff hxo
    clear hxo
    have HRV := Aside0.mk (Kd.S_lt HM.out.row)
    have HRB := Aside0.mk (Kd.S_base HM.out.row)
    obtain ⟨A2, c2', rfl, hl2, _⟩ := Kd.S_reads HM.out.row
    have HN := Aside0.mk (below_size HB.out)
    have HMb := Aside0.mk (HM.out.bound.mono (fun j hj => (⟨hj.2.2, hj.1⟩ : j < wr.heap.size ∧ w.heap.size ≤ j)))
    clear HM
    have HM := HMb
    clear HMb
    go_wp2_with (first
      | ((with_reducible refine gate_dst (N := 6) rfl ?_); refine box_event ?hg (N := 6) ?hd (cs := #[.int .i64 0, .slice none 0 0, .bool false]) (t := 59) ?hr ?_; (case hd => rfl); (case hg => rfl); (case hr => first | (go_simp; done) | (go_simp; rfl)); go_loud (intro gr hgr w3 hbox hb; have HGR := Aside0.mk hgr; have HG0 := Aside0.mk hbox; have HMn := Aside0.mk (HM.out.below hb); have HW := Aside0.mk hb; clear HM hbox hb hgr c0 c1 c2; have HM := HMn; clear HMn))
      | ((with_reducible refine gate_store (p := 6) rfl ?_); go_loud (refine row_event rfl 59 _ _ rfl gr #[.int .i64 x.base, .slice B x.words.length cb, .bool x.wr] #[.int .i64 0, .slice none 0 0, .bool false] (by rfl) (by rfl) HG0.out (by kernel_rfl) (by rfl) (by kernel_rfl) ?_; intro w4 hw4 hg4; have HG1 := Aside0.mk hw4; have HMn := Aside0.mk (HM.out.turn (S := fun j => j = gr) (Turn.of_grown hg4 (fun j hj => (Option.some.inj hj).symm)) (fun j hj he => by have := HGR.out; have := hj.1; omega)); have HWn := Aside0.mk (HW.out.trans ((Turn.of_grown (S := fun j => j = gr) hg4 (fun j hj => (Option.some.inj hj).symm)).below (fun j hj => by rw [hj, HGR.out]; exact Nat.le_refl _) (below_size HW.out))); clear HM HG0 HW hw4 hg4; have HM := HMn; have HW := HWn; clear HMn HWn; have q0 := (blk_cell HG1.out 0).trans rfl; have q1 := (blk_cell HG1.out 1).trans rfl; have q2 := (blk_cell HG1.out 2).trans rfl; have p2 := (blk_cell HM.out.box 2).trans rfl; have HCR := Aside0.mk (Kd.S_reads' HM.out.row).2.2))
      | (go_at_call 78; go_loud (refine (contains_calls gr x A2 B c2' cb lk _ HG1.out HXO.out HCR.out (regs_ok HOK.out)).mono ?_; rintro e w5 ⟨rfl, hb5⟩; have HMn := Aside0.mk (HM.out.below hb5); have HGn := Aside0.mk (blk_below HG1.out hb5); have HWn := Aside0.mk (below_step HW.out hb5); clear hb5 HM HW HG1 HCR q0 q1 q2 p2; have HM := HMn; have HG1 := HGn; have HW := HWn; clear HMn HGn HWn; have q0 := (blk_cell HG1.out 0).trans rfl; have q1 := (blk_cell HG1.out 1).trans rfl; have q2 := (blk_cell HG1.out 2).trans rfl; have p2 := (blk_cell HM.out.box 2).trans rfl))
      | (go_at_call 81; go_loud (refine (clone_calls B cb x.words _ (Kd.C_below HAT.out.words HW.out) hb3).mono ?_; rintro e w6 ⟨v, rfl, hv, hb6⟩; have HMn := Aside0.mk (HM.out.below hb6); have HGn := Aside0.mk (blk_below HG1.out hb6); have HWn := Aside0.mk (below_step HW.out hb6); have HVn := Aside0.mk (Kd.R_mono (Kd.R_lower hv (Nat.le_trans HN.out (below_size HW.out))) (fun j hj => (Nat.le_trans (below_size HW.out) hj : wr.heap.size ≤ j))); clear hb6 hv HM HW HG1 q0 q1 q2 p2; have HM := HMn; have HG1 := HGn; have HW := HWn; have HV := HVn; clear HMn HGn HWn HVn; obtain ⟨A3, c3, rfl⟩ := Kd.R_slice HV.out; have q1 := (blk_cell HG1.out 1).trans rfl; have qf := blk_frozen HG1.out 1)))
    · have hany : lk.any (hit x) = true := by first | assumption | simpa using ‹_›
      go_ret2
      exact ⟨.inl ⟨regs_bad (k := k + 1) (by rw [HNX.out, hany]; simp), rfl⟩, below_step HB.out HW.out⟩
    have hany : lk.any (hit x) = false := by first | assumption | (rw [Bool.eq_false_iff]; assumption) | simpa using ‹_›
    have HANY := Aside0.mk hany
    have HSZ := Aside0.mk (below_size HW.out)
    have HNB := Aside0.mk HB.out
    have HMs := Aside0.mk (HM.out.turn (S := fun j => j = gr) (W1 := w6.setCell ⟨gr, 1, none⟩ (.slice A3 x.words.length c3)) ⟨rfl, rfl, rfl, by simp [World.setCell], fun j hj hn => Below.heap_setCell _ _ _ _ hn⟩ (fun j hj he => by have := HGR.out; have := hj.1; omega))
    have HG2s := Aside0.mk (blk_put HG1.out 1 (.slice A3 x.words.length c3) rfl)
    have HVs := Aside0.mk (Kd.R_set HV.out HG1.out (by decide) 1 (.slice A3 x.words.length c3))
    have HWs := Aside0.mk (HW.out.setCell (p := ⟨gr, 1, none⟩) (by rw [HGR.out]; exact Nat.le_refl _) (.slice A3 x.words.length c3))
    generalize w6.setCell ⟨gr, 1, none⟩ (.slice A3 x.words.length c3) = wc at HMs HG2s HVs HWs ⊢
    clear HM HG1 HV HW HSZ hany
    have HM := Aside0.mk (HMs.out.below (below_drew (Below.refl _ _)))
    have HG2 := Aside0.mk (blk_drew HG2s.out)
    have HV := Aside0.mk (Kd.R_drew HVs.out)
    have HW := Aside0.mk (below_drew HWs.out)
    have HNc := Aside0.mk (below_size HW.out)
    clear HMs HG2s HVs HWs
    refine start_ (n := 11) (S := fun w' => w'.cell? ⟨g, 2, none⟩ = some (.slice A2 lk.length c2') ∧ w'.cell? ⟨gr, 0, none⟩ = some (.int .i64 x.base) ∧ w'.cell? ⟨gr, 1, none⟩ = some (.slice A3 x.words.length c3) ∧ w'.cell? ⟨gr, 2, none⟩ = some (.bool x.wr)) (ds := [10]) #[false, false, false, false, false, false, false, false, false, false, false] (by kernel_rfl) rfl rfl ?_ (fun hHeld => ?_)
    case refine_1 => exact ⟨(blk_cell HM.out.box 2).trans rfl, (blk_cell HG2.out 0).trans rfl, (blk_cell HG2.out 1).trans rfl, (blk_cell HG2.out 2).trans rfl⟩
    refine with_tabW R32.tab12 R32.bits12 (fun HT_ HW_ => ?_)
    refine pure_ (i := 0) (N := some 49) (v := ?_) (a' := ?_) #[true, false, false, false, false, false, false, false, false, false, false] rfl rfl (any_of HT_.out (by kernel_rfl)) (fun _ _ _ h => h) (Or.inl ⟨by rfl, ?_⟩) ?_ ?_
    rotate_left
    · intro w'
      go_simp
      with_reducible rfl
    rotate_left
    · simp only [Act.put, List.setIfInBounds_toArray, List.set_cons_zero, List.set_cons_succ, i64_w, i32_w]
      rfl
    refine pure_ (i := 1) (N := some 50) (v := ?_) (a' := ?_) #[true, true, false, false, false, false, false, false, false, false, false] rfl rfl (any_of HT_.out (by kernel_rfl)) (fun _ _ _ h => h) (Or.inl ⟨by rfl, ?_⟩) ?_ ?_
    rotate_left
    · intro w'
      go_simp
      with_reducible rfl
    rotate_left
    · simp only [Act.put, List.setIfInBounds_toArray, List.set_cons_zero, List.set_cons_succ, i64_w, i32_w]
      rfl
    refine pure_ (i := 2) (N := some 51) (v := ?_) (a' := ?_) #[true, true, true, false, false, false, false, false, false, false, false] rfl rfl (any_of HT_.out (by kernel_rfl)) (fun _ _ _ h => h) (Or.inl ⟨by rfl, ?_⟩) ?_ ?_
    rotate_left
    · intro w'
      go_simp
      with_reducible rfl
    rotate_left
    · simp only [Act.put, List.setIfInBounds_toArray, List.set_cons_zero, List.set_cons_succ, i64_w, i32_w]
      rfl
    refine pure_ (i := 3) (N := some 52) (v := ?_) (a' := ?_) #[true, true, true, true, false, false, false, false, false, false, false] rfl rfl (any_of HT_.out (by kernel_rfl)) (fun _ _ _ h => h) (Or.inl ⟨by rfl, ?_⟩) ?_ ?_
    rotate_left
    · intro w'
      go_simp
      with_reducible rfl
    rotate_left
    · simp only [Act.put, List.setIfInBounds_toArray, List.set_cons_zero, List.set_cons_succ, i64_w, i32_w]
      rfl
    refine take_ (i := 4) (N := some 53) (v := ?_) (a' := ?_) #[true, true, true, true, true, false, false, false, false, false, false] rfl rfl (take_ofW HT_.out HW_.out (by kernel_rfl)) (fun _ _ _ h => h) (Or.inl ⟨by rfl, ?_⟩) hHeld ?_ ?_
    rotate_left
    · rintro w' ⟨s0, s1, s2, s3⟩
      go_simp
      with_reducible rfl
    rotate_left
    · simp only [Act.put, List.setIfInBounds_toArray, List.set_cons_zero, List.set_cons_succ, i64_w, i32_w]
      rfl
    refine take_ (i := 5) (N := some 54) (v := ?_) (a' := ?_) #[true, true, true, true, true, true, false, false, false, false, false] rfl rfl (take_ofW HT_.out HW_.out (by kernel_rfl)) (fun _ _ _ h => h) (Or.inl ⟨by rfl, ?_⟩) hHeld ?_ ?_
    rotate_left
    · rintro w' ⟨s0, s1, s2, s3⟩
      go_simp
      with_reducible rfl
    rotate_left
    · simp only [Act.put, List.setIfInBounds_toArray, List.set_cons_zero, List.set_cons_succ, i64_w, i32_w]
      rfl
    refine one_ (i := 6) (N := some 55) #[true, true, true, true, true, true, true, false, false, false, false] rfl rfl (one_of HT_.out (by kernel_rfl)) (by decide) (fun K hK => ?_)
    refine event_step (w1 := wc.drew.alloc (.cells #[.int .i64 x.base, (.slice A3 x.words.length c3), .bool x.wr] 59 (0, 0))) (v := .slice (some ⟨wc.drew.heap.size, 0, none⟩) 1 1) (by rfl) ?hrun ?_
    case hrun => first | (go_simp; done) | (go_simp; rfl) | rfl
    have hba := below_alloc (Below.refl wc.drew.heap.size wc.drew) (.cells #[.int .i64 x.base, (.slice A3 x.words.length c3), .bool x.wr] 59 (0, 0))
    refine hK.out _ _ ⟨pw_cell_below hba hHeld.1, pw_cell_below hba hHeld.2.1, pw_cell_below hba hHeld.2.2.1, pw_cell_below hba hHeld.2.2.2⟩ (fun hHeld => ?_)
    clear hba
    clear hK K
    refine norm_ (a' := ?_) ?_ ?_
    rotate_left
    · show Act.put _ (some 55) _ = _
      simp only [Act.put, List.setIfInBounds_toArray, List.set_cons_zero, List.set_cons_succ, i64_w, i32_w]
      try rfl
    refine one_ (i := 7) (N := some 56) #[true, true, true, true, true, true, true, true, false, false, false] rfl rfl (one_of HT_.out (by kernel_rfl)) (by decide) (fun K hK => ?_)
    refine Kd.S_append_step k59 (w0 := wc.drew) w.heap.size (by rfl) _ _ 55 59 (.agg #[.int .i64 0, .slice none 0 0, .bool false]) 40 rfl Try.underlying55 (by kernel_rfl) rfl (by decide) (by decide) (.slice A2 lk.length c2') lk x [.int .i64 x.base, (.slice A3 x.words.length c3), .bool x.wr] (fun j => w.heap.size ≤ j) (fun j => wr.heap.size ≤ j) (by rfl) (by rfl) (k59_mkM HV.out) (fun j hj => ⟨Nat.le_trans HN.out hj, fun e => by have := HRV.out j e.symm; omega⟩) (fun j hj => Nat.le_trans (Nat.le_trans HN.out HNc.out) hj) (Kd.S_mono HM.out.row (fun j hj => ⟨hj.2, Nat.not_le.2 hj.1⟩)) (Below.refl _ _) (Nat.le_trans HN.out HNc.out) (by have := HLN.out; omega) ?_
    intro v1 w2 hr1 _ hg1 hat1
    obtain ⟨lx, hlx⟩ : ∃ lx, lx = lk ++ [x] := ⟨_, rfl⟩
    rw [← hlx] at hr1
    have HLX := Aside0.mk hlx
    clear hlx
    obtain ⟨A1, c1, rfl⟩ := Kd.S_slice hr1
    have HR1 := Aside0.mk hr1
    have HG1 := Aside0.mk hg1
    clear hr1 hg1 hat1
    have hgv := HM.out.gv
    have hS2 : w2.cell? ⟨g, 2, none⟩ = some (.slice A2 lk.length c2') := (blk_cell (blk_grown HM.out.box HG1.out hgv) 2).trans rfl
    have hne2 : some gr ≠ (Value.slice A2 lk.length c2').ownBlock := fun e => by have := HRV.out gr e.symm; have := HGR.out; omega
    have hbg := blk_grown HG2.out HG1.out hne2
    refine hK.out _ _ ⟨hS2, (blk_cell hbg 0).trans rfl, (blk_cell hbg 1).trans rfl, (blk_cell hbg 2).trans rfl⟩ (fun hHeld => ?_)
    clear hS2 hgv hne2 hbg
    clear hK K
    refine norm_ (a' := ?_) ?_ ?_
    rotate_left
    · show Act.put _ (some 56) _ = _
      simp only [Act.put, List.setIfInBounds_toArray, List.set_cons_zero, List.set_cons_succ, i64_w, i32_w]
      try rfl
    refine pure_ (i := 8) (N := some 57) (v := ?_) (a' := ?_) #[true, true, true, true, true, true, true, true, true, false, false] rfl rfl (any_of HT_.out (by kernel_rfl)) (fun _ _ _ h => h) (Or.inl ⟨by rfl, ?_⟩) ?_ ?_
    rotate_left
    · intro w'
      go_simp
      with_reducible rfl
    rotate_left
    · simp only [Act.put, List.setIfInBounds_toArray, List.set_cons_zero, List.set_cons_succ, i64_w, i32_w]
      rfl
    refine pure_ (i := 9) (N := some 58) (v := ?_) (a' := ?_) #[true, true, true, true, true, true, true, true, true, true, false] rfl rfl (any_of HT_.out (by kernel_rfl)) (fun _ _ _ h => h) (Or.inl ⟨by rfl, ?_⟩) ?_ ?_
    rotate_left
    · intro w'
      go_simp
      with_reducible rfl
    rotate_left
    · simp only [Act.put, List.setIfInBounds_toArray, List.set_cons_zero, List.set_cons_succ, i64_w, i32_w]
      rfl
    refine last_ (i := 10) (N := none) #[true, true, true, true, true, true, true, true, true, true, true] rfl rfl (one_of HT_.out (by kernel_rfl)) (by decide) (fun K hK => ?_)
    have q0 := (blk_cell (blk_grown HM.out.box HG1.out HM.out.gv) 2).trans rfl
    have qf := (blk_frozen (blk_grown HM.out.box HG1.out HM.out.gv) 2)
    rw [if_pos (by rfl)]
    unfold Oper.wp
    go_simp
    refine hK.out _ _ ?_
    clear q0 qf
    clear hK K
    refine done_ (done_of HT_.out (by kernel_rfl)) ?_

    go_wp2
    go_roundw
    case rel =>
      have ht : Turn (fun j => some j = (Value.slice A2 lk.length c2').ownBlock) wc.drew w2 := Turn.of_grown HG1.out (fun j hj => hj.symm)
      have hp := HM.out.put ht (fun j hj => ⟨fun e => HM.out.gv (e ▸ hj), fun e => HM.out.v1 (e ▸ hj), fun e => HM.out.v2 (e ▸ hj)⟩) HR1.out (fun j hj => hj.2)
      have hbw : Below w.heap.size w wc.drew := below_step HB.out HW.out
      refine ⟨k + 1, .slice A1 lx.length c1, by omega, by go_num, by rw [HNX.out, HOK.out, HXO.out, HANY.out]; rfl, ⟨by rw [HLK.out, ← HLX.out]; exact hp⟩, ⟨(hbw.trans (ht.below (fun j hj => HRB.out j hj.symm) (below_size hbw))).setCell HM.out.bg _⟩⟩
    case measure => simp [nOf]; omega
end Go.Proofs.Ytochgjeanajoiaa.HA.Mem
