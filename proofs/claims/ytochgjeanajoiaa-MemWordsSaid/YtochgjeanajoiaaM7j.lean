/- Written by hand: Same and SameFoot of the reference. -/
import Derived.Test.YtochgjeanajoiaaM7b
namespace Go.Proofs.Ytochgjeanajoiaa.HA.Mem
open Go.Proofs.YtochgjeanajoiaaW
open Go.RowKit Go.WideMaps Go.Maps Go.Proofs.YtochgjeanajoiaaW.PrintWords Go.Proofs.YtochgjeanajoiaaW.PrintLast Go.Proofs.YtochgjeanajoiaaW.PrintMore
set_option linter.unusedVariables false
set_option linter.unusedSimpArgs false
def nOf' : Value → Int | .int _ q => q | _ => 0
theorem eq_of_take {l1 l2 : List Int} (hl : l1.length = l2.length) (h : l1.take l1.length = l2.take l1.length) : l1 = l2 := by
  rw [List.take_length] at h
  rw [h, hl, List.take_length]
set_option maxRecDepth 100000 in
set_option maxHeartbeats 4000000 in
theorem same_calls (A B : Option Addr) (c d : Nat) (l1 l2 : List Int) (w : World) (h1 : (Kd.int .i64).C w A l1.length l1) (h2 : (Kd.int .i64).C w B l2.length l2) :
    Calls Try.prog 42 #[.slice A l1.length c, .slice B l2.length d] w fun e w' => e = .returned (.bool (decide (l1 = l2))) ∧ Below w.heap.size w w' := by
  have H1 := Aside0.mk h1
  have H2 := Aside0.mk h2
  have hlen1 : l1.length ≤ 9223372036854775807 := h1.2.1
  have hlen2 : l2.length ≤ 9223372036854775807 := h2.2.1
  clear h1 h2
  by_cases hl : l1.length = l2.length
  case neg =>
    have hne : ¬ l1 = l2 := fun e => hl (by rw [e])
    have HNE := Aside0.mk (decide_eq_false hne)
    clear hne
    go_enter Try.func42, Try.ntmps42
    go_wp2
    go_ret
    rw [HNE.out]
    exact ⟨rfl, Below.refl _ _⟩
  have HL := Aside0.mk hl
  have hl' : ((l2.length : Nat) : Int) = l1.length := by omega
  obtain ⟨n, hn⟩ : ∃ n, n = l1.length := ⟨_, rfl⟩
  rw [← hn] at hl' hlen1 H1 ⊢
  have HN := Aside0.mk hn
  rw [← hl, ← hn] at H2 hlen2 ⊢
  clear hl hl' hn
  go_enter Try.func42, Try.ntmps42
  go_wp2
  go_loopw [5] (fun i wr => ∃ k : Nat, k ≤ n ∧ i = .int .i64 k ∧ Aside0 (l1.take k = l2.take k) ∧ Aside0 (Below w.heap.size w wr)) (fun i _ => n - (nOf' i).toNat)
  case atStart => exact ⟨0, Nat.zero_le _, rfl, ⟨by simp⟩, ⟨Below.refl _ _⟩⟩
  case round =>
    obtain ⟨k, hk, rfl, HE, HB⟩ := hrel
    by_cases hlt : k < n
    case neg =>
      obtain rfl : k = n := by omega
      go_wp2
      go_ret
      have he : l1 = l2 := eq_of_take HL.out (by rw [← HN.out]; exact HE.out)
      exact ⟨by rw [decide_eq_true he]; rfl, HB.out⟩
    obtain ⟨ad1, rfl, c1⟩ := Kd.at_int (Kd.C_below H1.out HB.out) (k : Int) (by omega) (by omega)
    obtain ⟨ad2, rfl, c2⟩ := Kd.at_int (Kd.C_below H2.out HB.out) (k : Int) (by omega) (by omega)
    obtain ⟨x, hx⟩ : ∃ x, l1[k]? = some x := ⟨_, List.getElem?_eq_getElem (by have := HN.out; omega)⟩
    obtain ⟨y, hy⟩ : ∃ y, l2[k]? = some y := ⟨_, List.getElem?_eq_getElem (by have := HN.out; have := HL.out; omega)⟩
    rw [show PrintWords.rd l1 (k : Int) = x from by simp [PrintWords.rd, hx]] at c1
    rw [show PrintWords.rd l2 (k : Int) = y from by simp [PrintWords.rd, hy]] at c2
    simp only [Int.toNat_natCast] at c1 c2
    have HX := Aside0.mk hx
    have HY := Aside0.mk hy
    clear hx hy
    by_cases hxy : x = y
    · have hb1 : (0 : Int) ≤ (k : Int) := by omega
      have hb2 : (k : Int) < (n : Int) := by omega
      have hd : decide (x = y) = true := decide_eq_true hxy
      go_wp2
      go_quiet (fail)
      go_wp2
      go_roundw
      case rel => exact ⟨k + 1, by omega, by go_num, ⟨by rw [List.take_add_one, List.take_add_one, HX.out, HY.out, HE.out, hxy]⟩, ⟨pw_below_drewN HB.out nq⟩⟩
      case measure => simp [nOf']; omega
    · have hb1 : (0 : Int) ≤ (k : Int) := by omega
      have hb2 : (k : Int) < (n : Int) := by omega
      have hd : decide (x = y) = false := decide_eq_false hxy
      have HNE := Aside0.mk (show decide (l1 = l2) = false from decide_eq_false (fun e => hxy (by have h1 := HX.out; have h2 := HY.out; rw [e, h2] at h1; exact (Option.some.inj h1).symm)))
      go_wp2
      go_quiet (fail)
      go_wp2
      go_ret
      exact ⟨by rw [HNE.out]; rfl, pw_below_drewN HB.out nq⟩
set_option maxRecDepth 100000 in
set_option maxHeartbeats 4000000 in
theorem samefoot_calls (A1 A2 B1 B2 : Option Addr) (c1 c2 d1 d2 : Nat) (a1 a2 b1 b2 : List Int) (w : World) (h1 : (Kd.int .i64).C w A1 a1.length a1) (h2 : (Kd.int .i64).C w A2 a2.length a2) (h3 : (Kd.int .i64).C w B1 b1.length b1) (h4 : (Kd.int .i64).C w B2 b2.length b2) :
    Calls Try.prog 39 #[.agg #[.slice A1 a1.length c1, .slice A2 a2.length c2], .agg #[.slice B1 b1.length d1, .slice B2 b2.length d2]] w fun e w' => e = .returned (.bool (decide (a1 = b1) && decide (a2 = b2))) ∧ Below w.heap.size w w' := by
  have H1 := Aside0.mk h1
  have H2 := Aside0.mk h2
  have H3 := Aside0.mk h3
  have H4 := Aside0.mk h4
  have hu75 := Try.underlying75
  clear h1 h2 h3 h4
  by_cases he : a1 = b1
  · have HE := Aside0.mk (decide_eq_true he)
    clear he
    go_enter Try.func39, Try.ntmps39
    go_wp2_with (first
      | ((with_reducible refine gate_dst (N := 2) rfl ?_); refine box_event ?hg (N := 2) ?hd (cs := #[.slice A1 a1.length c1, .slice A2 a2.length c2]) (t := 75) ?hr ?_; (case hd => rfl); (case hg => rfl); (case hr => first | (go_simp; done) | (go_simp; rfl)); go_loud (intro g1 hg1 w1 hbox hb; have HB := Aside0.mk hb; have K1 := Aside0.mk hbox; clear hg1 hb hbox))
      | ((with_reducible refine gate_dst (N := 3) rfl ?_); refine box_event ?hg (N := 3) ?hd (cs := #[.slice B1 b1.length d1, .slice B2 b2.length d2]) (t := 75) ?hr ?_; (case hd => rfl); (case hg => rfl); (case hr => first | (go_simp; done) | (go_simp; rfl)); go_loud (intro g2 hg2 w2 hbox hb; have HBn := Aside0.mk (below_step HB.out hb); have K1n := Aside0.mk (blk_below K1.out hb); have K2 := Aside0.mk hbox; clear hg2 hb hbox HB K1; have HB := HBn; have K1 := K1n; clear HBn K1n; have p0 := (blk_cell K1.out 0).trans rfl; have p1 := (blk_cell K1.out 1).trans rfl; have q0 := (blk_cell K2.out 0).trans rfl; have q1 := (blk_cell K2.out 1).trans rfl; have t1 : True := trivial; have t2 : True := trivial))
      | (go_at_call 42; have _t := t1; go_loud ((with_reducible refine (same_calls A1 B1 c1 d1 a1 b1 _ (Kd.C_below H1.out HB.out) (Kd.C_below H3.out HB.out)).mono ?_); rw [HE.out]; rintro e w3 ⟨rfl, hb⟩; have HBn := Aside0.mk (below_step HB.out hb); have K1n := Aside0.mk (blk_below K1.out hb); have K2n := Aside0.mk (blk_below K2.out hb); clear hb HB K1 K2 p0 p1 q0 q1 t1; have HB := HBn; have K1 := K1n; have K2 := K2n; clear HBn K1n K2n; have p0 := (blk_cell K1.out 0).trans rfl; have p1 := (blk_cell K1.out 1).trans rfl; have q0 := (blk_cell K2.out 0).trans rfl; have q1 := (blk_cell K2.out 1).trans rfl))
      | (go_at_call 42; have _t := t2; go_loud ((with_reducible refine (same_calls A2 B2 c2 d2 a2 b2 _ (Kd.C_below H2.out HB.out) (Kd.C_below H4.out HB.out)).mono ?_); rintro e w4 ⟨rfl, hb⟩; have HBn := Aside0.mk (below_step HB.out hb); clear hb HB t2; have HB := HBn; clear HBn)))
    go_ret
    rw [HE.out]
    exact ⟨rfl, HB.out⟩
  · have HE := Aside0.mk (decide_eq_false he)
    clear he
    go_enter Try.func39, Try.ntmps39
    go_wp2_with (first
      | ((with_reducible refine gate_dst (N := 2) rfl ?_); refine box_event ?hg (N := 2) ?hd (cs := #[.slice A1 a1.length c1, .slice A2 a2.length c2]) (t := 75) ?hr ?_; (case hd => rfl); (case hg => rfl); (case hr => first | (go_simp; done) | (go_simp; rfl)); go_loud (intro g1 hg1 w1 hbox hb; have HB := Aside0.mk hb; have K1 := Aside0.mk hbox; clear hg1 hb hbox))
      | ((with_reducible refine gate_dst (N := 3) rfl ?_); refine box_event ?hg (N := 3) ?hd (cs := #[.slice B1 b1.length d1, .slice B2 b2.length d2]) (t := 75) ?hr ?_; (case hd => rfl); (case hg => rfl); (case hr => first | (go_simp; done) | (go_simp; rfl)); go_loud (intro g2 hg2 w2 hbox hb; have HBn := Aside0.mk (below_step HB.out hb); have K1n := Aside0.mk (blk_below K1.out hb); have K2 := Aside0.mk hbox; clear hg2 hb hbox HB K1; have HB := HBn; have K1 := K1n; clear HBn K1n; have p0 := (blk_cell K1.out 0).trans rfl; have p1 := (blk_cell K1.out 1).trans rfl; have q0 := (blk_cell K2.out 0).trans rfl; have q1 := (blk_cell K2.out 1).trans rfl))
      | (go_at_call 42; go_loud ((with_reducible refine (same_calls A1 B1 c1 d1 a1 b1 _ (Kd.C_below H1.out HB.out) (Kd.C_below H3.out HB.out)).mono ?_); rw [HE.out]; rintro e w3 ⟨rfl, hb⟩; have HBn := Aside0.mk (below_step HB.out hb); clear hb HB; have HB := HBn; clear HBn)))
    go_ret
    rw [HE.out]
    exact ⟨rfl, HB.out⟩
end Go.Proofs.Ytochgjeanajoiaa.HA.Mem
