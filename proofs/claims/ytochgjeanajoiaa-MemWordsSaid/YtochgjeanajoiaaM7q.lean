/- Written by hand: Words of package mem; the plain law of MemWords. -/
import Derived.Test.YtochgjeanajoiaaM7i
namespace Go.Proofs.Ytochgjeanajoiaa.HA.Mem
open Go.Proofs.YtochgjeanajoiaaW
open Go.RowKit Go.WideMaps Go.Maps Go.Proofs.YtochgjeanajoiaaW.PrintWords Go.Proofs.YtochgjeanajoiaaW.PrintLast Go.Proofs.YtochgjeanajoiaaW.PrintMore
set_option linter.unusedVariables false
set_option linter.unusedSimpArgs false
theorem MemAt.bound {base : Nat} {ok : Nat → Prop} {W : World} {g n : Nat} {m : Mm} (h : MemAt base ok W g n m) : MemAt base (fun k => ok k ∧ base ≤ k ∧ k < W.heap.size) W g n m := by
  obtain ⟨b1, b2, rv, h⟩ := h
  exact ⟨b1, b2, rv, h.bound⟩
theorem MemAt.mono {base : Nat} {ok ok' : Nat → Prop} {W : World} {g n : Nat} {m : Mm} (h : MemAt base ok W g n m) (hk : ∀ k, ok k → ok' k) : MemAt base ok' W g n m := by
  obtain ⟨b1, b2, rv, h⟩ := h
  exact ⟨b1, b2, rv, h.mono hk⟩
theorem MemAt.turn {S : Nat → Prop} {base : Nat} {ok : Nat → Prop} {W W1 : World} {g n : Nat} {m : Mm} (h : MemAt base ok W g n m) (ht : Turn S W W1) (hd : ∀ k, ok k → ¬ S k) : MemAt base ok W1 g n m := by
  obtain ⟨b1, b2, rv, h⟩ := h
  exact ⟨b1, b2, rv, h.turn ht hd⟩
theorem MemAt.below {base : Nat} {ok : Nat → Prop} {W W1 : World} {g n : Nat} {m : Mm} (h : MemAt base ok W g n m) (hb : Below W.heap.size W W1) : MemAt base ok W1 g n m := by
  obtain ⟨b1, b2, rv, h⟩ := h
  exact ⟨b1, b2, rv, h.below hb⟩
def wordsOf (rs : List Rg) (q : Int) : List Int := if q < 0 then [] else ((rs[q.toNat]?).map Rg.words).getD []
set_option maxRecDepth 100000 in
set_option maxHeartbeats 8000000 in
theorem Words_calls (base : Nat) (ok : Nat → Prop) (g n : Nat) (m : Mm) (q : Int) (w : World) (hm : MemAt base ok w g n m) (hok : ∀ r ∈ m.rs, regOk r = true) :
    Calls Try.prog 41 #[.pointer (some ⟨g, 0, none⟩), .int .i64 q] w fun e w' => ∃ v, e = .returned v ∧ (Kd.int .i64).R 2 w' w.heap.size (fun k => w.heap.size ≤ k) v (wordsOf m.rs q) ∧ Below w.heap.size w w' := by
  obtain ⟨b1, b2, rv, hma⟩ := hm
  have hu59 := Try.underlying59
  have hu131 := Try.underlying131
  have p2 := (blk_cell hma.box 2).trans rfl
  obtain ⟨A, c, rfl, hlc, hC⟩ := Kd.S_reads hma.row
  have hlen : m.rs.length ≤ 9223372036854775807 := hC.2.1
  have HC := Aside0.mk hC
  clear hC hma
  by_cases q1 : q < 0
  · have HW := Aside0.mk (show wordsOf m.rs q = [] from by unfold wordsOf; rw [if_pos q1])
    go_enter Try.func41, Try.ntmps41
    go_wp2
    go_ret
    rw [HW.out]
    exact ⟨.slice none 0 0, rfl, Kd.R_nil _ _ _ _ _, Below.refl _ _⟩
  by_cases q2 : q < (m.rs.length : Int)
  case neg =>
    have HW := Aside0.mk (show wordsOf m.rs q = [] from by unfold wordsOf; rw [if_neg q1, List.getElem?_eq_none (by omega)]; rfl)
    go_enter Try.func41, Try.ntmps41
    go_wp2
    go_ret
    rw [HW.out]
    exact ⟨.slice none 0 0, rfl, Kd.R_nil _ _ _ _ _, Below.refl _ _⟩
  obtain ⟨ad, B, cb, rfl, hat⟩ := at_Rg HC.out q (by omega) q2
  obtain ⟨x, hx⟩ : ∃ x, m.rs[q.toNat]? = some x := ⟨_, List.getElem?_eq_getElem (by omega)⟩
  rw [show rdR m.rs q = x from by simp [rdR, hx]] at hat
  have HW := Aside0.mk (show wordsOf m.rs q = x.words from by unfold wordsOf; rw [if_neg q1, hx]; rfl)
  have HAT := Aside0.mk hat
  obtain ⟨c0, c1, c2, _, _⟩ := hat
  obtain ⟨r1, r2, r3⟩ := regOk_iff (hok x (List.mem_of_getElem? hx))
  clear hx hok
  go_enter Try.func41, Try.ntmps41
  go_wp2_with (first
    | (go_at_call 81; go_loud (refine (clone_calls B cb x.words _ HAT.out.words r3).mono ?_; rintro e w1 ⟨v, rfl, hv, hb⟩; have HV := Aside0.mk hv; have HB := Aside0.mk hb; clear hv hb)))
  go_ret
  rw [HW.out]
  exact ⟨v, rfl, HV.out, HB.out⟩
/-! ### the plain law -/
theorem ins_last {n : Int} : ∀ {l : List Int}, (∀ x ∈ l, x < n) → ins n l = l ++ [n]
  | [], _ => rfl
  | x :: l, h => by
    have h1 := h x (by simp)
    unfold ins
    rw [if_neg (by omega), if_neg (by omega), ins_last (fun y hy => h y (by simp [hy]))]; rfl
def addrs (b : Int) (i : Nat) : List Int := (List.range i).map (fun j : Nat => b + 8 * (j : Int))
theorem addrs_ins (b : Int) (i : Nat) : ins (b + 8 * (i : Int)) (addrs b i) = addrs b (i + 1) := by
  rw [ins_last]
  · simp [addrs, List.range_succ]
  · intro x hx
    obtain ⟨j, hj, rfl⟩ := List.mem_map.1 hx
    have := List.mem_range.1 hj
    omega
theorem regs_prev : ∀ (l p : List Rg) (j : Nat) (y : Rg), regsFrom p l = true → l[j]? = some y → ∀ z ∈ p, apartR y z = true
  | [], p, j, y, _, hy => by simp at hy
  | a :: l, p, 0, y, h, hy => by
    intro z hz
    simp only [regsFrom, Bool.and_eq_true] at h
    simp only [List.getElem?_cons_zero, Option.some.injEq] at hy
    subst hy
    exact List.all_eq_true.1 h.1.2 z hz
  | a :: l, p, j + 1, y, h, hy => by
    intro z hz
    simp only [regsFrom, Bool.and_eq_true] at h
    exact regs_prev l (p ++ [a]) j y h.2 (by simpa using hy) z (List.mem_append_left _ hz)
theorem regs_pair : ∀ (l prev : List Rg) (i j : Nat) (x y : Rg), regsFrom prev l = true → l[i]? = some x → l[j]? = some y → i < j → apartR y x = true
  | [], _, i, j, x, y, _, h, _, _ => by simp at h
  | r :: l, prev, i, 0, x, y, _, _, _, hij => absurd hij (Nat.not_lt_zero i)
  | r :: l, prev, 0, j + 1, x, y, h, hx, hy, _ => by
    simp only [regsFrom, Bool.and_eq_true] at h
    simp only [List.getElem?_cons_zero, Option.some.injEq] at hx
    subst hx
    exact regs_prev l (prev ++ [r]) j y h.2 (by simpa using hy) r (by simp)
  | r :: l, prev, i + 1, j + 1, x, y, h, hx, hy, hij => by
    simp only [regsFrom, Bool.and_eq_true] at h
    exact regs_pair l (prev ++ [r]) i j x y h.2 (by simpa using hx) (by simpa using hy) (by omega)
theorem load_word {l : List Rg} (hok : memOk l = true) {q i : Nat} {x : Rg} {v : Int} (hx : l[q]? = some x) (hv : x.words[i]? = some v) (rd wt : List Int) : load ⟨l, rd, wt⟩ (x.base + 8 * (i : Int)) = (⟨l, ins (x.base + 8 * (i : Int)) rd, wt⟩, v, 0) := by
  have hil : i < x.words.length := (List.getElem?_eq_some_iff.1 hv).1
  simp only [memOk, Bool.and_eq_true] at hok
  have hxo := regOk_iff (regs_base hok.2 x (List.mem_of_getElem? hx))
  have hf : findW (x.base + 8 * (i : Int)) l = some (q, i) := by
    have hmiss : ∀ r ∈ l.take q, inR (x.base + 8 * (i : Int)) r = false := by
      intro r hr
      obtain ⟨p, hp⟩ := List.getElem?_of_mem hr
      rw [List.getElem?_take] at hp
      split at hp
      · rename_i hpq
        have ha := regs_pair _ _ _ _ _ _ hok.2 hp hx hpq
        rw [apart_hit] at ha
        refine inR_false (fun hc => ?_)
        have hh := hit_true (x := x) (o := r) (by omega)
        rw [hh] at ha
        cases ha
      · cases hp
    have := findW_hit hx hmiss (inR_true (a := x.base + 8 * (i : Int)) (by omega))
    rw [this]
    congr 2
    omega
  have hw : wordAt l (x.base + 8 * (i : Int)) = some (q, i) := by
    unfold wordAt
    rw [if_neg (by omega), hf]
  unfold load
  rw [hw]
  simp [valAt, hx, hv]
end Go.Proofs.Ytochgjeanajoiaa.HA.Mem
