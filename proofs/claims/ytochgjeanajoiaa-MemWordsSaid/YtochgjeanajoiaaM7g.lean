/- Written by hand: Load, Store of package mem. -/
import Derived.Test.YtochgjeanajoiaaM7f
namespace Go.Proofs.Ytochgjeanajoiaa.HA.Mem
open Go.RowKit Go.WideMaps Go.Maps Go.Proofs.YtochgjeanajoiaaW.PrintWords Go.Proofs.YtochgjeanajoiaaW.PrintLast Go.Proofs.YtochgjeanajoiaaW.PrintMore
set_option linter.unusedVariables false
set_option linter.unusedSimpArgs false

/-! ### Load and Store -/
theorem findW_get {a : Int} : ∀ {l : List Rg} {p : Nat × Nat}, findW a l = some p → ∃ r, l[p.1]? = some r ∧ p.2 < r.words.length := fun {l p} h => by
  obtain ⟨r, h1, _⟩ := findW_some h
  exact ⟨r, h1, findW_len h r h1⟩
section
variable {base : Nat} {ok : Nat → Prop} {W W1 : World} {g n b1 b2 : Nat} {rv : Value} {m : Mm} {l : List Int}
theorem MemA.reads (h : MemA base ok W g n b1 b2 rv m) (hg : W.grownBy W1 (some b1)) (hn : n ≤ n + 1) (hm : TMap W1 b1 (n + 1) l) : MemA base ok W1 g (n + 1) b1 b2 rv ⟨m.rs, l, m.wt⟩ :=
  ⟨(hg.block _ (blk_lt h.box) (fun e => h.g1 (Option.some.inj e))).trans h.box, h.bg, h.ok0, h.ok1, h.ok2, h.base1, h.base2, h.ne, hm,
    (h.m2.kept (hg.block _ h.m2.lt (fun e => h.ne (Option.some.inj e).symm))).mono hn, Kd.S_mono (Kd.S_grown (Kd.S_bound h.row) hg (fun k hk e => by
      obtain ⟨_, _, _, q, _, cells, hc⟩ := hk
      obtain ⟨es, cl, hb⟩ := h.m1.blk
      rw [← Option.some.inj e, hc] at hb; cases hb)) (fun k hk => hk.1)⟩
theorem MemA.writes (h : MemA base ok W g n b1 b2 rv m) (hg : W.grownBy W1 (some b2)) (hn : n ≤ n + 1) (hm : TMap W1 b2 (n + 1) l) : MemA base ok W1 g (n + 1) b1 b2 rv ⟨m.rs, m.rd, l⟩ :=
  ⟨(hg.block _ (blk_lt h.box) (fun e => h.g2 (Option.some.inj e))).trans h.box, h.bg, h.ok0, h.ok1, h.ok2, h.base1, h.base2, h.ne,
    (h.m1.kept (hg.block _ h.m1.lt (fun e => h.ne (Option.some.inj e)))).mono hn, hm, Kd.S_mono (Kd.S_grown (Kd.S_bound h.row) hg (fun k hk e => by
      obtain ⟨_, _, _, q, _, cells, hc⟩ := hk
      obtain ⟨es, cl, hb⟩ := h.m2.blk
      rw [← Option.some.inj e, hc] at hb; cases hb)) (fun k hk => hk.1)⟩
theorem MemA.more {n' : Nat} (h : MemA base ok W g n b1 b2 rv m) (hn : n ≤ n') : MemA base ok W g n' b1 b2 rv m := ⟨h.box, h.bg, h.ok0, h.ok1, h.ok2, h.base1, h.base2, h.ne, h.m1.mono hn, h.m2.mono hn, h.row⟩
end
theorem word_none {rv : Value} {rs : List Rg} {a : Int} {w w' : World} {e : Ending} (hw : wordAt rs a = none) (h : WordPost rv rs a w e w') : e = .returned (.tuple #[.pointer none, .bool false]) ∧ Below w.heap.size w w' := by
  obtain ⟨p, b, rfl, h1, h2⟩ := h
  unfold WordIs at h1
  rw [hw] at h1
  obtain ⟨rfl, rfl⟩ := h1
  exact ⟨rfl, h2⟩
theorem word_some {rv : Value} {rs : List Rg} {a : Int} {w w' : World} {e : Ending} {i j : Nat} (hw : wordAt rs a = some (i, j)) (h : WordPost rv rs a w e w') : ∃ gi, e = .returned (.tuple #[.pointer (some ⟨gi, j, none⟩), .bool (mayAt rs (i, j))]) ∧ SliceOf w' rv rs i gi ∧ Below w.heap.size w w' := by
  obtain ⟨p, b, rfl, h1, h2⟩ := h
  unfold WordIs at h1
  rw [hw] at h1
  obtain ⟨rfl, gi, rfl, h3⟩ := h1
  exact ⟨gi, rfl, h3, h2⟩
set_option maxRecDepth 100000 in
set_option maxHeartbeats 8000000 in
theorem load_calls (base : Nat) (ok : Nat → Prop) (g n : Nat) (m : Mm) (a : Int) (w : World) (hm : MemAt base ok w g n m) (hok : ∀ r ∈ m.rs, regOk r = true) (ha : -9223372036854775808 ≤ a ∧ a ≤ 9223372036854775807) (hn : n < maxLen) :
    Calls Try.prog 33 #[.pointer (some ⟨g, 0, none⟩), .int .i64 a] w fun e w' => e = .returned (.tuple #[.int .i64 (load m a).2.1, .int .i64 (load m a).2.2]) ∧ MemAt base ok w' g (n + 1) (load m a).1 ∧ Turn ok w w' := by
  obtain ⟨b1, b2, rv, hma⟩ := hm
  have HM := Aside0.mk hma
  have HW := word_calls base ok g n b1 b2 rv m a w hma hok ha
  have HN := Aside0.mk hn
  clear hma hn
  have hu131 := Try.underlying131
  have hu128 := Try.underlying128
  rcases hw : wordAt m.rs a with _ | ⟨i, j⟩
  · have HL := Aside0.mk (show load m a = (m, 0, 11) from by unfold load; rw [hw])
    have hw' := Aside0.mk hw
    clear hw
    go_enter Try.func33, Try.ntmps33
    go_wp2_with (first
      | (go_at_call 82; go_loud (refine HW.mono ?_; rintro e w1 hp; obtain ⟨rfl, hb⟩ := word_none hw'.out hp; have HB := Aside0.mk hb; clear hp hb HW)))
    go_ret2
    rw [HL.out]
    exact ⟨rfl, ⟨b1, b2, rv, (HM.out.below HB.out).more (Nat.le_succ n)⟩, Turn.of_below HB.out _⟩
  · have HL := Aside0.mk (show load m a = (⟨m.rs, ins a m.rd, m.wt⟩, valAt m.rs (i, j), 0) from by unfold load; rw [hw])
    obtain ⟨hw1, hw2, hw3⟩ := wordAt_get hw
    obtain ⟨r, hr, hj⟩ := findW_get hw3
    have hw' := Aside0.mk hw
    have HR := Aside0.mk (show m.rs[i]? = some r from hr)
    have HJ := Aside0.mk (show j < r.words.length from hj)
    clear hw hw2 hw3 hr hj
    go_enter Try.func33, Try.ntmps33
    go_wp2_with (first
      | (go_at_call 82; go_loud (refine HW.mono ?_; rintro e w1 hp; obtain ⟨gi, rfl, hs, hb⟩ := word_some hw'.out hp; have HS := Aside0.mk hs; have HB := Aside0.mk hb; have HMn := Aside0.mk (HM.out.below hb); clear hp hb hs HW HM; have HM := HMn; clear HMn))
      | (go_at_call 83; go_loud (refine (read_calls g b1 b2 n m.rd a [] 0 _ ((blk_cell HM.out.box 0).trans rfl) ⟨hw1, ha.2⟩ HM.out.m1 HN.out).mono ?_; rintro e w2 ⟨⟨v, rfl⟩, hm2, hg2⟩; have HMn := Aside0.mk (HM.out.reads hg2 (Nat.le_succ n) hm2); have HSn := Aside0.mk (HS.out.turn (Turn.of_grown (S := fun k => k = b1) hg2 (fun k hk => (Option.some.inj hk).symm)) (fun k hk e => HM.out.v1 (by rw [hk, e]))); have HT := Aside0.mk ((Turn.of_below HB.out ok).trans (Turn.of_grown hg2 (fun k hk => by obtain rfl := Option.some.inj hk; exact HM.out.ok1))); clear hm2 hg2 HM HS HB; have HM := HMn; have HS := HSn; clear HMn HSn; obtain ⟨cl, cf⟩ := word_cell HM.out HS.out HR.out HJ.out)))
    go_ret2
    rw [HL.out]
    refine ⟨?_, ⟨b1, b2, rv, HM.out⟩, HT.out⟩
    simp only [valAt, HR.out]
    rfl
set_option maxRecDepth 100000 in
set_option maxHeartbeats 8000000 in
theorem store_calls (base : Nat) (ok : Nat → Prop) (g n : Nat) (m : Mm) (a x : Int) (w : World) (hm : MemAt base ok w g n m) (hok : ∀ r ∈ m.rs, regOk r = true) (ha : -9223372036854775808 ≤ a ∧ a ≤ 9223372036854775807) (hn : n < maxLen) :
    Calls Try.prog 34 #[.pointer (some ⟨g, 0, none⟩), .int .i64 a, .int .i64 x] w fun e w' => e = .returned (.int .i64 (store m a x).2) ∧ MemAt base ok w' g (n + 1) (store m a x).1 ∧ Turn ok w w' := by
  obtain ⟨b1, b2, rv, hma⟩ := hm
  have HM := Aside0.mk hma
  have HW := word_calls base ok g n b1 b2 rv m a w hma hok ha
  have HN := Aside0.mk hn
  clear hma hn
  have hu131 := Try.underlying131
  have hu128 := Try.underlying128
  rcases hw : wordAt m.rs a with _ | ⟨i, j⟩
  · have HL := Aside0.mk (show store m a x = (m, 11) from by unfold store; rw [hw])
    have hw' := Aside0.mk hw
    clear hw
    go_enter Try.func34, Try.ntmps34
    go_wp2_with (first
      | (go_at_call 82; go_loud (refine HW.mono ?_; rintro e w1 hp; obtain ⟨rfl, hb⟩ := word_none hw'.out hp; have HB := Aside0.mk hb; clear hp hb HW)))
    go_ret
    rw [HL.out]
    exact ⟨rfl, ⟨b1, b2, rv, (HM.out.below HB.out).more (Nat.le_succ n)⟩, Turn.of_below HB.out _⟩
  · obtain ⟨hw1, hw2, hw3⟩ := wordAt_get hw
    obtain ⟨r, hr, hj⟩ := findW_get hw3
    have hw' := Aside0.mk hw
    have HR := Aside0.mk (show m.rs[i]? = some r from hr)
    have HJ := Aside0.mk (show j < r.words.length from hj)
    clear hw2 hw3 hr hj
    by_cases hmay : mayAt m.rs (i, j) = true
    case neg =>
      have HL := Aside0.mk (show store m a x = (m, 11) from by unfold store; rw [hw]; simp [hmay])
      simp only [Bool.not_eq_true] at hmay
      have HF := Aside0.mk hmay
      clear hw hmay
      go_enter Try.func34, Try.ntmps34
      go_wp2_with (first
        | (go_at_call 82; go_loud (refine HW.mono ?_; rintro e w1 hp; obtain ⟨gi, he, hs, hb⟩ := word_some hw'.out hp; rw [HF.out] at he; obtain rfl := he; have HB := Aside0.mk hb; clear hp hb hs HW)))
      go_ret
      rw [HL.out]
      exact ⟨rfl, ⟨b1, b2, rv, (HM.out.below HB.out).more (Nat.le_succ n)⟩, Turn.of_below HB.out _⟩
    have HL := Aside0.mk (show store m a x = (⟨setAt m.rs (i, j) x, m.rd, ins a m.wt⟩, 0) from by unfold store; rw [hw]; simp [hmay])
    have HF := Aside0.mk hmay
    clear hw hmay
    go_enter Try.func34, Try.ntmps34
    go_wp2_with (first
      | (go_at_call 82; go_loud (refine HW.mono ?_; rintro e w1 hp; obtain ⟨gi, he, hs, hb⟩ := word_some hw'.out hp; rw [HF.out] at he; obtain rfl := he; have HS := Aside0.mk hs; have HB := Aside0.mk hb; have HMn := Aside0.mk (HM.out.below hb); clear hp hb hs HW HM; have HM := HMn; clear HMn))
      | (go_at_call 84; go_loud (refine (wrote_calls g b2 b2 n m.wt a [] 0 _ ((blk_cell HM.out.box 1).trans rfl) ⟨hw1, ha.2⟩ HM.out.m2 HN.out).mono ?_; rintro e w2 ⟨⟨v, rfl⟩, hm2, hg2⟩; have HMn := Aside0.mk (HM.out.writes hg2 (Nat.le_succ n) hm2); have HSn := Aside0.mk (HS.out.turn (Turn.of_grown (S := fun k => k = b2) hg2 (fun k hk => (Option.some.inj hk).symm)) (fun k hk e => HM.out.v2 (by rw [hk, e]))); have HT := Aside0.mk ((Turn.of_below HB.out ok).trans (Turn.of_grown hg2 (fun k hk => by obtain rfl := Option.some.inj hk; exact HM.out.ok2))); clear hm2 hg2 HM HS HB; have HM := HMn; have HS := HSn; clear HMn HSn; obtain ⟨cl, cf⟩ := word_cell HM.out HS.out HR.out HJ.out)))
    go_ret
    rw [HL.out]
    obtain ⟨h1, h2, h3⟩ := word_store HM.out HS.out HR.out HJ.out x
    exact ⟨rfl, ⟨b1, b2, rv, h1⟩, HT.out.trans ⟨rfl, rfl, rfl, by simp [World.setCell], fun k hk hn => Below.heap_setCell _ _ _ _ (fun e => hn (by rw [e]; exact h2))⟩⟩
end Go.Proofs.Ytochgjeanajoiaa.HA.Mem
