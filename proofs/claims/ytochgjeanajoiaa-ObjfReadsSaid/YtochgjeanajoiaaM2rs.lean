/- Written by hand: the contracts of objf's reader (functions 67 to 71). Written by hand: the closure that objf.Read defers (function 66). Written by hand: what objf.Read answers, in plain words, and the state of its walk. -/
import Derived.Test.YtochgjeanajoiaaM2s
import Derived.WalkSpells
import Derived.Defers
import Derived.Recover
namespace Go.Proofs.Ytochgjeanajoiaa.HA
open Go.RowKit Go.Proofs.YtochgjeanajoiaaW.PrintWords Go.Proofs.YtochgjeanajoiaaW.PrintLast Go.Proofs.YtochgjeanajoiaaW.PrintMore
set_option linter.unusedVariables false
set_option linter.unusedSimpArgs false

/-! ### What is read, in plain words: from a place on; what was read, and the place behind it -/
def pTake (s : ByteArray) (n a : Nat) : Option (ByteArray × Nat) := if n ≤ s.size - a then some (s.extract a (a + n), a + n) else none
def pNum (s : ByteArray) (most a : Nat) : Option (Nat × Nat) := match takeG s a 10 0 0 with | some (u, n) => if u ≤ most then some (u, n) else none | none => none
def pName (s : ByteArray) (a : Nat) : Option (ByteArray × Nat) := match pNum s 28 a with | some (n, b) => pTake s n b | none => none
def pWide (s : ByteArray) (a : Nat) : Option (Int × Nat) := match pTake s 8 a with | some (t, b) => some (wrap64 (sumN t 8 : Int), b) | none => none
def pOne (s : ByteArray) (a : Nat) : Option (Int × Nat) := match pTake s 1 a with | some (t, b) => some (bt t 0, b) | none => none
theorem takeG_le (s : ByteArray) (a : Nat) : ∀ m i u v n, takeG s a m i u = some (v, n) → a ≤ n ∧ n ≤ s.size ∧ a < n
  | 0, i, u, v, n, h => by simp [takeG] at h
  | m + 1, i, u, v, n, h => by
    simp only [takeG] at h
    split at h
    · split at h
      · cases h
      · split at h
        · simp only [Option.some.injEq, Prod.mk.injEq] at h; omega
        · exact takeG_le s a m _ _ _ _ h
    · cases h
theorem pNum_le {s : ByteArray} {most a u n : Nat} (h : pNum s most a = some (u, n)) : u ≤ most ∧ a ≤ n ∧ n ≤ s.size := by
  unfold pNum at h
  split at h
  · rename_i u' n' e
    have := takeG_le s a _ _ _ _ _ e
    split at h
    · simp only [Option.some.injEq, Prod.mk.injEq] at h; omega
    · cases h
  · cases h
theorem pTake_le {s t : ByteArray} {k a n : Nat} (ha : a ≤ s.size) (h : pTake s k a = some (t, n)) : a ≤ n ∧ n ≤ s.size ∧ t.size = k ∧ t = s.extract a (a + k) ∧ n = a + k ∧ k ≤ s.size - a := by
  unfold pTake at h
  split at h
  · simp only [Option.some.injEq, Prod.mk.injEq] at h
    obtain ⟨rfl, rfl⟩ := h
    refine ⟨by omega, by omega, ?_, rfl, rfl, by assumption⟩
    rw [ByteArray.size_extract]; omega
  · cases h

/-- A reader of s at block g, at the place a. -/
def RdS (W : World) (g : Nat) (s : ByteArray) (a : Nat) : Prop := W.heap[g]? = some (.cells #[.string s, .int .i64 (a : Int)] 116 (0, 0))
def lackL : List PanicEntry := [{ v := .iface 110 (.agg #[]), recovered := false }]

theorem gB_to {w w1 : World} {row : Option Nat} (h : w.grownBy w1 row) (n : Nat) : w.grownBy (w1.drewN n) row := ⟨h.os, h.tape, h.output, h.size, h.block⟩
theorem gB_of {w w1 : World} {row : Option Nat} {n : Nat} (h : (w.drewN n).grownBy w1 row) : w.grownBy w1 row := ⟨h.os, h.tape, h.output, h.size, h.block⟩
theorem RdS.drewN {W : World} {g : Nat} {s : ByteArray} {a : Nat} (h : RdS W g s a) (n : Nat) : RdS (W.drewN n) g s a := h

set_option maxRecDepth 100000 in
set_option maxHeartbeats 4000000 in
theorem take_ok (g : Nat) (s t : ByteArray) (a n b : Nat) (w : World) (hg : RdS w g s a) (hs : s.size ≤ 4611686018427387904) (ha : a ≤ s.size) (h : pTake s n a = some (t, b)) :
    Calls Try.prog 67 #[.pointer (some ⟨g, 0, none⟩), .int .i64 (n : Int)] w fun e w' => e = .returned (.string t) ∧ RdS w' g s b ∧ w.grownBy w' (some g) := by
  have HG := Aside0.mk hg
  obtain ⟨h1, h2, h3, h4, h5, h6⟩ := pTake_le ha h
  have c0 := (blk_cell hg 0).trans rfl
  have c1 := (blk_cell hg 1).trans rfl
  have f1 := blk_frozen hg 1
  have e1 : wrap64 ((s.size : Int) - (a : Int)) = (s.size : Int) - (a : Int) := by unfold wrap64; omega
  have d1 : decide ((s.size : Int) - (a : Int) < (n : Int)) = false := by simp; omega
  clear h hg
  have hu110 := Try.underlying110
  go_enter Try.func67, Try.ntmps67
  go_wp2
  go_quiet (fail)
  go_wp2
  have e2 : wrap64 ((a : Int) + (n : Int) - (n : Int)) = (a : Int) := by unfold wrap64; omega
  go_quiet (fail)
  go_wp2
  go_ret
  subst h4 h5
  refine ⟨rfl, ?_, gB_to (gB_of (Lib.grownBy_setCell (w.drewN _) g 1 _)) _⟩
  exact blk_put (blk_drewN HG.out _) 1 _ (by push_cast; rfl)

set_option maxRecDepth 100000 in
set_option maxHeartbeats 4000000 in
theorem take_fail (g : Nat) (s : ByteArray) (a n : Nat) (w : World) (hg : RdS w g s a) (hs : s.size ≤ 4611686018427387904) (ha : a ≤ s.size) (h : pTake s n a = none) :
    Calls Try.prog 67 #[.pointer (some ⟨g, 0, none⟩), .int .i64 (n : Int)] w fun e w' => e = .panicked lackL ∧ w.grownBy w' (some g) := by
  have HG := Aside0.mk hg
  have h1 : s.size - a < n := by
    unfold pTake at h; split at h
    · cases h
    · rename_i h0; omega
  have c0 := (blk_cell hg 0).trans rfl
  have c1 := (blk_cell hg 1).trans rfl
  have e1 : wrap64 ((s.size : Int) - (a : Int)) = (s.size : Int) - (a : Int) := by unfold wrap64; omega
  have d1 : decide ((s.size : Int) - (a : Int) < (n : Int)) = true := by simp; omega
  clear h hg
  have hu110 := Try.underlying110
  go_enter Try.func67, Try.ntmps67
  go_wp2
  go_quiet (fail)
  go_wp2
  exact ⟨rfl, rfl, grown_of_below (pw_below_drewN (Below.refl _ _) _) _⟩

set_option maxRecDepth 100000 in
set_option maxHeartbeats 4000000 in
theorem rnum_ok (g : Nat) (s : ByteArray) (a most u b : Nat) (w : World) (hg : RdS w g s a) (hs : s.size ≤ 4611686018427387904) (ha : a ≤ s.size) (hm : most ≤ 65536) (h : pNum s most a = some (u, b)) :
    Calls Try.prog 68 #[.pointer (some ⟨g, 0, none⟩), .int .i64 (most : Int)] w fun e w' => e = .returned (.int .i64 (u : Int)) ∧ RdS w' g s b ∧ w.grownBy w' (some g) := by
  have HG := Aside0.mk hg
  obtain ⟨h1, h2, h3⟩ := pNum_le h
  have hT : word_Take.f 30 s (a : Int) = some ((u : Int), (b : Int), 0) := by
    rw [word_Take_f s a hs ha]
    unfold pNum at h
    split at h
    · rename_i u' n' e
      split at h
      · simp only [Option.some.injEq, Prod.mk.injEq] at h
        rw [e, h.1, h.2]; rfl
      · cases h
    · cases h
  have HT := Aside0.mk hT
  have c0 := (blk_cell hg 0).trans rfl
  have c1 := (blk_cell hg 1).trans rfl
  have f1 := blk_frozen hg 1
  have d1 : decide ((most : Int) < (u : Int)) = false := by simp; omega
  have e1 : IntKind.u64.wrap (most : Int) = (most : Int) := by rw [wrap_u64]; omega
  have e2 : wrap64 (u : Int) = (u : Int) := by unfold wrap64; omega
  clear h hg hT
  go_enter Try.func68, Try.ntmps68
  go_wp2
  go_quiet ((go_at_call 101; refine (Calls.quiet_of ((word_Take.calls 30 s (a : Int) _ _ _ _ HT.out).mono fun _ _ ⟨he, ⟨m, hm⟩⟩ => ⟨he, m, hm⟩))))
  go_wp2
  go_ret
  exact ⟨rfl, blk_put (blk_drewN HG.out _) 1 _ (by rfl), gB_of (Lib.grownBy_setCell (w.drewN _) g 1 _)⟩

set_option maxRecDepth 100000 in
set_option maxHeartbeats 4000000 in
theorem rnum_fail (g : Nat) (s : ByteArray) (a most : Nat) (w : World) (hg : RdS w g s a) (hs : s.size ≤ 4611686018427387904) (ha : a ≤ s.size) (hm : most ≤ 65536) (h : pNum s most a = none) :
    Calls Try.prog 68 #[.pointer (some ⟨g, 0, none⟩), .int .i64 (most : Int)] w fun e w' => e = .panicked lackL ∧ w.grownBy w' (some g) := by
  have HG := Aside0.mk hg
  have c0 := (blk_cell hg 0).trans rfl
  have c1 := (blk_cell hg 1).trans rfl
  have f1 := blk_frozen hg 1
  have e1 : IntKind.u64.wrap (most : Int) = (most : Int) := by rw [wrap_u64]; omega
  have hu110 := Try.underlying110
  unfold pNum at h
  rcases hT0 : takeG s a 10 0 0 with _ | ⟨u, n⟩
  · have HT : Aside0 (word_Take.f 30 s (a : Int) = some (0, 0, 9)) := ⟨by rw [word_Take_f s a hs ha, hT0]; rfl⟩
    clear h hg hT0
    go_enter Try.func68, Try.ntmps68
    go_wp2
    go_quiet ((go_at_call 101; refine (Calls.quiet_of ((word_Take.calls 30 s (a : Int) _ _ _ _ HT.out).mono fun _ _ ⟨he, ⟨m, hm⟩⟩ => ⟨he, m, hm⟩))))
    go_wp2
    exact ⟨rfl, rfl, grown_of_below (pw_below_drewN (Below.refl _ _) _) _⟩
  · rw [hT0] at h
    have hu : most < u := by
      by_cases hc : u ≤ most
      · simp [hc] at h
      · omega
    have d1 : decide ((most : Int) < (u : Int)) = true := by simp; omega
    have HT : Aside0 (word_Take.f 30 s (a : Int) = some ((u : Int), (n : Int), 0)) := ⟨by rw [word_Take_f s a hs ha, hT0]; rfl⟩
    clear h hg hT0
    go_enter Try.func68, Try.ntmps68
    go_wp2
    go_quiet ((go_at_call 101; refine (Calls.quiet_of ((word_Take.calls 30 s (a : Int) _ _ _ _ HT.out).mono fun _ _ ⟨he, ⟨m, hm⟩⟩ => ⟨he, m, hm⟩))))
    go_wp2
    exact ⟨rfl, rfl, grown_of_below (pw_below_drewN (Below.refl _ _) _) _⟩

theorem pWide_some {s t : ByteArray} {a b : Nat} (h : pTake s 8 a = some (t, b)) : pWide s a = some (wrap64 (sumN t 8 : Int), b) := by unfold pWide; rw [h]
theorem pWide_none {s : ByteArray} {a : Nat} (h : pTake s 8 a = none) : pWide s a = none := by unfold pWide; rw [h]
theorem pWide_get {s t : ByteArray} {a b : Nat} (ha : a ≤ s.size) (h : pTake s 8 a = some (t, b)) : ∃ x, Aside0 (pWide s a = some (x, b)) ∧ Aside0 (word_Number.f 9 t = some (x, 0)) := ⟨_, ⟨pWide_some h⟩, ⟨word_Number_8 t (pTake_le ha h).2.2.1⟩⟩
theorem pOne_get {s t : ByteArray} {a b : Nat} (ha : a ≤ s.size) (h : pTake s 1 a = some (t, b)) : Aside0 (pOne s a = some (bt t 0, b)) ∧ t.size = 1 ∧ (∀ h0 : 0 < t.size, ((t[0]'h0).toNat : Int) = bt t 0) := by
  have h1 := (pTake_le ha h).2.2.1
  refine ⟨⟨by unfold pOne; rw [h]⟩, h1, fun h0 => ?_⟩
  unfold bt
  rw [dif_pos (show (0 : Int).toNat < t.size from by simpa using h0)]; rfl
theorem pOne_none {s : ByteArray} {a : Nat} (h : pTake s 1 a = none) : pOne s a = none := by unfold pOne; rw [h]
theorem pName_get {s : ByteArray} {a n b : Nat} (h : pNum s 28 a = some (n, b)) : pName s a = pTake s n b := by unfold pName; rw [h]
theorem pName_none {s : ByteArray} {a : Nat} (h : pNum s 28 a = none) : pName s a = none := by unfold pName; rw [h]
theorem bt_rng (s : ByteArray) (i : Int) : 0 ≤ bt s i ∧ bt s i < 256 := by
  unfold bt; split
  · rename_i h; have := UInt8.toNat_lt (s[i.toNat]'h); omega
  · omega
section
variable {P : Program} {ops : Array Oper} {Q : Exit → Act → World → Prop}
/-- A call in a region that draws, by a contract that may end in a panic. -/
theorem goesP_ {oi : Oper} {N : Option Tmp} {a : Act} {w : World} {K : Act → World → Prop} {f : FuncId} {fn : Func} {as_ : Array Operand} {ts : Array TypeId} (hf : P.funcs[f]? = some fn) (hname : (fn.name == "runtime.NumGoroutine") = false) (hb : fn.body.isSome = true) (args : Array Value)
    (hw : Region.wanted oi (yielded ops a.tmps) = true) (hN : oi.dst = N) (hop : oi.op = .call { callee := .value (.func f), args := as_, argTypes := ts }) (hargs : as_.map a.eval = args)
    (h : Calls P f args w fun e w' => (∃ v, e = .returned v ∧ K (a.put N v) w') ∨ (∃ c, e = .panicked c ∧ Q (.panic c) a w')) : if Region.wanted oi (yielded ops a.tmps) = true then Oper.wp P oi a w K Q else K (a.put N undef) w := by
  rw [if_pos hw]
  subst hN
  have he := enters_ hf hname hb args w
  have hrun : (execOp a.eval oi).run P w = .ok (.enter f args) w := by
    unfold execOp
    simp [hop, resolve, Deferred.ofValue, invoke, Act.eval, hargs, he]
  unfold Oper.wp
  rw [hrun, Oper.upon_enter]
  refine h.mono fun e w'' hh => ?_
  rcases hh with ⟨v, rfl, hk⟩ | ⟨c, rfl, hk⟩
  · exact hk
  · exact hk
end
def T70.T1 : Bool × List (List Nat × List Nat) := (true, [([], []), ([0], [0]), ([1], [1]), ([], []), ([3], [3]), ([2, 4, 4], [2, 4]), ([5, 5, 0, 1, 2, 3, 4, 5], [5])])
def T70.B1 : List Nat := [0, 1, 3, 0, 8, 31, 63]
theorem T70.tab1 : rtab .any (opsOf Try.f70 1) = T70.T1 := by kernel_rfl
theorem T70.bits1 : waitsOk T70.T1.2 T70.B1 = true := by kernel_rfl
theorem take_any {g : Nat} {s : ByteArray} {a n : Nat} {w : World} {N : Int} (hN : N = (n : Int)) (hg : RdS w g s a) (hs : s.size ≤ 4611686018427387904) (ha : a ≤ s.size) :
    Calls Try.prog 67 #[.pointer (some ⟨g, 0, none⟩), .int .i64 N] w fun e w' => w.grownBy w' (some g) ∧ ((∃ t b, pTake s n a = some (t, b) ∧ e = .returned (.string t) ∧ RdS w' g s b) ∨ (pTake s n a = none ∧ e = .panicked lackL)) := by
  subst hN
  rcases h : pTake s n a with _ | ⟨t, b⟩
  · exact (take_fail g s a n w hg hs ha h).mono fun e w' ⟨h1, h2⟩ => ⟨h2, .inr ⟨rfl, h1⟩⟩
  · exact (take_ok g s t a n b w hg hs ha h).mono fun e w' ⟨h1, h2, h3⟩ => ⟨h3, .inl ⟨t, b, rfl, h1, h2⟩⟩
theorem rnum_any {g : Nat} {s : ByteArray} {a most : Nat} {w : World} {N : Int} (hN : N = (most : Int)) (hg : RdS w g s a) (hs : s.size ≤ 4611686018427387904) (ha : a ≤ s.size) (hm : most ≤ 65536) :
    Calls Try.prog 68 #[.pointer (some ⟨g, 0, none⟩), .int .i64 N] w fun e w' => w.grownBy w' (some g) ∧ ((∃ u b : Nat, pNum s most a = some (u, b) ∧ e = .returned (.int .i64 (u : Int)) ∧ RdS w' g s b) ∨ (pNum s most a = none ∧ e = .panicked lackL)) := by
  subst hN
  rcases h : pNum s most a with _ | ⟨u, b⟩
  · exact (rnum_fail g s a most w hg hs ha hm h).mono fun e w' ⟨h1, h2⟩ => ⟨h2, .inr ⟨rfl, h1⟩⟩
  · exact (rnum_ok g s a most u b w hg hs ha hm h).mono fun e w' ⟨h1, h2, h3⟩ => ⟨h3, .inl ⟨u, b, rfl, h1, h2⟩⟩

set_option maxRecDepth 100000 in
set_option maxHeartbeats 4000000 in
theorem rwide_any {g : Nat} {s : ByteArray} {a : Nat} {w : World} (hg : RdS w g s a) (hs : s.size ≤ 4611686018427387904) (ha : a ≤ s.size) :
    Calls Try.prog 69 #[.pointer (some ⟨g, 0, none⟩)] w fun e w' => w.grownBy w' (some g) ∧ ((∃ x b, pWide s a = some (x, b) ∧ e = .returned (.int .i64 x) ∧ RdS w' g s b) ∨ (pWide s a = none ∧ e = .panicked lackL)) := by
  have HG := Aside0.mk hg
  have c0 := (blk_cell hg 0).trans rfl
  clear hg
  go_enter Try.func69, Try.ntmps69
  go_wp2_with (first
      | (go_at_call 67; go_must (refine (take_any (n := 8) rfl HG.out hs ha).mono ?_; rintro e w1 ⟨hb, ⟨t, b, ht, rfl, hr⟩ | ⟨hn, rfl⟩⟩; rotate_left; (exact ⟨rfl, hb, .inr ⟨pWide_none hn, rfl⟩⟩); obtain ⟨x, HW, HN⟩ := pWide_get ha ht; have HR := Aside0.mk hr; have HB := Aside0.mk hb; clear hr hb c0 ht))
      | (go_at_call 102; go_must (refine (word_Number.calls _ _ _ _ _ HN.out).mono ?_; rintro e w2 ⟨rfl, ⟨hd⟩⟩; have HD := Aside0.mk hd; clear hd)))
  go_ret
  obtain ⟨m, hm⟩ := HD.out
  subst hm
  exact ⟨gB_to HB.out _, .inl ⟨_, _, HW.out, rfl, HR.out.drewN _⟩⟩

set_option maxRecDepth 100000 in
set_option maxHeartbeats 4000000 in
theorem rone_any {g : Nat} {s : ByteArray} {a : Nat} {w : World} (hg : RdS w g s a) (hs : s.size ≤ 4611686018427387904) (ha : a ≤ s.size) :
    Calls Try.prog 71 #[.pointer (some ⟨g, 0, none⟩)] w fun e w' => w.grownBy w' (some g) ∧ ((∃ x b, pOne s a = some (x, b) ∧ e = .returned (.int .i64 x) ∧ RdS w' g s b) ∨ (pOne s a = none ∧ e = .panicked lackL)) := by
  have HG := Aside0.mk hg
  have c0 := (blk_cell hg 0).trans rfl
  clear hg
  go_enter Try.func71, Try.ntmps71
  go_wp2_with (go_at_call 67; go_must (refine (take_any (n := 1) rfl HG.out hs ha).mono ?_; rintro e w1 ⟨hb, ⟨t, b, ht, rfl, hr⟩ | ⟨hn, rfl⟩⟩; rotate_left; (exact ⟨rfl, hb, .inr ⟨pOne_none hn, rfl⟩⟩); obtain ⟨HT, h8, hx⟩ := pOne_get ha ht; have HX := Aside0.mk hx; have HR := Aside0.mk hr; have HB := Aside0.mk hb; clear hr hb c0 ht hx; have hl : decide ((0 : Int) < (t.size : Int)) = true := by simp; omega))
  go_ret
  have hw : wrap64 (bt t 0) = bt t 0 := by
    have h1 := bt_rng t 0
    unfold wrap64; omega
  rw [HX.out, hw]
  exact ⟨HB.out, .inl ⟨_, _, HT.out, rfl, HR.out⟩⟩

set_option maxRecDepth 100000 in
set_option maxHeartbeats 4000000 in
theorem rname_any {g : Nat} {s : ByteArray} {a : Nat} {w : World} (hg : RdS w g s a) (hs : s.size ≤ 4611686018427387904) (ha : a ≤ s.size) :
    Calls Try.prog 70 #[.pointer (some ⟨g, 0, none⟩)] w fun e w' => w.grownBy w' (some g) ∧ ((∃ x b, pName s a = some (x, b) ∧ e = .returned (.string x) ∧ RdS w' g s b) ∨ (pName s a = none ∧ e = .panicked lackL)) := by
  have HG := Aside0.mk hg
  have c0 := (blk_cell hg 0).trans rfl
  clear hg
  go_enter Try.func70, Try.ntmps70
  go_wp2
  refine start_ (n := 7) (S := fun _ => True) (ds := [4, 5]) #[false, false, false, false, false, false, false] (by kernel_rfl) rfl rfl ?_ (fun hHeld => ?_)
  trivial
  refine with_tabW T70.tab1 T70.bits1 (fun HT_ HW_ => ?_)
  refine pure_ (i := 0) (N := some 3) (v := ?_) (a' := ?_) #[true, false, false, false, false, false, false] rfl rfl (any_of HT_.out (by kernel_rfl)) (fun _ _ _ h => h) (Or.inl ⟨by rfl, ?_⟩) ?_ ?_
  rotate_left
  · intro w'
    go_simp
    with_reducible rfl
  rotate_left
  · simp only [Act.put, List.setIfInBounds_toArray, List.set_cons_zero, List.set_cons_succ, i64_w, i32_w]
    rfl
  refine pure_ (i := 1) (N := some 4) (v := ?_) (a' := ?_) #[true, true, false, false, false, false, false] rfl rfl (any_of HT_.out (by kernel_rfl)) (fun _ _ _ h => h) (Or.inl ⟨by rfl, ?_⟩) ?_ ?_
  rotate_left
  · intro w'
    go_simp
    with_reducible rfl
  rotate_left
  · simp only [Act.put, List.setIfInBounds_toArray, List.set_cons_zero, List.set_cons_succ, i64_w, i32_w]
    rfl
  refine pure_ (i := 2) (N := some 5) (v := ?_) (a' := ?_) #[true, true, true, false, false, false, false] rfl rfl (any_of HT_.out (by kernel_rfl)) (fun _ _ _ h => h) (Or.inl ⟨by rfl, ?_⟩) ?_ ?_
  rotate_left
  · intro w'
    go_simp
    with_reducible rfl
  rotate_left
  · simp only [Act.put, List.setIfInBounds_toArray, List.set_cons_zero, List.set_cons_succ, i64_w, i32_w]
    rfl
  refine pure_ (i := 3) (N := some 6) (v := ?_) (a' := ?_) #[true, true, true, true, false, false, false] rfl rfl (any_of HT_.out (by kernel_rfl)) (fun _ _ _ h => h) (Or.inl ⟨by rfl, ?_⟩) ?_ ?_
  rotate_left
  · intro w'
    go_simp
    with_reducible rfl
  rotate_left
  · simp only [Act.put, List.setIfInBounds_toArray, List.set_cons_zero, List.set_cons_succ, i64_w, i32_w]
    rfl
  refine last_ (i := 4) (N := some 7) #[true, true, true, true, true, false, false] rfl rfl (one_of HT_.out (by kernel_rfl)) (by decide) (fun K hK => ?_)
  refine goesP_ Try.func68 (by kernel_rfl) rfl #[.pointer (some ⟨g, 0, none⟩), .int .i64 28] (by rfl) rfl rfl (by simp only [List.map_toArray, List.map_cons, List.map_nil]; rfl) ?_
  with_reducible refine (rnum_any (g := g) (s := s) (a := a) (most := 28) (N := 28) (by decide) ?hR hs ha (by omega)).mono ?_
  case hR => exact HG.out
  rintro e w1 ⟨hb0, ⟨n, a1, hn, rfl, hr⟩ | ⟨hn, rfl⟩⟩
  rotate_left
  · exact .inr ⟨_, rfl, rfl, gB_of (n := 1) hb0, .inr ⟨pName_none hn, rfl⟩⟩
  have hb := gB_of (n := 1) hb0
  clear hb0
  have ha1 : a1 ≤ s.size := (pNum_le hn).2.2
  have HN := Aside0.mk (pName_get hn)
  have HR := Aside0.mk hr
  have HB := Aside0.mk hb
  clear hr hb hn
  refine .inl ⟨_, rfl, ?_⟩
  refine hK.out _ _ ?_
  clear hK K
  refine norm_ (a' := ?_) ?_ ?_
  rotate_left
  · show Act.put _ (some 7) _ = _
    simp only [Act.put, List.setIfInBounds_toArray, List.set_cons_zero, List.set_cons_succ, i64_w, i32_w]
    try rfl
  refine last_ (i := 5) (N := some 8) #[true, true, true, true, true, true, false] rfl rfl (one_of HT_.out (by kernel_rfl)) (by decide) (fun K hK => ?_)
  refine goesP_ Try.func67 (by kernel_rfl) rfl #[.pointer (some ⟨g, 0, none⟩), .int .i64 n] (by rfl) rfl rfl (by simp only [List.map_toArray, List.map_cons, List.map_nil]; rfl) ?_
  with_reducible refine (take_any (g := g) (s := s) (a := a1) (n := n) (N := n) (by rfl) ?hR hs ha1).mono ?_
  case hR => exact HR.out
  rintro e w2 ⟨hb, ⟨t, b, ht, rfl, hr⟩ | ⟨hn, rfl⟩⟩
  rotate_left
  · exact .inr ⟨_, rfl, rfl, HB.out.trans hb, .inr ⟨by rw [HN.out, hn], rfl⟩⟩
  have HR2 := Aside0.mk hr
  have HB2 := Aside0.mk (HB.out.trans hb)
  have HT := Aside0.mk ht
  clear hr hb ht
  refine .inl ⟨_, rfl, ?_⟩
  refine hK.out _ _ ?_
  clear hK K
  refine norm_ (a' := ?_) ?_ ?_
  rotate_left
  · show Act.put _ (some 8) _ = _
    simp only [Act.put, List.setIfInBounds_toArray, List.set_cons_zero, List.set_cons_succ, i64_w, i32_w]
    try rfl
  refine pure_ (i := 6) (N := some 2) (v := ?_) (a' := ?_) #[true, true, true, true, true, true, true] rfl rfl (any_of HT_.out (by kernel_rfl)) (fun _ _ _ h => h) (Or.inl ⟨by rfl, ?_⟩) ?_ ?_
  rotate_left
  · intro w'
    go_simp
    with_reducible rfl
  rotate_left
  · simp only [Act.put, List.setIfInBounds_toArray, List.set_cons_zero, List.set_cons_succ, i64_w, i32_w]
    rfl
  refine done_ (done_of HT_.out (by kernel_rfl)) ?_
  go_wp2
  go_ret
  exact ⟨HB2.out, .inl ⟨_, _, by rw [HN.out]; exact HT.out, rfl, HR2.out⟩⟩
end Go.Proofs.Ytochgjeanajoiaa.HA
namespace Go.Proofs.Ytochgjeanajoiaa.HA
open Go.RowKit Go.Proofs.YtochgjeanajoiaaW.PrintWords Go.Proofs.YtochgjeanajoiaaW.PrintLast Go.Proofs.YtochgjeanajoiaaW.PrintMore
set_option linter.unusedVariables false
set_option linter.unusedSimpArgs false

/-- A store of a whole struct into a block of its type: what is known of the world behind it. -/
theorem row_event {P : Program} {ops : Array Oper} {rest : List Oper} {o : Oper} {a : Act} {Q : Exit → Act → World → Prop} {W : World} (hgd : o.guard = none) (ty : TypeId) (x y : Operand) (ho : o.op = .store ty x y)
    (g : Nat) (cells old : Array Value) (hx : a.eval x = .pointer (some ⟨g, 0, none⟩)) (hy : a.eval y = .agg cells) (hg : W.heap[g]? = some (.cells old ty (0, 0))) (hi : (P.info? ty).map (·.size) = some cells.size)
    (hold : old.size = cells.size) (h1 : cells.all (·.oneCell') = true)
    (h : ∀ w1, w1.heap[g]? = some (.cells cells ty (0, 0)) → W.grownBy w1 (some g) → (∀ B, B ≤ g → Below B W w1) → wpList P ops Q rest (a.put o.dst undef) w1) : wpList P ops Q (o :: rest) a W :=
  wpList_store_row hgd ty x y ho g cells hx hy ty old hg hi hold h1 (h _ (setRow_heap W g old cells ty _ hg)
    ⟨rfl, rfl, rfl, by simp, fun k _ hk => setRow_other W g k cells (fun e => hk (by rw [e]))⟩
    (fun B hB => ⟨rfl, rfl, rfl, by simp, fun k hk => setRow_other W g k cells (by omega)⟩))
theorem read1_idle (bo be : Nat) (w : World) :
    CallsD Try.prog 66 #[.pointer (some ⟨bo, 0, none⟩), .pointer (some ⟨be, 0, none⟩)] .returning w fun e u' w' => e = .returned (.tuple #[]) ∧ u' = .returning ∧ w' = w := by
  refine callsD_of_wpS Try.func66 rfl fun c₀ cs hu => ?_
  apply wpS_seq
  apply wpS_region
  simp [wpOpsS, go_sem, recoverD, hu, Try.ntmps66, Exit.thenS]
  apply wpS_seq
  apply wpS_region
  simp [wpOpsS, go_sem, recoverD, hu, Try.ntmps66, Exit.thenS]
  refine wpS_cond (t := false) (by simp [Act.eval, Array.replicate]) ?_
  simp only [Bool.false_eq_true, if_false]
  refine wpS_of_wp (wp_skip ?_)
  cases c₀
  simp_all [bodyPostS, results, Try.results66]

def lackR : List PanicEntry := [{ v := .iface 110 (.agg #[]), recovered := true }]
set_option maxRecDepth 100000 in
set_option maxHeartbeats 2000000 in
theorem read1_lack (bo be : Nat) (co : Array Value) (x : Value) (w : World) (ho : w.heap[bo]? = some (.cells co 30 (0, 0))) (he : w.heap[be]? = some (.cells #[x] 37 (0, 0))) (hco : co.size = 4) (hne : bo ≠ be) :
    CallsD Try.prog 66 #[.pointer (some ⟨bo, 0, none⟩), .pointer (some ⟨be, 0, none⟩)] (.panicking lackL) w fun e u' w' => e = .returned (.tuple #[]) ∧ u' = .panicking lackR ∧
      w'.heap[bo]? = some (.cells #[.string ⟨#[]⟩, .slice none 0 0, .slice none 0 0, .slice none 0 0] 30 (0, 0)) ∧ w'.heap[be]? = some (.cells #[.int .i64 9] 37 (0, 0)) ∧ (∀ B, B ≤ bo → B ≤ be → Below B w w') := by
  unfold lackL
  refine callsD_of_wpS Try.func66 rfl fun c₀ cs hu => ?_
  have hu110 := Try.underlying110
  have hu30 := Try.underlying30
  apply wpS_seq
  apply wpS_region
  simp [wpOpsS, go_sem, recoverD, hu, Try.ntmps66, Exit.thenS]
  refine wpS_of_wp ?_
  have hta : ∀ w : World, (Instr.typeAssert (.iface 110 (.agg #[])) 20 110 true).run Try.prog w = .ok (.tuple #[.agg #[], .bool true]) w := fun _ => by kernel_rfl
  show Code.wp Try.prog _ _ { tmps := #[.pointer (some ⟨bo, 0, none⟩), .pointer (some ⟨be, 0, none⟩), .iface 110 (.agg #[]), undef, undef, .iface 110 (.agg #[]), undef, undef, undef, undef, undef, undef, undef, undef, undef, undef, undef], defers := [] } w
  have HO := Aside0.mk ho
  have HE := Aside0.mk he
  clear ho he
  go_wp2_with ((with_reducible refine gate_store (p := 0) rfl ?_); go_must (
    have ho1 := blk_below HO.out (below_alloc (Below.refl w.heap.size w) (.cells #[] 110));
    have he1 := blk_below HE.out (below_alloc (Below.refl w.heap.size w) (.cells #[] 110));
    refine row_event rfl 30 _ _ rfl bo #[.string ⟨#[]⟩, .slice none 0 0, .slice none 0 0, .slice none 0 0] co (by rfl) (by rfl) ho1 (by kernel_rfl) (by rw [hco]; rfl) (by kernel_rfl) ?_;
    intro w1 hb hg hB;
    have HO1 := Aside0.mk hb; have HE1 := Aside0.mk (blk_grown he1 hg (fun e => hne (Option.some.inj e).symm)); have HB := Aside0.mk hB; clear hb hg hB ho1 he1;
    have q0 := (blk_cell HE1.out 0).trans rfl; have q1 := blk_frozen HE1.out 0))
  have e1 := blk_put HE1.out 0 (.int .i64 9) (cs' := #[.int .i64 9]) rfl
  have e2 := (Below.heap_setCell w1 ⟨be, 0, none⟩ (.int .i64 9) bo hne).trans HO1.out
  have e3 : ∀ B, B ≤ bo → B ≤ be → Below B w (w1.setCell ⟨be, 0, none⟩ (.int .i64 9)) := fun B h1 h2 => (((Below.refl B w).alloc (by have := blk_lt HO.out; omega) _).trans (HB.out B h1)).setCell h2 _
  exact ⟨rfl, _, rfl, _, results_none rfl _ _ _, rfl, rfl, e2, e1, e3⟩
end Go.Proofs.Ytochgjeanajoiaa.HA
namespace Go.Proofs.Ytochgjeanajoiaa.HA
open Go.RowKit Go.Proofs.YtochgjeanajoiaaW.PrintWords Go.Proofs.YtochgjeanajoiaaW.PrintLast Go.Proofs.YtochgjeanajoiaaW.PrintMore
set_option linter.unusedVariables false
set_option linter.unusedSimpArgs false

def pMany {α : Type} (p : Nat → Option (α × Nat)) : Nat → Nat → Option (List α × Nat)
  | 0, a => some ([], a)
  | n + 1, a => (p a).bind fun r => (pMany p n r.2).bind fun q => some (r.1 :: q.1, q.2)
def pSym (s : ByteArray) (a : Nat) : Option (S32 × Nat) := (pName s a).bind fun r => (pOne s r.2).bind fun k => (pNum s 65536 k.2).bind fun u => some (⟨r.1, k.1, (u.1 : Int)⟩, u.2)
def pRel (s : ByteArray) (a : Nat) : Option (S34 × Nat) := (pNum s 65536 a).bind fun u => (pOne s u.2).bind fun k => (pName s k.2).bind fun r => (pWide s r.2).bind fun x => some (⟨(u.1 : Int), k.1, r.1, x.1⟩, x.2)
/-- Behind the mark. -/
def pRest (s : ByteArray) (a0 : Nat) : Option (ByteArray × List Int × List S32 × List S34) :=
  (pNum s 65536 a0).bind fun n1 => (pTake s n1.1 n1.2).bind fun code => (pNum s 4096 code.2).bind fun n2 => (pMany (pWide s) n2.1 n2.2).bind fun data =>
  (pNum s 1000 data.2).bind fun n3 => (pMany (pSym s) n3.1 n3.2).bind fun syms => (pNum s 8000 syms.2).bind fun n4 => (pMany (pRel s) n4.1 n4.2).bind fun rels =>
  if rels.2 = s.size ∧ checkOk code.1 data.1 syms.1 rels.1 = true then some (code.1, data.1, syms.1, rels.1) else none
def pBody (s : ByteArray) : Option (ByteArray × List Int × List S32 × List S34) :=
  (pTake s 4 0).bind fun m => if m.1.toList = ([67, 79, 84, 49] : List UInt8) then pRest s m.2 else none
def readR (o : Option (ByteArray × List Int × List S32 × List S34)) : ByteArray × List Int × List S32 × List S34 × Int := match o with | some (c, d, y, r) => (c, d, y, r, 0) | none => (⟨#[]⟩, [], [], [], 9)
def objf_Read.f (s : ByteArray) : Option (ByteArray × List Int × List S32 × List S34 × Int) := if s.size ≤ 4611686018427387904 then some (readR (pBody s)) else none

theorem pWide_le {s : ByteArray} {a b : Nat} {x : Int} (ha : a ≤ s.size) (h : pWide s a = some (x, b)) : b ≤ s.size := by
  unfold pWide at h; split at h
  · rename_i e; have := pTake_le ha e; simp only [Option.some.injEq, Prod.mk.injEq] at h; omega
  · cases h
theorem pOne_le {s : ByteArray} {a b : Nat} {x : Int} (ha : a ≤ s.size) (h : pOne s a = some (x, b)) : b ≤ s.size := by
  unfold pOne at h; split at h
  · rename_i e; have := pTake_le ha e; simp only [Option.some.injEq, Prod.mk.injEq] at h; omega
  · cases h
theorem pName_le {s : ByteArray} {a b : Nat} {x : ByteArray} (h : pName s a = some (x, b)) : b ≤ s.size := by
  unfold pName at h; split at h
  · rename_i e; have := pNum_le e; have := pTake_le this.2.2 h; omega
  · cases h
theorem pMany_len {α : Type} {p : Nat → Option (α × Nat)} : ∀ {n a : Nat} {l : List α} {b : Nat}, pMany p n a = some (l, b) → l.length = n
  | 0, a, l, b, h => by simp only [pMany, Option.some.injEq, Prod.mk.injEq] at h; rw [← h.1]; rfl
  | n + 1, a, l, b, h => by
    simp only [pMany, Option.bind_eq_some_iff] at h
    obtain ⟨r, h1, q, h2, h3⟩ := h
    simp only [Option.some.injEq, Prod.mk.injEq] at h3
    rw [← h3.1, List.length_cons, pMany_len (l := q.1) (b := q.2) h2]
/-- A loop that goes along: what is read so far. -/
def PAt {α : Type} (p : Nat → Option (α × Nat)) (n a0 : Nat) (l : List α) (a : Nat) : Prop := l.length ≤ n ∧ pMany p n a0 = (pMany p (n - l.length) a).bind fun q => some (l ++ q.1, q.2)
theorem PAt.start {α : Type} (p : Nat → Option (α × Nat)) (n a0 : Nat) : PAt p n a0 [] a0 := by
  refine ⟨Nat.zero_le _, ?_⟩
  simp only [List.length_nil, Nat.sub_zero, List.nil_append]
  rcases pMany p n a0 with _ | ⟨l, b⟩ <;> rfl
theorem PAt.next {α : Type} {p : Nat → Option (α × Nat)} {n a0 a b : Nat} {l : List α} {x : α} (h : PAt p n a0 l a) (hlt : l.length < n) (hp : p a = some (x, b)) : PAt p n a0 (l ++ [x]) b := by
  refine ⟨by simp; omega, ?_⟩
  rw [h.2, show n - l.length = (n - (l ++ [x]).length) + 1 from by simp; omega, pMany, hp]
  simp only [Option.bind_some]
  rcases pMany p (n - (l ++ [x]).length) b with _ | ⟨q, c⟩
  · rfl
  · simp
theorem PAt.fail {α : Type} {p : Nat → Option (α × Nat)} {n a0 a : Nat} {l : List α} (h : PAt p n a0 l a) (hlt : l.length < n) (hp : p a = none) : pMany p n a0 = none := by
  rw [h.2, show n - l.length = (n - l.length - 1) + 1 from by omega, pMany, hp]; rfl
theorem PAt.done {α : Type} {p : Nat → Option (α × Nat)} {n a0 a : Nat} {l : List α} (h : PAt p n a0 l a) (he : l.length = n) : pMany p n a0 = some (l, a) := by
  rw [h.2, he, Nat.sub_self, pMany]; simp

/-- The two boxes of the results, and the reader. -/
structure RBx (B : Nat) (w W : World) (bo be g : Nat) (s : ByteArray) (a : Nat) (code : ByteArray) (cd cy cr : Value) : Prop where
  bel : Below B w W
  bo_ : B ≤ bo
  be_ : B ≤ be
  g_ : B ≤ g
  ho : W.heap[bo]? = some (.cells #[.string code, cd, cy, cr] 30 (0, 0))
  he : W.heap[be]? = some (.cells #[.int .i64 0] 37 (0, 0))
  hg : RdS W g s a
theorem blk_apart {W : World} {i j t u : Nat} {c d : Array Value} (hi : W.heap[i]? = some (.cells c t (0, 0))) (hj : W.heap[j]? = some (.cells d u (0, 0))) (h : t ≠ u) : i ≠ j := by
  rintro rfl
  rw [hi] at hj
  injection hj with hj
  injection hj with _ ht
  exact h ht
theorem gB_below {B : Nat} {W W1 : World} {row : Option Nat} (h : W.grownBy W1 row) (hB : B ≤ W.heap.size) (hr : ∀ k, row = some k → B ≤ k) : Below B W W1 :=
  ⟨h.os, h.tape, h.output, h.size, fun k hk => h.block k (by omega) (fun e => by have := hr k e.symm; omega)⟩
variable {B bo be g : Nat} {w W W1 : World} {s : ByteArray} {a : Nat} {code : ByteArray} {cd cy cr : Value}
theorem RBx.size (h : RBx B w W bo be g s a code cd cy cr) : B ≤ W.heap.size := by have := blk_lt h.ho; have := h.bo_; omega
theorem RBx.ne_be (h : RBx B w W bo be g s a code cd cy cr) : bo ≠ be := blk_apart h.ho h.he (by decide)
theorem RBx.ne_g (h : RBx B w W bo be g s a code cd cy cr) : bo ≠ g := blk_apart h.ho h.hg (by decide)
theorem RBx.ne_eg (h : RBx B w W bo be g s a code cd cy cr) : be ≠ g := blk_apart h.he h.hg (by decide)
/-- A reader's call. -/
theorem RBx.read (h : RBx B w W bo be g s a code cd cy cr) {a' : Nat} (hb : W.grownBy W1 (some g)) (hr : RdS W1 g s a') : RBx B w W1 bo be g s a' code cd cy cr :=
  ⟨h.bel.trans (gB_below hb h.size (fun k e => by cases e; exact h.g_)), h.bo_, h.be_, h.g_, blk_grown h.ho hb (fun e => h.ne_g (Option.some.inj e)), blk_grown h.he hb (fun e => h.ne_eg (Option.some.inj e)), hr⟩
theorem RBx.row (h : RBx B w W bo be g s a code cd cy cr) {α : Type} {d : Kd α} {e : Nat} {v : Value} {xs : List α} {ok : Nat → Prop} (hr : d.R e W B ok v xs) (h1 : e ≠ 30) (h2 : e ≠ 37) (h3 : e ≠ 116) (hb : W.grownBy W1 v.ownBlock) : RBx B w W1 bo be g s a code cd cy cr :=
  ⟨h.bel.trans (gB_below hb h.size (fun k e => Kd.R_base hr k e)), h.bo_, h.be_, h.g_, blk_grown h.ho hb (Kd.R_ne hr h.ho h1), blk_grown h.he hb (Kd.R_ne hr h.he h2), blk_grown h.hg hb (Kd.R_ne hr h.hg h3)⟩
theorem below_weaken' {B C : Nat} {W W1 : World} (h : B ≤ C) (hb : Below C W W1) : Below B W W1 := ⟨hb.os, hb.tape, hb.output, hb.size, fun k hk => hb.block k (by omega)⟩
theorem RBx.alloc (h : RBx B w W bo be g s a code cd cy cr) (o : Obj) : RBx B w (W.alloc o) bo be g s a code cd cy cr :=
  have hb := below_alloc (Below.refl W.heap.size W) o
  ⟨h.bel.alloc h.size o, h.bo_, h.be_, h.g_, blk_below h.ho hb, blk_below h.he hb, blk_below h.hg hb⟩
theorem RBx.below (h : RBx B w W bo be g s a code cd cy cr) (hb : Below W.heap.size W W1) : RBx B w W1 bo be g s a code cd cy cr :=
  ⟨h.bel.trans (below_weaken' h.size hb), h.bo_, h.be_, h.g_, blk_below h.ho hb, blk_below h.he hb, blk_below h.hg hb⟩
theorem RBx.drewN (h : RBx B w W bo be g s a code cd cy cr) (n : Nat) : RBx B w (W.drewN n) bo be g s a code cd cy cr := ⟨pw_below_drewN h.bel n, h.bo_, h.be_, h.g_, h.ho, h.he, h.hg⟩
theorem RBx.set (h : RBx B w W bo be g s a code cd cy cr) (i : Nat) (u : Value) (code' : ByteArray) (cd' cy' cr' : Value) (e : (#[.string code, cd, cy, cr] : Array Value).setIfInBounds i u = #[.string code', cd', cy', cr']) : RBx B w (W.setCell ⟨bo, i, none⟩ u) bo be g s a code' cd' cy' cr' :=
  ⟨h.bel.setCell h.bo_ u, h.bo_, h.be_, h.g_, blk_put h.ho i u e, (Below.heap_setCell W _ u be (fun e => h.ne_be e.symm)).trans h.he, (Below.heap_setCell W _ u g (fun e => h.ne_g e.symm)).trans h.hg⟩

/-- The rows that are read so far. -/
structure RWs (B : Nat) (W : World) (vd vy vr : Value) (ld : List Int) (ly : List S32) (lr : List S34) : Prop where
  d : Kd.R (Kd.int .i64) 2 W B (fun _ => True) vd ld
  y : Kd.R k32 32 W B (fun _ => True) vy ly
  r : Kd.R k34 34 W B (fun _ => True) vr lr
variable {vd vy vr : Value} {ld : List Int} {ly : List S32} {lr : List S34}
theorem RWs.nil (B : Nat) (W : World) : RWs B W (.slice none 0 0) (.slice none 0 0) (.slice none 0 0) [] [] [] := ⟨Kd.R_nil _ _ _ _ _, Kd.R_nil _ _ _ _ _, Kd.R_nil _ _ _ _ _⟩
theorem RWs.below (h : RWs B W vd vy vr ld ly lr) (hb : Below W.heap.size W W1) : RWs B W1 vd vy vr ld ly lr := ⟨Kd.R_below h.d hb, Kd.R_below h.y hb, Kd.R_below h.r hb⟩
theorem RWs.grown {g t : Nat} {c : Array Value} (h : RWs B W vd vy vr ld ly lr) (hc : W.heap[g]? = some (.cells c t (0, 0))) (h1 : 2 ≠ t) (h2 : 32 ≠ t) (h3 : 34 ≠ t) (hb : W.grownBy W1 (some g)) : RWs B W1 vd vy vr ld ly lr :=
  ⟨Kd.R_grown1 h.d rfl hb (Kd.R_ne h.d hc h1), Kd.R_grown1 h.y rfl hb (Kd.R_ne h.y hc h2), Kd.R_grown1 h.r rfl hb (Kd.R_ne h.r hc h3)⟩
theorem RWs.read (h : RWs B W vd vy vr ld ly lr) (hr : RBx B w W bo be g s a code cd cy cr) (hb : W.grownBy W1 (some g)) : RWs B W1 vd vy vr ld ly lr := h.grown hr.hg (by decide) (by decide) (by decide) hb
theorem RWs.set (h : RWs B W vd vy vr ld ly lr) (hr : RBx B w W bo be g s a code cd cy cr) (i : Nat) (u : Value) : RWs B (W.setCell ⟨bo, i, none⟩ u) vd vy vr ld ly lr := h.grown hr.ho (by decide) (by decide) (by decide) (Lib.grownBy_setCell W bo i u)
theorem RWs.app_d (h : RWs B W vd vy vr ld ly lr) {v1 : Value} {xs : List Int} (hd : Kd.R (Kd.int .i64) 2 W1 B (fun _ => True) v1 xs) (hb : W.grownBy W1 vd.ownBlock) : RWs B W1 v1 vy vr xs ly lr := ⟨hd, Kd.R_over h.y h.d (by decide) hb, Kd.R_over h.r h.d (by decide) hb⟩
theorem RWs.app_y (h : RWs B W vd vy vr ld ly lr) {v1 : Value} {xs : List S32} (hd : Kd.R k32 32 W1 B (fun _ => True) v1 xs) (hb : W.grownBy W1 vy.ownBlock) : RWs B W1 vd v1 vr ld xs lr := ⟨Kd.R_over h.d h.y (by decide) hb, hd, Kd.R_over h.r h.y (by decide) hb⟩
theorem RWs.app_r (h : RWs B W vd vy vr ld ly lr) {v1 : Value} {xs : List S34} (hd : Kd.R k34 34 W1 B (fun _ => True) v1 xs) (hb : W.grownBy W1 vr.ownBlock) : RWs B W1 vd vy v1 ld ly xs := ⟨Kd.R_over h.d h.r (by decide) hb, Kd.R_over h.y h.r (by decide) hb, hd⟩
end Go.Proofs.Ytochgjeanajoiaa.HA
