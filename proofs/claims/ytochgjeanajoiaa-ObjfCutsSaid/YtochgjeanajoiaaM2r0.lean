/- Written by hand: the contracts of objf's reader (functions 67 to 71). -/
import Derived.Test.YtochgjeanajoiaaM2s
import Derived.WalkSpells
namespace Go.Proofs.Ytochgjeanajoiaa.HA
open Go.RowKit Go.Proofs.YtochgjeanajoiaaW.PrintWords Go.Proofs.YtochgjeanajoiaaW.PrintLast Go.Proofs.YtochgjeanajoiaaW.PrintMore
set_option linter.unusedVariables false
set_option linter.unusedSimpArgs false

/-! ### What is read, in plain words: from a place on; what was read, and the place behind it -/
def pTake (s : ByteArray) (n a : Nat) : Option (ByteArray × Nat) := if n ≤ s.size - a then some (s.extract a (a + n), a + n) else none
def pNum (s : ByteArray) (most a : Nat) : Option (Nat × Nat) := match takeG s a 10 0 0 with | some (u, n) => if u ≤ most then some (u, n) else none | none => none
def pName (s : ByteArray) (a : Nat) : Option (ByteArray × Nat) := match pNum s 28 a with | some (n, b) => pTake s n b | none => none
def pWide (s : ByteArray) (a : Nat) : Option (Int × Nat) := match pTake s 8 a with | some (t, b) => some (wrap64 (sumN t 8 : Int), b) | none => none
def pOne (s : ByteArray) (a : Nat) : Option (Int × Nat) := match pTake s 1 a with | some (t, b) => some (bt t 0, b) | none => none
theorem takeG_le (s : ByteArray) (a : Nat) : ∀ m i u v n, takeG s a m i u = some (v, n) → a ≤ n ∧ n ≤ s.size ∧ a < n
  | 0, i, u, v, n, h => by simp [takeG] at h
  | m + 1, i, u, v, n, h => by
    simp only [takeG] at h
    split at h
    · split at h
      · cases h
      · split at h
        · simp only [Option.some.injEq, Prod.mk.injEq] at h; omega
        · exact takeG_le s a m _ _ _ _ h
    · cases h
theorem pNum_le {s : ByteArray} {most a u n : Nat} (h : pNum s most a = some (u, n)) : u ≤ most ∧ a ≤ n ∧ n ≤ s.size := by
  unfold pNum at h
  split at h
  · rename_i u' n' e
    have := takeG_le s a _ _ _ _ _ e
    split at h
    · simp only [Option.some.injEq, Prod.mk.injEq] at h; omega
    · cases h
  · cases h
theorem pTake_le {s t : ByteArray} {k a n : Nat} (ha : a ≤ s.size) (h : pTake s k a = some (t, n)) : a ≤ n ∧ n ≤ s.size ∧ t.size = k ∧ t = s.extract a (a + k) ∧ n = a + k ∧ k ≤ s.size - a := by
  unfold pTake at h
  split at h
  · simp only [Option.some.injEq, Prod.mk.injEq] at h
    obtain ⟨rfl, rfl⟩ := h
    refine ⟨by omega, by omega, ?_, rfl, rfl, by assumption⟩
    rw [ByteArray.size_extract]; omega
  · cases h

/-- A reader of s at block g, at the place a. -/
def RdS (W : World) (g : Nat) (s : ByteArray) (a : Nat) : Prop := W.heap[g]? = some (.cells #[.string s, .int .i64 (a : Int)] 116 (0, 0))
def lackL : List PanicEntry := [{ v := .iface 110 (.agg #[]), recovered := false }]

theorem gB_to {w w1 : World} {row : Option Nat} (h : w.grownBy w1 row) (n : Nat) : w.grownBy (w1.drewN n) row := ⟨h.os, h.tape, h.output, h.size, h.block⟩
theorem gB_of {w w1 : World} {row : Option Nat} {n : Nat} (h : (w.drewN n).grownBy w1 row) : w.grownBy w1 row := ⟨h.os, h.tape, h.output, h.size, h.block⟩
theorem RdS.drewN {W : World} {g : Nat} {s : ByteArray} {a : Nat} (h : RdS W g s a) (n : Nat) : RdS (W.drewN n) g s a := h

set_option maxRecDepth 100000 in
set_option maxHeartbeats 4000000 in
theorem take_ok (g : Nat) (s t : ByteArray) (a n b : Nat) (w : World) (hg : RdS w g s a) (hs : s.size ≤ 4611686018427387904) (ha : a ≤ s.size) (h : pTake s n a = some (t, b)) :
    Calls Try.prog 67 #[.pointer (some ⟨g, 0, none⟩), .int .i64 (n : Int)] w fun e w' => e = .returned (.string t) ∧ RdS w' g s b ∧ w.grownBy w' (some g) := by
  have HG := Aside0.mk hg
  obtain ⟨h1, h2, h3, h4, h5, h6⟩ := pTake_le ha h
  have c0 := (blk_cell hg 0).trans rfl
  have c1 := (blk_cell hg 1).trans rfl
  have f1 := blk_frozen hg 1
  have e1 : wrap64 ((s.size : Int) - (a : Int)) = (s.size : Int) - (a : Int) := by unfold wrap64; omega
  have d1 : decide ((s.size : Int) - (a : Int) < (n : Int)) = false := by simp; omega
  clear h hg
  have hu110 := Try.underlying110
  go_enter Try.func67, Try.ntmps67
  go_wp2
  go_quiet (fail)
  go_wp2
  have e2 : wrap64 ((a : Int) + (n : Int) - (n : Int)) = (a : Int) := by unfold wrap64; omega
  go_quiet (fail)
  go_wp2
  go_ret
  subst h4 h5
  refine ⟨rfl, ?_, gB_to (gB_of (Lib.grownBy_setCell (w.drewN _) g 1 _)) _⟩
  exact blk_put (blk_drewN HG.out _) 1 _ (by push_cast; rfl)

set_option maxRecDepth 100000 in
set_option maxHeartbeats 4000000 in
theorem take_fail (g : Nat) (s : ByteArray) (a n : Nat) (w : World) (hg : RdS w g s a) (hs : s.size ≤ 4611686018427387904) (ha : a ≤ s.size) (h : pTake s n a = none) :
    Calls Try.prog 67 #[.pointer (some ⟨g, 0, none⟩), .int .i64 (n : Int)] w fun e w' => e = .panicked lackL ∧ w.grownBy w' (some g) := by
  have HG := Aside0.mk hg
  have h1 : s.size - a < n := by
    unfold pTake at h; split at h
    · cases h
    · rename_i h0; omega
  have c0 := (blk_cell hg 0).trans rfl
  have c1 := (blk_cell hg 1).trans rfl
  have e1 : wrap64 ((s.size : Int) - (a : Int)) = (s.size : Int) - (a : Int) := by unfold wrap64; omega
  have d1 : decide ((s.size : Int) - (a : Int) < (n : Int)) = true := by simp; omega
  clear h hg
  have hu110 := Try.underlying110
  go_enter Try.func67, Try.ntmps67
  go_wp2
  go_quiet (fail)
  go_wp2
  exact ⟨rfl, rfl, grown_of_below (pw_below_drewN (Below.refl _ _) _) _⟩

set_option maxRecDepth 100000 in
set_option maxHeartbeats 4000000 in
theorem rnum_ok (g : Nat) (s : ByteArray) (a most u b : Nat) (w : World) (hg : RdS w g s a) (hs : s.size ≤ 4611686018427387904) (ha : a ≤ s.size) (hm : most ≤ 65536) (h : pNum s most a = some (u, b)) :
    Calls Try.prog 68 #[.pointer (some ⟨g, 0, none⟩), .int .i64 (most : Int)] w fun e w' => e = .returned (.int .i64 (u : Int)) ∧ RdS w' g s b ∧ w.grownBy w' (some g) := by
  have HG := Aside0.mk hg
  obtain ⟨h1, h2, h3⟩ := pNum_le h
  have hT : word_Take.f 30 s (a : Int) = some ((u : Int), (b : Int), 0) := by
    rw [word_Take_f s a hs ha]
    unfold pNum at h
    split at h
    · rename_i u' n' e
      split at h
      · simp only [Option.some.injEq, Prod.mk.injEq] at h
        rw [e, h.1, h.2]; rfl
      · cases h
    · cases h
  have HT := Aside0.mk hT
  have c0 := (blk_cell hg 0).trans rfl
  have c1 := (blk_cell hg 1).trans rfl
  have f1 := blk_frozen hg 1
  have d1 : decide ((most : Int) < (u : Int)) = false := by simp; omega
  have e1 : IntKind.u64.wrap (most : Int) = (most : Int) := by rw [wrap_u64]; omega
  have e2 : wrap64 (u : Int) = (u : Int) := by unfold wrap64; omega
  clear h hg hT
  go_enter Try.func68, Try.ntmps68
  go_wp2
  go_quiet ((go_at_call 101; refine (Calls.quiet_of ((word_Take.calls 30 s (a : Int) _ _ _ _ HT.out).mono fun _ _ ⟨he, ⟨m, hm⟩⟩ => ⟨he, m, hm⟩))))
  go_wp2
  go_ret
  exact ⟨rfl, blk_put (blk_drewN HG.out _) 1 _ (by rfl), gB_of (Lib.grownBy_setCell (w.drewN _) g 1 _)⟩

set_option maxRecDepth 100000 in
set_option maxHeartbeats 4000000 in
theorem rnum_fail (g : Nat) (s : ByteArray) (a most : Nat) (w : World) (hg : RdS w g s a) (hs : s.size ≤ 4611686018427387904) (ha : a ≤ s.size) (hm : most ≤ 65536) (h : pNum s most a = none) :
    Calls Try.prog 68 #[.pointer (some ⟨g, 0, none⟩), .int .i64 (most : Int)] w fun e w' => e = .panicked lackL ∧ w.grownBy w' (some g) := by
  have HG := Aside0.mk hg
  have c0 := (blk_cell hg 0).trans rfl
  have c1 := (blk_cell hg 1).trans rfl
  have f1 := blk_frozen hg 1
  have e1 : IntKind.u64.wrap (most : Int) = (most : Int) := by rw [wrap_u64]; omega
  have hu110 := Try.underlying110
  unfold pNum at h
  rcases hT0 : takeG s a 10 0 0 with _ | ⟨u, n⟩
  · have HT : Aside0 (word_Take.f 30 s (a : Int) = some (0, 0, 9)) := ⟨by rw [word_Take_f s a hs ha, hT0]; rfl⟩
    clear h hg hT0
    go_enter Try.func68, Try.ntmps68
    go_wp2
    go_quiet ((go_at_call 101; refine (Calls.quiet_of ((word_Take.calls 30 s (a : Int) _ _ _ _ HT.out).mono fun _ _ ⟨he, ⟨m, hm⟩⟩ => ⟨he, m, hm⟩))))
    go_wp2
    exact ⟨rfl, rfl, grown_of_below (pw_below_drewN (Below.refl _ _) _) _⟩
  · rw [hT0] at h
    have hu : most < u := by
      by_cases hc : u ≤ most
      · simp [hc] at h
      · omega
    have d1 : decide ((most : Int) < (u : Int)) = true := by simp; omega
    have HT : Aside0 (word_Take.f 30 s (a : Int) = some ((u : Int), (n : Int), 0)) := ⟨by rw [word_Take_f s a hs ha, hT0]; rfl⟩
    clear h hg hT0
    go_enter Try.func68, Try.ntmps68
    go_wp2
    go_quiet ((go_at_call 101; refine (Calls.quiet_of ((word_Take.calls 30 s (a : Int) _ _ _ _ HT.out).mono fun _ _ ⟨he, ⟨m, hm⟩⟩ => ⟨he, m, hm⟩))))
    go_wp2
    exact ⟨rfl, rfl, grown_of_below (pw_below_drewN (Below.refl _ _) _) _⟩

theorem pWide_some {s t : ByteArray} {a b : Nat} (h : pTake s 8 a = some (t, b)) : pWide s a = some (wrap64 (sumN t 8 : Int), b) := by unfold pWide; rw [h]
theorem pWide_none {s : ByteArray} {a : Nat} (h : pTake s 8 a = none) : pWide s a = none := by unfold pWide; rw [h]
theorem pWide_get {s t : ByteArray} {a b : Nat} (ha : a ≤ s.size) (h : pTake s 8 a = some (t, b)) : ∃ x, Aside0 (pWide s a = some (x, b)) ∧ Aside0 (word_Number.f 9 t = some (x, 0)) := ⟨_, ⟨pWide_some h⟩, ⟨word_Number_8 t (pTake_le ha h).2.2.1⟩⟩
theorem pOne_get {s t : ByteArray} {a b : Nat} (ha : a ≤ s.size) (h : pTake s 1 a = some (t, b)) : Aside0 (pOne s a = some (bt t 0, b)) ∧ t.size = 1 ∧ (∀ h0 : 0 < t.size, ((t[0]'h0).toNat : Int) = bt t 0) := by
  have h1 := (pTake_le ha h).2.2.1
  refine ⟨⟨by unfold pOne; rw [h]⟩, h1, fun h0 => ?_⟩
  unfold bt
  rw [dif_pos (show (0 : Int).toNat < t.size from by simpa using h0)]; rfl
theorem pOne_none {s : ByteArray} {a : Nat} (h : pTake s 1 a = none) : pOne s a = none := by unfold pOne; rw [h]
theorem pName_get {s : ByteArray} {a n b : Nat} (h : pNum s 28 a = some (n, b)) : pName s a = pTake s n b := by unfold pName; rw [h]
theorem pName_none {s : ByteArray} {a : Nat} (h : pNum s 28 a = none) : pName s a = none := by unfold pName; rw [h]
theorem bt_rng (s : ByteArray) (i : Int) : 0 ≤ bt s i ∧ bt s i < 256 := by
  unfold bt; split
  · rename_i h; have := UInt8.toNat_lt (s[i.toNat]'h); omega
  · omega
section
variable {P : Program} {ops : Array Oper} {Q : Exit → Act → World → Prop}
/-- A call in a region that draws, by a contract that may end in a panic. -/
theorem goesP_ {oi : Oper} {N : Option Tmp} {a : Act} {w : World} {K : Act → World → Prop} {f : FuncId} {fn : Func} {as_ : Array Operand} {ts : Array TypeId} (hf : P.funcs[f]? = some fn) (hname : (fn.name == "runtime.NumGoroutine") = false) (hb : fn.body.isSome = true) (args : Array Value)
    (hw : Region.wanted oi (yielded ops a.tmps) = true) (hN : oi.dst = N) (hop : oi.op = .call { callee := .value (.func f), args := as_, argTypes := ts }) (hargs : as_.map a.eval = args)
    (h : Calls P f args w fun e w' => (∃ v, e = .returned v ∧ K (a.put N v) w') ∨ (∃ c, e = .panicked c ∧ Q (.panic c) a w')) : if Region.wanted oi (yielded ops a.tmps) = true then Oper.wp P oi a w K Q else K (a.put N undef) w := by
  rw [if_pos hw]
  subst hN
  have he := enters_ hf hname hb args w
  have hrun : (execOp a.eval oi).run P w = .ok (.enter f args) w := by
    unfold execOp
    simp [hop, resolve, Deferred.ofValue, invoke, Act.eval, hargs, he]
  unfold Oper.wp
  rw [hrun, Oper.upon_enter]
  refine h.mono fun e w'' hh => ?_
  rcases hh with ⟨v, rfl, hk⟩ | ⟨c, rfl, hk⟩
  · exact hk
  · exact hk
end
def T70.T1 : Bool × List (List Nat × List Nat) := (true, [([], []), ([0], [0]), ([1], [1]), ([], []), ([3], [3]), ([2, 4, 4], [2, 4]), ([5, 5, 0, 1, 2, 3, 4, 5], [5])])
def T70.B1 : List Nat := [0, 1, 3, 0, 8, 31, 63]
theorem T70.tab1 : rtab .any (opsOf Try.f70 1) = T70.T1 := by kernel_rfl
theorem T70.bits1 : waitsOk T70.T1.2 T70.B1 = true := by kernel_rfl
theorem take_any {g : Nat} {s : ByteArray} {a n : Nat} {w : World} {N : Int} (hN : N = (n : Int)) (hg : RdS w g s a) (hs : s.size ≤ 4611686018427387904) (ha : a ≤ s.size) :
    Calls Try.prog 67 #[.pointer (some ⟨g, 0, none⟩), .int .i64 N] w fun e w' => w.grownBy w' (some g) ∧ ((∃ t b, pTake s n a = some (t, b) ∧ e = .returned (.string t) ∧ RdS w' g s b) ∨ (pTake s n a = none ∧ e = .panicked lackL)) := by
  subst hN
  rcases h : pTake s n a with _ | ⟨t, b⟩
  · exact (take_fail g s a n w hg hs ha h).mono fun e w' ⟨h1, h2⟩ => ⟨h2, .inr ⟨rfl, h1⟩⟩
  · exact (take_ok g s t a n b w hg hs ha h).mono fun e w' ⟨h1, h2, h3⟩ => ⟨h3, .inl ⟨t, b, rfl, h1, h2⟩⟩
theorem rnum_any {g : Nat} {s : ByteArray} {a most : Nat} {w : World} {N : Int} (hN : N = (most : Int)) (hg : RdS w g s a) (hs : s.size ≤ 4611686018427387904) (ha : a ≤ s.size) (hm : most ≤ 65536) :
    Calls Try.prog 68 #[.pointer (some ⟨g, 0, none⟩), .int .i64 N] w fun e w' => w.grownBy w' (some g) ∧ ((∃ u b : Nat, pNum s most a = some (u, b) ∧ e = .returned (.int .i64 (u : Int)) ∧ RdS w' g s b) ∨ (pNum s most a = none ∧ e = .panicked lackL)) := by
  subst hN
  rcases h : pNum s most a with _ | ⟨u, b⟩
  · exact (rnum_fail g s a most w hg hs ha hm h).mono fun e w' ⟨h1, h2⟩ => ⟨h2, .inr ⟨rfl, h1⟩⟩
  · exact (rnum_ok g s a most u b w hg hs ha hm h).mono fun e w' ⟨h1, h2, h3⟩ => ⟨h3, .inl ⟨u, b, rfl, h1, h2⟩⟩

set_option maxRecDepth 100000 in
set_option maxHeartbeats 4000000 in
theorem rwide_any {g : Nat} {s : ByteArray} {a : Nat} {w : World} (hg : RdS w g s a) (hs : s.size ≤ 4611686018427387904) (ha : a ≤ s.size) :
    Calls Try.prog 69 #[.pointer (some ⟨g, 0, none⟩)] w fun e w' => w.grownBy w' (some g) ∧ ((∃ x b, pWide s a = some (x, b) ∧ e = .returned (.int .i64 x) ∧ RdS w' g s b) ∨ (pWide s a = none ∧ e = .panicked lackL)) := by
  have HG := Aside0.mk hg
  have c0 := (blk_cell hg 0).trans rfl
  clear hg
  go_enter Try.func69, Try.ntmps69
  go_wp2_with (first
      | (go_at_call 67; go_must (refine (take_any (n := 8) rfl HG.out hs ha).mono ?_; rintro e w1 ⟨hb, ⟨t, b, ht, rfl, hr⟩ | ⟨hn, rfl⟩⟩; rotate_left; (exact ⟨rfl, hb, .inr ⟨pWide_none hn, rfl⟩⟩); obtain ⟨x, HW, HN⟩ := pWide_get ha ht; have HR := Aside0.mk hr; have HB := Aside0.mk hb; clear hr hb c0 ht))
      | (go_at_call 102; go_must (refine (word_Number.calls _ _ _ _ _ HN.out).mono ?_; rintro e w2 ⟨rfl, ⟨hd⟩⟩; have HD := Aside0.mk hd; clear hd)))
  go_ret
  obtain ⟨m, hm⟩ := HD.out
  subst hm
  exact ⟨gB_to HB.out _, .inl ⟨_, _, HW.out, rfl, HR.out.drewN _⟩⟩

set_option maxRecDepth 100000 in
set_option maxHeartbeats 4000000 in
theorem rone_any {g : Nat} {s : ByteArray} {a : Nat} {w : World} (hg : RdS w g s a) (hs : s.size ≤ 4611686018427387904) (ha : a ≤ s.size) :
    Calls Try.prog 71 #[.pointer (some ⟨g, 0, none⟩)] w fun e w' => w.grownBy w' (some g) ∧ ((∃ x b, pOne s a = some (x, b) ∧ e = .returned (.int .i64 x) ∧ RdS w' g s b) ∨ (pOne s a = none ∧ e = .panicked lackL)) := by
  have HG := Aside0.mk hg
  have c0 := (blk_cell hg 0).trans rfl
  clear hg
  go_enter Try.func71, Try.ntmps71
  go_wp2_with (go_at_call 67; go_must (refine (take_any (n := 1) rfl HG.out hs ha).mono ?_; rintro e w1 ⟨hb, ⟨t, b, ht, rfl, hr⟩ | ⟨hn, rfl⟩⟩; rotate_left; (exact ⟨rfl, hb, .inr ⟨pOne_none hn, rfl⟩⟩); obtain ⟨HT, h8, hx⟩ := pOne_get ha ht; have HX := Aside0.mk hx; have HR := Aside0.mk hr; have HB := Aside0.mk hb; clear hr hb c0 ht hx; have hl : decide ((0 : Int) < (t.size : Int)) = true := by simp; omega))
  go_ret
  have hw : wrap64 (bt t 0) = bt t 0 := by
    have h1 := bt_rng t 0
    unfold wrap64; omega
  rw [HX.out, hw]
  exact ⟨HB.out, .inl ⟨_, _, HT.out, rfl, HR.out⟩⟩

set_option maxRecDepth 100000 in
set_option maxHeartbeats 4000000 in
theorem rname_any {g : Nat} {s : ByteArray} {a : Nat} {w : World} (hg : RdS w g s a) (hs : s.size ≤ 4611686018427387904) (ha : a ≤ s.size) :
    Calls Try.prog 70 #[.pointer (some ⟨g, 0, none⟩)] w fun e w' => w.grownBy w' (some g) ∧ ((∃ x b, pName s a = some (x, b) ∧ e = .returned (.string x) ∧ RdS w' g s b) ∨ (pName s a = none ∧ e = .panicked lackL)) := by
  have HG := Aside0.mk hg
  have c0 := (blk_cell hg 0).trans rfl
  clear hg
  go_enter Try.func70, Try.ntmps70
  go_wp2
  refine start_ (n := 7) (S := fun _ => True) (ds := [4, 5]) #[false, false, false, false, false, false, false] (by kernel_rfl) rfl rfl ?_ (fun hHeld => ?_)
  trivial
  refine with_tabW T70.tab1 T70.bits1 (fun HT_ HW_ => ?_)
  refine pure_ (i := 0) (N := some 3) (v := ?_) (a' := ?_) #[true, false, false, false, false, false, false] rfl rfl (any_of HT_.out (by kernel_rfl)) (fun _ _ _ h => h) (Or.inl ⟨by rfl, ?_⟩) ?_ ?_
  rotate_left
  · intro w'
    go_simp
    with_reducible rfl
  rotate_left
  · simp only [Act.put, List.setIfInBounds_toArray, List.set_cons_zero, List.set_cons_succ, i64_w, i32_w]
    rfl
  refine pure_ (i := 1) (N := some 4) (v := ?_) (a' := ?_) #[true, true, false, false, false, false, false] rfl rfl (any_of HT_.out (by kernel_rfl)) (fun _ _ _ h => h) (Or.inl ⟨by rfl, ?_⟩) ?_ ?_
  rotate_left
  · intro w'
    go_simp
    with_reducible rfl
  rotate_left
  · simp only [Act.put, List.setIfInBounds_toArray, List.set_cons_zero, List.set_cons_succ, i64_w, i32_w]
    rfl
  refine pure_ (i := 2) (N := some 5) (v := ?_) (a' := ?_) #[true, true, true, false, false, false, false] rfl rfl (any_of HT_.out (by kernel_rfl)) (fun _ _ _ h => h) (Or.inl ⟨by rfl, ?_⟩) ?_ ?_
  rotate_left
  · intro w'
    go_simp
    with_reducible rfl
  rotate_left
  · simp only [Act.put, List.setIfInBounds_toArray, List.set_cons_zero, List.set_cons_succ, i64_w, i32_w]
    rfl
  refine pure_ (i := 3) (N := some 6) (v := ?_) (a' := ?_) #[true, true, true, true, false, false, false] rfl rfl (any_of HT_.out (by kernel_rfl)) (fun _ _ _ h => h) (Or.inl ⟨by rfl, ?_⟩) ?_ ?_
  rotate_left
  · intro w'
    go_simp
    with_reducible rfl
  rotate_left
  · simp only [Act.put, List.setIfInBounds_toArray, List.set_cons_zero, List.set_cons_succ, i64_w, i32_w]
    rfl
  refine last_ (i := 4) (N := some 7) #[true, true, true, true, true, false, false] rfl rfl (one_of HT_.out (by kernel_rfl)) (by decide) (fun K hK => ?_)
  refine goesP_ Try.func68 (by kernel_rfl) rfl #[.pointer (some ⟨g, 0, none⟩), .int .i64 28] (by rfl) rfl rfl (by simp only [List.map_toArray, List.map_cons, List.map_nil]; rfl) ?_
  with_reducible refine (rnum_any (g := g) (s := s) (a := a) (most := 28) (N := 28) (by decide) ?hR hs ha (by omega)).mono ?_
  case hR => exact HG.out
  rintro e w1 ⟨hb0, ⟨n, a1, hn, rfl, hr⟩ | ⟨hn, rfl⟩⟩
  rotate_left
  · exact .inr ⟨_, rfl, rfl, gB_of (n := 1) hb0, .inr ⟨pName_none hn, rfl⟩⟩
  have hb := gB_of (n := 1) hb0
  clear hb0
  have ha1 : a1 ≤ s.size := (pNum_le hn).2.2
  have HN := Aside0.mk (pName_get hn)
  have HR := Aside0.mk hr
  have HB := Aside0.mk hb
  clear hr hb hn
  refine .inl ⟨_, rfl, ?_⟩
  refine hK.out _ _ ?_
  clear hK K
  refine norm_ (a' := ?_) ?_ ?_
  rotate_left
  · show Act.put _ (some 7) _ = _
    simp only [Act.put, List.setIfInBounds_toArray, List.set_cons_zero, List.set_cons_succ, i64_w, i32_w]
    try rfl
  refine last_ (i := 5) (N := some 8) #[true, true, true, true, true, true, false] rfl rfl (one_of HT_.out (by kernel_rfl)) (by decide) (fun K hK => ?_)
  refine goesP_ Try.func67 (by kernel_rfl) rfl #[.pointer (some ⟨g, 0, none⟩), .int .i64 n] (by rfl) rfl rfl (by simp only [List.map_toArray, List.map_cons, List.map_nil]; rfl) ?_
  with_reducible refine (take_any (g := g) (s := s) (a := a1) (n := n) (N := n) (by rfl) ?hR hs ha1).mono ?_
  case hR => exact HR.out
  rintro e w2 ⟨hb, ⟨t, b, ht, rfl, hr⟩ | ⟨hn, rfl⟩⟩
  rotate_left
  · exact .inr ⟨_, rfl, rfl, HB.out.trans hb, .inr ⟨by rw [HN.out, hn], rfl⟩⟩
  have HR2 := Aside0.mk hr
  have HB2 := Aside0.mk (HB.out.trans hb)
  have HT := Aside0.mk ht
  clear hr hb ht
  refine .inl ⟨_, rfl, ?_⟩
  refine hK.out _ _ ?_
  clear hK K
  refine norm_ (a' := ?_) ?_ ?_
  rotate_left
  · show Act.put _ (some 8) _ = _
    simp only [Act.put, List.setIfInBounds_toArray, List.set_cons_zero, List.set_cons_succ, i64_w, i32_w]
    try rfl
  refine pure_ (i := 6) (N := some 2) (v := ?_) (a' := ?_) #[true, true, true, true, true, true, true] rfl rfl (any_of HT_.out (by kernel_rfl)) (fun _ _ _ h => h) (Or.inl ⟨by rfl, ?_⟩) ?_ ?_
  rotate_left
  · intro w'
    go_simp
    with_reducible rfl
  rotate_left
  · simp only [Act.put, List.setIfInBounds_toArray, List.set_cons_zero, List.set_cons_succ, i64_w, i32_w]
    rfl
  refine done_ (done_of HT_.out (by kernel_rfl)) ?_
  go_wp2
  go_ret
  exact ⟨HB2.out, .inl ⟨_, _, by rw [HN.out]; exact HT.out, rfl, HR2.out⟩⟩
end Go.Proofs.Ytochgjeanajoiaa.HA
