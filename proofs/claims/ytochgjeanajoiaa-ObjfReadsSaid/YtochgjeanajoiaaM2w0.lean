/- Written by hand: the contracts of objf's writer (functions 55 to 58). -/
import Derived.Test.YtochgjeanajoiaaM0n
import Derived.Deep.RegionHeld3
import Derived.Lib.AppendStr
import Derived.Lib.BufferWrite

namespace Go.Proofs.Ytochgjeanajoiaa.HA
open Go.RowKit Go.Proofs.YtochgjeanajoiaaW.PrintWords Go.Proofs.YtochgjeanajoiaaW.PrintLast Go.Proofs.YtochgjeanajoiaaW.PrintMore
set_option linter.unusedVariables false
set_option linter.unusedSimpArgs false

theorem own_ne_blk {W : World} {B e size n g t : Nat} {v : Value} {xs : List Value} {cs : Array Value} (h : W.ownsRow B e size v n xs) (hb : W.heap[g]? = some (.cells cs t (0, 0))) (hne : e ≠ t) : v.ownBlock ≠ some g := by
  intro hk
  rcases h.2 with ⟨rfl, _⟩ | ⟨g', cap, cur, rfl, _, hh, _⟩
  · simp [Value.ownBlock] at hk
  · have : g' = g := by simpa [Value.ownBlock] using hk
    subst this
    rw [hb] at hh
    injection hh with hh
    injection hh with _ ht
    exact hne ht.symm
theorem own_set_far {W : World} {B e size n g i : Nat} {v u : Value} {xs : List Value} (h : W.ownsRow B e size v n xs) (hne : v.ownBlock ≠ some g) : (W.setCell ⟨g, i, none⟩ u).ownsRow B e size v n xs :=
  h.kept (Lib.grownBy_setCell W g i u) (.inr hne)
/-- A writer at block g (elements of type T) whose bytes are l; its row lies from B on. -/
def Wr (T B : Nat) (W : World) (g : Nat) (l : List Int) : Prop :=
  ∃ A c, W.heap[g]? = some (.cells #[.slice A l.length c] T (0, 0)) ∧ B ≤ g ∧ W.ownsRow B 5 1 (.slice A l.length c) l.length (nums .u8 l)
theorem Wr.below {T B : Nat} {W W1 : World} {g : Nat} {l : List Int} (h : Wr T B W g l) (hb : Below W.heap.size W W1) : Wr T B W1 g l := by
  obtain ⟨A, c, h1, h2, h3⟩ := h
  exact ⟨A, c, blk_below h1 hb, h2, pw_own_below h3 hb⟩
theorem Wr.alloc {T B : Nat} {W : World} {g : Nat} {l : List Int} (h : Wr T B W g l) (o : Obj) : Wr T B (W.alloc o) g l := h.below (below_alloc (Below.refl _ _) o)
theorem Wr.drewN {T B : Nat} {W : World} {g : Nat} {l : List Int} (h : Wr T B W g l) (n : Nat) : Wr T B (W.drewN n) g l := h
theorem Wr.lt {T B : Nat} {W : World} {g : Nat} {l : List Int} (h : Wr T B W g l) : B ≤ W.heap.size := by
  obtain ⟨A, c, h1, h2, h3⟩ := h
  have := blk_lt h1
  omega
/-- Behind the append and the store. -/
theorem Wr.mk_set {T B : Nat} {W : World} {g n : Nat} {l : List Int} {A : Option Addr} {c : Nat} {cs : Array Value} (hT : 5 ≠ T) (hb : W.heap[g]? = some (.cells cs T (0, 0))) (hcs : cs.size = 1) (hB : B ≤ g) (hn : n = l.length) (ho : W.ownsRow B 5 1 (.slice A n c) n (nums .u8 l)) :
    Wr T B (W.setCell ⟨g, 0, none⟩ (.slice A n c)) g l := by
  subst hn
  refine ⟨A, c, ?_, hB, own_set_far ho (own_ne_blk ho hb hT)⟩
  rw [blk_set hb 0]
  congr 2
  obtain ⟨l0⟩ := cs
  match l0, hcs with
  | [x], _ => rfl
/-- What a walk wants of a writer that it reads. -/
theorem Wr.open {T B : Nat} {W : World} {g : Nat} {l : List Int} (h : Wr T B W g l) : ∃ A c, W.cell? ⟨g, 0, none⟩ = some (.slice A l.length c) ∧ Aside0 (W.heap[g]? = some (.cells #[.slice A l.length c] T (0, 0))) ∧ Aside0 (W.ownsRow B 5 1 (.slice A l.length c) l.length (nums .u8 l)) ∧ Aside0 (B ≤ g) := by
  obtain ⟨A, c, h1, h2, h3⟩ := h
  exact ⟨A, c, (blk_cell h1 0).trans rfl, ⟨h1⟩, ⟨h3⟩, ⟨h2⟩⟩
/-- A row of the call's own, or a constant's row, that is full (an append to it makes a new one). -/
def OwnB (B : Nat) (W : World) (A : Option Addr) (c : Nat) (l : List Int) : Prop :=
  W.ownsRow B 5 1 (.slice A l.length c) l.length (nums .u8 l) ∨ ∃ b fr cur, A = some ⟨b, 0, none⟩ ∧ c = l.length ∧ B ≤ b ∧ W.heap[b]? = some (.cells cur 5 fr) ∧ cur.toList = nums .u8 l
theorem OwnB.below {B : Nat} {W W1 : World} {A : Option Addr} {c : Nat} {l : List Int} (h : OwnB B W A c l) (hb : Below W.heap.size W W1) : OwnB B W1 A c l := by
  rcases h with h | ⟨b, fr, cur, h1, h2, h3, h4, h5⟩
  · exact .inl (pw_own_below h hb)
  · exact .inr ⟨b, fr, cur, h1, h2, h3, blk_below h4 hb, h5⟩
theorem OwnB.ne_blk {B g t : Nat} {W : World} {A : Option Addr} {c : Nat} {l : List Int} {cs : Array Value} (h : OwnB B W A c l) (hb : W.heap[g]? = some (.cells cs t (0, 0))) (hne : 5 ≠ t) : (Value.slice A l.length c).ownBlock ≠ some g := by
  rcases h with h | ⟨b, fr, cur, rfl, rfl, h3, h4, h5⟩
  · exact own_ne_blk h hb hne
  · intro e
    have : b = g := by simpa [Value.ownBlock] using e
    subst this
    rw [hb] at h4
    injection h4 with h4
    injection h4 with _ ht
    exact hne ht.symm
theorem OwnB.base {B k : Nat} {W : World} {A : Option Addr} {c : Nat} {l : List Int} (h : OwnB B W A c l) (hk : (Value.slice A l.length c).ownBlock = some k) : B ≤ k := by
  rcases h with h | ⟨b, fr, cur, rfl, rfl, h3, h4, h5⟩
  · exact own_base h k hk
  · have : b = k := by simpa [Value.ownBlock] using hk
    omega
/-- From w to w' nothing of what was there has turned but block g and rows of bytes. -/
def WKeep (g : Nat) (w w' : World) : Prop := ∀ i o, w.heap[i]? = some o → i ≠ g → (∀ cur fr, o ≠ .cells cur 5 fr) → w'.heap[i]? = some o
theorem WKeep.refl (g : Nat) (w : World) : WKeep g w w := fun _ _ h _ _ => h
theorem WKeep.trans {g : Nat} {a b c : World} (h : WKeep g a b) (k : WKeep g b c) : WKeep g a c := fun i o hi hg ho => k i o (h i o hi hg ho) hg ho
theorem WKeep.of_below {g : Nat} {w w' : World} (h : Below w.heap.size w w') : WKeep g w w' := fun i o hi _ _ => blk_below hi h
theorem WKeep.set {g i : Nat} (w : World) (v : Value) : WKeep g w (w.setCell ⟨g, i, none⟩ v) := fun j o hj hg _ => (Below.heap_setCell w _ _ j hg).trans hj
theorem OwnB.keep {B g : Nat} {W W1 : World} {A : Option Addr} {c : Nat} {l : List Int} (h : OwnB B W A c l) (hg : W.grownBy W1 (Value.slice A l.length c).ownBlock) : WKeep g W W1 := by
  intro i o hi _ ho
  refine blk_grown hi hg (fun e => ?_)
  rcases h with h | ⟨b, fr, cur, rfl, rfl, h3, h4, h5⟩
  · rcases h.2 with ⟨h1, _⟩ | ⟨g', cap, cur, h1, _, hh, _⟩
    · rw [h1] at e; simp [Value.ownBlock] at e
    · rw [h1] at e
      have : i = g' := by simpa [Value.ownBlock] using e
      subst this
      rw [hi] at hh
      exact ho _ _ (Option.some.inj hh)
  · have : i = b := by simpa [Value.ownBlock] using e
    subst this
    rw [hi] at h4
    exact ho _ _ (Option.some.inj h4)
/-- A writer whose row may be a constant's. -/
def WrF (T B : Nat) (W : World) (g : Nat) (l : List Int) : Prop := ∃ A c, W.heap[g]? = some (.cells #[.slice A l.length c] T (0, 0)) ∧ B ≤ g ∧ OwnB B W A c l
theorem Wr.full {T B : Nat} {W : World} {g : Nat} {l : List Int} (h : Wr T B W g l) : WrF T B W g l := by
  obtain ⟨A, c, h1, h2, h3⟩ := h
  exact ⟨A, c, h1, h2, .inl h3⟩
theorem WrF.lt {T B : Nat} {W : World} {g : Nat} {l : List Int} (h : WrF T B W g l) : B ≤ W.heap.size := by
  obtain ⟨A, c, h1, h2, h3⟩ := h
  have := blk_lt h1
  omega
theorem WrF.open {T B : Nat} {W : World} {g : Nat} {l : List Int} (h : WrF T B W g l) : ∃ A c, W.cell? ⟨g, 0, none⟩ = some (.slice A l.length c) ∧ Aside0 (W.heap[g]? = some (.cells #[.slice A l.length c] T (0, 0))) ∧ Aside0 (OwnB B W A c l) ∧ Aside0 (B ≤ g) := by
  obtain ⟨A, c, h1, h2, h3⟩ := h
  exact ⟨A, c, (blk_cell h1 0).trans rfl, ⟨h1⟩, ⟨h3⟩, ⟨h2⟩⟩
theorem bytesOf_str (xs : List Int) (h : ∀ x ∈ xs, 0 ≤ x ∧ x < 256) : bytesOf (strOfNums xs) = xs := by
  unfold bytesOf
  rw [strOfNums_data, List.map_map]
  conv => rhs; rw [← List.map_id xs]
  apply List.map_congr_left
  intro x hx
  have := h x hx
  simp only [Function.comp, id]
  simp
  omega
theorem le8_bytes (n : Int) : ∀ x ∈ le8 n, 0 ≤ x ∧ x < 256 := by
  simp only [le8, List.mem_cons, List.not_mem_nil, or_false]
  rintro x (rfl | rfl | rfl | rfl | rfl | rfl | rfl | rfl) <;> omega
theorem putL_bytes (n : Nat) : ∀ x ∈ putL n, 0 ≤ x ∧ x < 256 := by
  induction n using Nat.strongRecOn with
  | _ n ih =>
    by_cases h : n < 128
    · rw [putL_lt h]
      simp only [List.mem_singleton]
      rintro x rfl; omega
    · rw [putL_ge h]
      intro x hx
      rcases List.mem_cons.1 hx with rfl | hx
      · omega
      · exact ih (n / 128) (by omega) x hx
theorem putL_pos (n : Nat) : 0 < (putL n).length := by rw [putL]; split <;> simp
theorem putL_len (k : Nat) : ∀ n, n < 128 ^ k → (putL n).length ≤ k + 1 := by
  induction k with
  | zero => intro n h; rw [putL_lt (by simp at h; omega)]; simp
  | succ k ih =>
    intro n h
    by_cases hn : n < 128
    · rw [putL_lt hn]; simp
    · rw [putL_ge hn]
      have : n / 128 < 128 ^ k := by rw [Nat.pow_succ] at h; exact Nat.div_lt_of_lt_mul (by omega)
      simpa using ih _ this
theorem putL_len10 (n : Nat) (h : n < 18446744073709551616) : (putL n).length ≤ 11 := putL_len 10 n (by omega)

set_option maxRecDepth 100000 in
set_option maxHeartbeats 4000000 in
theorem writer_wide (B g : Nat) (l : List Int) (n : Int) (w : World) (hW : Wr 99 B w g l) (hl : l.length ≤ 1099511627776) :
    Calls Try.prog 57 #[.pointer (some ⟨g, 0, none⟩), .int .i64 n] w fun e w' => e = .returned (.tuple #[]) ∧ Wr 99 B w' g (l ++ le8 n) ∧ Below B w w' ∧ WKeep g w w' := by
  have HW := Aside0.mk hW
  have HL := Aside0.mk hl
  clear hW hl
  have HF := Aside0.mk (word_Bytes_8 n)
  have HS := Aside0.mk (show bytesOf (le8B n) = le8 n from bytesOf_str _ (le8_bytes n))
  have HZ := Aside0.mk (show (le8B n).size = 8 from by simp [le8B, strOfNums_size, le8])
  go_enter Try.func57, Try.ntmps57
  go_wp2_with (first
    | (go_at_call 94; refine (word_Bytes.calls 10 n 8 _ _ _ HF.out).mono ?_; rintro e w1 ⟨rfl, hb1⟩; have HB1 := Aside0.mk hb1; clear hb1; obtain ⟨A, c, hcell, HB, HO, HG⟩ := (HW.out.below HB1.out).open)
    | (at_builtin; refine print_append_str (w0 := w) B rfl _ _ 91 9 5 rfl Try.underlying91 Try.underlying9 info5 _ l (le8B n) rfl rfl HO.out (HB1.out.mono HW.out.lt) (HW.out.below HB1.out).lt (by have := HL.out; have := HZ.out; omega) ?_; intro v1 w2 ho1 hb2 hg2; rw [HS.out] at ho1; have HK2 := Aside0.mk ((WKeep.of_below HB1.out).trans (OwnB.keep (g := g) (.inl HO.out) hg2)); obtain ⟨A2, c2, rfl⟩ := own_slice ho1; have HB2 := Aside0.mk (blk_grown HB.out hg2 (own_ne_blk HO.out HB.out (by decide)).symm); have HO2 := Aside0.mk ho1; have HE2 := Aside0.mk hb2; clear ho1 hg2 hb2 hcell; have hcell := (blk_cell HB2.out 0).trans rfl; have hfz := blk_frozen HB2.out 0))
  go_end0
  refine ⟨rfl, Wr.mk_set (by decide) HB2.out rfl HG.out (by simp) ?_, HE2.out.setCell HG.out _, HK2.out.trans (WKeep.set _ _)⟩
  have h := HO2.out
  simp only [List.length_append] at h
  exact h

theorem run_append_strB {P : Program} {W : World} (base : Nat) (t u ty : TypeId) (ht : P.underlying t = some (.slice 5)) (hu : P.underlying u = some .string) (i0 : TypeInfo) (hi : P.info? 5 = some i0) (hz0 : i0.zero = some (.int .u8 0)) (hz1 : i0.size = 1) (hz2 : i0.bytes = 1)
    (A : Option Addr) (c : Nat) (l : List Int) (y : ByteArray) (hy : 0 < y.size) (HO : OwnB base W A c l) (hbase : base ≤ W.heap.size) (hl : l.length + y.size ≤ 140737488355328) :
    ∃ A1 c1 w1, (Builtin.append_ #[t, u] ty #[.slice A l.length c, .string y]).run P W = .ok (.slice A1 (l.length + y.size) c1) w1 ∧ w1.ownsRow base 5 1 (.slice A1 (l.length + y.size) c1) (l.length + y.size) (nums .u8 (l ++ bytesOf y)) ∧ W.grownBy w1 (Value.slice A l.length c).ownBlock := by
  have hc : nums .u8 (l ++ bytesOf y) = nums .u8 l ++ Lib.strCells y := by
    rw [nums_append]
    congr 1
    simp [nums, bytesOf, Lib.strCells]
  rcases HO with HO | ⟨b, fr, cur, rfl, rfl, h3, h4, h5⟩
  · obtain ⟨v', w', hr, hown, hg, _⟩ := Lib.run_append_own_string (P := P) (w := W) base t u ty 5 i0 ht hu hi hz0 hz1 hz2 (.slice A l.length c) l.length (nums .u8 l) HO y (by simp only [maxLen]; omega) hl hbase
    obtain ⟨A1, c1, rfl⟩ := own_slice hown
    exact ⟨A1, c1, w', hr, by rw [hc]; exact hown, hg⟩
  · have hnl : (nums .u8 l).length = l.length := nums_length _ _
    have hcell : ∀ j v, (nums .u8 l)[j]? = some v → W.cell? ((⟨b, 0, none⟩ : Addr).add j) = some v := by
      intro j v hv
      rw [add_plain]
      have := cell_of_row W b j cur 5 fr h4
      rw [this, ← Array.getElem?_toList, h5, hv]
    have hfit : Builtin.nextslicecap (l.length + y.size) l.length * i0.bytes ≤ 281474976710656 := by
      rw [hz2, Nat.mul_one]
      have := nextslicecap_le (show l.length < l.length + y.size by omega)
      omega
    have hr := Lib.run_append_grow_string (P := P) (w := W) t u ty 5 i0 (.int .u8 0) ht hu hi hz0 ⟨b, 0, none⟩ l.length l.length (nums .u8 l) (by rw [hz1, hnl, Nat.mul_one]) hcell y (by omega) (by omega) hfit
    refine ⟨_, _, _, hr, ⟨?_, .inr ⟨W.heap.size, _, _, rfl, hbase, heap_alloc_new W.drew _, grownCap_ge W _ _ _, grownCap_le_maxLen W _ _ _ (by simp only [maxLen]; omega), ?_, ?_⟩⟩, ⟨rfl, rfl, rfl, by simp, fun k hk _ => heap_alloc_old W.drew _ hk⟩⟩
    · simp [nums, bytesOf_length]
    · have hge := grownCap_ge W (l.length + y.size) l.length 5
      simp [Lib.strCells_length, hnl, Builtin.zeroCells, Value.cells]
      omega
    · rw [hc]
      simp [hnl, Lib.strCells_length, List.take_append]
      exact List.take_of_length_le (by rw [hnl]; omega)
theorem step_append_str {P : Program} {ops : Array Oper} {o : Oper} {a : Act} {K : Act → World → Prop} {Q : Exit → Act → World → Prop} {E : Prop} {w0 W : World} (base : Nat) (hgd : o.guard = none) (s x : Operand) (t u : TypeId)
    (ho : o.op = .call { callee := .builtin .append, args := #[s, x], argTypes := #[t, u] })
    (ht : P.underlying t = some (.slice 5)) (hu : P.underlying u = some .string) (hinfo : (P.info? 5).map (fun i => (i.zero, i.size, i.bytes)) = some (some (.int .u8 0), 1, 1))
    (A0 : Option Addr) (c0 : Nat) (xs : List Int) (y : ByteArray) (hs : a.eval s = .slice A0 xs.length c0) (hx : a.eval x = .string y)
    (HO : OwnB base W A0 c0 xs) (hy : 0 < y.size) (HB : Below base w0 W) (hbase : base ≤ W.heap.size) (hl : xs.length + y.size ≤ 140737488355328)
    (h : ∀ A c w1, w1.ownsRow base 5 1 (.slice A (xs.length + y.size) c) (xs.length + y.size) (nums .u8 (xs ++ bytesOf y)) → Below base w0 w1 → W.grownBy w1 (Value.slice A0 xs.length c0).ownBlock → K (a.put o.dst (.slice A (xs.length + y.size) c)) w1) :
    if Region.wanted o (yielded ops a.tmps) = true then Oper.wp P o a W K Q else E := by
  have hw : Region.wanted o (yielded ops a.tmps) = true := by simp [Region.wanted, hgd]
  rw [if_pos hw]
  obtain ⟨i0, hi, hzz⟩ := Option.map_eq_some_iff.1 hinfo
  simp only [Prod.mk.injEq] at hzz
  obtain ⟨hz0, hz1, hz2⟩ := hzz
  obtain ⟨A, c, w', hr, hown, hg⟩ := run_append_strB (P := P) (W := W) base t u o.type ht hu i0 hi hz0 hz1 hz2 A0 c0 xs y hy HO hbase hl
  unfold Oper.wp execOp
  simp only [ho, resolve, invoke, builtin, Sem.run_bind, Sem.run_pure, Result.andThen_ok, List.map_toArray, List.map_cons, List.map_nil, hs, hx, hr]
  exact h A c w' hown (HB.grown hg hbase (fun k hk => HO.base hk)) hg

/-- A writer, as it stands in W1, that lay at w0 with this row. -/
structure Held (B g : Nat) (l : List Int) (A : Option Addr) (c : Nat) (w0 W1 : World) : Prop where
  blk : W1.heap[g]? = some (.cells #[.slice A l.length c] 99 (0, 0))
  own : OwnB B W1 A c l
  bel : Below B w0 W1
  keep : WKeep g w0 W1
  le : B ≤ W1.heap.size
theorem Held.drew {B g : Nat} {l : List Int} {A : Option Addr} {c : Nat} {w0 W1 : World} (h : Held B g l A c w0 W1) : Held B g l A c w0 W1.drew := ⟨h.blk, h.own, below_drew h.bel, h.keep, h.le⟩
theorem Held.below {B g : Nat} {l : List Int} {A : Option Addr} {c : Nat} {w0 W1 W2 : World} (h : Held B g l A c w0 W1) (hb : Below W1.heap.size W1 W2) : Held B g l A c w0 W2 :=
  ⟨blk_below h.blk hb, h.own.below hb, h.bel.trans (hb.mono h.le), h.keep.trans (WKeep.of_below hb), Nat.le_trans h.le hb.size⟩
theorem Held.cell {B g : Nat} {l : List Int} {A : Option Addr} {c : Nat} {w0 W1 : World} (h : Held B g l A c w0 W1) : W1.cell? ⟨g, 0, none⟩ = some (.slice A l.length c) := (blk_cell h.blk 0).trans rfl

def reg56.T0 : Bool × List (List Nat × List Nat) := (true, [([], []), ([], []), ([1], [1]), ([2], [2]), ([3], [3]), ([], []), ([5], [5]), ([6], [6]), ([4, 7, 7], [4, 7]), ([0, 0, 1, 2, 3, 4, 5, 6, 7, 8], [0]), ([9, 0, 1, 2, 3, 4, 5, 6, 7, 8], [9]), ([10, 8, 8, 0, 1, 2, 3, 4, 5, 6, 7, 8], [8, 10])])
def reg56.B0 : List Nat := [0, 0, 2, 6, 14, 0, 32, 96, 254, 511, 1023, 2047]
theorem reg56.tab0 : rtab .any (opsOf Try.f56 0) = reg56.T0 := by kernel_rfl
theorem reg56.bits0 : waitsOk reg56.T0.2 reg56.B0 = true := by kernel_rfl
set_option maxRecDepth 100000 in
set_option maxHeartbeats 4000000 in
theorem writer_number (B g : Nat) (l : List Int) (n : Int) (w : World) (hW : WrF 99 B w g l) (hl : l.length ≤ 1099511627776) (h0 : 0 ≤ n) (h1 : n ≤ 9223372036854775807) :
    Calls Try.prog 56 #[.pointer (some ⟨g, 0, none⟩), .int .i64 n] w fun e w' => e = .returned (.tuple #[]) ∧ Wr 99 B w' g (l ++ putL n.toNat) ∧ Below B w w' ∧ WKeep g w w' := by
  obtain ⟨A, c, hcell, HB, HO, HG⟩ := hW.open
  have HW := Aside0.mk hW
  have HL := Aside0.mk hl
  have e : IntKind.u64.wrap n = n := by rw [wrap_u64]; omega
  have HF : Aside0 (word_Put.f 10 (IntKind.u64.wrap n) = some (putB n.toNat)) := Aside0.mk (by rw [e]; exact word_Put_f h0 (by omega))
  have HS := Aside0.mk (show bytesOf (putB n.toNat) = putL n.toNat from bytesOf_str _ (putL_bytes _))
  have HZ := Aside0.mk (show (putB n.toNat).size ≤ 11 from by rw [putB, strOfNums_size]; exact putL_len10 _ (by omega))
  have HZ0 := Aside0.mk (show 0 < (putB n.toNat).size from by rw [putB, strOfNums_size]; exact putL_pos _)
  clear hW hl e h0 h1
  go_enter Try.func56, Try.ntmps56
  go_wp2_with fail
  have HD : Held B g l A c w w := ⟨HB.out, HO.out, Below.refl _ _, WKeep.refl _ _, HW.out.lt⟩
  refine start_ (n := 12) (S := fun w' => w'.cell? ⟨g, 0, none⟩ = some (.slice A l.length c) ∧ Held B g l A c w w') (ds := [8, 11]) #[false, false, false, false, false, false, false, false, false, false, false, false] (by kernel_rfl) rfl rfl ?_ (fun hHeld => ?_)
  case refine_1 => exact ⟨HD.drew.cell, HD.drew⟩
  refine with_tabW reg56.tab0 reg56.bits0 (fun HT_ HW_ => ?_)
  refine pure_ (i := 0) (N := some 4) (v := ?_) (a' := ?_) #[true, false, false, false, false, false, false, false, false, false, false, false] rfl rfl (any_of HT_.out (by kernel_rfl)) (fun _ _ _ h => h) (Or.inl ⟨by rfl, ?_⟩) ?_ ?_
  rotate_left
  · intro w'
    go_simp
    with_reducible rfl
  rotate_left
  · simp only [Act.put, List.setIfInBounds_toArray, List.set_cons_zero, List.set_cons_succ, i64_w, i32_w]
    rfl
  refine pure_ (i := 1) (N := some 5) (v := ?_) (a' := ?_) #[true, true, false, false, false, false, false, false, false, false, false, false] rfl rfl (any_of HT_.out (by kernel_rfl)) (fun _ _ _ h => h) (Or.inl ⟨by rfl, ?_⟩) ?_ ?_
  rotate_left
  · intro w'
    go_simp
    with_reducible rfl
  rotate_left
  · simp only [Act.put, List.setIfInBounds_toArray, List.set_cons_zero, List.set_cons_succ, i64_w, i32_w]
    rfl
  refine pure_ (i := 2) (N := some 6) (v := ?_) (a' := ?_) #[true, true, true, false, false, false, false, false, false, false, false, false] rfl rfl (any_of HT_.out (by kernel_rfl)) (fun _ _ _ h => h) (Or.inl ⟨by rfl, ?_⟩) ?_ ?_
  rotate_left
  · intro w'
    go_simp
    with_reducible rfl
  rotate_left
  · simp only [Act.put, List.setIfInBounds_toArray, List.set_cons_zero, List.set_cons_succ, i64_w, i32_w]
    rfl
  refine pure_ (i := 3) (N := some 7) (v := ?_) (a' := ?_) #[true, true, true, true, false, false, false, false, false, false, false, false] rfl rfl (any_of HT_.out (by kernel_rfl)) (fun _ _ _ h => h) (Or.inl ⟨by rfl, ?_⟩) ?_ ?_
  rotate_left
  · intro w'
    go_simp
    with_reducible rfl
  rotate_left
  · simp only [Act.put, List.setIfInBounds_toArray, List.set_cons_zero, List.set_cons_succ, i64_w, i32_w]
    rfl
  refine take_ (i := 4) (N := some 8) (v := ?_) (a' := ?_) #[true, true, true, true, true, false, false, false, false, false, false, false] rfl rfl (take_ofW HT_.out HW_.out (by kernel_rfl)) (fun _ _ _ h => h) (Or.inl ⟨by rfl, ?_⟩) hHeld ?_ ?_
  rotate_left
  · rintro w' ⟨s0, s1⟩
    go_simp
    with_reducible rfl
  rotate_left
  · simp only [Act.put, List.setIfInBounds_toArray, List.set_cons_zero, List.set_cons_succ, i64_w, i32_w]
    rfl
  refine pure_ (i := 5) (N := some 9) (v := ?_) (a' := ?_) #[true, true, true, true, true, true, false, false, false, false, false, false] rfl rfl (any_of HT_.out (by kernel_rfl)) (fun _ _ _ h => h) (Or.inl ⟨by rfl, ?_⟩) ?_ ?_
  rotate_left
  · intro w'
    go_simp
    with_reducible rfl
  rotate_left
  · simp only [Act.put, List.setIfInBounds_toArray, List.set_cons_zero, List.set_cons_succ, i64_w, i32_w]
    rfl
  refine pure_ (i := 6) (N := some 10) (v := ?_) (a' := ?_) #[true, true, true, true, true, true, true, false, false, false, false, false] rfl rfl (any_of HT_.out (by kernel_rfl)) (fun _ _ _ h => h) (Or.inl ⟨by rfl, ?_⟩) ?_ ?_
  rotate_left
  · intro w'
    go_simp
    with_reducible rfl
  rotate_left
  · simp only [Act.put, List.setIfInBounds_toArray, List.set_cons_zero, List.set_cons_succ, i64_w, i32_w]
    rfl
  refine one_ (i := 7) (N := some 11) #[true, true, true, true, true, true, true, true, false, false, false, false] rfl rfl (one_of HT_.out (by kernel_rfl)) (by decide) (fun K hK => ?_)
  refine goes_ Try.func95 (by kernel_rfl) rfl #[.int .u64 (IntKind.u64.wrap n)] (by rfl) rfl rfl (by simp only [List.map_toArray, List.map_cons, List.map_nil]; rfl) ?_
  with_reducible refine (word_Put.calls 10 _ _ _ HF.out).mono ?_
  rintro e w1 ⟨rfl, hb1⟩
  refine ⟨_, rfl, ?_⟩
  have HD1 := hHeld.2.below hb1
  refine hK.out _ _ ⟨HD1.cell, HD1⟩ (fun hHeld => ?_)
  clear hK K
  refine norm_ (a' := ?_) ?_ ?_
  rotate_left
  · show Act.put _ (some 11) _ = _
    simp only [Act.put, List.setIfInBounds_toArray, List.set_cons_zero, List.set_cons_succ, i64_w, i32_w]
    try rfl
  refine last_ (i := 8) (N := some 12) #[true, true, true, true, true, true, true, true, true, false, false, false] rfl rfl (one_of HT_.out (by kernel_rfl)) (by decide) (fun K hK => ?_)
  refine step_append_str (w0 := w) B rfl _ _ 91 9 rfl Try.underlying91 Try.underlying9 info5 A c l (putB n.toNat) rfl rfl hHeld.2.own HZ0.out hHeld.2.bel hHeld.2.le (by have := HL.out; have := HZ.out; omega) ?_
  intro A2 c2 w2 ho1 hb2 hg2
  refine hK.out _ _ ?_
  have HB2 := Aside0.mk (blk_grown hHeld.2.blk hg2 (hHeld.2.own.ne_blk hHeld.2.blk (by decide)).symm)
  have HK2 := Aside0.mk (hHeld.2.keep.trans (hHeld.2.own.keep (g := g) hg2))
  rw [HS.out] at ho1
  have HO2 := Aside0.mk ho1
  have HE2 := Aside0.mk hb2
  clear ho1 hg2 hb2 hcell hHeld
  clear hK K
  refine norm_ (a' := ?_) ?_ ?_
  rotate_left
  · show Act.put _ (some 12) _ = _
    simp only [Act.put, List.setIfInBounds_toArray, List.set_cons_zero, List.set_cons_succ, i64_w, i32_w]
    try rfl
  refine pure_ (i := 9) (N := some 13) (v := ?_) (a' := ?_) #[true, true, true, true, true, true, true, true, true, true, false, false] rfl rfl (any_of HT_.out (by kernel_rfl)) (fun _ _ _ h => h) (Or.inl ⟨by rfl, ?_⟩) ?_ ?_
  rotate_left
  · intro w'
    go_simp
    with_reducible rfl
  rotate_left
  · simp only [Act.put, List.setIfInBounds_toArray, List.set_cons_zero, List.set_cons_succ, i64_w, i32_w]
    rfl
  refine pure_ (i := 10) (N := some 14) (v := ?_) (a' := ?_) #[true, true, true, true, true, true, true, true, true, true, true, false] rfl rfl (any_of HT_.out (by kernel_rfl)) (fun _ _ _ h => h) (Or.inl ⟨by rfl, ?_⟩) ?_ ?_
  rotate_left
  · intro w'
    go_simp
    with_reducible rfl
  rotate_left
  · simp only [Act.put, List.setIfInBounds_toArray, List.set_cons_zero, List.set_cons_succ, i64_w, i32_w]
    rfl
  refine last_ (i := 11) (N := none) #[true, true, true, true, true, true, true, true, true, true, true, true] rfl rfl (one_of HT_.out (by kernel_rfl)) (by decide) (fun K hK => ?_)
  rw [if_pos (by rfl)]
  have hcell := (blk_cell HB2.out 0).trans rfl
  have hfz := blk_frozen HB2.out 0
  unfold Oper.wp
  go_simp
  refine hK.out _ _ ?_
  clear hK K
  refine done_ (done_of HT_.out (by kernel_rfl)) ?_
  go_end0
  refine ⟨rfl, Wr.mk_set (by decide) HB2.out rfl HG.out ?_ HO2.out, HE2.out.setCell HG.out _, HK2.out.trans (WKeep.set _ _)⟩
  rw [List.length_append, ← HS.out, bytesOf_length]

set_option maxRecDepth 100000 in
set_option maxHeartbeats 4000000 in
theorem writer_text (B g : Nat) (l : List Int) (y : ByteArray) (w : World) (hW : WrF 99 B w g l) (hl : l.length + y.size ≤ 549755813888) :
    Calls Try.prog 55 #[.pointer (some ⟨g, 0, none⟩), .string y] w fun e w' => e = .returned (.tuple #[]) ∧ Wr 99 B w' g (l ++ putL y.size ++ bytesOf y) ∧ Below B w w' ∧ WKeep g w w' := by
  have HW := Aside0.mk hW
  have HL := Aside0.mk hl
  have HZ := Aside0.mk (putL_len10 y.size (by omega))
  clear hW hl
  go_enter Try.func55, Try.ntmps55
  go_wp2_with (first
    | (go_at_call 56; refine (writer_number B g l (y.size : Int) _ HW.out (by have := HL.out; omega) (by omega) (by have := HL.out; omega)).mono ?_; rintro e w1 ⟨rfl, hw1, hb1, hk1⟩; have HK1 := Aside0.mk hk1; clear hk1; rw [Int.toNat_natCast] at hw1; obtain ⟨l2, hl2⟩ : ∃ l2, l2 = l ++ putL y.size := ⟨_, rfl⟩; rw [← hl2] at hw1; have HL2 := Aside0.mk hl2; clear hl2; have HB1 := Aside0.mk hb1; have HW1 := Aside0.mk hw1; clear hb1 hw1; obtain ⟨A, c, hcell, HB, HO, HG⟩ := HW1.out.open)
    | (at_builtin; refine print_append_str (w0 := w) B rfl _ _ 91 9 5 rfl Try.underlying91 Try.underlying9 info5 _ l2 y rfl rfl HO.out HB1.out HW1.out.lt (by have := HL.out; have := HZ.out; have := congrArg List.length HL2.out; simp at this; omega) ?_; intro v1 w2 ho1 hb2 hg2; have HK2 := Aside0.mk (HK1.out.trans (OwnB.keep (g := g) (.inl HO.out) hg2)); obtain ⟨A2, c2, rfl⟩ := own_slice ho1; have HB2 := Aside0.mk (blk_grown HB.out hg2 (own_ne_blk HO.out HB.out (by decide)).symm); have HO2 := Aside0.mk ho1; have HE2 := Aside0.mk hb2; clear ho1 hg2 hb2 hcell; have hcell := (blk_cell HB2.out 0).trans rfl; have hfz := blk_frozen HB2.out 0))
  go_end0
  rw [← HL2.out]
  refine ⟨rfl, Wr.mk_set (by decide) HB2.out rfl HG.out (by simp) ?_, HE2.out.setCell HG.out _, HK2.out.trans (WKeep.set _ _)⟩
  have h := HO2.out
  simp only [List.length_append] at h
  exact h

set_option maxRecDepth 100000 in
set_option maxHeartbeats 4000000 in
theorem writer_one (B g : Nat) (l : List Int) (n : Int) (w : World) (hW : Wr 99 B w g l) (hl : l.length ≤ 549755813888) :
    Calls Try.prog 58 #[.pointer (some ⟨g, 0, none⟩), .int .i64 n] w fun e w' => e = .returned (.tuple #[]) ∧ Wr 99 B w' g (l ++ [n % 256]) ∧ Below B w w' ∧ WKeep g w w' := by
  obtain ⟨A, c, hcell, HB, HO, HG⟩ := hW.open
  have HW := Aside0.mk hW
  have HL := Aside0.mk hl
  clear hW hl
  go_enter Try.func58, Try.ntmps58
  go_wp2_with (first
    | (at_builtin; refine print_append_num (w0 := w) (W := w) B rfl _ _ 91 5 .u8 1 rfl Try.underlying91 info5 (by decide) (.slice A l.length c) l (n % 256) rfl rfl HO.out (Below.refl _ _) HW.out.lt (by have := HL.out; omega) ?_; intro v1 w2 ho1 hb2 hg2 hat; have HK2 := Aside0.mk (OwnB.keep (g := g) (.inl HO.out) hg2); obtain ⟨A2, c2, rfl⟩ := own_slice ho1; have HB2 := Aside0.mk (blk_grown HB.out hg2 (own_ne_blk HO.out HB.out (by decide)).symm); have HO2 := Aside0.mk ho1; have HE2 := Aside0.mk hb2; clear ho1 hg2 hb2 hat hcell; have hcell := (blk_cell HB2.out 0).trans rfl; have hfz := blk_frozen HB2.out 0))
  go_end0
  refine ⟨rfl, Wr.mk_set (by decide) HB2.out rfl HG.out (by simp) ?_, HE2.out.setCell HG.out _, HK2.out.trans (WKeep.set _ _)⟩
  have h := HO2.out
  simp only [List.length_append, List.length_singleton] at h
  exact h
end Go.Proofs.Ytochgjeanajoiaa.HA
