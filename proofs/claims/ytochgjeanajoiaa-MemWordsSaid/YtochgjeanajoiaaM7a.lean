/- Written by hand: layer 02 in plain words: rising lists, footprints, regions, load and store; the state of a Memory. -/
import Derived.Test.YtochgjeanajoiaaHAK
import Derived.Maps.OwnOps
import Derived.Maps.OwnSet
import Derived.Lib.SlKeysI
namespace Go.Proofs.Ytochgjeanajoiaa.HA.Mem
open Go.RowKit Go.WideMaps Go.Maps Go.Proofs.YtochgjeanajoiaaW.PrintWords Go.Proofs.YtochgjeanajoiaaW.PrintLast Go.Proofs.YtochgjeanajoiaaW.PrintMore
set_option linter.unusedVariables false
set_option linter.unusedSimpArgs false

/-! ### rising lists -/
def ins (n : Int) : List Int → List Int
  | [] => [n]
  | x :: l => if n < x then n :: x :: l else if n = x then x :: l else x :: ins n l
def Rising (l : List Int) : Prop := l.Pairwise (· < ·)
theorem mem_ins (n m : Int) : ∀ l : List Int, m ∈ ins n l ↔ m = n ∨ m ∈ l
  | [] => by simp [ins]
  | x :: l => by
    unfold ins
    split
    · simp
    · split
      · rename_i h; subst h; simp
      · simp only [List.mem_cons, mem_ins n m l]
        constructor
        · rintro (h | h | h)
          · exact .inr (.inl h)
          · exact .inl h
          · exact .inr (.inr h)
        · rintro (h | h | h)
          · exact .inr (.inl h)
          · exact .inl h
          · exact .inr (.inr h)
theorem ins_rising (n : Int) : ∀ l : List Int, Rising l → Rising (ins n l)
  | [], _ => by simp [ins, Rising]
  | x :: l, h => by
    unfold Rising at h
    rw [List.pairwise_cons] at h
    unfold ins
    split
    · rename_i hn
      refine List.pairwise_cons.2 ⟨fun y hy => ?_, List.pairwise_cons.2 h⟩
      rcases List.mem_cons.1 hy with rfl | hy
      · exact hn
      · have := h.1 y hy; omega
    · split
      · exact List.pairwise_cons.2 h
      · refine List.pairwise_cons.2 ⟨fun y hy => ?_, ins_rising n l h.2⟩
        rcases (mem_ins n y l).1 hy with rfl | hy
        · omega
        · exact h.1 y hy
theorem rising_ext : ∀ {a b : List Int}, Rising a → Rising b → (∀ x, x ∈ a ↔ x ∈ b) → a = b
  | [], [], _, _, _ => rfl
  | [], y :: b, _, _, h => by have := (h y).2 (by simp); simp at this
  | x :: a, [], _, _, h => by have := (h x).1 (by simp); simp at this
  | x :: a, y :: b, ha, hb, h => by
    unfold Rising at ha hb
    rw [List.pairwise_cons] at ha hb
    have hxy : x = y := by
      have h1 := (h x).1 (by simp)
      have h2 := (h y).2 (by simp)
      rcases List.mem_cons.1 h1 with e | h1
      · exact e
      · rcases List.mem_cons.1 h2 with e | h2
        · exact e.symm
        · have := ha.1 y h2; have := hb.1 x h1; omega
    subst hxy
    congr 1
    refine rising_ext ha.2 hb.2 (fun z => ?_)
    constructor
    · intro hz
      rcases List.mem_cons.1 ((h z).1 (List.mem_cons_of_mem _ hz)) with rfl | hz'
      · have := ha.1 z hz; omega
      · exact hz'
    · intro hz
      rcases List.mem_cons.1 ((h z).2 (List.mem_cons_of_mem _ hz)) with rfl | hz'
      · have := hb.1 z hz; omega
      · exact hz'
def insAll (a l : List Int) : List Int := l.foldl (fun acc x => ins x acc) a
theorem mem_insAll (m : Int) : ∀ (l a : List Int), m ∈ insAll a l ↔ m ∈ a ∨ m ∈ l
  | [], a => by simp [insAll]
  | x :: l, a => by
    have := mem_insAll m l (ins x a)
    unfold insAll at *
    rw [List.foldl_cons, this, mem_ins, List.mem_cons]
    constructor
    · rintro ((h | h) | h)
      · exact .inr (.inl h)
      · exact .inl h
      · exact .inr (.inr h)
    · rintro (h | h | h)
      · exact .inl (.inr h)
      · exact .inl (.inl h)
      · exact .inr h
theorem insAll_rising : ∀ (l a : List Int), Rising a → Rising (insAll a l)
  | [], _, h => h
  | x :: l, a, h => by unfold insAll; rw [List.foldl_cons]; exact insAll_rising l (ins x a) (ins_rising x a h)
/-! ### footprints -/
abbrev Ft := List Int × List Int
def joinG (a : Ft) (l : List Ft) : Ft := l.foldl (fun acc f => (insAll acc.1 f.1, insAll acc.2 f.2)) a
def joinF (l : List Ft) : Ft := joinG ([], []) l
theorem join_rising : ∀ (l : List Ft) (a : Ft), Rising a.1 → Rising a.2 → Rising (joinG a l).1 ∧ Rising (joinG a l).2
  | [], _, h, k => ⟨h, k⟩
  | f :: l, a, h, k => join_rising l _ (insAll_rising f.1 a.1 h) (insAll_rising f.2 a.2 k)
theorem join_mem : ∀ (l : List Ft) (a : Ft) (m : Int), (m ∈ (joinG a l).1 ↔ m ∈ a.1 ∨ ∃ f ∈ l, m ∈ f.1) ∧ (m ∈ (joinG a l).2 ↔ m ∈ a.2 ∨ ∃ f ∈ l, m ∈ f.2)
  | [], a, m => by simp [joinG]
  | f :: l, a, m => by
    have h := join_mem l (insAll a.1 f.1, insAll a.2 f.2) m
    have e : joinG a (f :: l) = joinG (insAll a.1 f.1, insAll a.2 f.2) l := rfl
    rw [e, h.1, h.2, mem_insAll, mem_insAll]
    simp [or_assoc]
def hits (ws : List Int) (f : Ft) : Bool := ws.any (fun w => f.1.contains w || f.2.contains w)
def clashF (a b : Ft) : Bool := hits a.2 b || hits b.2 a
theorem hits_iff (ws : List Int) (f : Ft) : hits ws f = true ↔ ∃ w ∈ ws, w ∈ f.1 ∨ w ∈ f.2 := by
  simp [hits]
theorem clash_iff (a b : Ft) : clashF a b = true ↔ (∃ w ∈ a.2, w ∈ b.1 ∨ w ∈ b.2) ∨ (∃ w ∈ b.2, w ∈ a.1 ∨ w ∈ a.2) := by
  simp [clashF, hits_iff]
def meetF (a b : List Int) : Bool := a.any (fun x => b.contains x)
theorem clash_ref (a b : Ft) : (meetF a.2 b.1 || (meetF a.2 b.2 || meetF a.1 b.2)) = clashF a b := by
  rw [Bool.eq_iff_iff, clash_iff]
  simp only [meetF, Bool.or_eq_true, List.any_eq_true, List.contains_eq_mem, decide_eq_true_eq]
  constructor
  · rintro (⟨x, h1, h2⟩ | ⟨x, h1, h2⟩ | ⟨x, h1, h2⟩)
    · exact .inl ⟨x, h1, .inl h2⟩
    · exact .inl ⟨x, h1, .inr h2⟩
    · exact .inr ⟨x, h2, .inl h1⟩
  · rintro (⟨x, h1, h2 | h2⟩ | ⟨x, h1, h2 | h2⟩)
    · exact .inl ⟨x, h1, h2⟩
    · exact .inr (.inl ⟨x, h1, h2⟩)
    · exact .inr (.inr ⟨x, h2, h1⟩)
    · exact .inr (.inl ⟨x, h2, h1⟩)
theorem clash_comm (a b : Ft) : clashF a b = clashF b a := by
  rw [Bool.eq_iff_iff, clash_iff, clash_iff]; exact or_comm
theorem clash_reads (a b : List Int) : clashF (a, []) (b, []) = false := by
  rw [Bool.eq_false_iff]
  intro h
  rcases (clash_iff _ _).1 h with ⟨w, h, _⟩ | ⟨w, h, _⟩ <;> simp at h
theorem join2_mem (a b : Ft) (m : Int) : (m ∈ (joinF [a, b]).1 ↔ m ∈ a.1 ∨ m ∈ b.1) ∧ (m ∈ (joinF [a, b]).2 ↔ m ∈ a.2 ∨ m ∈ b.2) := by
  have := join_mem [a, b] ([], []) m
  simpa [joinF] using this
theorem clash_join (a b c : Ft) : clashF (joinF [a, b]) c = (clashF a c || clashF b c) := by
  rw [Bool.eq_iff_iff, Bool.or_eq_true, clash_iff, clash_iff, clash_iff]
  constructor
  · rintro (⟨w, h1, h2⟩ | ⟨w, h1, h2 | h2⟩)
    · rcases (join2_mem a b w).2.1 h1 with h | h
      · exact .inl (.inl ⟨w, h, h2⟩)
      · exact .inr (.inl ⟨w, h, h2⟩)
    · rcases (join2_mem a b w).1.1 h2 with h | h
      · exact .inl (.inr ⟨w, h1, .inl h⟩)
      · exact .inr (.inr ⟨w, h1, .inl h⟩)
    · rcases (join2_mem a b w).2.1 h2 with h | h
      · exact .inl (.inr ⟨w, h1, .inr h⟩)
      · exact .inr (.inr ⟨w, h1, .inr h⟩)
  · rintro ((⟨w, h1, h2⟩ | ⟨w, h1, h2 | h2⟩) | (⟨w, h1, h2⟩ | ⟨w, h1, h2 | h2⟩))
    · exact .inl ⟨w, (join2_mem a b w).2.2 (.inl h1), h2⟩
    · exact .inr ⟨w, h1, .inl ((join2_mem a b w).1.2 (.inl h2))⟩
    · exact .inr ⟨w, h1, .inr ((join2_mem a b w).2.2 (.inl h2))⟩
    · exact .inl ⟨w, (join2_mem a b w).2.2 (.inr h1), h2⟩
    · exact .inr ⟨w, h1, .inl ((join2_mem a b w).1.2 (.inr h2))⟩
    · exact .inr ⟨w, h1, .inr ((join2_mem a b w).2.2 (.inr h2))⟩
theorem join_comm (a b : Ft) : joinF [a, b] = joinF [b, a] := by
  have h1 := join_rising [a, b] ([], []) List.Pairwise.nil List.Pairwise.nil
  have h2 := join_rising [b, a] ([], []) List.Pairwise.nil List.Pairwise.nil
  refine Prod.ext (rising_ext h1.1 h2.1 fun x => ?_) (rising_ext h1.2 h2.2 fun x => ?_)
  · exact (join2_mem a b x).1.trans (or_comm.trans (join2_mem b a x).1.symm)
  · exact (join2_mem a b x).2.trans (or_comm.trans (join2_mem b a x).2.symm)
/-! ### memory -/
structure Rg where
  base : Int
  words : List Int
  wr : Bool
def endR (r : Rg) : Int := r.base + 8 * r.words.length
def apartR (r o : Rg) : Bool := !(decide (r.base < endR o) && decide (o.base < endR r))
def regOk (r : Rg) : Bool := decide (0 ≤ r.base ∧ r.base ≤ 1099511627776 ∧ r.base % 8 = 0 ∧ r.words.length ≤ 65536)
def regsFrom (prev : List Rg) : List Rg → Bool
  | [] => true
  | r :: l => regOk r && prev.all (apartR r) && regsFrom (prev ++ [r]) l
def memOk (l : List Rg) : Bool := decide (l.length ≤ 16) && regsFrom [] l
structure Mm where
  rs : List Rg
  rd : List Int
  wt : List Int
def findW (a : Int) : List Rg → Option (Nat × Nat)
  | [] => none
  | r :: l => if r.base ≤ a ∧ a < endR r then some (0, ((a - r.base) / 8).toNat) else (findW a l).map (fun p => (p.1 + 1, p.2))
def wordAt (rs : List Rg) (a : Int) : Option (Nat × Nat) := if a < 0 ∨ a % 8 ≠ 0 then none else findW a rs
def valAt (rs : List Rg) (p : Nat × Nat) : Int := match rs[p.1]? with | some r => r.words.getD p.2 0 | none => 0
def mayAt (rs : List Rg) (p : Nat × Nat) : Bool := match rs[p.1]? with | some r => r.wr | none => false
def setAt (rs : List Rg) (p : Nat × Nat) (n : Int) : List Rg := rs.modify p.1 (fun r => ⟨r.base, r.words.set p.2 n, r.wr⟩)
def load (m : Mm) (a : Int) : Mm × Int × Int := match wordAt m.rs a with | none => (m, 0, 11) | some p => (⟨m.rs, ins a m.rd, m.wt⟩, valAt m.rs p, 0)
def store (m : Mm) (a n : Int) : Mm × Int := match wordAt m.rs a with | none => (m, 11) | some p => if mayAt m.rs p then (⟨setAt m.rs p n, m.rd, ins a m.wt⟩, 0) else (m, 11)
theorem findW_some {a : Int} : ∀ {l : List Rg} {p : Nat × Nat}, findW a l = some p → ∃ r, l[p.1]? = some r ∧ r.base ≤ a ∧ a < endR r ∧ p.2 = ((a - r.base) / 8).toNat
  | [], p, h => by simp [findW] at h
  | r :: l, p, h => by
    unfold findW at h
    split at h
    · rename_i hc
      obtain rfl := Option.some.inj h
      exact ⟨r, rfl, hc.1, hc.2, rfl⟩
    · obtain ⟨q, hq, rfl⟩ := Option.map_eq_some_iff.1 h
      obtain ⟨r', h1, h2⟩ := findW_some hq
      exact ⟨r', by simpa using h1, h2⟩
theorem findW_len {a : Int} {l : List Rg} {p : Nat × Nat} (h : findW a l = some p) (r : Rg) (hr : l[p.1]? = some r) : p.2 < r.words.length := by
  obtain ⟨r', h1, h2, h3, h4⟩ := findW_some h
  rw [hr] at h1
  obtain rfl := Option.some.inj h1
  unfold endR at h3
  omega
theorem findW_set (a : Int) (n : Int) : ∀ (l : List Rg) (p : Nat × Nat), findW a (setAt l p n) = findW a l
  | [], p => by simp [setAt, findW]
  | r :: l, (0, k) => by
    simp [setAt, findW, endR]
    rfl
  | r :: l, (i + 1, k) => by
    have := findW_set a n l (i, k)
    simp only [setAt, List.modify_succ_cons] at *
    unfold findW
    rw [this]
theorem wordAt_set (a n : Int) (l : List Rg) (p : Nat × Nat) : wordAt (setAt l p n) a = wordAt l a := by unfold wordAt; rw [findW_set]
theorem wordAt_get {a : Int} {l : List Rg} {p : Nat × Nat} (h : wordAt l a = some p) : 0 ≤ a ∧ a % 8 = 0 ∧ findW a l = some p := by
  unfold wordAt at h
  split at h
  · cases h
  · exact ⟨by omega, by omega, h⟩
/-- Unlike addresses are unlike words. -/
theorem word_inj {a b : Int} {l : List Rg} (hb : ∀ r ∈ l, r.base % 8 = 0) {p : Nat × Nat} (h : wordAt l a = some p) (k : wordAt l b = some p) : a = b := by
  obtain ⟨h1, h2, h3⟩ := wordAt_get h
  obtain ⟨k1, k2, k3⟩ := wordAt_get k
  obtain ⟨r, e1, e2, e3, e4⟩ := findW_some h3
  obtain ⟨r', f1, f2, f3, f4⟩ := findW_some k3
  rw [e1] at f1
  obtain rfl := Option.some.inj f1
  have := hb r (List.mem_of_getElem? e1)
  omega
theorem val_set_same {l : List Rg} {a : Int} {p : Nat × Nat} (n : Int) (h : wordAt l a = some p) : valAt (setAt l p n) p = n := by
  obtain ⟨_, _, h3⟩ := wordAt_get h
  obtain ⟨r, e1, _⟩ := findW_some h3
  have hl := findW_len h3 r e1
  unfold valAt setAt
  rw [List.getElem?_modify, e1]
  simp [List.getD_eq_getElem?_getD, List.getElem?_set, hl]
theorem val_set_other {l : List Rg} {p q : Nat × Nat} (n : Int) (h : p ≠ q) : valAt (setAt l p n) q = valAt l q := by
  obtain ⟨i, j⟩ := p
  obtain ⟨i', j'⟩ := q
  unfold valAt setAt
  simp only [List.getElem?_modify]
  by_cases e : i = i'
  · subst e
    have hj : j ≠ j' := fun x => h (by rw [x])
    cases l[i]? with
    | none => simp
    | some r => simp [List.getD_eq_getElem?_getD, List.getElem?_set, hj]
  · cases l[i']? with
    | none => simp
    | some r => simp [e]
theorem regs_base : ∀ {l prev : List Rg}, regsFrom prev l = true → ∀ r ∈ l, regOk r = true
  | [], _, _, r, hr => by simp at hr
  | x :: l, prev, h, r, hr => by
    simp only [regsFrom, Bool.and_eq_true] at h
    rcases List.mem_cons.1 hr with rfl | hr
    · exact h.1.1
    · exact regs_base h.2 r hr
/-- MemStays in plain words. -/
theorem stays {l : List Rg} (hok : memOk l = true) (rd wt : List Int) (at_ other n : Int) :
    let m : Mm := ⟨l, rd, wt⟩
    let x := load m other
    let y := store x.1 at_ n
    let z := load y.1 other
    let d := load z.1 at_
    x.2.2 = z.2.2 ∧ (y.2 = 0 → d.2.2 = 0 ∧ d.2.1 = n) ∧ (at_ ≠ other → x.2.1 = z.2.1) := by
  simp only [memOk, Bool.and_eq_true] at hok
  have hb : ∀ r ∈ l, r.base % 8 = 0 := fun r hr => by
    have := regs_base hok.2 r hr
    simp only [regOk, decide_eq_true_eq] at this
    exact this.2.2.1
  intro m x y z d
  have hx : x.1.rs = l := by simp only [x, load, m]; cases wordAt l other <;> rfl
  rcases hA : wordAt l at_ with _ | p
  · have hy : y = (x.1, 11) := by simp only [y, store, hx, hA]
    have hz : z = load x.1 other := by simp only [z, hy]
    refine ⟨?_, fun h => by rw [hy] at h; simp at h, fun _ => ?_⟩
    · rw [hz]; simp only [load, hx]; simp only [x, load, m]; cases wordAt l other <;> rfl
    · rw [hz]; simp only [load, hx]; simp only [x, load, m]; cases wordAt l other <;> rfl
  · by_cases hm : mayAt l p = true
    · have hy : y = (⟨setAt l p n, x.1.rd, ins at_ x.1.wt⟩, 0) := by simp only [y, store, hx, hA, hm, if_true]
      have hz1 : z.1.rs = setAt l p n := by simp only [z, load, hy, wordAt_set]; cases wordAt l other <;> rfl
      refine ⟨?_, fun _ => ?_, fun hne => ?_⟩
      · simp only [z, load, hy, wordAt_set]; simp only [x, load, m]; cases wordAt l other <;> rfl
      · have hd : d = (⟨setAt l p n, ins at_ z.1.rd, z.1.wt⟩, n, 0) := by
          simp only [d, load, hz1, wordAt_set, hA, val_set_same n hA]
        rw [hd]; exact ⟨rfl, rfl⟩
      · simp only [z, load, hy, wordAt_set]
        simp only [x, load, m]
        rcases hO : wordAt l other with _ | q
        · rfl
        · have hpq : p ≠ q := fun e => hne (word_inj hb hA (e ▸ hO))
          simp only [val_set_other n hpq]
    · have hy : y = (x.1, 11) := by simp only [y, store, hx, hA]; simp [hm]
      have hz : z = load x.1 other := by simp only [z, hy]
      refine ⟨?_, fun h => by rw [hy] at h; simp at h, fun _ => ?_⟩
      · rw [hz]; simp only [load, hx]; simp only [x, load, m]; cases wordAt l other <;> rfl
      · rw [hz]; simp only [load, hx]; simp only [x, load, m]; cases wordAt l other <;> rfl

/-! ### regions in memory -/
def k59 : Kd Rg := Kd.iso (Kd.pair (Kd.int .i64) (Kd.pair (Kd.slice 2 (Kd.int .i64)) Kd.bool)) (fun x : Rg => (x.base, x.words, x.wr))
theorem k59_open {w : World} {x : Rg} {cs : List Value} (h : k59.K w x cs) : ∃ A c, cs = [.int .i64 x.base, .slice A x.words.length c, .bool x.wr] ∧ x.words.length ≤ c ∧ (Kd.int .i64).C w A x.words.length x.words := by
  obtain ⟨_, _, rfl, rfl, ⟨_, _, rfl, ⟨A, c, rfl, hl, hr⟩, rfl⟩⟩ := h
  exact ⟨A, c, rfl, hl, hr⟩
theorem k59_openM {w : World} {base : Nat} {ok : Nat → Prop} {x : Rg} {cs : List Value} (h : k59.M w base ok x cs) : ∃ v, cs = [.int .i64 x.base, v, .bool x.wr] ∧ (Kd.int .i64).R 2 w base ok v x.words := by
  obtain ⟨_, _, rfl, rfl, ⟨_, _, rfl, ⟨v, rfl, hr⟩, rfl⟩⟩ := h
  exact ⟨v, rfl, hr⟩
theorem k59_mk {w : World} {x : Rg} {A : Option Addr} {c : Nat} (hl : x.words.length ≤ c) (h : (Kd.int .i64).C w A x.words.length x.words) : k59.K w x [.int .i64 x.base, .slice A x.words.length c, .bool x.wr] :=
  ⟨[.int .i64 x.base], [.slice A x.words.length c, .bool x.wr], rfl, rfl, ⟨[.slice A x.words.length c], [.bool x.wr], rfl, ⟨A, c, rfl, hl, h⟩, rfl⟩⟩
theorem k59_mkM {w : World} {base : Nat} {ok : Nat → Prop} {x : Rg} {v : Value} (h : (Kd.int .i64).R 2 w base ok v x.words) : k59.M w base ok x [.int .i64 x.base, v, .bool x.wr] :=
  ⟨[.int .i64 x.base], [v, .bool x.wr], rfl, rfl, ⟨[v], [.bool x.wr], rfl, ⟨v, rfl, h⟩, rfl⟩⟩
def zRg : Rg := ⟨0, [], false⟩
/-! ### what a call turns -/
/-- All but the blocks of S stays. -/
structure Turn (S : Nat → Prop) (w w' : World) : Prop where
  os : w'.os = w.os
  tape : w'.tape = w.tape
  output : w'.output = w.output
  size : w.heap.size ≤ w'.heap.size
  block : ∀ k, k < w.heap.size → ¬ S k → w'.heap[k]? = w.heap[k]?
section
variable {S S' : Nat → Prop} {w w1 w2 : World}
theorem Turn.refl (S : Nat → Prop) (w : World) : Turn S w w := ⟨rfl, rfl, rfl, Nat.le_refl _, fun _ _ _ => rfl⟩
theorem Turn.mono (h : Turn S w w1) (hs : ∀ k, k < w.heap.size → S k → S' k) : Turn S' w w1 := ⟨h.os, h.tape, h.output, h.size, fun k hk hn => h.block k hk (fun hS => hn (hs k hk hS))⟩
theorem Turn.trans (h : Turn S w w1) (k : Turn S w1 w2) : Turn S w w2 :=
  ⟨k.os.trans h.os, k.tape.trans h.tape, k.output.trans h.output, Nat.le_trans h.size k.size, fun i hi hn => (k.block i (Nat.lt_of_lt_of_le hi h.size) hn).trans (h.block i hi hn)⟩
theorem Turn.of_below (h : Below w.heap.size w w1) (S : Nat → Prop) : Turn S w w1 := ⟨h.os, h.tape, h.output, h.size, fun k hk _ => h.block k hk⟩
theorem Turn.of_grown {row : Option Nat} (h : w.grownBy w1 row) (hr : ∀ k, row = some k → S k) : Turn S w w1 := ⟨h.os, h.tape, h.output, h.size, fun k hk hn => h.block k hk (fun e => hn (hr k e.symm))⟩
theorem Turn.below {B : Nat} (h : Turn S w w1) (hS : ∀ k, S k → B ≤ k) (hB : B ≤ w.heap.size) : Below B w w1 := ⟨h.os, h.tape, h.output, h.size, fun k hk => h.block k (Nat.lt_of_lt_of_le hk hB) (fun hs => by have := hS k hs; omega)⟩
theorem Turn.kept (h : Turn S w w1) : Kept w w1 S := ⟨h.size, h.block⟩
end
/-! ### a map of addresses -/
def kz (a : Int) : Lit := .int .i64 a
def TMap (W : World) (b n : Nat) (l : List Int) : Prop := ∃ D : DataW Unit, W.ownsMap Try.prog 2 (plainElem Try.prog 3) b n D ∧ (∀ a, has D (kz a) = true ↔ a ∈ l) ∧ Rising l
theorem law2 : Keyed Try.prog 2 := Maps.int_keyed Try.underlying2
theorem isKey_z (a : Int) : WideAt.IsKeyLit (kz a) := by simp [kz, WideAt.IsKeyLit]
theorem kz_inj {a b : Int} (h : kz a = kz b) : a = b := by simpa [kz] using h
theorem TMap.made (W : World) : TMap (W.alloc (.map #[] 0)) W.heap.size 0 [] :=
  ⟨.map [], World.ownsMap_made _ _ _ _, fun a => by simp [has_eq], List.Pairwise.nil⟩
theorem TMap.kept {W W1 : World} {b n : Nat} {l : List Int} (h : TMap W b n l) (hb : W1.heap[b]? = W.heap[b]?) : TMap W1 b n l := by
  obtain ⟨D, ⟨es, clock, he, r⟩, h2⟩ := h
  exact ⟨D, ⟨es, clock, hb.trans he, r⟩, h2⟩
theorem TMap.lt {W : World} {b n : Nat} {l : List Int} (h : TMap W b n l) : b < W.heap.size := by
  obtain ⟨D, h1, _⟩ := h
  exact h1.lt
theorem TMap.blk {W : World} {b n : Nat} {l : List Int} (h : TMap W b n l) : ∃ es clock, W.heap[b]? = some (.map es clock) := by
  obtain ⟨D, ⟨es, clock, he, r⟩, _⟩ := h
  exact ⟨es, clock, he⟩
theorem TMap.mono {W : World} {b n n' : Nat} {l : List Int} (h : TMap W b n l) (hn : n ≤ n') : TMap W b n' l := by
  obtain ⟨D, h1, h2⟩ := h
  exact ⟨D, h1.mono hn, h2⟩
theorem TMap.put {W1 : World} {b n : Nat} {l : List Int} {D : DataW Unit} (hD : ∀ a, has D (kz a) = true ↔ a ∈ l) (hm : IsMap D) (hl : Rising l) (a : Int) (d : DataW Unit) (h : W1.ownsMap Try.prog 2 (plainElem Try.prog 3) b n (D.put (kz a) d)) : TMap W1 b n (ins a l) := by
  refine ⟨_, h, fun x => ?_, ins_rising a l hl⟩
  by_cases e : kz x = kz a
  · have := kz_inj e; subst this
    rw [has_put_same hm (isKey_z x), mem_ins]; simp
  · rw [has_put_other e, hD, mem_ins]
    constructor
    · exact .inr
    · rintro (rfl | h)
      · exact absurd rfl e
      · exact h
/-! ### the state of a Memory -/
structure MemA (base : Nat) (ok : Nat → Prop) (W : World) (g n b1 b2 : Nat) (rv : Value) (m : Mm) : Prop where
  box : W.heap[g]? = some (.cells #[.map (some b1), .map (some b2), rv] 131 (0, 0))
  bg : base ≤ g
  ok0 : ok g
  ok1 : ok b1
  ok2 : ok b2
  base1 : base ≤ b1
  base2 : base ≤ b2
  ne : b1 ≠ b2
  m1 : TMap W b1 n m.rd
  m2 : TMap W b2 n m.wt
  row : Kd.S k59 59 W base ok rv m.rs
def MemAt (base : Nat) (ok : Nat → Prop) (W : World) (g n : Nat) (m : Mm) : Prop := ∃ b1 b2 rv, MemA base ok W g n b1 b2 rv m

end Go.Proofs.Ytochgjeanajoiaa.HA.Mem
