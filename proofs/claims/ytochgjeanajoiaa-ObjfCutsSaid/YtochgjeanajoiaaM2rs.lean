/- Written by hand: what objf.Read answers, in plain words, and the state of its walk. -/
import Derived.Test.YtochgjeanajoiaaM2r2
namespace Go.Proofs.Ytochgjeanajoiaa.HA
open Go.RowKit Go.Proofs.YtochgjeanajoiaaW.PrintWords Go.Proofs.YtochgjeanajoiaaW.PrintLast Go.Proofs.YtochgjeanajoiaaW.PrintMore
set_option linter.unusedVariables false
set_option linter.unusedSimpArgs false

def pMany {α : Type} (p : Nat → Option (α × Nat)) : Nat → Nat → Option (List α × Nat)
  | 0, a => some ([], a)
  | n + 1, a => (p a).bind fun r => (pMany p n r.2).bind fun q => some (r.1 :: q.1, q.2)
def pSym (s : ByteArray) (a : Nat) : Option (S32 × Nat) := (pName s a).bind fun r => (pOne s r.2).bind fun k => (pNum s 65536 k.2).bind fun u => some (⟨r.1, k.1, (u.1 : Int)⟩, u.2)
def pRel (s : ByteArray) (a : Nat) : Option (S34 × Nat) := (pNum s 65536 a).bind fun u => (pOne s u.2).bind fun k => (pName s k.2).bind fun r => (pWide s r.2).bind fun x => some (⟨(u.1 : Int), k.1, r.1, x.1⟩, x.2)
/-- Behind the mark. -/
def pRest (s : ByteArray) (a0 : Nat) : Option (ByteArray × List Int × List S32 × List S34) :=
  (pNum s 65536 a0).bind fun n1 => (pTake s n1.1 n1.2).bind fun code => (pNum s 4096 code.2).bind fun n2 => (pMany (pWide s) n2.1 n2.2).bind fun data =>
  (pNum s 1000 data.2).bind fun n3 => (pMany (pSym s) n3.1 n3.2).bind fun syms => (pNum s 8000 syms.2).bind fun n4 => (pMany (pRel s) n4.1 n4.2).bind fun rels =>
  if rels.2 = s.size ∧ checkOk code.1 data.1 syms.1 rels.1 = true then some (code.1, data.1, syms.1, rels.1) else none
def pBody (s : ByteArray) : Option (ByteArray × List Int × List S32 × List S34) :=
  (pTake s 4 0).bind fun m => if m.1.toList = ([67, 79, 84, 49] : List UInt8) then pRest s m.2 else none
def readR (o : Option (ByteArray × List Int × List S32 × List S34)) : ByteArray × List Int × List S32 × List S34 × Int := match o with | some (c, d, y, r) => (c, d, y, r, 0) | none => (⟨#[]⟩, [], [], [], 9)
def objf_Read.f (s : ByteArray) : Option (ByteArray × List Int × List S32 × List S34 × Int) := if s.size ≤ 4611686018427387904 then some (readR (pBody s)) else none

theorem pWide_le {s : ByteArray} {a b : Nat} {x : Int} (ha : a ≤ s.size) (h : pWide s a = some (x, b)) : b ≤ s.size := by
  unfold pWide at h; split at h
  · rename_i e; have := pTake_le ha e; simp only [Option.some.injEq, Prod.mk.injEq] at h; omega
  · cases h
theorem pOne_le {s : ByteArray} {a b : Nat} {x : Int} (ha : a ≤ s.size) (h : pOne s a = some (x, b)) : b ≤ s.size := by
  unfold pOne at h; split at h
  · rename_i e; have := pTake_le ha e; simp only [Option.some.injEq, Prod.mk.injEq] at h; omega
  · cases h
theorem pName_le {s : ByteArray} {a b : Nat} {x : ByteArray} (h : pName s a = some (x, b)) : b ≤ s.size := by
  unfold pName at h; split at h
  · rename_i e; have := pNum_le e; have := pTake_le this.2.2 h; omega
  · cases h
theorem pMany_len {α : Type} {p : Nat → Option (α × Nat)} : ∀ {n a : Nat} {l : List α} {b : Nat}, pMany p n a = some (l, b) → l.length = n
  | 0, a, l, b, h => by simp only [pMany, Option.some.injEq, Prod.mk.injEq] at h; rw [← h.1]; rfl
  | n + 1, a, l, b, h => by
    simp only [pMany, Option.bind_eq_some_iff] at h
    obtain ⟨r, h1, q, h2, h3⟩ := h
    simp only [Option.some.injEq, Prod.mk.injEq] at h3
    rw [← h3.1, List.length_cons, pMany_len (l := q.1) (b := q.2) h2]
/-- A loop that goes along: what is read so far. -/
def PAt {α : Type} (p : Nat → Option (α × Nat)) (n a0 : Nat) (l : List α) (a : Nat) : Prop := l.length ≤ n ∧ pMany p n a0 = (pMany p (n - l.length) a).bind fun q => some (l ++ q.1, q.2)
theorem PAt.start {α : Type} (p : Nat → Option (α × Nat)) (n a0 : Nat) : PAt p n a0 [] a0 := by
  refine ⟨Nat.zero_le _, ?_⟩
  simp only [List.length_nil, Nat.sub_zero, List.nil_append]
  rcases pMany p n a0 with _ | ⟨l, b⟩ <;> rfl
theorem PAt.next {α : Type} {p : Nat → Option (α × Nat)} {n a0 a b : Nat} {l : List α} {x : α} (h : PAt p n a0 l a) (hlt : l.length < n) (hp : p a = some (x, b)) : PAt p n a0 (l ++ [x]) b := by
  refine ⟨by simp; omega, ?_⟩
  rw [h.2, show n - l.length = (n - (l ++ [x]).length) + 1 from by simp; omega, pMany, hp]
  simp only [Option.bind_some]
  rcases pMany p (n - (l ++ [x]).length) b with _ | ⟨q, c⟩
  · rfl
  · simp
theorem PAt.fail {α : Type} {p : Nat → Option (α × Nat)} {n a0 a : Nat} {l : List α} (h : PAt p n a0 l a) (hlt : l.length < n) (hp : p a = none) : pMany p n a0 = none := by
  rw [h.2, show n - l.length = (n - l.length - 1) + 1 from by omega, pMany, hp]; rfl
theorem PAt.done {α : Type} {p : Nat → Option (α × Nat)} {n a0 a : Nat} {l : List α} (h : PAt p n a0 l a) (he : l.length = n) : pMany p n a0 = some (l, a) := by
  rw [h.2, he, Nat.sub_self, pMany]; simp

/-- The two boxes of the results, and the reader. -/
structure RBx (B : Nat) (w W : World) (bo be g : Nat) (s : ByteArray) (a : Nat) (code : ByteArray) (cd cy cr : Value) : Prop where
  bel : Below B w W
  bo_ : B ≤ bo
  be_ : B ≤ be
  g_ : B ≤ g
  ho : W.heap[bo]? = some (.cells #[.string code, cd, cy, cr] 30 (0, 0))
  he : W.heap[be]? = some (.cells #[.int .i64 0] 37 (0, 0))
  hg : RdS W g s a
theorem blk_apart {W : World} {i j t u : Nat} {c d : Array Value} (hi : W.heap[i]? = some (.cells c t (0, 0))) (hj : W.heap[j]? = some (.cells d u (0, 0))) (h : t ≠ u) : i ≠ j := by
  rintro rfl
  rw [hi] at hj
  injection hj with hj
  injection hj with _ ht
  exact h ht
theorem gB_below {B : Nat} {W W1 : World} {row : Option Nat} (h : W.grownBy W1 row) (hB : B ≤ W.heap.size) (hr : ∀ k, row = some k → B ≤ k) : Below B W W1 :=
  ⟨h.os, h.tape, h.output, h.size, fun k hk => h.block k (by omega) (fun e => by have := hr k e.symm; omega)⟩
variable {B bo be g : Nat} {w W W1 : World} {s : ByteArray} {a : Nat} {code : ByteArray} {cd cy cr : Value}
theorem RBx.size (h : RBx B w W bo be g s a code cd cy cr) : B ≤ W.heap.size := by have := blk_lt h.ho; have := h.bo_; omega
theorem RBx.ne_be (h : RBx B w W bo be g s a code cd cy cr) : bo ≠ be := blk_apart h.ho h.he (by decide)
theorem RBx.ne_g (h : RBx B w W bo be g s a code cd cy cr) : bo ≠ g := blk_apart h.ho h.hg (by decide)
theorem RBx.ne_eg (h : RBx B w W bo be g s a code cd cy cr) : be ≠ g := blk_apart h.he h.hg (by decide)
/-- A reader's call. -/
theorem RBx.read (h : RBx B w W bo be g s a code cd cy cr) {a' : Nat} (hb : W.grownBy W1 (some g)) (hr : RdS W1 g s a') : RBx B w W1 bo be g s a' code cd cy cr :=
  ⟨h.bel.trans (gB_below hb h.size (fun k e => by cases e; exact h.g_)), h.bo_, h.be_, h.g_, blk_grown h.ho hb (fun e => h.ne_g (Option.some.inj e)), blk_grown h.he hb (fun e => h.ne_eg (Option.some.inj e)), hr⟩
theorem RBx.row (h : RBx B w W bo be g s a code cd cy cr) {α : Type} {d : Kd α} {e : Nat} {v : Value} {xs : List α} {ok : Nat → Prop} (hr : d.R e W B ok v xs) (h1 : e ≠ 30) (h2 : e ≠ 37) (h3 : e ≠ 116) (hb : W.grownBy W1 v.ownBlock) : RBx B w W1 bo be g s a code cd cy cr :=
  ⟨h.bel.trans (gB_below hb h.size (fun k e => Kd.R_base hr k e)), h.bo_, h.be_, h.g_, blk_grown h.ho hb (Kd.R_ne hr h.ho h1), blk_grown h.he hb (Kd.R_ne hr h.he h2), blk_grown h.hg hb (Kd.R_ne hr h.hg h3)⟩
theorem below_weaken' {B C : Nat} {W W1 : World} (h : B ≤ C) (hb : Below C W W1) : Below B W W1 := ⟨hb.os, hb.tape, hb.output, hb.size, fun k hk => hb.block k (by omega)⟩
theorem RBx.alloc (h : RBx B w W bo be g s a code cd cy cr) (o : Obj) : RBx B w (W.alloc o) bo be g s a code cd cy cr :=
  have hb := below_alloc (Below.refl W.heap.size W) o
  ⟨h.bel.alloc h.size o, h.bo_, h.be_, h.g_, blk_below h.ho hb, blk_below h.he hb, blk_below h.hg hb⟩
theorem RBx.below (h : RBx B w W bo be g s a code cd cy cr) (hb : Below W.heap.size W W1) : RBx B w W1 bo be g s a code cd cy cr :=
  ⟨h.bel.trans (below_weaken' h.size hb), h.bo_, h.be_, h.g_, blk_below h.ho hb, blk_below h.he hb, blk_below h.hg hb⟩
theorem RBx.drewN (h : RBx B w W bo be g s a code cd cy cr) (n : Nat) : RBx B w (W.drewN n) bo be g s a code cd cy cr := ⟨pw_below_drewN h.bel n, h.bo_, h.be_, h.g_, h.ho, h.he, h.hg⟩
theorem RBx.set (h : RBx B w W bo be g s a code cd cy cr) (i : Nat) (u : Value) (code' : ByteArray) (cd' cy' cr' : Value) (e : (#[.string code, cd, cy, cr] : Array Value).setIfInBounds i u = #[.string code', cd', cy', cr']) : RBx B w (W.setCell ⟨bo, i, none⟩ u) bo be g s a code' cd' cy' cr' :=
  ⟨h.bel.setCell h.bo_ u, h.bo_, h.be_, h.g_, blk_put h.ho i u e, (Below.heap_setCell W _ u be (fun e => h.ne_be e.symm)).trans h.he, (Below.heap_setCell W _ u g (fun e => h.ne_g e.symm)).trans h.hg⟩

/-- The rows that are read so far. -/
structure RWs (B : Nat) (W : World) (vd vy vr : Value) (ld : List Int) (ly : List S32) (lr : List S34) : Prop where
  d : Kd.R (Kd.int .i64) 2 W B (fun _ => True) vd ld
  y : Kd.R k32 32 W B (fun _ => True) vy ly
  r : Kd.R k34 34 W B (fun _ => True) vr lr
variable {vd vy vr : Value} {ld : List Int} {ly : List S32} {lr : List S34}
theorem RWs.nil (B : Nat) (W : World) : RWs B W (.slice none 0 0) (.slice none 0 0) (.slice none 0 0) [] [] [] := ⟨Kd.R_nil _ _ _ _ _, Kd.R_nil _ _ _ _ _, Kd.R_nil _ _ _ _ _⟩
theorem RWs.below (h : RWs B W vd vy vr ld ly lr) (hb : Below W.heap.size W W1) : RWs B W1 vd vy vr ld ly lr := ⟨Kd.R_below h.d hb, Kd.R_below h.y hb, Kd.R_below h.r hb⟩
theorem RWs.grown {g t : Nat} {c : Array Value} (h : RWs B W vd vy vr ld ly lr) (hc : W.heap[g]? = some (.cells c t (0, 0))) (h1 : 2 ≠ t) (h2 : 32 ≠ t) (h3 : 34 ≠ t) (hb : W.grownBy W1 (some g)) : RWs B W1 vd vy vr ld ly lr :=
  ⟨Kd.R_grown1 h.d rfl hb (Kd.R_ne h.d hc h1), Kd.R_grown1 h.y rfl hb (Kd.R_ne h.y hc h2), Kd.R_grown1 h.r rfl hb (Kd.R_ne h.r hc h3)⟩
theorem RWs.read (h : RWs B W vd vy vr ld ly lr) (hr : RBx B w W bo be g s a code cd cy cr) (hb : W.grownBy W1 (some g)) : RWs B W1 vd vy vr ld ly lr := h.grown hr.hg (by decide) (by decide) (by decide) hb
theorem RWs.set (h : RWs B W vd vy vr ld ly lr) (hr : RBx B w W bo be g s a code cd cy cr) (i : Nat) (u : Value) : RWs B (W.setCell ⟨bo, i, none⟩ u) vd vy vr ld ly lr := h.grown hr.ho (by decide) (by decide) (by decide) (Lib.grownBy_setCell W bo i u)
theorem RWs.app_d (h : RWs B W vd vy vr ld ly lr) {v1 : Value} {xs : List Int} (hd : Kd.R (Kd.int .i64) 2 W1 B (fun _ => True) v1 xs) (hb : W.grownBy W1 vd.ownBlock) : RWs B W1 v1 vy vr xs ly lr := ⟨hd, Kd.R_over h.y h.d (by decide) hb, Kd.R_over h.r h.d (by decide) hb⟩
theorem RWs.app_y (h : RWs B W vd vy vr ld ly lr) {v1 : Value} {xs : List S32} (hd : Kd.R k32 32 W1 B (fun _ => True) v1 xs) (hb : W.grownBy W1 vy.ownBlock) : RWs B W1 vd v1 vr ld xs lr := ⟨Kd.R_over h.d h.y (by decide) hb, hd, Kd.R_over h.r h.y (by decide) hb⟩
theorem RWs.app_r (h : RWs B W vd vy vr ld ly lr) {v1 : Value} {xs : List S34} (hd : Kd.R k34 34 W1 B (fun _ => True) v1 xs) (hb : W.grownBy W1 vr.ownBlock) : RWs B W1 vd vy v1 ld ly xs := ⟨Kd.R_over h.d h.r (by decide) hb, Kd.R_over h.y h.r (by decide) hb, hd⟩
end Go.Proofs.Ytochgjeanajoiaa.HA
