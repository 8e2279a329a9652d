/- Written by hand: an object's form as a list of bytes. -/
import Derived.Test.YtochgjeanajoiaaM2c
import Derived.Test.YtochgjeanajoiaaM2w0
namespace Go.Proofs.Ytochgjeanajoiaa.HA
open Go.RowKit Go.Proofs.YtochgjeanajoiaaW.PrintWords Go.Proofs.YtochgjeanajoiaaW.PrintLast Go.Proofs.YtochgjeanajoiaaW.PrintMore
set_option linter.unusedVariables false
set_option linter.unusedSimpArgs false

def strL (s : ByteArray) : List Int := putL s.size ++ bytesOf s
def symL (s : S32) : List Int := strL s.f0 ++ [s.f1 % 256] ++ putL s.f2.toNat
def relL (r : S34) : List Int := putL r.f0.toNat ++ [r.f1 % 256] ++ strL r.f2 ++ le8 r.f3
def frontL (mark : List Int) (code : ByteArray) (data : List Int) (syms : List S32) : List Int := mark ++ strL code ++ putL data.length ++ data.flatMap le8 ++ putL syms.length ++ syms.flatMap symL
def formL (code : ByteArray) (data : List Int) (syms : List S32) (rels : List S34) : List Int := frontL [67, 79, 84, 49] code data syms ++ putL rels.length ++ rels.flatMap relL
def formB (code : ByteArray) (data : List Int) (syms : List S32) (rels : List S34) : ByteArray := strOfNums (formL code data syms rels)
def objf_Write.f (a0 : ByteArray) (l1 : List Int) (l2 : List S32) (l3 : List S34) : Option (ByteArray × Int) := some (if checkOk a0 l1 l2 l3 then (formB a0 l1 l2 l3, 0) else ((⟨#[]⟩ : ByteArray), 1))

/-! ### Sizes -/
theorem flatMap_len {α : Type} (f : α → List Int) (m : Nat) : ∀ l : List α, (∀ x ∈ l, (f x).length ≤ m) → (l.flatMap f).length ≤ m * l.length
  | [], _ => by simp
  | x :: l, h => by
    have h1 := flatMap_len f m l (fun y hy => h y (List.mem_cons_of_mem _ hy))
    have h2 := h x (by simp)
    simp only [List.flatMap_cons, List.length_append, List.length_cons, Nat.mul_add, Nat.mul_one]
    omega
theorem le8_len (n : Int) : (le8 n).length = 8 := rfl
theorem flatMap_take_succ {α : Type} (f : α → List Int) (l : List α) (k : Nat) (x : α) (h : l[k]? = some x) : (l.take (k + 1)).flatMap f = (l.take k).flatMap f ++ f x := by
  rw [List.take_add_one, h]
  simp

/-! ### What Check has seen -/
theorem rels_mem {c : Int} : ∀ (l : List S34) (free : Int), 0 ≤ free → relsFrom free c l = true → ∀ r ∈ l, 0 ≤ r.f0 ∧ r.f0 ≤ c - 4 ∧ 0 < r.f2.size ∧ r.f2.size ≤ 28
  | [], _, _, _, r, hr => by simp at hr
  | x :: l, free, hf, h, r, hr => by
    simp only [relsFrom, Bool.and_eq_true, relOk, decide_eq_true_eq] at h
    rcases List.mem_cons.1 hr with rfl | hr
    · omega
    · exact rels_mem l (x.f0 + 4) (by omega) h.2 r hr
structure Checked (code : ByteArray) (data : List Int) (syms : List S32) (rels : List S34) : Prop where
  code : code.size ≤ 65536
  data : data.length ≤ 4096
  nsyms : syms.length ≤ 1000
  nrels : rels.length ≤ 8000
  syms : ∀ s ∈ syms, 0 ≤ s.f2 ∧ s.f2 ≤ 65536 ∧ 0 < s.f0.size ∧ s.f0.size ≤ 28 ∧ 1 ≤ s.f1 ∧ s.f1 ≤ 3
  rels : ∀ r ∈ rels, 0 ≤ r.f0 ∧ r.f0 ≤ 65536 ∧ 0 < r.f2.size ∧ r.f2.size ≤ 28
theorem checked {code : ByteArray} {data : List Int} {syms : List S32} {rels : List S34} (h : checkOk code data syms rels = true) : Checked code data syms rels := by
  simp only [checkOk, Bool.and_eq_true, decide_eq_true_eq, symsOk, relsOk] at h
  obtain ⟨⟨⟨h1, h2⟩, ⟨h3, h4⟩, h5⟩, h6, h7⟩ := h
  refine ⟨h1, h2, h5, h7, fun s hs => ?_, fun r hr => ?_⟩
  · have := List.all_eq_true.1 h3 s hs
    simp only [symOk, decide_eq_true_eq] at this
    obtain ⟨a, b, c, d⟩ := this
    split at d <;> omega
  · have := rels_mem rels 0 (by omega) h6 r hr
    omega

/-! ### The writer, with a bound on what it holds -/
def WrN (T B : Nat) (W : World) (g : Nat) (l : List Int) (M : Nat) : Prop := Wr T B W g l ∧ l.length ≤ M
theorem WrN.alloc {T B : Nat} {W : World} {g : Nat} {l : List Int} {M : Nat} (h : WrN T B W g l M) (o : Obj) : WrN T B (W.alloc o) g l M := ⟨h.1.alloc o, h.2⟩
theorem WrN.lt {T B : Nat} {W : World} {g : Nat} {l : List Int} {M : Nat} (h : WrN T B W g l M) : g < W.heap.size := by
  obtain ⟨A, c, h1, _⟩ := h.1
  exact blk_lt h1
/-- A variable made in the round stays while the writer writes. -/
theorem box_keep {W W1 : World} {g e : Nat} {cs : Array Value} (hg : g < W.heap.size) (hk : WKeep g (W.alloc (.cells cs e)) W1) (he : e ≠ 5) : W1.heap[W.heap.size]? = some (.cells cs e (0, 0)) :=
  hk _ _ (blk_new W _) (Nat.ne_of_gt hg) (fun cur fr h => by injection h; contradiction)
theorem box_keep2 {W W1 : World} {g b e : Nat} {cs : Array Value} (h : W.heap[b]? = some (.cells cs e (0, 0))) (hg : b ≠ g) (hk : WKeep g W W1) (he : e ≠ 5) : W1.heap[b]? = some (.cells cs e (0, 0)) :=
  hk _ _ h hg (fun cur fr h => by injection h; contradiction)
theorem number_n {B g : Nat} {l : List Int} {M : Nat} {n : Int} {w : World} (h : WrN 99 B w g l M) (hM : M ≤ 1000000000) (h0 : 0 ≤ n) (h1 : n ≤ 65536) :
    Calls Try.prog 56 #[.pointer (some ⟨g, 0, none⟩), .int .i64 n] w fun e w' => e = .returned (.tuple #[]) ∧ WrN 99 B w' g (l ++ putL n.toNat) (M + 11) ∧ Below B w w' ∧ WKeep g w w' :=
  (writer_number B g l n w h.1.full (by have := h.2; omega) h0 (by omega)).mono fun e w' hh => ⟨hh.1, ⟨hh.2.1, by have := h.2; have := putL_len10 n.toNat (by omega); simp; omega⟩, hh.2.2⟩
theorem wide_n {B g : Nat} {l : List Int} {M : Nat} {n : Int} {w : World} (h : WrN 99 B w g l M) (hM : M ≤ 1000000000) :
    Calls Try.prog 57 #[.pointer (some ⟨g, 0, none⟩), .int .i64 n] w fun e w' => e = .returned (.tuple #[]) ∧ WrN 99 B w' g (l ++ le8 n) (M + 8) ∧ Below B w w' ∧ WKeep g w w' :=
  (writer_wide B g l n w h.1 (by have := h.2; omega)).mono fun e w' hh => ⟨hh.1, ⟨hh.2.1, by have := h.2; simp [le8_len]; omega⟩, hh.2.2⟩
theorem one_n {B g : Nat} {l : List Int} {M : Nat} {n : Int} {w : World} (h : WrN 99 B w g l M) (hM : M ≤ 1000000000) :
    Calls Try.prog 58 #[.pointer (some ⟨g, 0, none⟩), .int .i64 n] w fun e w' => e = .returned (.tuple #[]) ∧ WrN 99 B w' g (l ++ [n % 256]) (M + 1) ∧ Below B w w' ∧ WKeep g w w' :=
  (writer_one B g l n w h.1 (by have := h.2; omega)).mono fun e w' hh => ⟨hh.1, ⟨hh.2.1, by have := h.2; simp; omega⟩, hh.2.2⟩
theorem text_n {B g : Nat} {l : List Int} {M : Nat} {y : ByteArray} {w : World} (h : WrN 99 B w g l M) (hM : M ≤ 1000000000) (hy : y.size ≤ 65536) :
    Calls Try.prog 55 #[.pointer (some ⟨g, 0, none⟩), .string y] w fun e w' => e = .returned (.tuple #[]) ∧ WrN 99 B w' g (l ++ strL y) (M + 11 + y.size) ∧ Below B w w' ∧ WKeep g w w' :=
  (writer_text B g l y w h.1.full (by have := h.2; omega)).mono fun e w' hh => ⟨hh.1, ⟨by rw [strL, ← List.append_assoc]; exact hh.2.1, by have := h.2; have := putL_len10 y.size (by omega); have := bytesOf_length y; simp [strL]; omega⟩, hh.2.2⟩
theorem text_f {B g : Nat} {l : List Int} {M : Nat} {y : ByteArray} {w : World} (h : WrF 99 B w g l) (h2 : l.length ≤ M) (hM : M ≤ 1000000000) (hy : y.size ≤ 65536) :
    Calls Try.prog 55 #[.pointer (some ⟨g, 0, none⟩), .string y] w fun e w' => e = .returned (.tuple #[]) ∧ WrN 99 B w' g (l ++ strL y) (M + 11 + y.size) ∧ Below B w w' ∧ WKeep g w w' :=
  (writer_text B g l y w h (by omega)).mono fun e w' hh => ⟨hh.1, ⟨by rw [strL, ← List.append_assoc]; exact hh.2.1, by have := putL_len10 y.size (by omega); have := bytesOf_length y; simp [strL]; omega⟩, hh.2.2⟩
end Go.Proofs.Ytochgjeanajoiaa.HA
