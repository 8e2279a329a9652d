/- Written by hand: several operations of a region that draws its order, whatever order they come up in: one condition carried over all of them. Written by hand: rows of bytes that come of []byte(s), grown by strings. -/
import Derived.Test.YtochgjeanajoiaaWTab
import Derived.RegionTactic
import Derived.Test.YtochgjeanajoiaaM2w0
import Derived.Lib.FrozenHead
import Derived.Lib.ConvBytes
namespace Go.Proofs.Ytochgjeanajoiaa.HA
open Go.RowKit Go.Proofs.YtochgjeanajoiaaW.PrintWords Go.Proofs.YtochgjeanajoiaaW.PrintLast
set_option linter.unusedVariables false
set_option linter.unusedSimpArgs false

def mark : List Bool → List Nat → List Bool → List Bool
  | l, [], _ => l
  | l, _ :: _, [] => l
  | l, i :: rem, b :: bs => mark (if b then l.set i true else l) rem bs
theorem mark_set (i : Nat) : ∀ (rem : List Nat) (bs l : List Bool), mark (l.set i true) rem bs = (mark l rem bs).set i true
  | [], _, _ => by simp [mark]
  | _ :: _, [], _ => by simp [mark]
  | j :: rem, b :: bs, l => by
    unfold mark
    cases b
    · exact mark_set i rem bs l
    · simp only [if_true]
      by_cases e : i = j
      · subst e
        rw [List.set_set]
        rw [mark_set i rem bs l, List.set_set]
      · rw [List.set_comm _ _ e, mark_set i rem bs (l.set j true)]
theorem mark_step : ∀ (rem : List Nat) (bs l : List Bool) (k i : Nat), rem[k]? = some i → k < bs.length → mark l rem (bs.set k true) = (mark l rem bs).set i true
  | [], _, _, _, _, h, _ => by simp at h
  | _ :: _, [], _, _, _, _, h => by simp at h
  | j :: rem, b :: bs, l, 0, i, h, _ => by
    simp only [List.getElem?_cons_zero, Option.some.injEq] at h
    subst h
    simp only [List.set_cons_zero]
    unfold mark
    cases b
    · simpa using mark_set j rem bs l
    · simp only [if_true]
      rw [mark_set, List.set_set]
  | j :: rem, b :: bs, l, k + 1, i, h, hk => by
    simp only [List.getElem?_cons_succ] at h
    simp only [List.set_cons_succ]
    unfold mark
    exact mark_step rem bs _ k i h (by simpa using hk)
theorem mark_length : ∀ (rem : List Nat) (bs l : List Bool), (mark l rem bs).length = l.length
  | [], _, _ => by simp [mark]
  | _ :: _, [], _ => by simp [mark]
  | j :: rem, b :: bs, l => by unfold mark; rw [mark_length rem bs]; split <;> simp
def allBits : Nat → List (List Bool)
  | 0 => [[]]
  | n + 1 => (allBits n).flatMap fun bs => [false :: bs, true :: bs]
theorem mem_allBits : ∀ bs : List Bool, bs ∈ allBits bs.length
  | [] => by simp [allBits]
  | b :: bs => by
    simp only [List.length_cons, allBits, List.mem_flatMap]
    exact ⟨bs, mem_allBits bs, by cases b <;> simp⟩
/-- Those of rem that have come up had what they wait for. -/
def closedBits (T : List (List Nat × List Nat)) (l : List Bool) (rem : List Nat) (bs : List Bool) : Bool :=
  (rem.zip bs).all fun p => !p.2 || match T[p.1]? with | some r => r.1.all (fun j => l.getD j false) | none => false
/-- Until all of rem have come up, something of rem may come up, and nothing else may. -/
def calmT (T : List (List Nat × List Nat)) (l1 l2 : List Bool) (rem : List Nat) : Bool :=
  decide rem.Nodup && (l1.length == T.length) && rem.all (fun i => !l1.getD i true) && (mark l1 rem (rem.map fun _ => true) == l2) &&
  (allBits rem.length).all fun bs => let l := mark l1 rem bs; !closedBits T l rem bs || bs.all id || (!(readyT T l).isEmpty && (readyT T l).all fun i => (rem.zip bs).any fun p => p.1 == i && !p.2)
theorem mark_some (i : Nat) : ∀ (rem : List Nat) (bs l : List Bool), (mark l rem bs).getD i false = true → l.getD i true = false → ∃ k : Nat, rem[k]? = some i ∧ bs[k]? = some true
  | [], bs, l, h, h0 => by
    simp only [mark] at h
    simp only [List.getD_eq_getElem?_getD] at h h0
    cases e : l[i]? <;> rw [e] at h h0 <;> simp at h h0
    rw [h] at h0; cases h0
  | _ :: _, [], l, h, h0 => by
    simp only [mark] at h
    simp only [List.getD_eq_getElem?_getD] at h h0
    cases e : l[i]? <;> rw [e] at h h0 <;> simp at h h0
    rw [h] at h0; cases h0
  | j :: rem, b :: bs, l, h, h0 => by
    unfold mark at h
    cases b
    · obtain ⟨k, h1, h2⟩ := mark_some i rem bs l (by simpa using h) h0
      exact ⟨k + 1, by simpa using h1, by simpa using h2⟩
    · by_cases e : j = i
      · exact ⟨0, by simp [e], rfl⟩
      · obtain ⟨k, h1, h2⟩ := mark_some i rem bs (l.set j true) (by simpa using h) (by
          simpa [List.getD_eq_getElem?_getD, List.getElem?_set, e] using h0)
        exact ⟨k + 1, by simpa using h1, by simpa using h2⟩
section
variable {P : Program} {ops : Array Oper} {Q : Exit → Act → World → Prop} {md : Region.Mode} {S : World → Prop} {ds : List Nat}
theorem closed_mono {T : List (List Nat × List Nat)} {rem : List Nat} {bs : List Bool} {l : List Bool} (i : Nat) (h : closedBits T l rem bs = true) : closedBits T (l.set i true) rem bs = true := by
  unfold closedBits at *
  rw [List.all_eq_true] at *
  intro p hp
  have := h p hp
  cases hb : p.2
  · rfl
  · rw [hb] at this
    cases hT : T[p.1]? with
    | none => rw [hT] at this; exact this
    | some r =>
      rw [hT] at this
      simp only [Bool.not_true, Bool.false_or] at this ⊢
      rw [List.all_eq_true] at *
      intro j hj
      have h1 := this j hj
      by_cases e : i = j
      · subst e
        simp only [List.getD_eq_getElem?_getD, List.getElem?_set] at h1 ⊢
        by_cases hl : i < l.length
        · simp [hl]
        · simp [List.getElem?_eq_none (Nat.le_of_not_lt hl)] at h1
      · simpa [List.getD_eq_getElem?_getD, List.getElem?_set, e] using h1
theorem zip_get {α β : Type} : ∀ (xs : List α) (ys : List β) (p : α × β), p ∈ xs.zip ys → ∃ k : Nat, xs[k]? = some p.1 ∧ ys[k]? = some p.2
  | [], _, p, h => by simp at h
  | _ :: _, [], p, h => by simp at h
  | x :: xs, y :: ys, p, h => by
    rw [List.zip_cons_cons, List.mem_cons] at h
    rcases h with rfl | h
    · exact ⟨0, rfl, rfl⟩
    · obtain ⟨k, h1, h2⟩ := zip_get xs ys p h
      exact ⟨k + 1, by simpa using h1, by simpa using h2⟩
theorem get_zip {α β : Type} {xs : List α} {ys : List β} {k : Nat} {x : α} {y : β} (h1 : xs[k]? = some x) (h2 : ys[k]? = some y) : (xs.zip ys)[k]? = some (x, y) := by
  rw [List.getElem?_zip_eq_some]; exact ⟨h1, h2⟩
/-- rem: what may come up in several orders; I: what holds when those of rem whose bit is set have come up. -/
theorem calm_ {fuel k : Nat} {T : Bool × List (List Nat × List Nat)} (hT : rtab md ops = T) (rem : List Nat) (l1 l2 : Array Bool) (hc : calmT T.2 l1.toList l2.toList rem = true) (hfuel : fuel = k + rem.length)
    (I : Act → List Bool → Act → World → Prop) {a0 : Act} {w : World} (h0 : I a0 (rem.map fun _ => false) a0 w)
    (hstep : ∀ (j i : Nat) (r : List Nat × List Nat), rem[j]? = some i → T.2[i]? = some r → ∀ (bs : List Bool) (a : Act) (w : World), bs[j]? = some false → (∀ (k i' : Nat), rem[k]? = some i' → r.1.contains i' = true → bs[k]? = some true) → I a0 bs a w →
      wpOp P ops Q i (fun a' w' => (i ∉ ds → S w → S w') ∧ I a0 (bs.set j true) a' w') a w)
    (hend : ∀ a w, I a0 (rem.map fun _ => true) a w → wpAnyLast P md ops Q S ds k l2 a w) : wpAnyLast P md ops Q S ds fuel l1 a0 w := by
  simp only [calmT, Bool.and_eq_true, beq_iff_eq, decide_eq_true_eq] at hc
  obtain ⟨⟨⟨⟨c0, c1⟩, c2⟩, c3⟩, c4⟩ := hc
  have main : ∀ (m : Nat) (bs : List Bool) (a : Act) (w : World) (l : Array Bool), bs.length = rem.length → (bs.filter (fun b => !b)).length = m → l.toList = mark l1.toList rem bs → closedBits T.2 l.toList rem bs = true → I a0 bs a w → wpAnyLast P md ops Q S ds (k + m) l a w := by
    intro m
    induction m with
    | zero =>
      intro bs a w l hl hm he hcl hI
      have hall : bs = rem.map fun _ => true := by
        apply List.ext_getElem?
        intro j
        rw [List.getElem?_map]
        rcases hb : bs[j]? with _ | b
        · have : rem[j]? = none := by rw [List.getElem?_eq_none_iff] at hb ⊢; omega
          rw [this]; rfl
        · have hjl : j < rem.length := by rw [← hl]; exact (List.getElem?_eq_some_iff.1 hb).1
          rw [List.getElem?_eq_getElem hjl]
          simp only [Option.map_some]
          cases b
          · have : (bs.filter (fun b => !b)) = [] := List.eq_nil_of_length_eq_zero hm
            have hmem : false ∈ bs.filter (fun b => !b) := List.mem_filter.2 ⟨List.mem_of_getElem? hb, rfl⟩
            rw [this] at hmem; cases hmem
          · rfl
      subst hall
      have : l = l2 := by
        apply Array.ext'
        rw [he, c3]
      subst this
      exact hend a w hI
    | succ m ih =>
      intro bs a w l hl hm he hcl hI
      have h4 := List.all_eq_true.1 c4 bs (by rw [← hl]; exact mem_allBits bs)
      have hnall : bs.all id = false := by
        cases h : bs.all id
        · rfl
        · exfalso
          have : bs.filter (fun b => !b) = [] := by
            rw [List.filter_eq_nil_iff]
            intro b hb
            have := List.all_eq_true.1 h b hb
            simp only [id] at this
            simp [this]
          rw [this] at hm; cases hm
      rw [he] at hcl
      simp only [hcl, Bool.not_true, Bool.false_or, hnall, Bool.and_eq_true] at h4
      obtain ⟨h5, h6⟩ := h4
      have hready : Region.ready md ops l = readyT T.2 (mark l1.toList rem bs) := by rw [ready_eq, hT, he]
      refine ⟨fun h => ?_, fun i hi => ?_⟩
      · rw [hready] at h; rw [h] at h5; cases h5
      · rw [hready] at hi
        have h7 := List.all_eq_true.1 h6 i hi
        obtain ⟨p, hp, hq⟩ := List.any_eq_true.1 h7
        simp only [Bool.and_eq_true, beq_iff_eq, Bool.not_eq_true'] at hq
        obtain ⟨rfl, hq2⟩ := hq
        obtain ⟨j, hj1, hj2⟩ := zip_get _ _ _ hp
        rw [hq2] at hj2
        have hra : readyAt T.2 (mark l1.toList rem bs) p.1 = true := (List.mem_filter.1 hi).2
        unfold readyAt at hra
        rw [Bool.and_eq_true] at hra
        rcases hr : T.2[p.1]? with _ | r
        · rw [hr] at hra; cases hra.2
        · rw [hr] at hra
          have hjb : j < bs.length := (List.getElem?_eq_some_iff.1 hj2).1
          have hneed : ∀ (k i' : Nat), rem[k]? = some i' → r.1.contains i' = true → bs[k]? = some true := by
            intro k i' hk hc
            have hx := List.all_eq_true.1 hra.2 i' (by simpa using hc)
            have h0 := List.all_eq_true.1 c2 i' (List.mem_of_getElem? hk)
            obtain ⟨k', e1, e2⟩ := mark_some i' rem bs l1.toList hx (by simpa using h0)
            have : k' = k := by
              obtain ⟨a1, a2⟩ := List.getElem?_eq_some_iff.1 hk
              obtain ⟨b1, b2⟩ := List.getElem?_eq_some_iff.1 e1
              exact (List.getElem_inj c0).1 (b2.trans a2.symm)
            rw [← this]; exact e2
          refine wpOp_mono (fun a' w' h => ⟨h.1, ?_⟩) (hstep j p.1 r hj1 hr bs a w hj2 hneed hI)
          refine ih (bs.set j true) a' w' _ (by simpa using hl) ?_ ?_ ?_ h.2
          · have : ∀ (bs : List Bool) (j : Nat), bs[j]? = some false → ((bs.set j true).filter (fun b => !b)).length + 1 = (bs.filter (fun b => !b)).length := by
              intro bs
              induction bs with
              | nil => intro j h; simp at h
              | cons b bs ih2 =>
                intro j h
                cases j with
                | zero =>
                  simp only [List.getElem?_cons_zero, Option.some.injEq] at h
                  subst h
                  simp
                | succ j =>
                  simp only [List.getElem?_cons_succ] at h
                  have := ih2 j h
                  simp only [List.set_cons_succ, List.filter_cons]
                  cases b <;> simp <;> omega
            have := this bs j hj2
            omega
          · rw [Array.toList_setIfInBounds, he, mark_step rem bs _ j p.1 hj1 hjb]
          · rw [Array.toList_setIfInBounds, he]
            have hcl2 := closed_mono (T := T.2) p.1 hcl
            unfold closedBits at hcl2 ⊢
            rw [List.all_eq_true] at hcl2 ⊢
            intro q hqm
            obtain ⟨j', e1, e2⟩ := zip_get _ _ _ hqm
            by_cases ej : j = j'
            · subst ej
              rw [hj1] at e1
              have : q.1 = p.1 := (Option.some.inj e1).symm
              rw [this, hr]
              rw [Bool.or_eq_true]
              right
              simp only
              rw [List.all_eq_true]
              intro x hx
              have := List.all_eq_true.1 hra.2 x hx
              by_cases e : p.1 = x
              · subst e
                simp only [List.getD_eq_getElem?_getD, List.getElem?_set] at this ⊢
                by_cases hlt : p.1 < (mark l1.toList rem bs).length
                · simp [hlt]
                · simp [List.getElem?_eq_none (Nat.le_of_not_lt hlt)] at this
              · simpa [List.getD_eq_getElem?_getD, List.getElem?_set, e] using this
            · rw [List.getElem?_set_ne ej] at e2
              exact hcl2 q (List.mem_of_getElem? (get_zip e1 e2))
  have hz : ((rem.map fun _ => false).filter (fun b => !b)).length = rem.length := by
    rw [List.filter_eq_self.2 (by simp)]; simp
  have hm0 : ∀ (rem : List Nat) (l : List Bool), mark l rem (rem.map fun _ => false) = l := by
    intro rem
    induction rem with
    | nil => intro l; simp [mark]
    | cons i rem ih => intro l; simp only [List.map_cons, mark]; exact ih l
  rw [hfuel]
  refine main rem.length _ a0 w l1 (by simp) hz (hm0 rem _).symm ?_ h0
  unfold closedBits
  rw [List.all_eq_true]
  intro p hp
  obtain ⟨j, _, h2⟩ := zip_get _ _ _ hp
  rw [List.getElem?_map] at h2
  rcases hr : rem[j]? with _ | x
  · rw [hr] at h2; cases h2
  · rw [hr] at h2
    simp only [Option.map_some, Option.some.injEq] at h2
    rw [← h2]; rfl
end
/-! ### slots that may have been written -/
def putIf (c : Bool) (t : Tmp) (v : Value) (a : Act) : Act := if c = true then a.put (some t) v else a
theorem putIf_true (t : Tmp) (v : Value) (a : Act) : putIf true t v a = a.put (some t) v := rfl
theorem putIf_false (t : Tmp) (v : Value) (a : Act) : putIf false t v a = a := rfl
theorem put_putIf {c : Bool} {t s : Tmp} {u v : Value} {a : Act} (h : s ≠ t) : (putIf c t v a).put (some s) u = putIf c t v (a.put (some s) u) := by
  cases c
  · rfl
  · simp only [putIf_true, Act.put]
    rw [Array.setIfInBounds_comm _ _ h]
theorem eval_putIf_ne {c : Bool} {t s : Tmp} {v : Value} {a : Act} (h : s ≠ t) : (putIf c t v a).eval (.tmp s) = a.eval (.tmp s) := by
  cases c
  · rfl
  · simp only [putIf_true, Act.put, Act.eval]
    simp [Array.getD_eq_getD_getElem?, Array.getElem?_setIfInBounds_ne (Ne.symm h)]
theorem size_putIf {c : Bool} {t : Tmp} {v : Value} {a : Act} : (putIf c t v a).tmps.size = a.tmps.size := by
  cases c
  · rfl
  · simp [putIf_true, Act.put]
theorem eval_putIf_eq {t : Tmp} {v : Value} {a : Act} (h : t < a.tmps.size) : (putIf true t v a).eval (.tmp t) = v := by
  simp [putIf_true, Act.put, Act.eval, Array.getD_eq_getD_getElem?, h]
end Go.Proofs.Ytochgjeanajoiaa.HA
namespace Go.Proofs.Ytochgjeanajoiaa.HA
open Go.RowKit Go.Proofs.YtochgjeanajoiaaW.PrintWords Go.Proofs.YtochgjeanajoiaaW.PrintLast Go.Proofs.YtochgjeanajoiaaW.PrintMore
set_option linter.unusedVariables false
set_option linter.unusedSimpArgs false

/-- Stores along a row whose frozen range lies behind its cells (or nowhere). -/
theorem run_storeCells_mark (P : Program) (g o : Nat) (t : TypeId) (fz : Nat × Nat) : ∀ (vs : List Value) (i : Nat) (cur : Array Value) (w : World), w.heap[g]? = some (.cells cur t fz) → (fz = (0, 0) ∨ cur.size ≤ fz.1) → o + i + vs.length ≤ cur.size → (∀ v ∈ vs, v.oneCell' = true) →
    (storeCells ⟨g, o, none⟩ vs i).run P w = .ok () (w.setRow g (cur.toList.take (o + i) ++ vs ++ cur.toList.drop (o + i + vs.length)).toArray)
  | [], i, cur, w, hg, _, _, _ => by
    simp only [storeCells, List.append_nil, List.length_nil, Nat.add_zero, List.take_append_drop, Array.toArray_toList]
    rw [setRow_self w g cur t fz hg]
    rfl
  | v :: rest, i, cur, w, hg, hfz, hl, h1 => by
    have hi : o + i < cur.size := by simp at hl; omega
    have hadd : (⟨g, o, none⟩ : Addr).add i = ⟨g, o + i, none⟩ := by unfold Addr.add; split <;> simp_all
    have hcell : w.cell? ⟨g, o + i, none⟩ = some cur[o + i] := by simp [World.cell?, hg, hi]
    have hfro : w.frozen? ⟨g, o + i, none⟩ = false := by
      rcases hfz with rfl | hfz
      · simp [World.frozen?, hg]
      · obtain ⟨lo, hi'⟩ := fz
        simp only [World.frozen?, hg, Bool.and_eq_false_iff, decide_eq_false_iff_not]
        left
        simp only at hfz
        omega
    have hst : (store ((⟨g, o, none⟩ : Addr).add i) v).run P w = .ok () (w.setRow g (cur.setIfInBounds (o + i) v)) := by
      rw [hadd, run_store P w _ v _ (h1 v (by simp)), hcell]
      simp [hfro, setCell_eq_setRow w g (o + i) cur t fz v hg]
    have ih := run_storeCells_mark P g o t fz rest (i + 1) (cur.setIfInBounds (o + i) v) (w.setRow g (cur.setIfInBounds (o + i) v)) (setRow_heap w g cur _ t _ hg) (by rw [Array.size_setIfInBounds]; exact hfz) (by simp at hl ⊢; omega) (fun x hx => h1 x (by simp [hx]))
    simp only [storeCells, Sem.run_bind, hst, Result.andThen_ok, ih, setRow_setRow]
    congr 3
    have e := list_seg_step cur.toList (o + i) v rest (by simp at hl ⊢; omega)
    simpa [Array.toList_setIfInBounds, Nat.add_assoc] using e

/-- A row of bytes of the call's own; its frozen range lies behind its cells. -/
def BRow (base : Nat) (W : World) (v : Value) (l : List Int) : Prop :=
  ∃ g cap cur fz, v = .slice (some ⟨g, 0, none⟩) l.length cap ∧ base ≤ g ∧ W.heap[g]? = some (.cells cur 5 fz) ∧ (fz = (0, 0) ∨ cur.size ≤ fz.1) ∧ l.length ≤ cap ∧ cap ≤ maxLen ∧ cur.size = cap ∧ cur.toList.take l.length = nums .u8 l
theorem BRow.below {base : Nat} {W W1 : World} {v : Value} {l : List Int} (h : BRow base W v l) (hb : Below W.heap.size W W1) : BRow base W1 v l := by
  obtain ⟨g, cap, cur, fz, h1, h2, h3, h4⟩ := h
  exact ⟨g, cap, cur, fz, h1, h2, blk_below h3 hb, h4⟩
theorem BRow.lt {base : Nat} {W : World} {v : Value} {l : List Int} (h : BRow base W v l) : base ≤ W.heap.size := by
  obtain ⟨g, cap, cur, fz, h1, h2, h3, h4⟩ := h
  have := blk_lt h3
  omega
theorem BRow.own {base : Nat} {W : World} {v : Value} {l : List Int} (h : BRow base W v l) (k : Nat) (hk : v.ownBlock = some k) : base ≤ k := by
  obtain ⟨g, cap, cur, fz, rfl, h2, h3, h4⟩ := h
  have : g = k := by simpa [Value.ownBlock] using hk
  omega
theorem BRow.ne_blk {base g t : Nat} {W : World} {v : Value} {l : List Int} {cs : Array Value} (h : BRow base W v l) (hb : W.heap[g]? = some (.cells cs t (0, 0))) (hne : 5 ≠ t) : some g ≠ v.ownBlock := by
  obtain ⟨g', cap, cur, fz, rfl, h2, h3, h4⟩ := h
  intro e
  have : g = g' := by simpa [Value.ownBlock] using e
  subst this
  rw [hb] at h3
  injection h3 with h3
  injection h3 with _ ht
  exact hne ht.symm
theorem BRow.slice {base : Nat} {W : World} {v : Value} {l : List Int} (h : BRow base W v l) : ∃ A c, v = .slice A l.length c := by
  obtain ⟨g, cap, cur, fz, rfl, h2, h3, h4⟩ := h
  exact ⟨_, _, rfl⟩
theorem BRow.conv {base : Nat} {W : World} (s : ByteArray) (hb : base ≤ W.heap.size) (hs : s.size ≤ maxLen) : BRow base (Lib.bytesWorld W 5 s) (.slice (some ⟨W.heap.size, 0, none⟩) (bytesOf s).length (grownCap W s.size 0 5)) (bytesOf s) := by
  have hge := grownCap_ge W s.size 0 5
  have hsz : s.data.size = s.size := rfl
  refine ⟨W.heap.size, grownCap W s.size 0 5, Lib.bytesCells W 5 s, _, rfl, hb, Lib.bytesWorld_at_new W 5 s, .inr (Nat.le_refl _), by rw [bytesOf_length]; exact hge, grownCap_le_maxLen W _ _ _ hs, ?_, ?_⟩
  · simp [Lib.bytesCells, hsz]; omega
  · simp only [Lib.bytesCells, Array.toList_append, Array.toList_map, bytesOf_length]
    rw [List.take_append_of_le_length (by simp [hsz]), List.take_of_length_le (by simp [hsz])]
    simp [nums, bytesOf]
theorem below_bytes (W : World) (s : ByteArray) : Below W.heap.size W (Lib.bytesWorld W 5 s) :=
  ⟨rfl, rfl, rfl, by rw [Lib.bytesWorld_size]; omega, fun j hj => Lib.bytesWorld_at_old W 5 s j hj⟩
theorem BRow.append {P : Program} {W : World} {base : Nat} {t u ty : TypeId} (ht : P.underlying t = some (.slice 5)) (hu : P.underlying u = some .string) {i0 : TypeInfo} (hi : P.info? 5 = some i0) (hz0 : i0.zero = some (.int .u8 0)) (hz1 : i0.size = 1) (hz2 : i0.bytes = 1)
    {v : Value} {l : List Int} (h : BRow base W v l) (y : ByteArray) (hbase : base ≤ W.heap.size) (hl : l.length + y.size ≤ 140737488355328) :
    ∃ v' w', (Builtin.append_ #[t, u] ty #[v, .string y]).run P W = .ok v' w' ∧ BRow base w' v' (l ++ bytesOf y) ∧ W.grownBy w' v.ownBlock := by
  obtain ⟨g, cap, cur, fz, rfl, hbg, hg, hfz, hnc, hcm, hcs, htake⟩ := h
  have hc : nums .u8 (l ++ bytesOf y) = nums .u8 l ++ Lib.strCells y := by
    rw [nums_append]
    congr 1
    simp [nums, bytesOf, Lib.strCells]
  have hlen : (l ++ bytesOf y).length = l.length + y.size := by rw [List.length_append, bytesOf_length]
  have hnl : (nums .u8 l).length = l.length := nums_length _ _
  by_cases hroom : l.length + y.size ≤ cap
  · have hf := Lib.run_firstCells_string (P := P) W 1 y
    have hst := run_storeCells_mark P g l.length 5 fz (Lib.strCells y) 0 cur W hg hfz (by simpa [Lib.strCells_length] using (by omega : l.length + y.size ≤ cur.size)) (Lib.strCells_oneCell y)
    simp only [Nat.add_zero, Lib.strCells_length] at hst
    have hr : (Builtin.append_ #[t, u] ty #[.slice (some ⟨g, 0, none⟩) l.length cap, .string y]).run P W = .ok (.slice (some ⟨g, 0, none⟩) (l.length + y.size) cap) (W.setRow g (cur.toList.take l.length ++ Lib.strCells y ++ cur.toList.drop (l.length + y.size)).toArray) := by
      simp [Builtin.append_, run_underlying ht, run_underlying hu, sizeOf, typeInfo, hi, hz1, Builtin.lenOf, hroom, hf, Addr.add_lit, hst]
    have hsz : (cur.toList.take l.length ++ Lib.strCells y ++ cur.toList.drop (l.length + y.size)).length = cap := by
      simp only [List.length_append, List.length_take, List.length_drop, Array.length_toList, Lib.strCells_length]
      omega
    refine ⟨_, _, hr, ⟨g, cap, _, fz, by rw [hlen], hbg, setRow_heap W g cur _ 5 _ hg, ?_, by rw [hlen]; exact hroom, hcm, by simpa using hsz, ?_⟩, ⟨rfl, rfl, rfl, by simp, fun k _ hk => setRow_other W g k _ (fun e => hk (by simp [Value.ownBlock, e]))⟩⟩
    · rcases hfz with h | h
      · exact .inl h
      · refine .inr ?_
        rw [List.size_toArray, hsz]; omega
    · rw [htake, hlen, hc]
      refine Eq.trans (List.take_append_of_le_length ?_) (List.take_of_length_le ?_)
      · rw [List.length_append, hnl, Lib.strCells_length]; exact Nat.le_refl _
      · rw [List.length_append, hnl, Lib.strCells_length]; exact Nat.le_refl _
  · have hcell : ∀ j x, (nums .u8 l)[j]? = some x → W.cell? ((⟨g, 0, none⟩ : Addr).add j) = some x := by
      intro j x hx
      rw [add_plain]
      rw [cell_of_row W g j cur 5 fz hg, ← Array.getElem?_toList]
      rw [← htake, List.getElem?_take] at hx
      split at hx
      · exact hx
      · cases hx
    have hfit : Builtin.nextslicecap (l.length + y.size) cap * i0.bytes ≤ 281474976710656 := by
      rw [hz2, Nat.mul_one]
      have := nextslicecap_le (show cap < l.length + y.size by omega)
      omega
    have hr := Lib.run_append_grow_string (P := P) (w := W) t u ty 5 i0 (.int .u8 0) ht hu hi hz0 ⟨g, 0, none⟩ l.length cap (nums .u8 l) (by rw [hz1, hnl, Nat.mul_one]) hcell y (by omega) (by omega) hfit
    have hge := grownCap_ge W (l.length + y.size) cap 5
    refine ⟨_, _, hr, ⟨W.heap.size, _, _, (0, 0), by rw [hlen], hbase, heap_alloc_new W.drew _, .inl rfl, by rw [hlen]; exact hge, grownCap_le_maxLen W _ _ _ (by simp only [maxLen]; omega), ?_, ?_⟩, ⟨rfl, rfl, rfl, by simp, fun k hk _ => heap_alloc_old W.drew _ hk⟩⟩
    · simp [Lib.strCells_length, hnl, Builtin.zeroCells, Value.cells]
      omega
    · rw [hc]
      simp [hnl, Lib.strCells_length, List.take_append, hlen]
      exact List.take_of_length_le (by rw [hnl]; omega)
theorem BRow.string {P : Program} {w : World} {base : Nat} {src dst e : TypeId} {v : Value} {l : List Int} (hs : P.underlying src = some (.slice e)) (he : P.underlying e = some (.int .u8)) (hd : P.underlying dst = some .string)
    (h : BRow base w v l) : (convert src dst v).run P w = .ok (.string (strOfNums l)) w := by
  obtain ⟨g, cap, cur, fz, rfl, hbg, hg, hfz, hnc, hcm, hcs, htake⟩ := h
  refine run_convert_bytes_arg w src e hs he g 0 l.length cap l rfl (fun i hi => ?_) dst hd
  rw [cell_of_row w g (0 + i) cur 5 fz hg, ← Array.getElem?_toList, Nat.zero_add]
  have : (cur.toList.take l.length)[i]? = some (.int .u8 (l.getD i 0)) := by rw [htake]; simp [nums, List.getElem?_eq_getElem hi, List.getD_eq_getElem?_getD]
  rwa [List.getElem?_take, if_pos hi] at this
section
variable {P : Program} {ops : Array Oper} {rest : List Oper} {o : Oper} {a : Act} {Q : Exit → Act → World → Prop}
/-- append(b, y...) at the operation. -/
theorem brow_append {w0 W : World} (base : Nat) (hgd : o.guard = none) (s x : Operand) (t u : TypeId)
    (ho : o.op = .call { callee := .builtin .append, args := #[s, x], argTypes := #[t, u] })
    (ht : P.underlying t = some (.slice 5)) (hu : P.underlying u = some .string) (hinfo : (P.info? 5).map (fun i => (i.zero, i.size, i.bytes)) = some (some (.int .u8 0), 1, 1))
    (v : Value) (xs : List Int) (y : ByteArray) (hs : a.eval s = v) (hx : a.eval x = .string y)
    (HO : BRow base W v xs) (HB : Below base w0 W) (hbase : base ≤ W.heap.size) (hl : xs.length + y.size ≤ 140737488355328)
    (h : ∀ v1 w1, BRow base w1 v1 (xs ++ bytesOf y) → Below base w0 w1 → wpList P ops Q rest (a.put o.dst v1) w1) :
    wpList P ops Q (o :: rest) a W := by
  obtain ⟨i0, hi, hzz⟩ := Option.map_eq_some_iff.1 hinfo
  simp only [Prod.mk.injEq] at hzz
  obtain ⟨hz0, hz1, hz2⟩ := hzz
  refine wpList_plain hgd fun K hK => ?_
  obtain ⟨v', w', hr, hown, hg⟩ := HO.append (P := P) (ty := o.type) ht hu hi hz0 hz1 hz2 y hbase hl
  unfold Oper.wp execOp
  simp only [ho, resolve, invoke, builtin, Sem.run_bind, Sem.run_pure, Result.andThen_ok, List.map_toArray, List.map_cons, List.map_nil, hs, hx, hr]
  exact hK _ _ (h v' w' hown (HB.grown hg hbase (fun k hk => HO.own k hk)))
/-- The same as a step of a region that draws its order. -/
theorem step_brow {P : Program} {ops : Array Oper} {o : Oper} {a : Act} {K : Act → World → Prop} {Q : Exit → Act → World → Prop} {E : Prop} {w0 W : World} (base : Nat) (hgd : o.guard = none) (s x : Operand) (t u : TypeId)
    (ho : o.op = .call { callee := .builtin .append, args := #[s, x], argTypes := #[t, u] })
    (ht : P.underlying t = some (.slice 5)) (hu : P.underlying u = some .string) (hinfo : (P.info? 5).map (fun i => (i.zero, i.size, i.bytes)) = some (some (.int .u8 0), 1, 1))
    (v : Value) (xs : List Int) (y : ByteArray) (hs : a.eval s = v) (hx : a.eval x = .string y)
    (HO : BRow base W v xs) (HB : Below base w0 W) (hbase : base ≤ W.heap.size) (hl : xs.length + y.size ≤ 140737488355328)
    (h : ∀ v1 w1, BRow base w1 v1 (xs ++ bytesOf y) → Below base w0 w1 → W.grownBy w1 v.ownBlock → K (a.put o.dst v1) w1) :
    if Region.wanted o (yielded ops a.tmps) = true then Oper.wp P o a W K Q else E := by
  have hw : Region.wanted o (yielded ops a.tmps) = true := by simp [Region.wanted, hgd]
  rw [if_pos hw]
  obtain ⟨i0, hi, hzz⟩ := Option.map_eq_some_iff.1 hinfo
  simp only [Prod.mk.injEq] at hzz
  obtain ⟨hz0, hz1, hz2⟩ := hzz
  obtain ⟨v', w', hr, hown, hg⟩ := HO.append (P := P) (ty := o.type) ht hu hi hz0 hz1 hz2 y hbase hl
  unfold Oper.wp execOp
  simp only [ho, resolve, invoke, builtin, Sem.run_bind, Sem.run_pure, Result.andThen_ok, List.map_toArray, List.map_cons, List.map_nil, hs, hx, hr]
  exact h v' w' hown (HB.grown hg hbase (fun k hk => HO.own k hk)) hg
end
end Go.Proofs.Ytochgjeanajoiaa.HA
