/-
The lists that Logs fills: a row of slices at a block of the call's own, no two of them over the same memory.
Conditions: none.
-/
import Derived.Test.YtkhiglincdognaaPAx1
namespace Go.Proofs.Ytkhiglincdognaa.PA
open Go.RowKit Go.Proofs.YtkhiglincdognaaW.PrintWords Go.Proofs.YtkhiglincdognaaW.PrintLast Go.Proofs.YtkhiglincdognaaW.PrintMore
set_option linter.unusedVariables false
set_option linter.unusedSimpArgs false

def LRo (vs : List Value) (own : Nat → Nat) (w : World) (base b n : Nat) (rows : List (List S50)) : Prop :=
  vs.length = n ∧ rows.length = n ∧ base ≤ b ∧ w.heap[b]? = some (.cells vs.toArray 47 (0, 0)) ∧ ∀ i, i < n → k50.R 50 w base (fun k => own k = i ∧ k ≠ b) (vs.getD i (.slice none 0 0)) (rows.getD i [])
def LR (w : World) (base b n : Nat) (rows : List (List S50)) : Prop := ∃ (vs : List Value) (own : Nat → Nat), LRo vs own w base b n rows
theorem LRo.at {vs : List Value} {own : Nat → Nat} {w : World} {base b n i : Nat} {rows : List (List S50)} {v : Value} (h : LRo vs own w base b n rows) (hi : i < n) (hc : w.cell? ⟨b, i, none⟩ = some v) : k50.R 50 w base (fun k => own k = i ∧ k ≠ b) v (rows.getD i []) := by
  obtain ⟨h1, h2, h3, h4, h5⟩ := h
  have hv : vs.getD i (.slice none 0 0) = v := by
    have e := (blk_cell h4 i).symm.trans hc
    simp [List.getElem?_eq_getElem (show i < vs.length by omega)] at e
    simp [List.getD_eq_getElem?_getD, List.getElem?_eq_getElem (show i < vs.length by omega), e]
  rw [← hv]
  exact h5 i hi
theorem LR.len {w : World} {base b n : Nat} {rows : List (List S50)} (h : LR w base b n rows) : rows.length = n := by
  obtain ⟨vs, own, h1, h2, h3, h4, h5⟩ := h; exact h2
theorem LR.lt {w : World} {base b n : Nat} {rows : List (List S50)} (h : LR w base b n rows) : b < w.heap.size := by
  obtain ⟨vs, own, h1, h2, h3, h4, h5⟩ := h; exact blk_lt h4
theorem LR.le {w : World} {base b n : Nat} {rows : List (List S50)} (h : LR w base b n rows) : base ≤ b := by
  obtain ⟨vs, own, h1, h2, h3, h4, h5⟩ := h; exact h3
theorem LR.blk {w : World} {base b n : Nat} {rows : List (List S50)} (h : LR w base b n rows) : ∃ cs, w.heap[b]? = some (.cells cs 47 (0, 0)) := by
  obtain ⟨vs, own, h1, h2, h3, h4, h5⟩ := h; exact ⟨_, h4⟩
theorem LR.made (w : World) (base n : Nat) (hb : base ≤ w.heap.size) : LR (w.alloc (.cells (List.replicate n (Value.slice none 0 0)).toArray 47)) base w.heap.size n (List.replicate n []) := by
  refine ⟨List.replicate n (.slice none 0 0), fun _ => 0, by simp, by simp, hb, heap_alloc_new w _, fun i hi => ?_⟩
  have e1 : (List.replicate n (Value.slice none 0 0)).getD i (.slice none 0 0) = .slice none 0 0 := by simp [List.getD_eq_getElem?_getD, List.getElem?_replicate]; split <;> rfl
  have e2 : (List.replicate n ([] : List S50)).getD i [] = [] := by simp [List.getD_eq_getElem?_getD, List.getElem?_replicate]; split <;> rfl
  rw [e1, e2]
  exact Kd.R_nil _ _ _ _ _
theorem LR.move {w w1 : World} {base b n : Nat} {rows : List (List S50)} (h : LR w base b n rows) (hm : ∀ k, k < w.heap.size → (∃ cs q, (q = 47 ∨ q = 50 ∨ q = 3) ∧ w.heap[k]? = some (.cells cs q (0, 0))) → w1.heap[k]? = w.heap[k]?) : LR w1 base b n rows := by
  obtain ⟨vs, own, h1, h2, h3, h4, h5⟩ := h
  refine ⟨vs, own, h1, h2, h3, (hm b (blk_lt h4) ⟨_, 47, .inl rfl, h4⟩).trans h4, fun i hi => ?_⟩
  refine Kd.R_mono (Kd.R_move (Kd.R_bound (h5 i hi)) (fun k hk => ?_)) (fun k hk => hk.1)
  obtain ⟨_, _, hlt, q, hq, cells, hc⟩ := hk
  refine hm k hlt ⟨cells, q, .inr ?_, hc⟩
  have : q ∈ [50, 3] := hq
  simpa using this
theorem LR.below {w w1 : World} {base b n : Nat} {rows : List (List S50)} (h : LR w base b n rows) (hb : Below w.heap.size w w1) : LR w1 base b n rows := h.move fun k hk _ => hb.block k hk
theorem LR.keep {w0 w w1 : World} {base b n : Nat} {rows : List (List S50)} {g : Nat} {cs : List Int} {p : Int} (h : LR w base b n rows) (hI : IsS61 w0 w g cs p) (hk : KeepBut w w1 g none) : LR w1 base b n rows := h.move fun k hk1 ⟨c1, q, hq, hc⟩ => hk.2 k hk1 (by
    rintro rfl
    obtain ⟨A0, c0, hb, _⟩ := hI
    rw [hb] at hc
    injection hc with hc
    injection hc with _ hc
    subst hc
    revert hq
    decide) (by simp)
theorem LR.cell {w : World} {base b n : Nat} {rows : List (List S50)} (h : LR w base b n rows) (i : Nat) (hi : i < n) : ∃ A c, w.cell? ⟨b, i, none⟩ = some (.slice A (rows.getD i []).length c) ∧ (rows.getD i []).length ≤ c ∧ w.frozen? ⟨b, i, none⟩ = false := by
  obtain ⟨vs, own, h1, h2, h3, h4, h5⟩ := h
  obtain ⟨A, c, e, hc, _⟩ := Kd.R_reads (h5 i hi)
  refine ⟨A, c, (blk_cell h4 i).trans ?_, hc, blk_frozen h4 i⟩
  rw [← e]
  simp [List.getD_eq_getElem?_getD, List.getElem?_eq_getElem (show i < vs.length by omega)]
/-- A row is exchanged for one over its own memory and what is new. -/
theorem LR.put {vs : List Value} {own : Nat → Nat} {w W w1 : World} {base b n i : Nat} {rows : List (List S50)} {v v1 : Value} {r1 : List S50} (h : LRo vs own w base b n rows) (hi : i < n) (hc : w.cell? ⟨b, i, none⟩ = some v) (hB : Below w.heap.size w W) (hg : W.grownBy w1 v.ownBlock)
    (hr1 : k50.R 50 w1 base (fun k => if k < w.heap.size then own k = i ∧ k ≠ b else True) v1 r1) : LR (w1.setCell ⟨b, i, none⟩ v1) base b n (rows.set i r1) := by
  have hri := h.at hi hc
  obtain ⟨h1, h2, h3, h4, h5⟩ := h
  have hvb : ∀ k, v.ownBlock = some k → own k = i ∧ k ≠ b ∧ k < w.heap.size := fun k hk => ⟨(hri.1 k hk).1, (hri.1 k hk).2, Kd.R_lt hri k hk⟩
  have hblt := blk_lt h4
  have hsz := hB.size
  have old : ∀ k, k < w.heap.size → some k ≠ v.ownBlock → w1.heap[k]? = w.heap[k]? := fun k hk hne => (hg.block k (by omega) hne).trans (hB.block k hk)
  have hb1 : w1.heap[b]? = some (.cells vs.toArray 47 (0, 0)) := (old b hblt (fun e => (hvb b e.symm).2.1 rfl)).trans h4
  refine ⟨vs.set i v1, fun k => if k < w.heap.size then own k else i, by simp [h1], by simp [h2], h3, ?_, fun j hj => ?_⟩
  · rw [blk_set hb1 i v1]; simp
  · have far : ∀ k, (fun k => (if k < w.heap.size then own k else i) = j ∧ k ≠ b) k → k ≠ b := fun k hk => hk.2
    by_cases hji : j = i
    · subst hji
      have e1 : (vs.set j v1).getD j (.slice none 0 0) = v1 := by simp [List.getD_eq_getElem?_getD, List.getElem?_set_self (show j < vs.length by omega)]
      have e2 : (rows.set j r1).getD j [] = r1 := by simp [List.getD_eq_getElem?_getD, List.getElem?_set_self (show j < rows.length by omega)]
      rw [e1, e2]
      have hbt : k50.R 50 w1 base (fun k => (if k < w.heap.size then own k = j ∧ k ≠ b else True) ∧ k ≠ b) v1 r1 := Kd.R_types hr1 hb1 (by decide)
      refine Kd.R_mono (Kd.R_far hbt (p := ⟨b, j, none⟩) (fun k hk => hk.2) v1) (fun k hk => ⟨?_, hk.2⟩)
      show (if k < w.heap.size then own k else j) = j
      split
      · rename_i hlt; have := hk.1; rw [if_pos hlt] at this; exact this.1
      · rfl
    · have e1 : (vs.set i v1).getD j (.slice none 0 0) = vs.getD j (.slice none 0 0) := by simp [List.getD_eq_getElem?_getD, List.getElem?_set_ne (Ne.symm hji)]
      have e2 : (rows.set i r1).getD j [] = rows.getD j [] := by simp [List.getD_eq_getElem?_getD, List.getElem?_set_ne (Ne.symm hji)]
      rw [e1, e2]
      have hj5 := Kd.R_bound (h5 j hj)
      have hm : k50.R 50 w1 base (fun k => (own k = j ∧ k ≠ b) ∧ k < w.heap.size) (vs.getD j (.slice none 0 0)) (rows.getD j []) :=
        Kd.R_move (Kd.R_mono hj5 (fun k hk => ⟨hk.1, hk.2.2.1⟩)) (fun k hk => old k hk.2 (fun e => hji ((hk.1.1).symm.trans (hvb k e.symm).1)))
      refine Kd.R_mono (Kd.R_far hm (p := ⟨b, i, none⟩) (fun k hk => hk.1.2) v1) (fun k hk => ⟨?_, hk.1.2⟩)
      show (if k < w.heap.size then own k else i) = j
      rw [if_pos hk.2]; exact hk.1.1
theorem LR.out {w : World} {base b n : Nat} {rows : List (List S50)} (h : LR w base b n rows) (hn : n ≤ maxLen) : Kd.R (Kd.slice 50 k50) 47 w base (fun _ => True) (.slice (some ⟨b, 0, none⟩) n n) rows := by
  obtain ⟨vs, own, h1, h2, h3, h4, h5⟩ := h
  refine ⟨fun _ _ => trivial, vs, ⟨by rw [h1, h2]; simp [Kd.slice], .inr ⟨b, n, vs.toArray, by rw [h2], h3, h4, by omega, hn, by simp [Kd.slice, h1], ?_⟩⟩, ?_, ?_⟩
  · rw [h2]; simp [Kd.slice, ← h1]
  · rw [h1, h2]; simp [Kd.slice]
  · intro j p hp
    have hj : j < n := by have := (List.getElem?_eq_some_iff.1 hp).1; omega
    have hr := h5 j hj
    have e2 : rows.getD j [] = p := by simp [List.getD_eq_getElem?_getD, hp]
    rw [e2] at hr
    have e1 : ((vs.drop (j * (Kd.slice 50 k50).sz)).take (Kd.slice 50 k50).sz) = [vs.getD j (.slice none 0 0)] := by
      have : (Kd.slice 50 k50).sz = 1 := rfl
      rw [this, Nat.mul_one, List.drop_eq_getElem_cons (show j < vs.length by omega), List.take_succ_cons, List.take_zero]
      simp [List.getD_eq_getElem?_getD, List.getElem?_eq_getElem (show j < vs.length by omega)]
    rw [e1]
    refine ⟨_, rfl, Kd.R_mono hr (fun k hk => ⟨trivial, fun e => hk.2 ?_⟩)⟩
    simpa [Value.ownBlock] using e
end Go.Proofs.Ytkhiglincdognaa.PA
