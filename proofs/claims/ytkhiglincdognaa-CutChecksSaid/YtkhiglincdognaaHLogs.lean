/-
The lists that Logs fills: a row of slices at a block of the call's own, no two of them over the same memory.
partsynccase.Case.Logs: what it computes; the steps of its rounds.
partsynccase.Case.Logs: its contract.
Conditions: as each theorem states.
-/
import Derived.Test.YtkhiglincdognaaPAx1
import Derived.Test.YtkhiglincdognaaPAx8
import Derived.WalkMore
import Derived.Deep.RegionLaw
import Derived.StillTailTactics
namespace Go.Proofs.Ytkhiglincdognaa.PA
open Go.RowKit Go.Proofs.YtkhiglincdognaaW.PrintWords Go.Proofs.YtkhiglincdognaaW.PrintLast Go.Proofs.YtkhiglincdognaaW.PrintMore
set_option linter.unusedVariables false
set_option linter.unusedSimpArgs false

def LRo (vs : List Value) (own : Nat → Nat) (w : World) (base b n : Nat) (rows : List (List S50)) : Prop :=
  vs.length = n ∧ rows.length = n ∧ base ≤ b ∧ w.heap[b]? = some (.cells vs.toArray 47 (0, 0)) ∧ ∀ i, i < n → k50.R 50 w base (fun k => own k = i ∧ k ≠ b) (vs.getD i (.slice none 0 0)) (rows.getD i [])
def LR (w : World) (base b n : Nat) (rows : List (List S50)) : Prop := ∃ (vs : List Value) (own : Nat → Nat), LRo vs own w base b n rows
theorem LRo.at {vs : List Value} {own : Nat → Nat} {w : World} {base b n i : Nat} {rows : List (List S50)} {v : Value} (h : LRo vs own w base b n rows) (hi : i < n) (hc : w.cell? ⟨b, i, none⟩ = some v) : k50.R 50 w base (fun k => own k = i ∧ k ≠ b) v (rows.getD i []) := by
  obtain ⟨h1, h2, h3, h4, h5⟩ := h
  have hv : vs.getD i (.slice none 0 0) = v := by
    have e := (blk_cell h4 i).symm.trans hc
    simp [List.getElem?_eq_getElem (show i < vs.length by omega)] at e
    simp [List.getD_eq_getElem?_getD, List.getElem?_eq_getElem (show i < vs.length by omega), e]
  rw [← hv]
  exact h5 i hi
theorem LR.len {w : World} {base b n : Nat} {rows : List (List S50)} (h : LR w base b n rows) : rows.length = n := by
  obtain ⟨vs, own, h1, h2, h3, h4, h5⟩ := h; exact h2
theorem LR.lt {w : World} {base b n : Nat} {rows : List (List S50)} (h : LR w base b n rows) : b < w.heap.size := by
  obtain ⟨vs, own, h1, h2, h3, h4, h5⟩ := h; exact blk_lt h4
theorem LR.le {w : World} {base b n : Nat} {rows : List (List S50)} (h : LR w base b n rows) : base ≤ b := by
  obtain ⟨vs, own, h1, h2, h3, h4, h5⟩ := h; exact h3
theorem LR.blk {w : World} {base b n : Nat} {rows : List (List S50)} (h : LR w base b n rows) : ∃ cs, w.heap[b]? = some (.cells cs 47 (0, 0)) := by
  obtain ⟨vs, own, h1, h2, h3, h4, h5⟩ := h; exact ⟨_, h4⟩
theorem LR.made (w : World) (base n : Nat) (hb : base ≤ w.heap.size) : LR (w.alloc (.cells (List.replicate n (Value.slice none 0 0)).toArray 47)) base w.heap.size n (List.replicate n []) := by
  refine ⟨List.replicate n (.slice none 0 0), fun _ => 0, by simp, by simp, hb, heap_alloc_new w _, fun i hi => ?_⟩
  have e1 : (List.replicate n (Value.slice none 0 0)).getD i (.slice none 0 0) = .slice none 0 0 := by simp [List.getD_eq_getElem?_getD, List.getElem?_replicate]; split <;> rfl
  have e2 : (List.replicate n ([] : List S50)).getD i [] = [] := by simp [List.getD_eq_getElem?_getD, List.getElem?_replicate]; split <;> rfl
  rw [e1, e2]
  exact Kd.R_nil _ _ _ _ _
theorem LR.move {w w1 : World} {base b n : Nat} {rows : List (List S50)} (h : LR w base b n rows) (hm : ∀ k, k < w.heap.size → (∃ cs q, (q = 47 ∨ q = 50 ∨ q = 3) ∧ w.heap[k]? = some (.cells cs q (0, 0))) → w1.heap[k]? = w.heap[k]?) : LR w1 base b n rows := by
  obtain ⟨vs, own, h1, h2, h3, h4, h5⟩ := h
  refine ⟨vs, own, h1, h2, h3, (hm b (blk_lt h4) ⟨_, 47, .inl rfl, h4⟩).trans h4, fun i hi => ?_⟩
  refine Kd.R_mono (Kd.R_move (Kd.R_bound (h5 i hi)) (fun k hk => ?_)) (fun k hk => hk.1)
  obtain ⟨_, _, hlt, q, hq, cells, hc⟩ := hk
  refine hm k hlt ⟨cells, q, .inr ?_, hc⟩
  have : q ∈ [50, 3] := hq
  simpa using this
theorem LR.below {w w1 : World} {base b n : Nat} {rows : List (List S50)} (h : LR w base b n rows) (hb : Below w.heap.size w w1) : LR w1 base b n rows := h.move fun k hk _ => hb.block k hk
theorem LR.keep {w0 w w1 : World} {base b n : Nat} {rows : List (List S50)} {g : Nat} {cs : List Int} {p : Int} (h : LR w base b n rows) (hI : IsS61 w0 w g cs p) (hk : KeepBut w w1 g none) : LR w1 base b n rows := h.move fun k hk1 ⟨c1, q, hq, hc⟩ => hk.2 k hk1 (by
    rintro rfl
    obtain ⟨A0, c0, hb, _⟩ := hI
    rw [hb] at hc
    injection hc with hc
    injection hc with _ hc
    subst hc
    revert hq
    decide) (by simp)
theorem LR.cell {w : World} {base b n : Nat} {rows : List (List S50)} (h : LR w base b n rows) (i : Nat) (hi : i < n) : ∃ A c, w.cell? ⟨b, i, none⟩ = some (.slice A (rows.getD i []).length c) ∧ (rows.getD i []).length ≤ c ∧ w.frozen? ⟨b, i, none⟩ = false := by
  obtain ⟨vs, own, h1, h2, h3, h4, h5⟩ := h
  obtain ⟨A, c, e, hc, _⟩ := Kd.R_reads (h5 i hi)
  refine ⟨A, c, (blk_cell h4 i).trans ?_, hc, blk_frozen h4 i⟩
  rw [← e]
  simp [List.getD_eq_getElem?_getD, List.getElem?_eq_getElem (show i < vs.length by omega)]
/-- A row is exchanged for one over its own memory and what is new. -/
theorem LR.put {vs : List Value} {own : Nat → Nat} {w W w1 : World} {base b n i : Nat} {rows : List (List S50)} {v v1 : Value} {r1 : List S50} (h : LRo vs own w base b n rows) (hi : i < n) (hc : w.cell? ⟨b, i, none⟩ = some v) (hB : Below w.heap.size w W) (hg : W.grownBy w1 v.ownBlock)
    (hr1 : k50.R 50 w1 base (fun k => if k < w.heap.size then own k = i ∧ k ≠ b else True) v1 r1) : LR (w1.setCell ⟨b, i, none⟩ v1) base b n (rows.set i r1) := by
  have hri := h.at hi hc
  obtain ⟨h1, h2, h3, h4, h5⟩ := h
  have hvb : ∀ k, v.ownBlock = some k → own k = i ∧ k ≠ b ∧ k < w.heap.size := fun k hk => ⟨(hri.1 k hk).1, (hri.1 k hk).2, Kd.R_lt hri k hk⟩
  have hblt := blk_lt h4
  have hsz := hB.size
  have old : ∀ k, k < w.heap.size → some k ≠ v.ownBlock → w1.heap[k]? = w.heap[k]? := fun k hk hne => (hg.block k (by omega) hne).trans (hB.block k hk)
  have hb1 : w1.heap[b]? = some (.cells vs.toArray 47 (0, 0)) := (old b hblt (fun e => (hvb b e.symm).2.1 rfl)).trans h4
  refine ⟨vs.set i v1, fun k => if k < w.heap.size then own k else i, by simp [h1], by simp [h2], h3, ?_, fun j hj => ?_⟩
  · rw [blk_set hb1 i v1]; simp
  · have far : ∀ k, (fun k => (if k < w.heap.size then own k else i) = j ∧ k ≠ b) k → k ≠ b := fun k hk => hk.2
    by_cases hji : j = i
    · subst hji
      have e1 : (vs.set j v1).getD j (.slice none 0 0) = v1 := by simp [List.getD_eq_getElem?_getD, List.getElem?_set_self (show j < vs.length by omega)]
      have e2 : (rows.set j r1).getD j [] = r1 := by simp [List.getD_eq_getElem?_getD, List.getElem?_set_self (show j < rows.length by omega)]
      rw [e1, e2]
      have hbt : k50.R 50 w1 base (fun k => (if k < w.heap.size then own k = j ∧ k ≠ b else True) ∧ k ≠ b) v1 r1 := Kd.R_types hr1 hb1 (by decide)
      refine Kd.R_mono (Kd.R_far hbt (p := ⟨b, j, none⟩) (fun k hk => hk.2) v1) (fun k hk => ⟨?_, hk.2⟩)
      show (if k < w.heap.size then own k else j) = j
      split
      · rename_i hlt; have := hk.1; rw [if_pos hlt] at this; exact this.1
      · rfl
    · have e1 : (vs.set i v1).getD j (.slice none 0 0) = vs.getD j (.slice none 0 0) := by simp [List.getD_eq_getElem?_getD, List.getElem?_set_ne (Ne.symm hji)]
      have e2 : (rows.set i r1).getD j [] = rows.getD j [] := by simp [List.getD_eq_getElem?_getD, List.getElem?_set_ne (Ne.symm hji)]
      rw [e1, e2]
      have hj5 := Kd.R_bound (h5 j hj)
      have hm : k50.R 50 w1 base (fun k => (own k = j ∧ k ≠ b) ∧ k < w.heap.size) (vs.getD j (.slice none 0 0)) (rows.getD j []) :=
        Kd.R_move (Kd.R_mono hj5 (fun k hk => ⟨hk.1, hk.2.2.1⟩)) (fun k hk => old k hk.2 (fun e => hji ((hk.1.1).symm.trans (hvb k e.symm).1)))
      refine Kd.R_mono (Kd.R_far hm (p := ⟨b, i, none⟩) (fun k hk => hk.1.2) v1) (fun k hk => ⟨?_, hk.1.2⟩)
      show (if k < w.heap.size then own k else i) = j
      rw [if_pos hk.2]; exact hk.1.1
theorem LR.out {w : World} {base b n : Nat} {rows : List (List S50)} (h : LR w base b n rows) (hn : n ≤ maxLen) : Kd.R (Kd.slice 50 k50) 47 w base (fun _ => True) (.slice (some ⟨b, 0, none⟩) n n) rows := by
  obtain ⟨vs, own, h1, h2, h3, h4, h5⟩ := h
  refine ⟨fun _ _ => trivial, vs, ⟨by rw [h1, h2]; simp [Kd.slice], .inr ⟨b, n, vs.toArray, by rw [h2], h3, h4, by omega, hn, by simp [Kd.slice, h1], ?_⟩⟩, ?_, ?_⟩
  · rw [h2]; simp [Kd.slice, ← h1]
  · rw [h1, h2]; simp [Kd.slice]
  · intro j p hp
    have hj : j < n := by have := (List.getElem?_eq_some_iff.1 hp).1; omega
    have hr := h5 j hj
    have e2 : rows.getD j [] = p := by simp [List.getD_eq_getElem?_getD, hp]
    rw [e2] at hr
    have e1 : ((vs.drop (j * (Kd.slice 50 k50).sz)).take (Kd.slice 50 k50).sz) = [vs.getD j (.slice none 0 0)] := by
      have : (Kd.slice 50 k50).sz = 1 := rfl
      rw [this, Nat.mul_one, List.drop_eq_getElem_cons (show j < vs.length by omega), List.take_succ_cons, List.take_zero]
      simp [List.getD_eq_getElem?_getD, List.getElem?_eq_getElem (show j < vs.length by omega)]
    rw [e1]
    refine ⟨_, rfl, Kd.R_mono hr (fun k hk => ⟨trivial, fun e => hk.2 ?_⟩)⟩
    simpa [Value.ownBlock] using e
end Go.Proofs.Ytkhiglincdognaa.PA

namespace Go.Proofs.Ytkhiglincdognaa.PA
open Go.RowKit Go.Proofs.YtkhiglincdognaaW.PrintWords Go.Proofs.YtkhiglincdognaaW.PrintLast Go.Proofs.YtkhiglincdognaaW.PrintMore
set_option linter.unusedVariables false
set_option linter.unusedSimpArgs false

def lgShards (n : Nat) (set : Int) : List Int := ((List.range n).filter (fun i : Nat => decide (set / 2 ^ i % 2 = 1))).map Int.ofNat
def lgPut (cs all : List Int) (c : Int) : List Int → List (List S50) → Int → Option (List (List S50) × Int)
  | [], rows, p => some (rows, p)
  | i :: r, rows, p => (partsynccase_Case_Bool.f cs p 14).bind fun b =>
      if 0 ≤ i ∧ i < (rows.length : Int) ∧ (rows.getD i.toNat []).length < 1000 then lgPut cs all c r (if b.1 then rows else rows.set i.toNat (rows.getD i.toNat [] ++ [⟨c, all⟩])) b.2 else none
def lgFill (cs : List Int) (len : Nat) : Nat → Int → List (List S50) → Int → Option (List (List S50) × Int)
  | 0, _, rows, p => some (rows, p)
  | m + 1, n, rows, p => if n < 1073741824 then
      (partsynccase_Case_Bool.f cs p 12).bind fun b => if b.1 then lgFill cs len m (n + 1) rows b.2 else
        (partsynccase_Case_Int.f cs b.2 (2 ^ len - 1)).bind fun s => (lgPut cs (lgShards len (1 + s.1)) (n + 1) (lgShards len (1 + s.1)) rows s.2).bind fun q => lgFill cs len m (n + 1) q.1 q.2
    else some (rows, p)
def lgCut (cs : List Int) : Nat → Nat → List (List S50) → Int → Option (List (List S50) × Int)
  | 0, _, rows, p => some (rows, p)
  | m + 1, i, rows, p => (partsynccase_Case_Bool.f cs p 5).bind fun b => if b.1 then
      (if (rows.getD i []).length < 1000000 then (partsynccase_Case_Int.f cs b.2 (((rows.getD i []).length : Int) + 1)).bind fun s => lgCut cs m (i + 1) (rows.set i ((rows.getD i []).take s.1.toNat)) s.2 else none)
    else lgCut cs m (i + 1) rows b.2
def partsynccase_Case_Logs.f (cs : List Int) (p : Int) : Option (Int × List (List S50) × Int) :=
  if (∀ x ∈ cs, 0 ≤ x ∧ x < 256) ∧ 0 ≤ p ∧ cs.length ≤ 1000 then
    (partsynccase_Case_Int.f cs p 3).bind fun b0 => (partsynccase_Case_Bool.f cs b0.2 12).bind fun b1 => (partsynccase_Case_Int.f cs b1.2 4).bind fun n => (partsynccase_Case_Int.f cs n.2 9).bind fun m =>
      (lgFill cs (1 + n.1).toNat m.1.toNat (if b1.1 then 1073741820 else b0.1) (List.replicate (1 + n.1).toNat []) m.2).bind fun r => (lgCut cs (1 + n.1).toNat 0 r.1 r.2).bind fun q => some (if b1.1 then 1073741820 else b0.1, q.1, q.2)
  else none
theorem rd_nn (cs : List Int) (h : ∀ x ∈ cs, 0 ≤ x ∧ x < 256) (i : Int) : 0 ≤ rd cs i ∧ rd cs i < 256 := by
  unfold rd
  rw [List.getD_eq_getElem?_getD]
  cases hx : cs[i.toNat]? with
  | none => simp
  | some v => exact h v (List.mem_of_getElem? hx)
theorem int_bound {cs : List Int} {p n v q : Int} (h : ∀ x ∈ cs, 0 ≤ x ∧ x < 256) (hp : 0 ≤ p) (hl : cs.length ≤ 1000) (hf : partsynccase_Case_Int.f cs p n = some (v, q)) : 0 ≤ v ∧ (v < n ∨ v = 0) ∧ 0 ≤ q := by
  unfold partsynccase_Case_Int.f at hf
  split at hf
  · simp at hf; omega
  · split at hf
    · simp at hf; omega
    · split at hf
      · split at hf
        · split at hf
          · simp at hf
          · rename_i h1 h2 h3 h4 h5
            simp only [Option.some.injEq, Prod.mk.injEq] at hf
            have hr := rd_nn cs h (wrap64 (wrap64 (p + 1) - 1))
            generalize rd cs (wrap64 (wrap64 (p + 1) - 1)) = x at *
            have hx : wrap64 x = x := by unfold wrap64; omega
            have hq : wrap64 (p + 1) = p + 1 := by unfold wrap64; omega
            rw [hx] at hf
            have h6 : x.tmod n = x % n := Int.tmod_eq_emod_of_nonneg hr.1
            have h7 := Int.emod_nonneg x (show n ≠ 0 by omega)
            have h8 := Int.emod_lt_of_pos x (show 0 < n by omega)
            rw [h6, hq] at hf
            omega
        · simp at hf
      · simp at hf
theorem bool_bound {cs : List Int} {p n q : Int} {b : Bool} (h : ∀ x ∈ cs, 0 ≤ x ∧ x < 256) (hp : 0 ≤ p) (hl : cs.length ≤ 1000) (hf : partsynccase_Case_Bool.f cs p n = some (b, q)) : 0 ≤ q := by
  unfold partsynccase_Case_Bool.f at hf
  obtain ⟨⟨v, q'⟩, h1, h2⟩ := Option.bind_eq_some_iff.1 hf
  simp only [Option.some.injEq, Prod.mk.injEq] at h2
  have := (int_bound h hp hl h1).2.2
  omega
theorem zero47' : (Try.prog.info? 47).map (fun i => (i.zero, i.size, i.bytes)) = some (some (.slice none 0 0), 1, 24) := info47
theorem lgShards_succ (j : Nat) (st : Int) : lgShards (j + 1) st = lgShards j st ++ (if st / 2 ^ j % 2 = 1 then [(j : Int)] else []) := by
  unfold lgShards
  rw [List.range_succ, List.filter_append, List.map_append]
  congr 1
  by_cases h : st / 2 ^ j % 2 = 1
  · rw [if_pos h]; simp [h]
  · rw [if_neg h]; simp [h]
theorem lgShards_len (j : Nat) (st : Int) : (lgShards j st).length ≤ j := by
  unfold lgShards
  rw [List.length_map]
  exact Nat.le_trans (List.length_filter_le _ _) (by simp)
theorem lgShards_lt (j : Nat) (st x : Int) (hx : x ∈ lgShards j st) : 0 ≤ x ∧ x < j := by
  unfold lgShards at hx
  obtain ⟨y, hy, rfl⟩ := List.mem_map.1 hx
  have := List.mem_range.1 (List.mem_filter.1 hy).1
  exact ⟨by simp, by simp; omega⟩
theorem and1 (x : Int) (h0 : 0 ≤ x) (h1 : x < 256) : bits .and .i64 x 1 = x % 2 := bits_mask .i64 8 (by decide) (fun n h0 h1 => by rw [IntKind.wrap_i64]; omega) 1 (by decide) x h0 h1
theorem bit_eq (st : Int) (j : Nat) (h0 : 0 ≤ st) (h1 : st ≤ 15) : bits .and .i64 (st / 2 ^ j) 1 = st / 2 ^ j % 2 := by
  have hp : (1 : Int) ≤ 2 ^ j := by have h := Nat.one_le_two_pow (n := j); have e : ((2 ^ j : Nat) : Int) = (2 : Int) ^ j := by push_cast; rfl
                                    omega
  have h2 : 0 ≤ st / 2 ^ j := Int.ediv_nonneg h0 (by omega)
  have h3 : st / 2 ^ j ≤ st := Int.ediv_le_self _ h0
  exact and1 _ h2 (by omega)
/-- What a round leaves alone. -/
structure Wrote (B : Nat) (w w' : World) : Prop where
  below : Below B w w'
  same : ∀ (k : Nat) (cs : Array Value) (t : TypeId), (t = 61 ∨ t = 3) → w.heap[k]? = some (Obj.cells cs t (0, 0)) → w'.heap[k]? = w.heap[k]?
theorem Wrote.case {B : Nat} {w0 w w' : World} {g : Nat} {cs : List Int} {p : Int} (h : Wrote B w w') (hI : IsS61 w0 w g cs p) : IsS61 w0 w' g cs p := by
  obtain ⟨A0, c0, hb, hg, hr⟩ := hI
  exact ⟨A0, c0, (h.same g _ 61 (.inl rfl) hb).trans hb, hg, hr⟩
theorem Wrote.sub {B B0 : Nat} {u w w' : World} (h : Wrote B w w') (hB : Below B0 u w) (hle : B0 ≤ B) : Below B0 u w' := hB.trans ⟨h.below.os, h.below.tape, h.below.output, h.below.size, fun k hk => h.below.block k (by omega)⟩
theorem Wrote.keep {u w w' : World} {g : Nat} (h : Wrote u.heap.size w w') (hk : KeepBut u w g none) : KeepBut u w' g none := ⟨Nat.le_trans hk.1 h.below.size, fun i hi hg hr => (h.below.block i hi).trans (hk.2 i hi hg hr)⟩
theorem Wrote.ints {B base : Nat} {w w' : World} {v : Value} {xs : List Int} (h : Wrote B w w') (hR : (Kd.int .i64).R 3 w base (fun _ => True) v xs) : (Kd.int .i64).R 3 w' base (fun _ => True) v xs :=
  Kd.R_mono (Kd.R_move (Kd.R_bound hR) (fun k hk => by
    obtain ⟨_, _, _, q, hq, cs, hc⟩ := hk
    have hq3 : q = 3 := by have : q ∈ [3] := hq; simpa using this
    exact h.same k cs q (.inr hq3) hc)) (fun _ _ => trivial)
theorem ints_keep {w0 w w' : World} {g base : Nat} {cs : List Int} {p : Int} {v : Value} {xs : List Int} (hI : IsS61 w0 w g cs p) (hk : KeepBut w w' g none) (hR : (Kd.int .i64).R 3 w base (fun _ => True) v xs) : (Kd.int .i64).R 3 w' base (fun _ => True) v xs :=
  Kd.R_mono (Kd.R_keep (hI.apart hR (by decide)) hk (fun k hk => hk.2)) (fun _ _ => trivial)
theorem row_step {wz w1 : World} {b base nn vn : Nat} {rows : List (List S50)} {x : S50} {A0 : Option Addr} {c0 : Nat} {A1 : Option Addr} {cc1 : Nat}
    {row : List S50} (hrow : rows.getD vn [] = row) (n : LR wz base b nn rows) (hi : vn < nn) (hc : wz.cell? ⟨b, vn, none⟩ = some (.slice A0 row.length c0)) (hB : Below wz.heap.size wz w1) (ho : (Kd.int .i64).R 3 w1 wz.heap.size (fun _ => True) (.slice A1 x.f1.length cc1) x.f1) (hX : row.length < 1000)
    {ops : Array Oper} {o : Oper} {a : Act} {Q : Exit → Act → World → Prop} {Kc : Act → World → Prop} (hw : Region.wanted o (yielded ops a.tmps) = true) (s y : Operand)
    (hop : o.op = .call { callee := .builtin .append, args := #[s, y], argTypes := #[47, 47] }) (hs : a.eval s = .slice A0 row.length c0) (hx : a.eval y = .slice (some ⟨w1.heap.size, 0, none⟩) 1 1)
    (h : ∀ A2 c2 w2, w2.cell? ⟨b, vn, none⟩ = some (.slice A0 row.length c0) → w2.frozen? ⟨b, vn, none⟩ = false → Aside0 (LR (w2.setCell ⟨b, vn, none⟩ (.slice A2 (row.length + 1) c2)) base b nn (rows.set vn (row ++ [x]))) → Aside0 (Wrote base wz (w2.setCell ⟨b, vn, none⟩ (.slice A2 (row.length + 1) c2))) → Kc (a.put o.dst (.slice A2 (row.length + 1) c2)) w2) :
    if Region.wanted o (yielded ops a.tmps) = true then Oper.wp Try.prog o a (w1.alloc (.cells #[.int .i64 x.f0, .slice A1 x.f1.length cc1] 50)) Kc Q else Kc (a.put o.dst undef) (w1.alloc (.cells #[.int .i64 x.f0, .slice A1 x.f1.length cc1] 50)) := by
  subst hrow
  obtain ⟨cb, hcb⟩ := n.blk
  have hbb := n.le
  have hblt := n.lt
  obtain ⟨vs, own, hn⟩ := n
  have hri := hn.at hi hc
  have hlt := Kd.R_lt hri
  have hge := Kd.R_base hri
  have hsz := hB.size
  have hM : k50.M w1 base (fun k => wz.heap.size ≤ k) x [.int .i64 x.f0, .slice A1 x.f1.length cc1] := k50_mkM _ _ _ x (Kd.R_mono (Kd.R_lower (Kd.R_bound ho) (by omega)) (fun k hk => hk.2.1))
  have hR0 : k50.R 50 w1 base (fun k => if k < wz.heap.size then own k = vn ∧ k ≠ b else True) (.slice A0 (rows.getD vn []).length c0) (rows.getD vn []) :=
    Kd.R_mono (Kd.R_below (Kd.R_bound hri) hB) (fun k hk => by
      have : k < wz.heap.size := hk.2.2.1
      simp only [this, if_true]
      exact hk.1)
  refine Kd.R_append_step k50 (w0 := w1) base hw s y 47 50 (.agg #[.int .i64 0, .slice none 0 0]) 32 hop Try.underlying47 info50 rfl (by decide) (by omega) (.slice A0 (rows.getD vn []).length c0) (rows.getD vn []) x [.int .i64 x.f0, .slice A1 x.f1.length cc1] _ (fun k => wz.heap.size ≤ k) hs hx hM
    (fun k hk => ⟨by simp only [Nat.not_lt.2 hk, if_false], fun e => by have := hlt k e.symm; omega⟩) (fun k hk => by simp only [show ¬ k < wz.heap.size by omega, if_false]) hR0 (Below.refl _ _) (by omega) (by omega) ?_
  intro v1 w2 ho2 hb2 hg2 hat2
  obtain ⟨A2, c2, rfl⟩ := Kd.R_slice ho2
  rw [List.length_append, List.length_singleton] at ho2 hat2 ⊢
  have hne : some b ≠ (Value.slice A0 (rows.getD vn []).length c0).ownBlock := Kd.R_ne hri hcb (by decide)
  have old : ∀ k, k < wz.heap.size → some k ≠ (Value.slice A0 (rows.getD vn []).length c0).ownBlock → w2.heap[k]? = wz.heap[k]? := fun k hk hn => (hg2.block k (by omega) hn).trans (hB.block k hk)
  have hb2' : w2.heap[b]? = some (.cells cb 47 (0, 0)) := (old b hblt hne).trans hcb
  refine h A2 c2 w2 ((hg2.cell (pw_cell_below hB hc) (fun e => hne e))) (blk_frozen hb2' vn) ⟨?_⟩ ⟨?_⟩
  · exact LR.put hn hi hc hB hg2 ho2
  · refine ⟨?_, fun k cs t ht hk => ?_⟩
    · have hBB : Below base wz w1 := ⟨hB.os, hB.tape, hB.output, hB.size, fun k hk => hB.block k (by omega)⟩
      exact (hBB.grown hg2 (by omega) (fun k hk => hge k hk)).setCell (by exact hbb) _
    · have hkb : k ≠ b := by
        rintro rfl
        rw [hcb] at hk
        injection hk with hk
        injection hk with _ hk
        subst hk
        revert ht
        decide
      have hkv : some k ≠ (Value.slice A0 (rows.getD vn []).length c0).ownBlock := Kd.R_ne hri hk (by rintro rfl; revert ht; decide)
      rw [Below.heap_setCell _ _ _ _ hkb]
      exact old k (blk_lt hk) hkv
/-- The copy of the shards. -/
theorem sh_step {wz w1 : World} {A : Option Addr} {c : Nat} {l : List Int} (hB : Below wz.heap.size wz w1) (hl : (Kd.int .i64).C wz A l.length l) (hll : l.length ≤ 1000)
    {ops : Array Oper} {o : Oper} {a : Act} {Q : Exit → Act → World → Prop} {Kc : Act → World → Prop} (hw : Region.wanted o (yielded ops a.tmps) = true) (y : Operand)
    (hop : o.op = .call { callee := .builtin .append, args := #[.const (.slice none 0 0), y], argTypes := #[26, 26] }) (hx : a.eval y = .slice A l.length c)
    (h : ∀ A2 c2 w2, Aside0 (Below wz.heap.size wz w2) → Aside0 ((Kd.int .i64).R 3 w2 wz.heap.size (fun _ => True) (.slice A2 l.length c2) l) → Kc (a.put o.dst (.slice A2 l.length c2)) w2) :
    if Region.wanted o (yielded ops a.tmps) = true then Oper.wp Try.prog o a w1 Kc Q else Kc (a.put o.dst undef) w1 := by
  refine Kd.R_append_rows_step (Kd.int .i64) (Rr := (Kd.int .i64).K w1) (w0 := wz) wz.heap.size hw (.const (.slice none 0 0)) y 26 3 (.int .i64 0) 8 hop Try.underlying26 info3 rfl (by decide) (by omega) (.slice none 0 0) [] l A l.length c (fun _ => True) (fun _ => False) rfl hx
    (Kd.R_nil _ _ _ _ _) (Kd.C_below hl hB) (fun x cs hx => hx) (fun k hk => hk.elim) (fun _ _ => trivial) hB hB.size (by simp; omega) ?_
  intro v1 w2 ho2 hb2 hg2 hat2
  rw [List.nil_append] at ho2
  obtain ⟨A2, c2, rfl⟩ := Kd.R_slice ho2
  exact h A2 c2 w2 ⟨hb2⟩ ⟨ho2⟩
theorem at_V {w : World} {A : Option Addr} {n : Nat} {xs : List Int} (h : (Kd.int .i64).C w A n xs) (i : Nat) (h1 : i < n) : ∃ ad, A = some ad ∧ w.cell? (ad.add i) = some (.int .i64 (xs.getD i 0)) := by
  obtain ⟨ad, c, e, _, hK, hc0⟩ := Kd.C_get h (0 : Int) (i : Int) (by omega) (by omega)
  have hc : ∀ j u, c[j]? = some u → w.cell? (ad.add ((i : Int).toNat * 1 + j)) = some u := hc0
  obtain rfl : c = [.int .i64 (xs.getD (i : Int).toNat 0)] := hK
  refine ⟨ad, e, ?_⟩
  have := hc 0 _ rfl
  simpa using this
theorem LR.cut {w : World} {base b n i m : Nat} {rows : List (List S50)} {row : List S50} {A : Option Addr} {c : Nat} (h : LR w base b n rows) (hi : i < n) (hrow : rows.getD i [] = row) (hc : w.cell? ⟨b, i, none⟩ = some (.slice A row.length c)) (hm : m ≤ row.length) :
    LR (w.setCell ⟨b, i, none⟩ (.slice A m c)) base b n (rows.set i (row.take m)) ∧ Wrote base w (w.setCell ⟨b, i, none⟩ (.slice A m c)) := by
  subst hrow
  obtain ⟨cb, hcb⟩ := h.blk
  have hle := h.le
  obtain ⟨vs, own, hn⟩ := h
  have hri := hn.at hi hc
  refine ⟨LR.put hn hi hc (Below.refl _ _) (World.grownBy.refl _ _) (Kd.R_mono (Kd.R_take (Kd.R_bound hri) hm) (fun k hk => by
    simp only [hk.2.2.1, if_true]
    exact hk.1)), ⟨(Below.refl _ _).setCell (by exact hle) _, fun k cs t ht hk => Below.heap_setCell _ _ _ _ (by
    rintro rfl
    rw [hcb] at hk
    injection hk with hk
    injection hk with _ hk
    subst hk
    revert ht
    decide)⟩⟩
theorem cutS (W : World) (A : Option Addr) (n c m : Nat) (hm : m ≤ n) (hc : n ≤ c) : (Instr.slice 47 (.slice A n c) none (some (.int .i64 m)) none).run Try.prog W = .ok (.slice A m c) W := by
  obtain ⟨i50, hi50, _⟩ := Option.map_eq_some_iff.1 info50
  have := cut_to (P := Try.prog) 47 50 .i64 Try.underlying47 hi50 A n c m (by omega) (by omega) hc W
  simpa using this
end Go.Proofs.Ytkhiglincdognaa.PA

namespace Go.Proofs.Ytkhiglincdognaa.PA
open Go.RowKit Go.Proofs.YtkhiglincdognaaW.PrintWords Go.Proofs.YtkhiglincdognaaW.PrintLast Go.Proofs.YtkhiglincdognaaW.PrintMore
set_option linter.unusedVariables false
set_option linter.unusedSimpArgs false

set_option maxHeartbeats 4000000 in
set_option maxRecDepth 100000 in
theorem partsynccase_Case_Logs.callsLR (g : Nat) (s0_0 : List Int) (s0_1 : Int) (r1 : Int) (r2 : List (List (S50))) (r3 : Int) (w0 w : World) (hI : IsS61 w0 w g s0_0 s0_1) (hB : Below w0.heap.size w0 w) (h : partsynccase_Case_Logs.f s0_0 s0_1 = some (r1, r2, r3)) :
    Calls Try.prog 21 #[.pointer (some ⟨g, 0, none⟩)] w fun e w' => ∃ b n : Nat, e = .returned (.tuple #[.int .i64 r1, .slice (some ⟨b, 0, none⟩) n n]) ∧ LR w' w.heap.size b n r2 ∧ n ≤ 4 ∧ IsS61 w0 w' g s0_0 r3 ∧ Below w0.heap.size w0 w' ∧ KeepBut w w' g none := by
  unfold partsynccase_Case_Logs.f at h
  split at h
  case isFalse => exact absurd h (by simp)
  rename_i hcs
  obtain ⟨hcs, hp0, hcl⟩ := hcs
  obtain ⟨⟨b0, p1⟩, A1, h1⟩ := Option.bind_eq_some_iff.1 h
  obtain ⟨⟨b1, p2⟩, A2, h2⟩ := Option.bind_eq_some_iff.1 h1
  obtain ⟨⟨n, p3⟩, A3, h3⟩ := Option.bind_eq_some_iff.1 h2
  obtain ⟨⟨m, p4⟩, A4, h4⟩ := Option.bind_eq_some_iff.1 h3
  obtain ⟨⟨rows5, p5⟩, A5, h5⟩ := Option.bind_eq_some_iff.1 h4
  obtain ⟨⟨rows6, p6⟩, A6, h6⟩ := Option.bind_eq_some_iff.1 h5
  clear h h1 h2 h3 h4 h5
  have h := h6
  clear h6
  dsimp only at A1 A2 A3 A4 A5 A6 h
  have B1 := int_bound hcs hp0 hcl A1
  have B2 := bool_bound hcs B1.2.2 hcl A2
  have B3 := int_bound hcs B2 hcl A3
  have B4 := int_bound hcs B3.2.2 hcl A4
  simp only [Option.some.injEq, Prod.mk.injEq] at h
  obtain ⟨rfl, rfl, rfl⟩ := h
  obtain ⟨base, hbase⟩ : ∃ base : Int, base = if b1 = true then 1073741820 else b0 := ⟨_, rfl⟩
  rw [← hbase] at A5 ⊢
  have Bb : 0 ≤ base ∧ base ≤ 1073741820 := by rw [hbase]; split <;> omega
  obtain ⟨nn, hnn⟩ : ∃ nn : Nat, 1 + n = nn := ⟨(1 + n).toNat, by omega⟩
  have hn1 : 1 ≤ nn ∧ nn ≤ 4 := by omega
  obtain ⟨mm, hmm⟩ : ∃ mm : Nat, m = mm := ⟨m.toNat, by omega⟩
  have hm1 : mm ≤ 8 := by omega
  rw [hnn, hmm, Int.toNat_natCast, Int.toNat_natCast] at A5
  rw [hnn, Int.toNat_natCast] at A6
  have wn : wrap64 (1 + n) = nn := by rw [hnn]; unfold wrap64; omega
  subst hmm
  have HI := Aside0.mk hI
  have HB0 := Aside0.mk hB
  have HW0 := Aside0.mk hB.size
  have C1 := Aside0.mk A1
  have C2 := Aside0.mk A2
  have C3 := Aside0.mk A3
  have C4 := Aside0.mk A4
  have C5 := Aside0.mk A5
  have C6 := Aside0.mk A6
  have HCS := Aside0.mk hcs
  have HNN := Aside0.mk hnn
  have HBS := Aside0.mk hbase
  have B34 := Aside0.mk B4.2.2
  have hmk := Go.run_make_row' (P := Try.prog) 34 47 (.slice none 0 0) 24 Try.underlying34 info47 rfl .i64 .i64 nn (by omega) (by omega)
  clear hI hB A1 A2 A3 A4 A5 A6 hcs B1 B2 B4 hbase
  have hn0 : 0 ≤ n ∧ n ≤ 3 := by omega
  clear B3
  go_enter Try.func21, Try.ntmps21
  go_upto_region 2 with (first | (go_at_call 14; refine (partsynccase_Case_Int.calls g s0_0 s0_1 3 b0 p1 w0 _ (by exact HI.out) (by exact HB0.out) C1.out).mono ?_; rintro e w1 ⟨rfl, hI1, hB1, hK1⟩))
  have HI1 := Aside0.mk hI1
  have HB1 := Aside0.mk hB1
  have HK1 := Aside0.mk hK1
  clear hI1 hB1 hK1
  go_upto_if 17 with (first | (go_at_call 29; refine (partsynccase_Case_Bool.calls g s0_0 p1 12 b1 p2 w0 _ (by exact HI1.out) (by exact HB1.out) C2.out).mono ?_; rintro e w2 ⟨rfl, hI2, hB2, hK2⟩; have HI2 := Aside0.mk hI2; have HB2 := Aside0.mk hB2; have HK2 := Aside0.mk (HK1.out.trans (show KeepBut _ w2 g none from hK2) (.inl rfl)); clear hI2 hB2 hK2))
  go_cut [4] (fun v4 wx => v4 = .int .i64 base ∧ wx = w2)
  case first =>
    go_wp2
    all_goals go_meet
    all_goals (case rel => exact ⟨by first | (rw [HBS.out, if_pos (by assumption)]) | (rw [HBS.out, if_neg (by assumption)]) | (rw [HBS.out]; simp_all), rfl⟩)
  case rest =>
    obtain ⟨rfl, rfl⟩ := hcut
    go_upto_region 5 with (first | (go_at_call 14; refine (partsynccase_Case_Int.calls g s0_0 p2 4 n p3 w0 _ (by exact HI2.out) (by exact HB2.out) C3.out).mono ?_; rintro e w3 ⟨rfl, hI3, hB3, hK3⟩; have HI3 := Aside0.mk hI3; have HB3 := Aside0.mk hB3; have HK3 := Aside0.mk (HK2.out.trans (show KeepBut _ w3 g none from hK3) (.inl rfl)); clear hI3 hB3 hK3))
    obtain ⟨b, hb⟩ : ∃ b, b = w3.heap.size := ⟨_, rfl⟩
    obtain ⟨w4, hw4⟩ : ∃ w4, w4 = w3.alloc (.cells (madeCells #[Value.slice none 0 0] nn) 47) := ⟨_, rfl⟩
    have hmade : madeCells #[Value.slice none 0 0] nn = (List.replicate nn (Value.slice none 0 0)).toArray := by
      apply Array.ext
      · simp [madeCells]
      · intro i h1 h2
        simp [madeCells, Nat.mod_one]
    have HR4 := Aside0.mk (show LR w4 w.heap.size b nn (List.replicate nn []) from by rw [hw4, hb, hmade]; exact LR.made w3 _ nn HK3.out.1)
    have HI4 := Aside0.mk (show IsS61 w0 w4 g s0_0 p3 from hw4 ▸ HI3.out.alloc _)
    have HB4 := Aside0.mk (show Below w0.heap.size w0 w4 from hw4 ▸ below_alloc HB3.out _)
    have HK4 := Aside0.mk (show KeepBut w w4 g none from hw4 ▸ keep_alloc HK3.out _)
    have HBB := Aside0.mk (show w.heap.size ≤ b from hb ▸ HK3.out.1)
    rw [← hw4, ← hb]
    clear hmade hmk hw4 hb
    go_upto_block 0 with (first | (go_at_call 14; refine (partsynccase_Case_Int.calls g s0_0 p3 9 mm p4 w0 _ (by exact HI4.out) (by exact HB4.out) C4.out).mono ?_; rintro e w5 ⟨rfl, hI5, hB5, hK5⟩; have HI5 := Aside0.mk hI5; have HB5 := Aside0.mk hB5; have HK5 := Aside0.mk (HK4.out.trans (show KeepBut _ w5 g none from hK5) (.inl rfl)); have HR5 := Aside0.mk (HR4.out.keep HI4.out hK5); clear hI5 hB5 hK5))
    clear HI HB0 HI1 HB1 HK1 HI2 HB2 HK2 HI3 HB3 HK3 HI4 HB4 HK4 HR4 C1 C2 C3 C4 wn hnn hn0
    go_cut [] (fun wx => Aside0 (IsS61 w0 wx g s0_0 p5) ∧ Aside0 (Below w0.heap.size w0 wx) ∧ Aside0 (KeepBut w wx g none) ∧ Aside0 (LR wx w.heap.size b nn rows5) ∧ Aside0 (0 ≤ p5))
    case first =>
      go_wp2_with fail
      go_loopg [6] mm (fun gk v6 wr => ∃ (i p : Int) (rows : List (List S50)), v6 = .int .i64 i ∧ Aside0 (i + gk = base + mm) ∧ Aside0 (base ≤ i) ∧ Aside0 (0 ≤ p) ∧ Aside0 (IsS61 w0 wr g s0_0 p) ∧ Aside0 (Below w0.heap.size w0 wr) ∧ Aside0 (KeepBut w wr g none) ∧ Aside0 (LR wr w.heap.size b nn rows) ∧ Aside0 (lgFill s0_0 nn gk i rows p = some (rows5, p5)))
      case atStart => exact ⟨base, p4, _, rfl, ⟨by omega⟩, ⟨by omega⟩, B34, HI5, HB5, HK5, HR5, C5⟩
      case round =>
        obtain ⟨i, p, rows, rfl, HG, HBI, HP, HI6, HB6, HK6, HR6, HF⟩ := hrel
        have i0 : 0 ≤ i := by have := HBI.out; omega
        have i1 : i ≤ 1073741828 := by have := HG.out; omega
        have hbm : IntKind.i64.wrap (base + (mm : Int)) = base + mm := by rw [IntKind.wrap_i64]; omega
        have hbm2 : wrap64 (base + (mm : Int)) = base + mm := by unfold wrap64; omega
        by_cases hlt : i < base + (mm : Int)
        · obtain ⟨gk2, rfl⟩ : ∃ z, gk = z + 1 := ⟨gk - 1, by have := HG.out; omega⟩
          have hd1 : decide (i < base + (mm : Int)) = true := decide_eq_true hlt
          by_cases hmx : i < 1073741824
          · have hd2 : decide (i < 1073741824) = true := decide_eq_true hmx
            have h := HF.out
            simp only [lgFill] at h
            rw [if_pos hmx] at h
            obtain ⟨⟨b2, q1⟩, D1, h⟩ := Option.bind_eq_some_iff.1 h
            dsimp only at h
            have Q1 := bool_bound HCS.out HP.out hcl D1
            have D1 := Aside0.mk D1
            cases b2
            · rw [if_neg (by decide)] at h
              obtain ⟨⟨s, q2⟩, D2, h⟩ := Option.bind_eq_some_iff.1 h
              obtain ⟨⟨rows2, q3⟩, D3, h⟩ := Option.bind_eq_some_iff.1 h
              dsimp only at h D2 D3
              have Q2 := int_bound HCS.out Q1 hcl D2
              have H9 := Aside0.mk h
              have D2 := Aside0.mk D2
              have D3 := Aside0.mk D3
              have hs1 : 0 ≤ s ∧ s ≤ 14 := by
                have : (2 : Int) ^ nn ≤ 16 := by
                  obtain rfl | rfl | rfl | rfl : nn = 1 ∨ nn = 2 ∨ nn = 3 ∨ nn = 4 := by omega
                  all_goals decide
                omega
              clear h HF
              obtain ⟨sx, hsx⟩ : ∃ sx : Int, sx = 2 ^ nn - 1 := ⟨_, rfl⟩
              rw [← hsx] at D2
              have HW2 := Aside0.mk (show wrap64 (wrap64 (2 ^ nn) - 1) = sx from by
                rw [hsx]
                have h16 : (2 : Int) ^ nn ≤ 16 ∧ 1 ≤ (2 : Int) ^ nn := by
                  obtain rfl | rfl | rfl | rfl : nn = 1 ∨ nn = 2 ∨ nn = 3 ∨ nn = 4 := by omega
                  all_goals decide
                generalize (2 : Int) ^ nn = z at h16 ⊢
                have e1 : wrap64 z = z := by unfold wrap64; omega
                rw [e1]; unfold wrap64; omega)
              clear hsx
              have Q3 := Aside0.mk Q2.2.2
              clear Q2
              go_upto_region 9 with (first | (go_at_call 29; refine (partsynccase_Case_Bool.calls g s0_0 p 12 false q1 w0 _ (by exact HI6.out) (by exact HB6.out) D1.out).mono ?_; rintro e w7 ⟨rfl, hI7, hB7, hK7⟩; have HI7 := Aside0.mk hI7; have HB7 := Aside0.mk hB7; have HK7 := Aside0.mk (HK6.out.trans (show KeepBut _ w7 g none from hK7) (.inl rfl)); have HR7 := Aside0.mk (HR6.out.keep HI6.out hK7); clear hI7 hB7 hK7))
              go_upto_block 2 with (first | (go_at_call 14; rw [HW2.out]; refine (partsynccase_Case_Int.calls g s0_0 q1 sx s q2 w0 _ (by exact HI7.out) (by exact HB7.out) D2.out).mono ?_; rintro e w8 ⟨rfl, hI8, hB8, hK8⟩; have HI8 := Aside0.mk hI8; have HB8 := Aside0.mk hB8; have HK8 := Aside0.mk (HK7.out.trans (show KeepBut _ w8 g none from hK8) (.inl rfl)); have HR8 := Aside0.mk (HR7.out.keep HI7.out hK8); clear hI8 hB8 hK8))
              obtain ⟨st, hst⟩ : ∃ st : Int, 1 + s = st := ⟨_, rfl⟩
              rw [hst] at D3
              rw [hst]
              have hst1 : 1 ≤ st ∧ st ≤ 15 := by omega
              clear hst hs1
              have HB9 := Aside0.mk (Below.refl w8.heap.size w8)
              go_cut [9] (fun v9 wx => ∃ A c, v9 = .slice A (lgShards nn st).length c ∧ Aside0 (Below w8.heap.size w8 wx) ∧ Aside0 ((Kd.int .i64).R 3 wx w8.heap.size (fun _ => True) (.slice A (lgShards nn st).length c) (lgShards nn st)))
              case first =>
                go_wp2_with fail
                go_loopg [47, 9] nn (fun gk v47 v9 wi => ∃ (j : Nat) (A : Option Addr) (c : Nat), v47 = .int .i64 j ∧ v9 = .slice A (lgShards j st).length c ∧ Aside0 (j + gk = nn) ∧ Aside0 (Below w8.heap.size w8 wi) ∧ Aside0 ((Kd.int .i64).R 3 wi w8.heap.size (fun _ => True) (.slice A (lgShards j st).length c) (lgShards j st)))
                case atStart => exact ⟨0, none, 0, rfl, rfl, ⟨by omega⟩, HB9, ⟨Kd.R_nil _ _ _ _ _⟩⟩
                case round =>
                  obtain ⟨j, A, c, rfl, rfl, HJ, HBJ, HRJ⟩ := hrel
                  by_cases hj : j < nn
                  · have hjl : (j : Int) < (nn : Int) := by omega
                    obtain ⟨gj, rfl⟩ : ∃ z, gk = z + 1 := ⟨gk - 1, by have := HJ.out; omega⟩
                    have hbe := bit_eq st j (by omega) (by omega)
                    by_cases hbt : st / 2 ^ j % 2 = 1
                    · have hb1 : (bits .and .i64 (st / 2 ^ j) 1 == 1) = true := by rw [hbe, hbt]; rfl
                      have hsu : lgShards (j + 1) st = lgShards j st ++ [(j : Int)] := by rw [lgShards_succ, if_pos hbt]
                      have hll := lgShards_len j st
                      go_wp2_with (first | (at_builtin; refine Kd.R_append (Kd.int .i64) (w0 := w8) w8.heap.size rfl (.tmp 55) (.tmp 57) 26 3 (.int .i64 0) 8 rfl Try.underlying26 info3 rfl (by decide) (by omega) (.slice A (lgShards j st).length c) (lgShards j st) (j : Int) [.int .i64 j] (fun _ => True) (fun _ => False) rfl rfl rfl (fun _ hk => hk.elim) (fun _ _ => trivial) HRJ.out HBJ.out HBJ.out.size (by omega) ?_; intro v1 w9 ho hb hg hat; rw [← hsu] at ho; obtain ⟨A2, c2, rfl⟩ := Kd.R_slice ho; have HRJ2 := Aside0.mk ho; have HBJ2 := Aside0.mk hb; clear ho hb hg hat))
                      go_roundg gj
                      case measure => omega
                      case rel => exact ⟨j + 1, A2, c2, by go_num, by rw [hsu, List.length_append, List.length_singleton], ⟨by have := HJ.out; omega⟩, HBJ2, HRJ2⟩
                    · have hb1 : (bits .and .i64 (st / 2 ^ j) 1 == 1) = false := by rw [hbe]; exact beq_eq_false_iff_ne.2 hbt
                      have hsu : lgShards (j + 1) st = lgShards j st := by rw [lgShards_succ, if_neg hbt, List.append_nil]
                      go_wp2
                      go_roundg gj
                      case measure => omega
                      case rel => exact ⟨j + 1, A, c, by go_num, by rw [hsu], ⟨by have := HJ.out; omega⟩, HBJ, by rw [hsu]; exact HRJ⟩
                  · have hjl : ¬ (j : Int) < (nn : Int) := by omega
                    obtain rfl : j = nn := by have := HJ.out; omega
                    go_wp2
                    go_meet
                    case rel => exact ⟨A, c, rfl, HBJ, HRJ⟩
              case rest =>
                obtain ⟨A9, c9, rfl, HB9, HR9⟩ := hcut
                have HI9 := Aside0.mk (HI8.out.below HB9.out)
                have HK9 := Aside0.mk (HK8.out.trans (KeepBut.of_below HB9.out g none) (.inl rfl))
                have HL9 := Aside0.mk (HR8.out.below HB9.out)
                have HS9 := Aside0.mk (Kd.R_lower HR9.out HK8.out.1)
                have HB10 := Aside0.mk (below_step HB8.out HB9.out)
                have hsl := lgShards_len nn st
                have HSM := Aside0.mk (lgShards_lt nn st)
                obtain ⟨sh, hsh⟩ : ∃ sh, sh = lgShards nn st := ⟨_, rfl⟩
                rw [← hsh] at D3 HS9 HSM hsl
                rw [← hsh]
                clear hsh HR9 HB9 HI8 HB8 HK8 HR8 HI7 HB7 HK7 HR7 HI6 HB6 HK6 HR6 HW2 D1 D2
                go_wp2_with fail
                go_loopg [62] sh.length (fun gk v62 wi => ∃ (x : Nat) (pp : Int) (rr : List (List S50)), v62 = .int .i64 x ∧ Aside0 (x + gk = sh.length) ∧ Aside0 (0 ≤ pp) ∧ Aside0 (IsS61 w0 wi g s0_0 pp) ∧ Aside0 (Below w0.heap.size w0 wi) ∧ Aside0 (KeepBut w wi g none) ∧ Aside0 (LR wi w.heap.size b nn rr) ∧ Aside0 ((Kd.int .i64).R 3 wi w.heap.size (fun _ => True) (.slice A9 sh.length c9) sh) ∧ Aside0 (lgPut s0_0 sh (i + 1) (sh.drop x) rr pp = some (rows2, q3)))
                case atStart => exact ⟨0, q2, rows, rfl, ⟨by omega⟩, Q3, HI9, HB10, HK9, HL9, HS9, D3⟩
                case round =>
                  obtain ⟨x, pp, rr, rfl, HX, HPP, HIx, HBx, HKx, HLx, HSx, HFx⟩ := hrel
                  by_cases hxl : x < sh.length
                  · have hxi : (x : Int) < (sh.length : Int) := by omega
                    obtain ⟨gx, rfl⟩ : ∃ z, gk = z + 1 := ⟨gk - 1, by have := HX.out; omega⟩
                    have h := HFx.out
                    rw [List.drop_eq_getElem_cons hxl] at h
                    have hvx : sh.getD x 0 = sh[x] := by simp [List.getD_eq_getElem?_getD, List.getElem?_eq_getElem hxl]
                    have hvm := HSM.out sh[x] (List.getElem_mem _)
                    obtain ⟨vn, hvn⟩ : ∃ vn : Nat, sh[x] = (vn : Int) := ⟨sh[x].toNat, by omega⟩
                    rw [hvn] at h hvx hvm
                    have hvl : vn < nn := by omega
                    simp only [lgPut, Int.toNat_natCast] at h
                    obtain ⟨⟨b3, q4⟩, E1, h⟩ := Option.bind_eq_some_iff.1 h
                    dsimp only at h
                    split at h
                    case isFalse => exact absurd h (by simp)
                    rename_i hgd
                    have Q4 := Aside0.mk (bool_bound HCS.out HPP.out hcl E1)
                    have E1 := Aside0.mk E1
                    have HF2 := Aside0.mk h
                    obtain ⟨_, _, hc9⟩ := Kd.R_reads' HSx.out
                    obtain ⟨ad, rfl, hcx⟩ := at_V hc9 x hxl
                    rw [hvx] at hcx
                    clear h hvx hvm hc9 HFx hvn
                    have h0x : (0 : Int) ≤ (x : Int) := by omega
                    cases b3
                    · go_upto_region 21 with (first | (go_at_call 29; refine (partsynccase_Case_Bool.calls g s0_0 pp 14 false q4 w0 _ (by exact HIx.out) (by exact HBx.out) E1.out).mono ?_; rintro e wz ⟨rfl, hIz, hBz, hKz⟩; have HIz := Aside0.mk hIz; have HBz := Aside0.mk hBz; have HKz := Aside0.mk (HKx.out.trans (show KeepBut _ wz g none from hKz) (.inl rfl)); have HLz := Aside0.mk (HLx.out.keep HIx.out hKz); have HSz := Aside0.mk (ints_keep HIx.out hKz HSx.out); clear hIz hBz hKz))
                      have HF3 := Aside0.mk (show lgPut s0_0 sh (i + 1) (sh.drop (x + 1)) (rr.set vn (rr.getD vn [] ++ [⟨i + 1, sh⟩])) q4 = some (rows2, q3) from by simpa using HF2.out)
                      obtain ⟨A0, c0, hc0, hlc0, hf0⟩ := HLz.out.cell vn hvl
                      have hgd2 := hgd.2.2
                      obtain ⟨row, hrow⟩ : ∃ row, rr.getD vn [] = row := ⟨_, rfl⟩
                      rw [hrow] at hc0 hlc0 hgd2 HF3
                      have HROW := Aside0.mk hrow
                      have HC0 := Aside0.mk hc0
                      have HC9 := Aside0.mk (Kd.R_reads' HSz.out).2.2
                      have HX3 := Aside0.mk hgd2
                      have hvl2 : (vn : Int) < (nn : Int) := by omega
                      have hv02 : (0 : Int) ≤ (vn : Int) := by omega
                      have hwi : IntKind.i64.wrap (i + 1) = i + 1 := by rw [IntKind.wrap_i64]; omega
                      have hwi2 : wrap64 (i + 1) = i + 1 := by unfold wrap64; omega
                      clear hgd hgd2 hcx HF2 hlc0 hrow
                      go_region_law (first | (refine row_step (wz := wz) (x := ⟨i + 1, sh⟩) HROW.out HLz.out hvl HC0.out HB1.out HO1.out HX3.out (by rfl) (.tmp 74) (.tmp 80) (by rfl) (by simp [Act.eval, Act.put]) (by simp [Act.eval, Act.put]) ?_; intro A2 c2 w2 k1 f1 hS hW) | (refine sh_step (wz := wz) (c := c9) (by repeat (first | exact Below.refl _ _ | apply Below.drew | apply pw_below_drewN)) HC9.out (by omega) (by rfl) (.tmp 77) (by rfl) (by simp [Act.eval, Act.put]) ?_; intro A1 cc1 w1 HB1 HO1; have k0 := pw_cell_below HB1.out HC0.out; have k2 : (w1.alloc (Obj.cells #[Value.int IntKind.i64 (i + 1), Value.slice A1 sh.length cc1] 50)).cell? ⟨b, vn, none⟩ = some (.slice A0 row.length c0) := pw_cell_below (below_alloc (Below.refl _ _) _) k0))
                      all_goals (
                        have HI9 := Aside0.mk (hW.out.case HIz.out)
                        have HB9 := Aside0.mk (hW.out.sub HBz.out HW0.out)
                        have HK9 := Aside0.mk (hW.out.keep HKz.out)
                        have HS9 := Aside0.mk (hW.out.ints HSz.out)
                        go_wp2
                        go_roundg gx
                        case measure => omega
                        case rel => exact ⟨x + 1, q4, _, by go_num, ⟨by have := HX.out; omega⟩, Q4, HI9, HB9, HK9, hS, HS9, HF3⟩)
                    · have HF3 := Aside0.mk (show lgPut s0_0 sh (i + 1) (sh.drop (x + 1)) rr q4 = some (rows2, q3) from by simpa using HF2.out)
                      go_wp2_with (first | (go_at_call 29; refine (partsynccase_Case_Bool.calls g s0_0 pp 14 true q4 w0 _ (by exact HIx.out) (by exact HBx.out) E1.out).mono ?_; rintro e wz ⟨rfl, hIz, hBz, hKz⟩; have HIz := Aside0.mk hIz; have HBz := Aside0.mk hBz; have HKz := Aside0.mk (HKx.out.trans (show KeepBut _ wz g none from hKz) (.inl rfl)); have HLz := Aside0.mk (HLx.out.keep HIx.out hKz); have HSz := Aside0.mk (ints_keep HIx.out hKz HSx.out); clear hIz hBz hKz))
                      go_roundg gx
                      case measure => omega
                      case rel => exact ⟨x + 1, q4, rr, by go_num, ⟨by have := HX.out; omega⟩, Q4, HIz, HBz, HKz, HLz, HSz, HF3⟩
                  · have hxi : ¬ (x : Int) < (sh.length : Int) := by omega
                    obtain rfl : x = sh.length := by have := HX.out; omega
                    have h := HFx.out
                    rw [List.drop_length] at h
                    simp only [lgPut, Option.some.injEq, Prod.mk.injEq] at h
                    obtain ⟨rfl, rfl⟩ := h
                    go_wp2
                    go_roundg gk2
                    case measure => omega
                    case rel => exact ⟨i + 1, _, _, by go_num, ⟨by have := HG.out; omega⟩, ⟨by have := HBI.out; omega⟩, HPP, HIx, HBx, HKx, HLx, H9⟩
            · have H7 := Aside0.mk (show lgFill s0_0 nn gk2 (i + 1) rows q1 = some (rows5, p5) from by simpa using h)
              clear h HF
              go_wp2_with (first | (go_at_call 29; refine (partsynccase_Case_Bool.calls g s0_0 p 12 true q1 w0 _ (by exact HI6.out) (by exact HB6.out) D1.out).mono ?_; rintro e w7 ⟨rfl, hI7, hB7, hK7⟩; have HI7 := Aside0.mk hI7; have HB7 := Aside0.mk hB7; have HK7 := Aside0.mk (HK6.out.trans (show KeepBut _ w7 g none from hK7) (.inl rfl)); have HR7 := Aside0.mk (HR6.out.keep HI6.out hK7); clear hI7 hB7 hK7))
              go_roundg gk2
              case measure => omega
              case rel => exact ⟨i + 1, q1, rows, by go_num, ⟨by have := HG.out; omega⟩, ⟨by have := HBI.out; omega⟩, ⟨Q1⟩, HI7, HB7, HK7, HR7, H7⟩
          · have hd2 : decide (i < 1073741824) = false := decide_eq_false hmx
            have h := HF.out
            simp only [lgFill] at h
            rw [if_neg hmx] at h
            simp only [Option.some.injEq, Prod.mk.injEq] at h
            obtain ⟨rfl, rfl⟩ := h
            go_wp2
            go_meet
            case rel => exact ⟨HI6, HB6, HK6, HR6, HP⟩
        · have hd1 : decide (i < base + (mm : Int)) = false := decide_eq_false hlt
          obtain rfl : gk = 0 := by have := HG.out; omega
          have h := HF.out
          simp only [lgFill, Option.some.injEq, Prod.mk.injEq] at h
          obtain ⟨rfl, rfl⟩ := h
          go_wp2
          go_meet
          case rel => exact ⟨HI6, HB6, HK6, HR6, HP⟩
    case rest =>
      obtain ⟨HI8, HB8, HK8, HR8, HP8⟩ := hcut
      clear HI5 HB5 HK5 HR5 C5
      go_wp2_with fail
      go_loopg [86] nn (fun gk v86 wi => ∃ (x : Nat) (pp : Int) (rr : List (List S50)), v86 = .int .i64 x ∧ Aside0 (x + gk = nn) ∧ Aside0 (0 ≤ pp) ∧ Aside0 (IsS61 w0 wi g s0_0 pp) ∧ Aside0 (Below w0.heap.size w0 wi) ∧ Aside0 (KeepBut w wi g none) ∧ Aside0 (LR wi w.heap.size b nn rr) ∧ Aside0 (lgCut s0_0 gk x rr pp = some (rows6, p6)))
      case atStart => exact ⟨0, p5, _, rfl, ⟨by omega⟩, HP8, HI8, HB8, HK8, HR8, C6⟩
      case round =>
        obtain ⟨x, pp, rr, rfl, HX, HPP, HIx, HBx, HKx, HLx, HFx⟩ := hrel
        by_cases hxl : x < nn
        · have hxi : (x : Int) < (nn : Int) := by omega
          obtain ⟨gx, rfl⟩ : ∃ z, gk = z + 1 := ⟨gk - 1, by have := HX.out; omega⟩
          have h := HFx.out
          simp only [lgCut] at h
          obtain ⟨⟨b3, q4⟩, E1, h⟩ := Option.bind_eq_some_iff.1 h
          dsimp only at h
          have Q4 := bool_bound HCS.out HPP.out hcl E1
          have E1 := Aside0.mk E1
          cases b3
          · have HF3 := Aside0.mk (show lgCut s0_0 gx (x + 1) rr q4 = some (rows6, p6) from by simpa using h)
            clear h
            go_wp2_with (first | (go_at_call 29; refine (partsynccase_Case_Bool.calls g s0_0 pp 5 false q4 w0 _ (by exact HIx.out) (by exact HBx.out) E1.out).mono ?_; rintro e wz ⟨rfl, hIz, hBz, hKz⟩; have HIz := Aside0.mk hIz; have HBz := Aside0.mk hBz; have HKz := Aside0.mk (HKx.out.trans (show KeepBut _ wz g none from hKz) (.inl rfl)); have HLz := Aside0.mk (HLx.out.keep HIx.out hKz); clear hIz hBz hKz))
            go_roundg gx
            case measure => omega
            case rel => exact ⟨x + 1, q4, rr, by go_num, ⟨by have := HX.out; omega⟩, ⟨Q4⟩, HIz, HBz, HKz, HLz, HF3⟩
          · obtain ⟨row, hrow⟩ : ∃ row, rr.getD x [] = row := ⟨_, rfl⟩
            rw [hrow] at h
            rw [if_pos rfl] at h
            split at h
            case isFalse => exact absurd h (by simp)
            rename_i hlen
            obtain ⟨⟨s, q5⟩, E2, h⟩ := Option.bind_eq_some_iff.1 h
            dsimp only at h
            have Q5 := int_bound HCS.out Q4 hcl E2
            obtain ⟨sn, rfl⟩ : ∃ sn : Nat, s = sn := ⟨s.toNat, by omega⟩
            have hsn : sn ≤ row.length := by omega
            rw [Int.toNat_natCast] at h
            have HF3 := Aside0.mk h
            have E2 := Aside0.mk E2
            have HROW := Aside0.mk hrow
            have Q6 := Aside0.mk Q5.2.2
            have hwl : IntKind.i64.wrap ((row.length : Int) + 1) = row.length + 1 := by rw [IntKind.wrap_i64]; omega
            have hwl2 : wrap64 ((row.length : Int) + 1) = row.length + 1 := by unfold wrap64; omega
            clear h hrow Q5
            go_upto_region 27 with (first | (go_at_call 29; refine (partsynccase_Case_Bool.calls g s0_0 pp 5 true q4 w0 _ (by exact HIx.out) (by exact HBx.out) E1.out).mono ?_; rintro e wz ⟨rfl, hIz, hBz, hKz⟩; have HIz := Aside0.mk hIz; have HBz := Aside0.mk hBz; have HKz := Aside0.mk (HKx.out.trans (show KeepBut _ wz g none from hKz) (.inl rfl)); have HLz := Aside0.mk (HLx.out.keep HIx.out hKz); clear hIz hBz hKz))
            obtain ⟨A0, c0, hc0, hlc0, hf0⟩ := HLz.out.cell x hxl
            rw [HROW.out] at hc0 hlc0
            have HNG := Aside0.mk (show b ≠ g from by obtain ⟨cb, hcb⟩ := HLz.out.blk; exact (HIz.out.ne_blk hcb (by decide)).symm)
            have HC0 := Aside0.mk hc0
            have hct : ∀ W : World, (Instr.slice 47 (.slice A0 row.length c0) none (some (.int .i64 sn)) none).run Try.prog W = .ok (.slice A0 sn c0) W := fun W => cutS W A0 row.length c0 sn hsn hlc0
            have hvl2 : (x : Int) < (nn : Int) := by omega
            have hv02 : (0 : Int) ≤ (x : Int) := by omega
            have HSN := Aside0.mk hsn
            clear hlc0 hsn
            go_region_law (go_simp; (first | (go_at_call 14; refine (partsynccase_Case_Int.calls g s0_0 q4 ((row.length : Int) + 1) sn q5 w0 _ (by exact HIz.out) (by first | exact HBz.out | exact Below.drew HBz.out | exact pw_below_drewN HBz.out _) E2.out).mono ?_; rintro e wu ⟨rfl, hIu, hBu, hKu⟩; have HIu := Aside0.mk hIu; have HBu := Aside0.mk hBu; have hKu2 : KeepBut wz wu g none := hKu; have HKu := Aside0.mk (HKz.out.trans hKu2 (.inl rfl)); have HLu := Aside0.mk (HLz.out.keep HIz.out hKu2); have hcu : wu.cell? ⟨b, x, none⟩ = some (.slice A0 row.length c0) := keep_cell hKu2 HC0.out HNG.out; have hfu : wu.frozen? ⟨b, x, none⟩ = false := (HLu.out.cell x hxl).choose_spec.choose_spec.2.2; have HCu := Aside0.mk hcu; clear hIu hBu hKu hKu2)))
            all_goals (
              have HP3 := LR.cut (b := b) HLu.out hxl HROW.out HCu.out HSN.out
              have HI9 := Aside0.mk (HP3.2.case HIu.out)
              have HB9 := Aside0.mk (HP3.2.sub HBu.out HW0.out)
              have HK9 := Aside0.mk (HP3.2.keep HKu.out)
              have HL9 := Aside0.mk HP3.1
              clear HP3
              go_wp2
              go_roundg gx
              case measure => omega
              case rel => exact ⟨x + 1, q5, _, by go_num, ⟨by have := HX.out; omega⟩, Q6, HI9, HB9, HK9, HL9, HF3⟩)
        · have hxi : ¬ (x : Int) < (nn : Int) := by omega
          obtain rfl : gk = 0 := by have := HX.out; omega
          have h := HFx.out
          simp only [lgCut, Option.some.injEq, Prod.mk.injEq] at h
          obtain ⟨rfl, rfl⟩ := h
          go_wp2
          go_ret2
          exact ⟨_, _, rfl, HLx.out, hn1.2, HIx.out, HBx.out, HKx.out⟩

theorem partsynccase_Case_Logs.calls (g : Nat) (s0_0 : List Int) (s0_1 : Int) (r1 : Int) (r2 : List (List (S50))) (r3 : Int) (w0 w : World) (hI : IsS61 w0 w g s0_0 s0_1) (hB : Below w0.heap.size w0 w) (h : partsynccase_Case_Logs.f s0_0 s0_1 = some (r1, r2, r3)) :
    Calls Try.prog 21 #[.pointer (some ⟨g, 0, none⟩)] w fun e w' => ∃ v1_ : Value, e = .returned (.tuple #[.int .i64 r1, v1_]) ∧ Kd.R (Kd.slice 50 k50) 47 w' w.heap.size (fun _ => True) v1_ r2 ∧ IsS61 w0 w' g s0_0 r3 ∧ Below w0.heap.size w0 w' ∧ KeepBut w w' g none := by
  refine (partsynccase_Case_Logs.callsLR g s0_0 s0_1 r1 r2 r3 w0 w hI hB h).mono ?_
  rintro e w' ⟨b, n, rfl, hL, hn, hI2, hB2, hK2⟩
  exact ⟨_, rfl, hL.out (by simp only [maxLen]; omega), hI2, hB2, hK2⟩
end Go.Proofs.Ytkhiglincdognaa.PA
