/-
The logs that Logs made, with one thing of one list changed.
Conditions: none.
-/
import Derived.Test.YtkhiglincdognaaHLogs
namespace Go.Proofs.Ytkhiglincdognaa.PA
open Go.RowKit Go.Proofs.YtkhiglincdognaaW.PrintWords Go.Proofs.YtkhiglincdognaaW.PrintLast Go.Proofs.YtkhiglincdognaaW.PrintMore
set_option linter.unusedVariables false
set_option linter.unusedSimpArgs false

theorem row_some {w : World} {base : Nat} {ok : Nat → Prop} {v : Value} {r : List S50} (h : k50.R 50 w base ok v r) (hn : 0 < r.length) : ∃ gr c, v = .slice (some ⟨gr, 0, none⟩) r.length c := by
  obtain ⟨_, inner, hown, _⟩ := h
  rcases hown.2 with ⟨_, h0⟩ | ⟨g, cap, cur, hv, _⟩
  · omega
  · exact ⟨g, cap, hv⟩
theorem LRo.retag {vs : List Value} {own : Nat → Nat} {W : World} {base b n : Nat} {rows : List (List S50)} (i : Nat) (h : LRo vs own W base b n rows) : LRo vs (fun k => if k < W.heap.size then own k else i) W base b n rows := by
  obtain ⟨h1, h2, h3, h4, h5⟩ := h
  refine ⟨h1, h2, h3, h4, fun j hj => Kd.R_mono (Kd.R_bound (h5 j hj)) (fun k hk => ⟨?_, hk.1.2⟩)⟩
  have : k < W.heap.size := hk.2.2.1
  simp only [this, if_true]
  exact hk.1.1
theorem LRo.below {vs : List Value} {own : Nat → Nat} {w w1 : World} {base b n : Nat} {rows : List (List S50)} (h : LRo vs own w base b n rows) (hb : Below w.heap.size w w1) : LRo vs own w1 base b n rows := by
  obtain ⟨h1, h2, h3, h4, h5⟩ := h
  exact ⟨h1, h2, h3, (hb.block b (blk_lt h4)).trans h4, fun j hj => Kd.R_below (h5 j hj) hb⟩
/-- A row's own block is written; the cell at b stays. -/
theorem LRo.inrow {vs : List Value} {own : Nat → Nat} {W W2 : World} {base b n i gr : Nat} {rows : List (List S50)} {v : Value} {r1 : List S50} (h : LRo vs own W base b n rows) (hi : i < n) (hc : W.cell? ⟨b, i, none⟩ = some v) (hv : v.ownBlock = some gr) (hg : W.grownBy W2 (some gr))
    (hr1 : k50.R 50 W2 base (fun k => own k = i ∧ k ≠ b) v r1) : LRo vs own W2 base b n (rows.set i r1) := by
  have hri := h.at hi hc
  have hgr := hri.1 gr hv
  obtain ⟨h1, h2, h3, h4, h5⟩ := h
  have hvi : vs.getD i (.slice none 0 0) = v := by
    have e := (blk_cell h4 i).symm.trans hc
    simp [List.getElem?_eq_getElem (show i < vs.length by omega)] at e
    simp [List.getD_eq_getElem?_getD, List.getElem?_eq_getElem (show i < vs.length by omega), e]
  refine ⟨h1, by simp [h2], h3, (hg.block b (blk_lt h4) (fun e => hgr.2 (by injection e with e; exact e.symm))).trans h4, fun j hj => ?_⟩
  by_cases hji : j = i
  · subst hji
    have e2 : (rows.set j r1).getD j [] = r1 := by simp [List.getD_eq_getElem?_getD, List.getElem?_set_self (show j < rows.length by omega)]
    rw [hvi, e2]; exact hr1
  · have e2 : (rows.set i r1).getD j [] = rows.getD j [] := by simp [List.getD_eq_getElem?_getD, List.getElem?_set_ne (Ne.symm hji)]
    rw [e2]
    exact Kd.R_grown (h5 j hj) hg (fun k hk e => by
      injection e with e
      subst e
      exact hji (hk.1.symm.trans hgr.1))
theorem grown_wrote {w0 W W2 : World} {base gr b n : Nat} {rows : List (List S50)} (hB : Below W.heap.size W W2) (h : base ≤ W.heap.size) : Wrote base W W2 := ⟨⟨hB.os, hB.tape, hB.output, hB.size, fun k hk => hB.block k (by omega)⟩, fun k cs t _ hk => hB.block k (blk_lt hk)⟩
theorem Wrote.trans {B : Nat} {w w1 w2 : World} (h : Wrote B w w1) (h' : Wrote B w1 w2) : Wrote B w w2 := ⟨h.below.trans h'.below, fun k cs t ht hk => by
  have e := h.same k cs t ht hk
  exact (h'.same k cs t ht (e.trans hk)).trans e⟩
/-- One cell of a stamp is written. -/
theorem LR.field {W : World} {base b n i gr c j : Nat} {rows : List (List S50)} {row : List S50} {vs : List Value} {own : Nat → Nat} (h : LRo vs own W base b n rows) (hi : i < n) (hrow : rows.getD i [] = row) (hc : W.cell? ⟨b, i, none⟩ = some (.slice (some ⟨gr, 0, none⟩) row.length c)) (hj : j < row.length) (q : Nat) (hq : q < 2) (u : Value) (x' : S50)
    (hM : ∀ cs : List Value, cs.length = 2 → (∀ y u, cs[y]? = some u → W.cell? ⟨gr, j * 2 + y, none⟩ = some u) → k50.M W base (fun k => (own k = i ∧ k ≠ b) ∧ k ≠ gr) (row.getD j z50) cs → k50.M W base (fun k => (own k = i ∧ k ≠ b) ∧ k ≠ gr) x' (cs.take q ++ [u] ++ cs.drop (q + 1))) :
    LR (W.setCell ⟨gr, j * 2 + q, none⟩ u) base b n (rows.set i (row.set j x')) ∧ Wrote base W (W.setCell ⟨gr, j * 2 + q, none⟩ u) := by
  subst hrow
  have hri := h.at hi hc
  obtain ⟨cs, k1, k2, k3, k4⟩ := Kd.R_elem hri z50 (j : Int) (by omega) (by omega)
  rw [Int.toNat_natCast] at k2 k3 k4
  have k3' : ∀ y u, cs[y]? = some u → W.cell? ⟨gr, j * 2 + y, none⟩ = some u := k3
  have hs := Kd.R_seg (seg := [u]) (j := q) (x' := x') hri (j : Int) (by omega) (by omega) k1 (by rw [Int.toNat_natCast]; exact k3) (by show q + 1 ≤ 2; omega) (hM cs k1 k3' k2) (fun k hk => hk)
  rw [Int.toNat_natCast] at hs
  have es : W.setCells gr (j * k50.sz + q) [u] = W.setCell ⟨gr, j * 2 + q, none⟩ u := rfl
  rw [es] at hs
  obtain ⟨hs1, hs2⟩ := hs
  have hgr := hri.1 gr (by simp [Value.ownBlock])
  have hbase := Kd.R_base hri gr (by simp [Value.ownBlock])
  refine ⟨⟨vs, own, h.inrow hi hc (by simp [Value.ownBlock]) hs2 hs1⟩, ⟨(Below.refl _ _).setCell (by exact hbase) _, fun k cs t ht hk => Below.heap_setCell _ _ _ _ (fun e => ?_)⟩⟩
  have := Kd.R_ne hri hk (by rintro rfl; revert ht; decide)
  exact this (by rw [e]; simp [Value.ownBlock])
theorem LR.commit {W : World} {base b n i gr c j : Nat} {rows : List (List S50)} {row : List S50} (h : LR W base b n rows) (hi : i < n) (hrow : rows.getD i [] = row) (hc : W.cell? ⟨b, i, none⟩ = some (.slice (some ⟨gr, 0, none⟩) row.length c)) (hj : j < row.length) (by_ : Int) :
    ∃ rows', LR (W.setCell ⟨gr, j * 2, none⟩ (.int .i64 by_)) base b n rows' ∧ Wrote base W (W.setCell ⟨gr, j * 2, none⟩ (.int .i64 by_)) := by
  obtain ⟨vs, own, h⟩ := h
  have := LR.field h hi hrow hc hj 0 (by omega) (.int .i64 by_) ⟨by_, (row.getD j z50).f1⟩ (fun cs hl hcell hM => by
    obtain ⟨v1, rfl, g1⟩ := k50_openM hM
    exact k50_mkM _ _ _ ⟨by_, (row.getD j z50).f1⟩ g1)
  exact ⟨_, this⟩
theorem LR.shards {W W1 : World} {base b n i gr c j : Nat} {rows : List (List S50)} {row : List S50} {v1 : Value} {l : List Int} (h : LR W base b n rows) (hi : i < n) (hrow : rows.getD i [] = row) (hc : W.cell? ⟨b, i, none⟩ = some (.slice (some ⟨gr, 0, none⟩) row.length c)) (hj : j < row.length) (hB : Below W.heap.size W W1) (hbase : base ≤ W.heap.size) (ho : (Kd.int .i64).R 3 W1 W.heap.size (fun _ => True) v1 l) :
    ∃ rows', LR (W1.setCell ⟨gr, j * 2 + 1, none⟩ v1) base b n rows' ∧ Wrote base W (W1.setCell ⟨gr, j * 2 + 1, none⟩ v1) := by
  obtain ⟨vs, own, h⟩ := h
  have hblt := blk_lt h.2.2.2.1
  have hgr := Kd.R_lt (h.at hi hc) gr (by simp [Value.ownBlock])
  have h' := (h.retag i).below hB
  have := LR.field h' hi hrow (pw_cell_below hB hc) hj 1 (by omega) v1 ⟨(row.getD j z50).f0, l⟩ (fun cs hl hcell hM => by
    obtain ⟨v0, rfl, g1⟩ := k50_openM hM
    refine k50_mkM _ _ _ ⟨(row.getD j z50).f0, l⟩ (Kd.R_mono (Kd.R_lower (Kd.R_bound ho) hbase) (fun k hk => ?_))
    have : W.heap.size ≤ k := hk.2.1
    refine ⟨⟨?_, by omega⟩, by omega⟩
    simp only [show ¬ k < W.heap.size by omega, if_false])
  exact ⟨_, this.1, (grown_wrote (w0 := W) (gr := 0) (b := 0) (n := 0) (rows := []) hB hbase).trans this.2⟩
theorem rows_src50 {w : World} {base : Nat} {ok : Nat → Prop} {A0 : Option Addr} {n0 c0 : Nat} {xs : List S50} (h : k50.R 50 w base ok (.slice A0 n0 c0) xs) : ReadsRow (fun x cs => k50.M w base (fun k => ok k ∧ k < w.heap.size) x cs) 2 w A0 xs.length xs := by
  obtain ⟨A, c, e, _, hr⟩ := h.2.reads
  obtain ⟨rfl, -, -⟩ := Value.slice.inj e
  exact hr.imp_ (Below.refl _ _) (fun p c hp => k50.M_mono (fun k hk => ⟨hk.1.1, hk.2.2.1⟩) (k50.M_bound hp))
theorem rows_move50 {w w1 : World} {base : Nat} {ok : Nat → Prop} {A : Option Addr} {n : Nat} {ys : List S50} (h : ReadsRow (fun x cs => k50.M w base (fun k => ok k ∧ k < w.heap.size) x cs) 2 w A n ys) (hb : Below w.heap.size w w1) : ReadsRow (fun x cs => k50.M w1 base (fun k => ok k ∧ k < w.heap.size) x cs) 2 w1 A n ys :=
  h.imp_ hb (fun p c hp => Kd.M_step hp (fun k hk _ => hb.block k hk.2))
/-- A list that is not empty: its cell, and the cells of a stamp. -/
theorem LRo.stamp {vs : List Value} {own : Nat → Nat} {W : World} {base b n i j : Nat} {rows : List (List S50)} {row : List S50} (h : LRo vs own W base b n rows) (hi : i < n) (hrow : rows.getD i [] = row) (hj : j < row.length) :
    ∃ gr c B d, W.cell? ⟨b, i, none⟩ = some (.slice (some ⟨gr, 0, none⟩) row.length c) ∧ row.length ≤ c ∧ k50.R 50 W base (fun k => own k = i ∧ k ≠ b) (.slice (some ⟨gr, 0, none⟩) row.length c) row ∧ W.cell? ⟨gr, j * 2, none⟩ = some (.int .i64 (row.getD j z50).f0) ∧ W.cell? ⟨gr, j * 2 + 1, none⟩ = some (.slice B (row.getD j z50).f1.length d) ∧
      (row.getD j z50).f1.length ≤ d ∧ (Kd.int .i64).C W B (row.getD j z50).f1.length (row.getD j z50).f1 ∧ W.frozen? ⟨gr, j * 2, none⟩ = false ∧ W.frozen? ⟨gr, j * 2 + 1, none⟩ = false ∧ k50.M W base (fun k => (own k = i ∧ k ≠ b) ∧ k < W.heap.size) (row.getD j z50) [.int .i64 (row.getD j z50).f0, .slice B (row.getD j z50).f1.length d] := by
  subst hrow
  have hL : LR W base b n rows := ⟨vs, own, h⟩
  obtain ⟨A, c, hc, hlc, _⟩ := hL.cell i hi
  have hri := h.at hi hc
  obtain ⟨gr, c', e⟩ := row_some hri (by omega)
  injection e with eA _ _
  subst eA
  obtain ⟨cs, k1, k2, k3, k4⟩ := Kd.R_elem hri z50 (j : Int) (by omega) (by omega)
  rw [Int.toNat_natCast] at k2 k3 k4
  obtain ⟨v1, rfl, g1⟩ := k50_openM k2
  obtain ⟨B, d, rfl⟩ := Kd.R_slice g1
  have e0 := k3 0 _ rfl
  have e1 := k3 1 _ rfl
  have f0 := k4 0
  have f1 := k4 1
  exact ⟨gr, c, B, d, hc, hlc, hri, e0, e1, (Kd.R_reads' g1).2.1, (Kd.R_reads' g1).2.2, f0, f1, k50.M_mono (fun k hk => ⟨hk.1.1, hk.2.2.1⟩) (k50.M_bound k2)⟩
theorem lit_new (w : World) (o : Obj) : (w.alloc o).heap[w.heap.size]? = some o := by
  show (w.heap.push o)[w.heap.size]? = some o
  simp
theorem dup_step1 {own : Nat → Nat} {W w1 : World} {base b i gr c : Nat} {row : List S50}
    (hri : k50.R 50 W base (fun k => own k = i ∧ k ≠ b) (.slice (some ⟨gr, 0, none⟩) row.length c) row) (hB : Below W.heap.size W w1) (hbase : base ≤ W.heap.size) (hX : row.length < 1000)
    {ops : Array Oper} {o : Oper} {a : Act} {Q : Exit → Act → World → Prop} {Kc : Act → World → Prop} (hw : Region.wanted o (yielded ops a.tmps) = true) (y : Operand)
    (hop : o.op = .call { callee := .builtin .append, args := #[.const (.slice none 0 0), y], argTypes := #[47, 47] }) (hx : a.eval y = .slice (some ⟨gr, 0, none⟩) row.length c)
    (h : ∀ A2 c2 w2, Aside0 (Below W.heap.size W w2) → Aside0 (k50.R 50 w2 base (fun k => if k < W.heap.size then own k = i ∧ k ≠ b else True) (.slice A2 row.length c2) row) → Aside0 (∀ k, (Value.slice A2 row.length c2).ownBlock = some k → W.heap.size ≤ k) → Aside0 (∀ k, k < w1.heap.size → w2.heap[k]? = w1.heap[k]?) → Kc (a.put o.dst (.slice A2 row.length c2)) w2) :
    if Region.wanted o (yielded ops a.tmps) = true then Oper.wp Try.prog o a w1 Kc Q else Kc (a.put o.dst undef) w1 := by
  refine Kd.R_append_rows_step k50 (Rr := fun x cs => k50.M w1 base (fun k => (own k = i ∧ k ≠ b) ∧ k < W.heap.size) x cs) (w0 := W) base hw (.const (.slice none 0 0)) y 47 50 (.agg #[.int .i64 0, .slice none 0 0]) 32 hop Try.underlying47 info50 rfl (by decide) (by omega) (.slice none 0 0) [] row (some ⟨gr, 0, none⟩) row.length c
    (fun k => if k < W.heap.size then own k = i ∧ k ≠ b else True) (fun k => (own k = i ∧ k ≠ b) ∧ k < W.heap.size) rfl hx (Kd.R_nil _ _ _ _ _) (rows_move50 (rows_src50 hri) hB) (fun x cs hx => hx) (fun k hk => ⟨by simp only [hk.2, if_true]; exact hk.1, fun e => by simp [Value.ownBlock] at e⟩) (fun k hk => by have := hB.size; simp only [show ¬ k < W.heap.size by omega, if_false])
    ⟨hB.os, hB.tape, hB.output, hB.size, fun k hk => hB.block k (by omega)⟩ (by have := hB.size; omega) (by simp; omega) ?_
  intro v1 w2 ho2 hb2 hg2 hat2
  rw [List.nil_append] at ho2
  obtain ⟨A2, c2, rfl⟩ := Kd.R_slice ho2
  have hB2 : Below W.heap.size W w2 := hB.grown hg2 hB.size (fun k hk => by simp [Value.ownBlock] at hk)
  refine h A2 c2 w2 ⟨hB2⟩ ⟨ho2⟩ ⟨fun k hk => ?_⟩ ⟨fun k hk => hg2.block k hk (fun e => by simp [Value.ownBlock] at e)⟩
  rcases hat2 with e | ⟨k', e, hk'⟩
  · rw [e] at hk; simp [Value.ownBlock] at hk
  · rw [e] at hk; injection hk with hk; have := hB.size; omega
theorem dup_step2 {vs : List Value} {own : Nat → Nat} {W w1 : World} {base b n i : Nat} {rows : List (List S50)} {row : List S50} {v : Value} {A2 : Option Addr} {c2 : Nat} {s : S50} {B : Option Addr} {d : Nat}
    (hL : LRo vs own W base b n rows) (hi : i < n) (hc : W.cell? ⟨b, i, none⟩ = some v) (hB : Below W.heap.size W w1) (ho : k50.R 50 w1 base (fun k => if k < W.heap.size then own k = i ∧ k ≠ b else True) (.slice A2 row.length c2) row) (hfr : ∀ k, (Value.slice A2 row.length c2).ownBlock = some k → W.heap.size ≤ k)
    (hM : k50.M W base (fun k => (own k = i ∧ k ≠ b) ∧ k < W.heap.size) s [.int .i64 s.f0, .slice B s.f1.length d]) (hbase : base ≤ W.heap.size) (hX : row.length < 1000)
    {ops : Array Oper} {o : Oper} {a : Act} {Q : Exit → Act → World → Prop} {Kc : Act → World → Prop} (hw : Region.wanted o (yielded ops a.tmps) = true) (x y : Operand)
    (hop : o.op = .call { callee := .builtin .append, args := #[x, y], argTypes := #[47, 47] }) (hs : a.eval x = .slice A2 row.length c2) (hx : a.eval y = .slice (some ⟨w1.heap.size, 0, none⟩) 1 1)
    (h : ∀ A3 c3 w3, w3.cell? ⟨b, i, none⟩ = some v → w3.frozen? ⟨b, i, none⟩ = false → Aside0 (∃ rows', LR (w3.setCell ⟨b, i, none⟩ (.slice A3 (row.length + 1) c3)) base b n rows' ∧ Wrote base W (w3.setCell ⟨b, i, none⟩ (.slice A3 (row.length + 1) c3))) → Kc (a.put o.dst (.slice A3 (row.length + 1) c3)) w3) :
    if Region.wanted o (yielded ops a.tmps) = true then Oper.wp Try.prog o a (w1.alloc (.cells #[.int .i64 s.f0, .slice B s.f1.length d] 50)) Kc Q else Kc (a.put o.dst undef) (w1.alloc (.cells #[.int .i64 s.f0, .slice B s.f1.length d] 50)) := by
  have hM1 : k50.M w1 base (fun k => (own k = i ∧ k ≠ b) ∧ k < W.heap.size) s [.int .i64 s.f0, .slice B s.f1.length d] := Kd.M_step hM (fun k hk _ => hB.block k hk.2)
  have hblt := blk_lt hL.2.2.2.1
  have hle := hL.2.2.1
  refine Kd.R_append_step k50 (w0 := W) base hw x y 47 50 (.agg #[.int .i64 0, .slice none 0 0]) 32 hop Try.underlying47 info50 rfl (by decide) (by omega) (.slice A2 row.length c2) row s [.int .i64 s.f0, .slice B s.f1.length d]
    (fun k => if k < W.heap.size then own k = i ∧ k ≠ b else True) (fun k => (own k = i ∧ k ≠ b) ∧ k < W.heap.size) hs hx hM1 (fun k hk => ⟨by simp only [hk.2, if_true]; exact hk.1, fun e => by have := hfr k e.symm; have := hk.2; omega⟩) (fun k hk => by have := hB.size; simp only [show ¬ k < W.heap.size by omega, if_false]) ho
    ⟨hB.os, hB.tape, hB.output, hB.size, fun k hk => hB.block k (by omega)⟩ (by have := hB.size; omega) (by omega) ?_
  intro v1 w3 ho3 hb3 hg3 hat3
  obtain ⟨A3, c3, rfl⟩ := Kd.R_slice ho3
  rw [List.length_append, List.length_singleton] at ho3 hat3 ⊢
  have hB3 : Below W.heap.size W w3 := hB.grown hg3 hB.size (fun k hk => hfr k hk)
  have hb3' : w3.heap[b]? = some (.cells vs.toArray 47 (0, 0)) := (hB3.block b hblt).trans hL.2.2.2.1
  refine h A3 c3 w3 (pw_cell_below hB3 hc) (blk_frozen hb3' i) ⟨_, LR.put hL hi hc hB3 (World.grownBy.refl _ _) ho3, ?_⟩
  refine (grown_wrote (w0 := W) (gr := 0) (b := 0) (n := 0) (rows := []) hB3 hbase).trans ⟨(Below.refl _ _).setCell (by exact hle) _, fun k cs t ht hk => Below.heap_setCell _ _ _ _ ?_⟩
  rintro rfl
  rw [hb3'] at hk
  injection hk with hk
  injection hk with _ hk
  subst hk
  revert ht
  decide
theorem dup_step3 {vs : List Value} {own : Nat → Nat} {W w1 : World} {base b n i : Nat} {rows : List (List S50)} {row : List S50} {v : Value} {A2 : Option Addr} {c2 : Nat} {p : Nat} {s : S50} {B : Option Addr} {d : Nat}
    (hL : LRo vs own W base b n rows) (hi : i < n) (hc : W.cell? ⟨b, i, none⟩ = some v) (hB : Below W.heap.size W w1) (ho : k50.R 50 w1 base (fun k => if k < W.heap.size then own k = i ∧ k ≠ b else True) (.slice A2 row.length c2) row) (hfr : ∀ k, (Value.slice A2 row.length c2).ownBlock = some k → W.heap.size ≤ k)
    (hM : k50.M W base (fun k => (own k = i ∧ k ≠ b) ∧ k < W.heap.size) s [.int .i64 s.f0, .slice B s.f1.length d]) (hbase : base ≤ W.heap.size) (hX : row.length < 1000)
    {ops : Array Oper} {o : Oper} {a : Act} {Q : Exit → Act → World → Prop} {Kc : Act → World → Prop} (hw : Region.wanted o (yielded ops a.tmps) = true) (x y : Operand)
    (hop : o.op = .call { callee := .builtin .append, args := #[x, y], argTypes := #[47, 47] }) (hs : a.eval x = .slice A2 row.length c2) (hx : a.eval y = .slice (some ⟨p, 0, none⟩) 1 1) (hlit : w1.heap[p]? = some (.cells #[.int .i64 s.f0, .slice B s.f1.length d] 50 (0, 0)))
    (h : ∀ A3 c3 w3, w3.cell? ⟨b, i, none⟩ = some v → w3.frozen? ⟨b, i, none⟩ = false → Aside0 (∃ rows', LR (w3.setCell ⟨b, i, none⟩ (.slice A3 (row.length + 1) c3)) base b n rows' ∧ Wrote base W (w3.setCell ⟨b, i, none⟩ (.slice A3 (row.length + 1) c3))) → Kc (a.put o.dst (.slice A3 (row.length + 1) c3)) w3) :
    if Region.wanted o (yielded ops a.tmps) = true then Oper.wp Try.prog o a w1 Kc Q else Kc (a.put o.dst undef) w1 := by
  have hM1 : k50.M w1 base (fun k => (own k = i ∧ k ≠ b) ∧ k < W.heap.size) s [.int .i64 s.f0, .slice B s.f1.length d] := Kd.M_step hM (fun k hk _ => hB.block k hk.2)
  have hblt := blk_lt hL.2.2.2.1
  have hle := hL.2.2.1
  have hrow : ReadsRow (fun x cs => k50.M w1 base (fun k => (own k = i ∧ k ≠ b) ∧ k < W.heap.size) x cs) 2 w1 (some ⟨p, 0, none⟩) 1 [s] := by
    refine ⟨rfl, by omega, fun _ => ⟨_, rfl, fun j x hj => ?_⟩⟩
    match j, hj with
    | 0, hj =>
      injection hj with hj
      subst hj
      refine ⟨_, rfl, hM1, fun x u hx => ?_⟩
      rw [add_plain, blk_cell hlit]
      match x, hx with
      | 0, hx => exact hx
      | 1, hx => exact hx
  refine Kd.R_append_rows_step k50 (Rr := fun x cs => k50.M w1 base (fun k => (own k = i ∧ k ≠ b) ∧ k < W.heap.size) x cs) (w0 := W) base hw x y 47 50 (.agg #[.int .i64 0, .slice none 0 0]) 32 hop Try.underlying47 info50 rfl (by decide) (by omega) (.slice A2 row.length c2) row [s] (some ⟨p, 0, none⟩) 1 1
    (fun k => if k < W.heap.size then own k = i ∧ k ≠ b else True) (fun k => (own k = i ∧ k ≠ b) ∧ k < W.heap.size) hs hx ho hrow (fun x cs hx => hx) (fun k hk => ⟨by simp only [hk.2, if_true]; exact hk.1, fun e => by have := hfr k e.symm; have := hk.2; omega⟩) (fun k hk => by have := hB.size; simp only [show ¬ k < W.heap.size by omega, if_false])
    ⟨hB.os, hB.tape, hB.output, hB.size, fun k hk => hB.block k (by omega)⟩ (by have := hB.size; omega) (by omega) ?_
  intro v1 w3 ho3 hb3 hg3 hat3
  obtain ⟨A3, c3, rfl⟩ := Kd.R_slice ho3
  rw [List.length_append, List.length_singleton] at ho3 hat3 ⊢
  have hB3 : Below W.heap.size W w3 := hB.grown hg3 hB.size (fun k hk => hfr k hk)
  have hb3' : w3.heap[b]? = some (.cells vs.toArray 47 (0, 0)) := (hB3.block b hblt).trans hL.2.2.2.1
  refine h A3 c3 w3 (pw_cell_below hB3 hc) (blk_frozen hb3' i) ⟨_, LR.put hL hi hc hB3 (World.grownBy.refl _ _) ho3, ?_⟩
  refine (grown_wrote (w0 := W) (gr := 0) (b := 0) (n := 0) (rows := []) hB3 hbase).trans ⟨(Below.refl _ _).setCell (by exact hle) _, fun k cs t ht hk => Below.heap_setCell _ _ _ _ ?_⟩
  rintro rfl
  rw [hb3'] at hk
  injection hk with hk
  injection hk with _ hk
  subst hk
  revert ht
  decide
/-- Four empty lists behind the others. -/
theorem LR.more {W w1 : World} {base b n : Nat} {rows : List (List S50)} {v1 : Value} (h : LR W base b n rows) (hg : W.grownBy w1 (some b)) (vs : List Value) (hvs : W.heap[b]? = some (.cells vs.toArray 47 (0, 0))) (hn : vs.length = n)
    (ho : (Kd.raw 1).R 47 w1 base (fun _ => True) v1 (vs.map (fun v => [v]) ++ List.replicate 4 [.slice none 0 0])) : ∃ A c, v1 = .slice A (n + 4) c ∧ n + 4 ≤ c ∧ (Kd.slice 50 k50).C w1 A (n + 4) (rows ++ List.replicate 4 []) := by
  obtain ⟨vs', own, h1, h2, h3, h4, h5⟩ := h
  have ev : vs' = vs := by
    rw [h4] at hvs
    injection hvs with hvs
    injection hvs with hvs _
    exact List.toArray_inj hvs
  subst ev
  obtain ⟨A, c, e, hlc, hC⟩ := Kd.R_reads ho
  have hl : (vs'.map (fun v => [v]) ++ List.replicate 4 [Value.slice none 0 0]).length = n + 4 := by simp [h1]
  rw [hl] at e hlc hC
  refine ⟨A, c, e, hlc, by simp [h2], hC.2.1, fun hp => ?_⟩
  obtain ⟨ad, ea, hcell⟩ := hC.2.2 hp
  refine ⟨ad, ea, fun j p hj => ?_⟩
  have hjl : j < n + 4 := by have := (List.getElem?_eq_some_iff.1 hj).1; simp [h2] at this; omega
  obtain ⟨cs, k1, k2, k3⟩ := hcell j ((vs'.map (fun v => [v]) ++ List.replicate 4 [Value.slice none 0 0])[j]'(by omega)) (List.getElem?_eq_getElem (by omega))
  have k2' : cs = ((vs'.map (fun v => [v]) ++ List.replicate 4 [Value.slice none 0 0])[j]'(by omega)) := by
    exact k2.1
  refine ⟨cs, k1, ?_, k3⟩
  rw [k2']
  rcases Nat.lt_or_ge j n with hjn | hjn
  · have e1 : (vs'.map (fun v => [v]) ++ List.replicate 4 [Value.slice none 0 0])[j]'(by omega) = [vs'.getD j (.slice none 0 0)] := by
      rw [List.getElem_append_left (by simp [h1]; exact hjn)]
      simp [List.getD_eq_getElem?_getD, List.getElem?_eq_getElem (show j < vs'.length by omega)]
    have e2 : rows.getD j [] = p := by
      rw [List.getElem?_append_left (by omega)] at hj
      rw [List.getD_eq_getElem?_getD, hj]; rfl
    have hr := Kd.R_grown (h5 j hjn) hg (fun k hk e => hk.2 (by injection e))
    rw [e2] at hr
    obtain ⟨A', c', e', hl', hC'⟩ := Kd.R_reads hr
    rw [e1, e']
    exact ⟨A', c', rfl, hl', hC'⟩
  · have e1 : (vs'.map (fun v => [v]) ++ List.replicate 4 [Value.slice none 0 0])[j]'(by omega) = [.slice none 0 0] := by
      rw [List.getElem_append_right (by simp [h1]; exact hjn), List.getElem_replicate]
    have e2 : p = [] := by
      rw [List.getElem?_append_right (by omega), List.getElem?_replicate] at hj
      split at hj
      · exact (Option.some.inj hj).symm
      · cases hj
    rw [e1, e2]
    exact ⟨none, 0, rfl, Nat.le_refl _, Kd.C_nil _ _⟩
theorem LRo.raw {vs : List Value} {own : Nat → Nat} {w : World} {base b n : Nat} {rows : List (List S50)} (h : LRo vs own w base b n rows) (hn : n ≤ maxLen) : (Kd.raw 1).R 47 w base (fun _ => True) (.slice (some ⟨b, 0, none⟩) n n) (vs.map (fun v => [v])) := by
  obtain ⟨h1, h2, h3, h4, h5⟩ := h
  refine ⟨fun _ _ => trivial, vs, ⟨by rw [List.length_map, h1]; simp [Kd.raw], .inr ⟨b, n, vs.toArray, by rw [List.length_map, h1], h3, h4, by simp [h1], hn, by simp [Kd.raw, h1], ?_⟩⟩, ?_, ?_⟩
  · rw [List.length_map]; simp [Kd.raw, ← h1]
  · rw [h1, List.length_map]; simp [Kd.raw, h1]
  · intro j p hp
    rw [List.getElem?_map] at hp
    rcases hq : vs[j]? with _ | v
    · rw [hq] at hp; cases hp
    · rw [hq] at hp
      injection hp with hp
      subst hp
      have hj : j < n := by have := (List.getElem?_eq_some_iff.1 hq).1; omega
      have e1 : ((vs.drop (j * (Kd.raw 1).sz)).take (Kd.raw 1).sz) = [v] := by
        have : (Kd.raw 1).sz = 1 := rfl
        rw [this, Nat.mul_one, List.drop_eq_getElem_cons (show j < vs.length by omega), List.take_succ_cons, List.take_zero]
        rw [(List.getElem?_eq_some_iff.1 hq).2]
      rw [e1]
      have hv : vs.getD j (.slice none 0 0) = v := by simp [List.getD_eq_getElem?_getD, hq]
      obtain ⟨A, c, e⟩ := Kd.R_slice (h5 j hj)
      rw [hv] at e
      subst e
      exact ⟨rfl, rfl, fun u hu => by simp at hu; subst hu; rfl⟩
theorem more_step {W : World} {base b n : Nat} {rows : List (List S50)} (h : LR W base b n rows) (hn : n ≤ 4) (hbase : base ≤ W.heap.size)
    {ops : Array Oper} {o : Oper} {rest : List Oper} {a : Act} {Q : Exit → Act → World → Prop} (hgd : o.guard = none) (x y : Operand)
    (hop : o.op = .call { callee := .builtin .append, args := #[x, y], argTypes := #[34, 34] }) (hs : a.eval x = .slice (some ⟨b, 0, none⟩) n n) (hx : a.eval y = .slice (some ⟨W.heap.size, 0, none⟩) 4 4)
    (k : ∀ A c w1, n + 4 ≤ c → (Kd.slice 50 k50).C w1 A (n + 4) (rows ++ List.replicate 4 []) → Below base W w1 → wpList Try.prog ops Q rest (a.put o.dst (.slice A (n + 4) c)) w1) :
    wpList Try.prog ops Q (o :: rest) a (W.alloc (.cells #[.slice none 0 0, .slice none 0 0, .slice none 0 0, .slice none 0 0] 47)) := by
  have hA : Below W.heap.size W (W.alloc (.cells #[.slice none 0 0, .slice none 0 0, .slice none 0 0, .slice none 0 0] 47)) := below_alloc (Below.refl _ _) _
  have h' := h.below hA
  have hlit := lit_new W (.cells #[.slice none 0 0, .slice none 0 0, .slice none 0 0, .slice none 0 0] 47)
  have hsz := hA.size
  revert hA h' hlit hsz
  generalize W.alloc (.cells #[.slice none 0 0, .slice none 0 0, .slice none 0 0, .slice none 0 0] 47) = W1
  intro hA h' hlit hsz
  obtain ⟨vs, own, hL⟩ := h'
  have hrow : ReadsRow (fun (x : List Value) cs => cs = x ∧ cs.length = 1 ∧ ∀ u ∈ cs, u.oneCell' = true) 1 W1 (some ⟨W.heap.size, 0, none⟩) 4 (List.replicate 4 [.slice none 0 0]) := by
    refine ⟨rfl, by omega, fun _ => ⟨_, rfl, fun j x hj => ?_⟩⟩
    rw [List.getElem?_replicate] at hj
    split at hj
    · rename_i hj4
      injection hj with hj
      subst hj
      refine ⟨_, rfl, ⟨rfl, rfl, fun u hu => by simp at hu; subst hu; rfl⟩, fun i u hu => ?_⟩
      rw [add_plain, blk_cell hlit]
      match j, hj4, i, hu with
      | 0, _, 0, hu => exact hu
      | 1, _, 0, hu => exact hu
      | 2, _, 0, hu => exact hu
      | 3, _, 0, hu => exact hu
    · cases hj
  refine Kd.R_append_rows (Kd.raw 1) (Rr := fun (x : List Value) cs => cs = x ∧ cs.length = 1 ∧ ∀ u ∈ cs, u.oneCell' = true) (w0 := W) base hgd x y 34 47 (.slice none 0 0) 24 hop Try.underlying34 info47 rfl (by decide) (by omega) (.slice (some ⟨b, 0, none⟩) n n) (vs.map (fun v => [v])) (List.replicate 4 [.slice none 0 0]) (some ⟨W.heap.size, 0, none⟩) 4 4
    (fun _ => True) (fun _ => False) hs hx (hL.raw (by unfold maxLen; omega)) hrow (fun x cs hx => hx) (fun _ hk => hk.elim) (fun _ _ => trivial) ⟨hA.os, hA.tape, hA.output, hA.size, fun k hk => hA.block k (by omega)⟩ (by omega) (by rw [List.length_map, hL.1]; omega) ?_
  intro v1 w1 ho hb hg _
  obtain ⟨A, c, rfl, hlc, hC⟩ := LR.more ⟨vs, own, hL⟩ hg vs hL.2.2.2.1 hL.1 ho
  exact k A c w1 hlc hC hb
end Go.Proofs.Ytkhiglincdognaa.PA
