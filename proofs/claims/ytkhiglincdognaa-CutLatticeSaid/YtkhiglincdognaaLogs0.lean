/-
partsynccase.Case.Logs: what it computes; the steps of its rounds.
Conditions: the codes are bytes (else its function answers none).
-/
import Derived.Test.YtkhiglincdognaaLR
import Derived.Test.YtkhiglincdognaaPAx8
namespace Go.Proofs.Ytkhiglincdognaa.PA
open Go.RowKit Go.Proofs.YtkhiglincdognaaW.PrintWords Go.Proofs.YtkhiglincdognaaW.PrintLast Go.Proofs.YtkhiglincdognaaW.PrintMore
set_option linter.unusedVariables false
set_option linter.unusedSimpArgs false

def lgShards (n : Nat) (set : Int) : List Int := ((List.range n).filter (fun i : Nat => decide (set / 2 ^ i % 2 = 1))).map Int.ofNat
def lgPut (cs all : List Int) (c : Int) : List Int → List (List S50) → Int → Option (List (List S50) × Int)
  | [], rows, p => some (rows, p)
  | i :: r, rows, p => (partsynccase_Case_Bool.f cs p 14).bind fun b =>
      if 0 ≤ i ∧ i < (rows.length : Int) ∧ (rows.getD i.toNat []).length < 1000 then lgPut cs all c r (if b.1 then rows else rows.set i.toNat (rows.getD i.toNat [] ++ [⟨c, all⟩])) b.2 else none
def lgFill (cs : List Int) (len : Nat) : Nat → Int → List (List S50) → Int → Option (List (List S50) × Int)
  | 0, _, rows, p => some (rows, p)
  | m + 1, n, rows, p => if n < 1073741824 then
      (partsynccase_Case_Bool.f cs p 12).bind fun b => if b.1 then lgFill cs len m (n + 1) rows b.2 else
        (partsynccase_Case_Int.f cs b.2 (2 ^ len - 1)).bind fun s => (lgPut cs (lgShards len (1 + s.1)) (n + 1) (lgShards len (1 + s.1)) rows s.2).bind fun q => lgFill cs len m (n + 1) q.1 q.2
    else some (rows, p)
def lgCut (cs : List Int) : Nat → Nat → List (List S50) → Int → Option (List (List S50) × Int)
  | 0, _, rows, p => some (rows, p)
  | m + 1, i, rows, p => (partsynccase_Case_Bool.f cs p 5).bind fun b => if b.1 then
      (if (rows.getD i []).length < 1000000 then (partsynccase_Case_Int.f cs b.2 (((rows.getD i []).length : Int) + 1)).bind fun s => lgCut cs m (i + 1) (rows.set i ((rows.getD i []).take s.1.toNat)) s.2 else none)
    else lgCut cs m (i + 1) rows b.2
def partsynccase_Case_Logs.f (cs : List Int) (p : Int) : Option (Int × List (List S50) × Int) :=
  if (∀ x ∈ cs, 0 ≤ x ∧ x < 256) ∧ 0 ≤ p ∧ cs.length ≤ 1000 then
    (partsynccase_Case_Int.f cs p 3).bind fun b0 => (partsynccase_Case_Bool.f cs b0.2 12).bind fun b1 => (partsynccase_Case_Int.f cs b1.2 4).bind fun n => (partsynccase_Case_Int.f cs n.2 9).bind fun m =>
      (lgFill cs (1 + n.1).toNat m.1.toNat (if b1.1 then 1073741820 else b0.1) (List.replicate (1 + n.1).toNat []) m.2).bind fun r => (lgCut cs (1 + n.1).toNat 0 r.1 r.2).bind fun q => some (if b1.1 then 1073741820 else b0.1, q.1, q.2)
  else none
theorem rd_nn (cs : List Int) (h : ∀ x ∈ cs, 0 ≤ x ∧ x < 256) (i : Int) : 0 ≤ rd cs i ∧ rd cs i < 256 := by
  unfold rd
  rw [List.getD_eq_getElem?_getD]
  cases hx : cs[i.toNat]? with
  | none => simp
  | some v => exact h v (List.mem_of_getElem? hx)
theorem int_bound {cs : List Int} {p n v q : Int} (h : ∀ x ∈ cs, 0 ≤ x ∧ x < 256) (hp : 0 ≤ p) (hl : cs.length ≤ 1000) (hf : partsynccase_Case_Int.f cs p n = some (v, q)) : 0 ≤ v ∧ (v < n ∨ v = 0) ∧ 0 ≤ q := by
  unfold partsynccase_Case_Int.f at hf
  split at hf
  · simp at hf; omega
  · split at hf
    · simp at hf; omega
    · split at hf
      · split at hf
        · split at hf
          · simp at hf
          · rename_i h1 h2 h3 h4 h5
            simp only [Option.some.injEq, Prod.mk.injEq] at hf
            have hr := rd_nn cs h (wrap64 (wrap64 (p + 1) - 1))
            generalize rd cs (wrap64 (wrap64 (p + 1) - 1)) = x at *
            have hx : wrap64 x = x := by unfold wrap64; omega
            have hq : wrap64 (p + 1) = p + 1 := by unfold wrap64; omega
            rw [hx] at hf
            have h6 : x.tmod n = x % n := Int.tmod_eq_emod_of_nonneg hr.1
            have h7 := Int.emod_nonneg x (show n ≠ 0 by omega)
            have h8 := Int.emod_lt_of_pos x (show 0 < n by omega)
            rw [h6, hq] at hf
            omega
        · simp at hf
      · simp at hf
theorem bool_bound {cs : List Int} {p n q : Int} {b : Bool} (h : ∀ x ∈ cs, 0 ≤ x ∧ x < 256) (hp : 0 ≤ p) (hl : cs.length ≤ 1000) (hf : partsynccase_Case_Bool.f cs p n = some (b, q)) : 0 ≤ q := by
  unfold partsynccase_Case_Bool.f at hf
  obtain ⟨⟨v, q'⟩, h1, h2⟩ := Option.bind_eq_some_iff.1 hf
  simp only [Option.some.injEq, Prod.mk.injEq] at h2
  have := (int_bound h hp hl h1).2.2
  omega
theorem zero47' : (Try.prog.info? 47).map (fun i => (i.zero, i.size, i.bytes)) = some (some (.slice none 0 0), 1, 24) := info47
theorem lgShards_succ (j : Nat) (st : Int) : lgShards (j + 1) st = lgShards j st ++ (if st / 2 ^ j % 2 = 1 then [(j : Int)] else []) := by
  unfold lgShards
  rw [List.range_succ, List.filter_append, List.map_append]
  congr 1
  by_cases h : st / 2 ^ j % 2 = 1
  · rw [if_pos h]; simp [h]
  · rw [if_neg h]; simp [h]
theorem lgShards_len (j : Nat) (st : Int) : (lgShards j st).length ≤ j := by
  unfold lgShards
  rw [List.length_map]
  exact Nat.le_trans (List.length_filter_le _ _) (by simp)
theorem lgShards_lt (j : Nat) (st x : Int) (hx : x ∈ lgShards j st) : 0 ≤ x ∧ x < j := by
  unfold lgShards at hx
  obtain ⟨y, hy, rfl⟩ := List.mem_map.1 hx
  have := List.mem_range.1 (List.mem_filter.1 hy).1
  exact ⟨by simp, by simp; omega⟩
theorem and1 (x : Int) (h0 : 0 ≤ x) (h1 : x < 256) : bits .and .i64 x 1 = x % 2 := bits_mask .i64 8 (by decide) (fun n h0 h1 => by rw [IntKind.wrap_i64]; omega) 1 (by decide) x h0 h1
theorem bit_eq (st : Int) (j : Nat) (h0 : 0 ≤ st) (h1 : st ≤ 15) : bits .and .i64 (st / 2 ^ j) 1 = st / 2 ^ j % 2 := by
  have hp : (1 : Int) ≤ 2 ^ j := by have h := Nat.one_le_two_pow (n := j); have e : ((2 ^ j : Nat) : Int) = (2 : Int) ^ j := by push_cast; rfl
                                    omega
  have h2 : 0 ≤ st / 2 ^ j := Int.ediv_nonneg h0 (by omega)
  have h3 : st / 2 ^ j ≤ st := Int.ediv_le_self _ h0
  exact and1 _ h2 (by omega)
/-- What a round leaves alone. -/
structure Wrote (B : Nat) (w w' : World) : Prop where
  below : Below B w w'
  same : ∀ (k : Nat) (cs : Array Value) (t : TypeId), (t = 61 ∨ t = 3) → w.heap[k]? = some (Obj.cells cs t (0, 0)) → w'.heap[k]? = w.heap[k]?
theorem Wrote.case {B : Nat} {w0 w w' : World} {g : Nat} {cs : List Int} {p : Int} (h : Wrote B w w') (hI : IsS61 w0 w g cs p) : IsS61 w0 w' g cs p := by
  obtain ⟨A0, c0, hb, hg, hr⟩ := hI
  exact ⟨A0, c0, (h.same g _ 61 (.inl rfl) hb).trans hb, hg, hr⟩
theorem Wrote.sub {B B0 : Nat} {u w w' : World} (h : Wrote B w w') (hB : Below B0 u w) (hle : B0 ≤ B) : Below B0 u w' := hB.trans ⟨h.below.os, h.below.tape, h.below.output, h.below.size, fun k hk => h.below.block k (by omega)⟩
theorem Wrote.keep {u w w' : World} {g : Nat} (h : Wrote u.heap.size w w') (hk : KeepBut u w g none) : KeepBut u w' g none := ⟨Nat.le_trans hk.1 h.below.size, fun i hi hg hr => (h.below.block i hi).trans (hk.2 i hi hg hr)⟩
theorem Wrote.ints {B base : Nat} {w w' : World} {v : Value} {xs : List Int} (h : Wrote B w w') (hR : (Kd.int .i64).R 3 w base (fun _ => True) v xs) : (Kd.int .i64).R 3 w' base (fun _ => True) v xs :=
  Kd.R_mono (Kd.R_move (Kd.R_bound hR) (fun k hk => by
    obtain ⟨_, _, _, q, hq, cs, hc⟩ := hk
    have hq3 : q = 3 := by have : q ∈ [3] := hq; simpa using this
    exact h.same k cs q (.inr hq3) hc)) (fun _ _ => trivial)
theorem ints_keep {w0 w w' : World} {g base : Nat} {cs : List Int} {p : Int} {v : Value} {xs : List Int} (hI : IsS61 w0 w g cs p) (hk : KeepBut w w' g none) (hR : (Kd.int .i64).R 3 w base (fun _ => True) v xs) : (Kd.int .i64).R 3 w' base (fun _ => True) v xs :=
  Kd.R_mono (Kd.R_keep (hI.apart hR (by decide)) hk (fun k hk => hk.2)) (fun _ _ => trivial)
theorem row_step {wz w1 : World} {b base nn vn : Nat} {rows : List (List S50)} {x : S50} {A0 : Option Addr} {c0 : Nat} {A1 : Option Addr} {cc1 : Nat}
    {row : List S50} (hrow : rows.getD vn [] = row) (n : LR wz base b nn rows) (hi : vn < nn) (hc : wz.cell? ⟨b, vn, none⟩ = some (.slice A0 row.length c0)) (hB : Below wz.heap.size wz w1) (ho : (Kd.int .i64).R 3 w1 wz.heap.size (fun _ => True) (.slice A1 x.f1.length cc1) x.f1) (hX : row.length < 1000)
    {ops : Array Oper} {o : Oper} {a : Act} {Q : Exit → Act → World → Prop} {Kc : Act → World → Prop} (hw : Region.wanted o (yielded ops a.tmps) = true) (s y : Operand)
    (hop : o.op = .call { callee := .builtin .append, args := #[s, y], argTypes := #[47, 47] }) (hs : a.eval s = .slice A0 row.length c0) (hx : a.eval y = .slice (some ⟨w1.heap.size, 0, none⟩) 1 1)
    (h : ∀ A2 c2 w2, w2.cell? ⟨b, vn, none⟩ = some (.slice A0 row.length c0) → w2.frozen? ⟨b, vn, none⟩ = false → Aside0 (LR (w2.setCell ⟨b, vn, none⟩ (.slice A2 (row.length + 1) c2)) base b nn (rows.set vn (row ++ [x]))) → Aside0 (Wrote base wz (w2.setCell ⟨b, vn, none⟩ (.slice A2 (row.length + 1) c2))) → Kc (a.put o.dst (.slice A2 (row.length + 1) c2)) w2) :
    if Region.wanted o (yielded ops a.tmps) = true then Oper.wp Try.prog o a (w1.alloc (.cells #[.int .i64 x.f0, .slice A1 x.f1.length cc1] 50)) Kc Q else Kc (a.put o.dst undef) (w1.alloc (.cells #[.int .i64 x.f0, .slice A1 x.f1.length cc1] 50)) := by
  subst hrow
  obtain ⟨cb, hcb⟩ := n.blk
  have hbb := n.le
  have hblt := n.lt
  obtain ⟨vs, own, hn⟩ := n
  have hri := hn.at hi hc
  have hlt := Kd.R_lt hri
  have hge := Kd.R_base hri
  have hsz := hB.size
  have hM : k50.M w1 base (fun k => wz.heap.size ≤ k) x [.int .i64 x.f0, .slice A1 x.f1.length cc1] := k50_mkM _ _ _ x (Kd.R_mono (Kd.R_lower (Kd.R_bound ho) (by omega)) (fun k hk => hk.2.1))
  have hR0 : k50.R 50 w1 base (fun k => if k < wz.heap.size then own k = vn ∧ k ≠ b else True) (.slice A0 (rows.getD vn []).length c0) (rows.getD vn []) :=
    Kd.R_mono (Kd.R_below (Kd.R_bound hri) hB) (fun k hk => by
      have : k < wz.heap.size := hk.2.2.1
      simp only [this, if_true]
      exact hk.1)
  refine Kd.R_append_step k50 (w0 := w1) base hw s y 47 50 (.agg #[.int .i64 0, .slice none 0 0]) 32 hop Try.underlying47 info50 rfl (by decide) (by omega) (.slice A0 (rows.getD vn []).length c0) (rows.getD vn []) x [.int .i64 x.f0, .slice A1 x.f1.length cc1] _ (fun k => wz.heap.size ≤ k) hs hx hM
    (fun k hk => ⟨by simp only [Nat.not_lt.2 hk, if_false], fun e => by have := hlt k e.symm; omega⟩) (fun k hk => by simp only [show ¬ k < wz.heap.size by omega, if_false]) hR0 (Below.refl _ _) (by omega) (by omega) ?_
  intro v1 w2 ho2 hb2 hg2 hat2
  obtain ⟨A2, c2, rfl⟩ := Kd.R_slice ho2
  rw [List.length_append, List.length_singleton] at ho2 hat2 ⊢
  have hne : some b ≠ (Value.slice A0 (rows.getD vn []).length c0).ownBlock := Kd.R_ne hri hcb (by decide)
  have old : ∀ k, k < wz.heap.size → some k ≠ (Value.slice A0 (rows.getD vn []).length c0).ownBlock → w2.heap[k]? = wz.heap[k]? := fun k hk hn => (hg2.block k (by omega) hn).trans (hB.block k hk)
  have hb2' : w2.heap[b]? = some (.cells cb 47 (0, 0)) := (old b hblt hne).trans hcb
  refine h A2 c2 w2 ((hg2.cell (pw_cell_below hB hc) (fun e => hne e))) (blk_frozen hb2' vn) ⟨?_⟩ ⟨?_⟩
  · exact LR.put hn hi hc hB hg2 ho2
  · refine ⟨?_, fun k cs t ht hk => ?_⟩
    · have hBB : Below base wz w1 := ⟨hB.os, hB.tape, hB.output, hB.size, fun k hk => hB.block k (by omega)⟩
      exact (hBB.grown hg2 (by omega) (fun k hk => hge k hk)).setCell (by exact hbb) _
    · have hkb : k ≠ b := by
        rintro rfl
        rw [hcb] at hk
        injection hk with hk
        injection hk with _ hk
        subst hk
        revert ht
        decide
      have hkv : some k ≠ (Value.slice A0 (rows.getD vn []).length c0).ownBlock := Kd.R_ne hri hk (by rintro rfl; revert ht; decide)
      rw [Below.heap_setCell _ _ _ _ hkb]
      exact old k (blk_lt hk) hkv
/-- The copy of the shards. -/
theorem sh_step {wz w1 : World} {A : Option Addr} {c : Nat} {l : List Int} (hB : Below wz.heap.size wz w1) (hl : (Kd.int .i64).C wz A l.length l) (hll : l.length ≤ 1000)
    {ops : Array Oper} {o : Oper} {a : Act} {Q : Exit → Act → World → Prop} {Kc : Act → World → Prop} (hw : Region.wanted o (yielded ops a.tmps) = true) (y : Operand)
    (hop : o.op = .call { callee := .builtin .append, args := #[.const (.slice none 0 0), y], argTypes := #[26, 26] }) (hx : a.eval y = .slice A l.length c)
    (h : ∀ A2 c2 w2, Aside0 (Below wz.heap.size wz w2) → Aside0 ((Kd.int .i64).R 3 w2 wz.heap.size (fun _ => True) (.slice A2 l.length c2) l) → Kc (a.put o.dst (.slice A2 l.length c2)) w2) :
    if Region.wanted o (yielded ops a.tmps) = true then Oper.wp Try.prog o a w1 Kc Q else Kc (a.put o.dst undef) w1 := by
  refine Kd.R_append_rows_step (Kd.int .i64) (Rr := (Kd.int .i64).K w1) (w0 := wz) wz.heap.size hw (.const (.slice none 0 0)) y 26 3 (.int .i64 0) 8 hop Try.underlying26 info3 rfl (by decide) (by omega) (.slice none 0 0) [] l A l.length c (fun _ => True) (fun _ => False) rfl hx
    (Kd.R_nil _ _ _ _ _) (Kd.C_below hl hB) (fun x cs hx => hx) (fun k hk => hk.elim) (fun _ _ => trivial) hB hB.size (by simp; omega) ?_
  intro v1 w2 ho2 hb2 hg2 hat2
  rw [List.nil_append] at ho2
  obtain ⟨A2, c2, rfl⟩ := Kd.R_slice ho2
  exact h A2 c2 w2 ⟨hb2⟩ ⟨ho2⟩
theorem at_V {w : World} {A : Option Addr} {n : Nat} {xs : List Int} (h : (Kd.int .i64).C w A n xs) (i : Nat) (h1 : i < n) : ∃ ad, A = some ad ∧ w.cell? (ad.add i) = some (.int .i64 (xs.getD i 0)) := by
  obtain ⟨ad, c, e, _, hK, hc0⟩ := Kd.C_get h (0 : Int) (i : Int) (by omega) (by omega)
  have hc : ∀ j u, c[j]? = some u → w.cell? (ad.add ((i : Int).toNat * 1 + j)) = some u := hc0
  obtain rfl : c = [.int .i64 (xs.getD (i : Int).toNat 0)] := hK
  refine ⟨ad, e, ?_⟩
  have := hc 0 _ rfl
  simpa using this
theorem LR.cut {w : World} {base b n i m : Nat} {rows : List (List S50)} {row : List S50} {A : Option Addr} {c : Nat} (h : LR w base b n rows) (hi : i < n) (hrow : rows.getD i [] = row) (hc : w.cell? ⟨b, i, none⟩ = some (.slice A row.length c)) (hm : m ≤ row.length) :
    LR (w.setCell ⟨b, i, none⟩ (.slice A m c)) base b n (rows.set i (row.take m)) ∧ Wrote base w (w.setCell ⟨b, i, none⟩ (.slice A m c)) := by
  subst hrow
  obtain ⟨cb, hcb⟩ := h.blk
  have hle := h.le
  obtain ⟨vs, own, hn⟩ := h
  have hri := hn.at hi hc
  refine ⟨LR.put hn hi hc (Below.refl _ _) (World.grownBy.refl _ _) (Kd.R_mono (Kd.R_take (Kd.R_bound hri) hm) (fun k hk => by
    simp only [hk.2.2.1, if_true]
    exact hk.1)), ⟨(Below.refl _ _).setCell (by exact hle) _, fun k cs t ht hk => Below.heap_setCell _ _ _ _ (by
    rintro rfl
    rw [hcb] at hk
    injection hk with hk
    injection hk with _ hk
    subst hk
    revert ht
    decide)⟩⟩
theorem cutS (W : World) (A : Option Addr) (n c m : Nat) (hm : m ≤ n) (hc : n ≤ c) : (Instr.slice 47 (.slice A n c) none (some (.int .i64 m)) none).run Try.prog W = .ok (.slice A m c) W := by
  obtain ⟨i50, hi50, _⟩ := Option.map_eq_some_iff.1 info50
  have := cut_to (P := Try.prog) 47 50 .i64 Try.underlying47 hi50 A n c m (by omega) (by omega) hc W
  simpa using this
end Go.Proofs.Ytkhiglincdognaa.PA
