/-
The contracts of package network's functions that take away: slices.Delete, remove, Take, Drop; and Look.
Conditions: the network lies in memory as Net says; at most 1000 messages.
-/
import Derived.Test.YtcjeideiigdidaaNet1
import Derived.Lib.SliceRun
import Derived.Deep.RegionLaw
namespace Go.Proofs.Ytcjeideiigdidaa.Net
open Go.RowKit Go.Proofs.YtcjeideiigdidaaW.PrintWords Go.Proofs.YtcjeideiigdidaaW.PrintLast Go.Proofs.YtcjeideiigdidaaW.PrintMore
set_option linter.unusedVariables false
set_option linter.unusedSimpArgs false

/-- 'clear(s)', s one packet. -/
theorem run_clear1 (w : World) (ty : TypeId) (g o c : Nat) (hc : ∀ j, j < 2 → (w.cell? ⟨g, o + j, none⟩).isSome = true) (hf : ∀ j, j < 2 → w.frozen? ⟨g, o + j, none⟩ = false) :
    (Builtin.clear_ #[45] ty #[.slice (some ⟨g, o, none⟩) 1 c]).run Try.prog w = .ok (.tuple #[]) (w.setCells g o [.int .i64 0, .slice none 0 0]) := by
  have hv : ∀ w, (zeroValue 37).run Try.prog w = .ok (.agg #[.int .i64 0, .slice none 0 0]) w := fun w => by kernel_rfl
  have hzc : (Builtin.zeroCells (Value.agg #[.int .i64 0, .slice none 0 0]).cells 1).toList = [.int .i64 0, .slice none 0 0] := by kernel_rfl
  have hst := run_storeCells_cells (P := Try.prog) g o [.int .i64 0, .slice none 0 0] 0 w (by simpa using hc) (by simpa using hf) (by intro v hv'; simp at hv'; rcases hv' with rfl | rfl <;> rfl)
  simp only [Nat.add_zero] at hst
  simp [Builtin.clear_, run_underlying Try.underlying45, hv, hzc, hst]

/-- A row of the call's own, its spare cells written. -/
theorem R_spare {α : Type} {d : Kd α} {e base n c g : Nat} {ok : Nat → Prop} {w : World} {xs : List α} (h : d.R e w base ok (.slice (some ⟨g, 0, none⟩) n c) xs) (o : Nat) (vs : List Value) (ho : n * d.sz ≤ o) (hv : o + vs.length ≤ c * d.sz) :
    d.R e (w.setCells g o vs) base ok (.slice (some ⟨g, 0, none⟩) n c) xs ∧ w.grownBy (w.setCells g o vs) (some g) := by
  obtain ⟨hn, hnc, _⟩ := Kd.R_reads' h
  obtain ⟨hok, inner, hown, hr⟩ := h
  rcases hown.2 with ⟨hv', _⟩ | ⟨g', cap', cur, hv', hb, hh, h1, hcm, hcs, htake⟩
  · cases hv'
  injection hv' with ha _ hc
  injection ha with ha
  injection ha with hg
  subst hg; subst hc
  obtain ⟨cur', h3, h4, h5⟩ := setCells_row vs o w cur hh (by rw [hcs]; exact hv)
  obtain ⟨s1, s2, s3, s4⟩ := setCells_same g vs o w
  have hfar : ∀ k', k' ≠ g → (w.setCells g o vs).heap[k']? = w.heap[k']? := fun k' hk' => setCells_far vs _ k' hk'
  refine ⟨⟨hok, inner, ⟨hown.1, .inr ⟨g, c, cur', by rw [hn], hb, h3, h1, hcm, by rw [h4, hcs], ?_⟩⟩, ?_⟩, ⟨s1, s2, s3, by rw [s4]; exact Nat.le_refl _, fun k' _ hk' => hfar k' (fun he => hk' (by rw [he]))⟩⟩
  · rw [← htake, ← hn, h5]
    rw [List.append_assoc, List.take_append_of_le_length (by rw [List.length_take, Array.length_toList]; have := Nat.mul_le_mul_right d.sz hnc; omega), List.take_take, Nat.min_eq_left ho]
  · exact hr.imp_ fun p q hp => d.M_move (fun k' hk' => hfar k' (fun he => hk'.2 (by rw [he]; simp [Value.ownBlock]))) hp

theorem look_no (b base : Nat) (ok : Nat → Prop) (sv : Value) (xs : List S37) (room lost i : Int) (w : World) (hn : Net w b base ok sv xs room lost) (h : i < 0 ∨ (xs.length : Int) ≤ i) :
    Calls Try.prog 17 #[.pointer (some ⟨b, 0, none⟩), .int .i64 i] w fun e w' => e = .returned (.tuple #[.agg #[.int .i64 0, .slice none 0 0], .bool false]) ∧ Below w.heap.size w w' := by
  obtain ⟨A0, c0, rfl, hc0, _⟩ := hn.form
  have h0 := pw_cell_below (below_alloc (Below.refl _ _) (.cells #[.int .i64 0, .slice none 0 0] 37)) hn.cell0
  have H := Aside0.mk h
  clear h hn
  go_enter Try.func17, Try.ntmps17
  go_wp2_with (go_at_call 26; refine (has_no b xs.length c0 A0 i _ h0 H.out).mono ?_; rintro e w' ⟨rfl, rfl⟩)
  refine bodyPost_ret (v := .tuple #[.agg #[.int .i64 0, .slice none 0 0], .bool false]) (by simp [results, Try.results17, go_sem]) rfl ⟨rfl, below_alloc (Below.refl _ _) _⟩

/-- What is known of the element at an index. -/
theorem Net.elem {w : World} {b base : Nat} {ok : Nat → Prop} {sv : Value} {xs : List S37} {room lost : Int} (n : Net w b base ok sv xs room lost) (m : Nat) (hm : m < xs.length) :
    ∃ g c A1 c1, sv = .slice (some ⟨g, 0, none⟩) xs.length c ∧ xs.length ≤ c ∧ w.cell? ⟨g, m * 2, none⟩ = some (.int .i64 (xs.getD m z37).f0) ∧ w.cell? ⟨g, m * 2 + 1, none⟩ = some (.slice A1 (xs.getD m z37).f1.length c1) ∧
      (xs.getD m z37).f1.length ≤ c1 ∧ (Kd.int .u8).R 5 w base ok (.slice A1 (xs.getD m z37).f1.length c1) (xs.getD m z37).f1 := by
  obtain ⟨g, c, hv, _, _, _⟩ := Kd.R_form n.2.1 (by omega)
  subst hv
  obtain ⟨_, inner, ho, hr⟩ := n.2.1
  have hx : xs[m]? = some (xs.getD m z37) := by rw [List.getD_eq_getElem?_getD, List.getElem?_eq_getElem hm]; rfl
  obtain ⟨v1, hc, hR⟩ := k37_openM (hr.2 m _ hx)
  have hsz : k37.sz = 2 := rfl
  rw [hsz] at hc
  obtain ⟨A1, c1, rfl⟩ := Kd.R_slice hR
  have hl : inner.length = xs.length * 2 := hr.1
  have q0 : inner[m * 2]? = some (.int .i64 (xs.getD m z37).f0) := by
    have := congrArg (fun l => l[0]?) hc
    simpa [List.getElem?_take, List.getElem?_drop] using this
  have q1 : inner[m * 2 + 1]? = some (.slice A1 (xs.getD m z37).f1.length c1) := by
    have := congrArg (fun l => l[1]?) hc
    simpa [List.getElem?_take, List.getElem?_drop] using this
  have k0 := ho.cells (g := g) rfl _ _ q0
  have k1 := ho.cells (g := g) rfl _ _ q1
  rw [add_plain] at k0 k1
  exact ⟨g, c, A1, c1, rfl, (Kd.R_reads' n.2.1).2.1, k0, k1, (Kd.R_reads' hR).2.1, Kd.R_mono hR (fun _ h => h.1)⟩

/-- A packet of the call's own, and a bool. -/
def Packed (w : World) (x : S37) (base : Nat) (e : Ending) (w' : World) : Prop := ∃ A c, e = .returned (.tuple #[.agg #[.int .i64 x.f0, .slice A x.f1.length c], .bool true]) ∧ (Kd.int .u8).R 5 w' base (fun _ => True) (.slice A x.f1.length c) x.f1

set_option maxHeartbeats 1000000 in
theorem look_yes (b base : Nat) (ok : Nat → Prop) (sv : Value) (xs : List S37) (room lost : Int) (m : Nat) (w : World) (hn : Net w b base ok sv xs room lost) (hm : m < xs.length) (hl : xs.length < 1000) (hll : (xs.getD m z37).f1.length ≤ 140737488355328) :
    Calls Try.prog 17 #[.pointer (some ⟨b, 0, none⟩), .int .i64 m] w fun e w' => Packed w (xs.getD m z37) w.heap.size e w' ∧ Below w.heap.size w w' := by
  obtain ⟨g, c0, A1, c1, rfl, hc0, q0, q1, hc1, hR⟩ := hn.elem m hm
  obtain ⟨wa, hwa⟩ : ∃ wa : World, wa = w.alloc (.cells #[.int .i64 0, .slice none 0 0] 37) := ⟨_, rfl⟩
  have HBa := Aside0.mk (show Below w.heap.size w wa from hwa ▸ below_alloc (Below.refl _ _) _)
  have h0 := pw_cell_below HBa.out hn.cell0
  have e0 := pw_cell_below HBa.out q0
  have e1 := pw_cell_below HBa.out q1
  have HC := Aside0.mk (Kd.C_below (Kd.R_reads' hR).2.2 HBa.out)
  have d0 : wa.cell? ⟨w.heap.size, 0, none⟩ = some (.int .i64 0) := by rw [hwa]; go_simp
  have d1 : wa.cell? ⟨w.heap.size, 1, none⟩ = some (.slice none 0 0) := by rw [hwa]; go_simp
  have g0 : wa.frozen? ⟨w.heap.size, 0, none⟩ = false := by rw [hwa]; go_simp
  have g1 : wa.frozen? ⟨w.heap.size, 1, none⟩ = false := by rw [hwa]; go_simp
  have SZ := Aside0.mk (show wa.heap.size = w.heap.size + 1 by rw [hwa]; simp)
  have HLL := Aside0.mk hll
  have hlt : (m : Int) < (xs.length : Int) := by omega
  have h00 : (0 : Int) ≤ (m : Int) := by omega
  generalize hx : xs.getD m z37 = x at *
  clear q0 q1 hR hll hn hx
  have HWA := Aside0.mk hwa
  clear hwa
  go_enter Try.func17, Try.ntmps17
  go_wp2_with fail
  rw [← HWA.out]
  go_wp2_with (go_at_call 26; refine (has_yes b xs.length c0 _ m _ h0 h00 hlt).mono ?_; rintro e w' ⟨rfl, rfl⟩)
  refine (copied_any x A1 c1 _ HC.out HLL.out).mono ?_
  rintro e w2 ⟨A3, c3, rfl, ho, hb⟩
  have HB2 := Aside0.mk hb
  have HO2 := Aside0.mk ho
  have SZ2 := Aside0.mk (show w.heap.size < w2.heap.size from by have := hb.size; have := SZ.out; omega)
  have j0 := pw_cell_below hb d0
  have j1 := pw_cell_below hb d1
  have l0 := (hb.frozen (p := ⟨w.heap.size, 0, none⟩) (by simp [SZ.out])).trans g0
  have l1 := (hb.frozen (p := ⟨w.heap.size, 1, none⟩) (by simp [SZ.out])).trans g1
  have q0 : ((w2.setCell ⟨w.heap.size, 0, none⟩ (.int .i64 x.f0)).setCell ⟨w.heap.size, 1, none⟩ (.slice A3 x.f1.length c3)).cell? ⟨w.heap.size, 0, none⟩ = some (.int .i64 x.f0) := by go_simp
  have q1 : ((w2.setCell ⟨w.heap.size, 0, none⟩ (.int .i64 x.f0)).setCell ⟨w.heap.size, 1, none⟩ (.slice A3 x.f1.length c3)).cell? ⟨w.heap.size, 1, none⟩ = some (.slice A3 x.f1.length c3) := by go_simp
  clear hb ho h0 d0 d1 g0 g1 e0 e1
  go_wp2
  have HBB : Below w.heap.size w w2 := HBa.out.trans (HB2.out.mono (by rw [SZ.out]; omega))
  refine bodyPost_ret (v := .tuple #[.agg #[.int .i64 x.f0, .slice A3 x.f1.length c3], .bool true]) (by simp [results, Try.results17, go_sem, q0, q1]) rfl ⟨⟨A3, c3, rfl, ?_⟩, (HBB.setCell (by simp) _).setCell (by simp) _⟩
  have h := Kd.R_lower (Kd.R_mono (Kd.R_bound HO2.out) (ok' := fun k => k ≠ w.heap.size) (fun k hk => by have := hk.2.1; have := SZ.out; omega)) (show w.heap.size ≤ _ by rw [SZ.out]; omega)
  exact Kd.R_mono (Kd.R_far (Kd.R_far h (p := ⟨w.heap.size, 0, none⟩) (fun k hk => hk) _) (p := ⟨w.heap.size, 1, none⟩) (fun k hk => hk) _) (fun _ _ => trivial)

/-- slices.Delete of one packet: in place. -/
def Deleted (w : World) (g base c : Nat) (ok : Nat → Prop) (ys : List S37) (e : Ending) (w' : World) : Prop :=
  e = .returned (.slice (some ⟨g, 0, none⟩) ys.length c) ∧ k37.R 37 w' base ok (.slice (some ⟨g, 0, none⟩) ys.length c) ys ∧ w.grownBy w' (some g)

/-- append(s[:m], s[m+1:]...), as a step of a region that draws. -/
theorem del_step {g N c base m c2 L : Nat} {A : Option Addr} {ok : Nat → Prop} {xs : List S37} {W : World} (hR : k37.R 37 W base ok (.slice (some ⟨g, 0, none⟩) (N + 1) c) xs) (hm : m < N + 1) (hbase : base ≤ W.heap.size) (hA : A = if c = m + 1 then some ⟨g, 0, none⟩ else some ⟨g, (m + 1) * 2, none⟩)
    {ops : Array Oper} {o : Oper} {a : Act} {Q : Exit → Act → World → Prop} {Kc : Act → World → Prop} (hw : Region.wanted o (yielded ops a.tmps) = true) (s y : Operand)
    (hop : o.op = .call { callee := .builtin .append, args := #[s, y], argTypes := #[45, 45] }) (hs : a.eval s = .slice (some ⟨g, 0, none⟩) m c) (hx : a.eval y = .slice A L c2) (hL : L = N + 1 - (m + 1))
    (h : ∀ w1, Aside0 (k37.R 37 w1 base ok (.slice (some ⟨g, 0, none⟩) N c) (xs.eraseIdx m)) → Aside0 (W.grownBy w1 (some g)) → Kc (a.put o.dst (.slice (some ⟨g, 0, none⟩) N c)) w1) :
    if Region.wanted o (yielded ops a.tmps) = true then Oper.wp Try.prog o a W Kc Q else Kc (a.put o.dst undef) W := by
  refine Kd.R_delete_step k37 (w0 := W) base hw s y 45 37 hop Try.underlying45 (by kernel_rfl) hs hx ?_ hL hR hm (Below.refl _ _) hbase (fun w1 h1 _ h3 => h w1 ⟨h1⟩ ⟨h3⟩)
  rw [hA]
  split
  · rfl
  · rw [Option.map_some, add_plain]; rfl

/-- clear(s[len(s):oldlen]), one packet in the spare. -/
theorem clear_law {g N c base cc L O : Nat} {ok : Nat → Prop} {ys : List S37} {W : World} (hR : k37.R 37 W base ok (.slice (some ⟨g, 0, none⟩) N c) ys) (hc : N + 1 ≤ c)
    {ops : Array Oper} {rest : List Oper} {o : Oper} {a : Act} {Q : Exit → Act → World → Prop} (hgd : o.guard = none) (hd : o.dst = none) (s : Operand)
    (hop : o.op = .call { callee := .builtin .clear, args := #[s], argTypes := #[45] }) (hs : a.eval s = .slice (some ⟨g, O, none⟩) L cc) (hL : L = 1) (hO : O = N * 2)
    (h : ∀ w1, Aside0 (k37.R 37 w1 base ok (.slice (some ⟨g, 0, none⟩) N c) ys) → Aside0 (W.grownBy w1 (some g)) → wpList Try.prog ops Q rest a w1) : wpList Try.prog ops Q (o :: rest) a W := by
  subst hL
  subst hO
  have hsp := R_spare hR (N * 2) [.int .i64 0, .slice none 0 0] (Nat.le_refl _) (by show N * 2 + 2 ≤ c * 2; omega)
  obtain ⟨hok, inner, hown, hr⟩ := hR
  rcases hown.2 with ⟨hv', _⟩ | ⟨g', cap', cur, hv', hb, hh, h1, hcm, hcs, htake⟩
  · cases hv'
  injection hv' with ha _ hc'
  injection ha with ha
  injection ha with hg
  subst hg; subst hc'
  have hcs' : cur.size = c * 2 := hcs
  have hrun := run_clear1 W o.type g (N * 2) cc (fun j hj => by rw [cell_of_row W g _ cur 37 (0, 0) hh]; simp; omega) (fun j hj => blk_frozen hh _)
  refine wpList_plain hgd fun K hK => ?_
  unfold Oper.wp execOp
  simp only [hop, resolve, invoke, builtin, Sem.run_bind, Sem.run_pure, Result.andThen_ok, List.map_toArray, List.map_cons, List.map_nil, hs, hrun]
  have := hK _ _ (h _ ⟨hsp.1⟩ ⟨hsp.2⟩)
  rw [show a = a.put o.dst (.tuple #[]) by rw [hd]; rfl] at this
  exact this

set_option maxHeartbeats 2000000 in
theorem delete_any (g N c base m : Nat) (ok : Nat → Prop) (xs : List S37) (w : World) (hR : k37.R 37 w base ok (.slice (some ⟨g, 0, none⟩) (N + 1) c) xs) (hm : m ≤ N) (hl : N < 1000) (hbase : base ≤ w.heap.size) :
    Calls Try.prog 29 #[.slice (some ⟨g, 0, none⟩) (N + 1) c, .int .i64 m, .int .i64 ((m : Int) + 1)] w (Deleted w g base c ok (xs.eraseIdx m)) := by
  have HR := Aside0.mk hR
  have hn := (Kd.R_reads' hR).1
  have hnc := (Kd.R_reads' hR).2.1
  have HN := Aside0.mk hn
  have HB := Aside0.mk hbase
  have HM := Aside0.mk (show m < N + 1 by omega)
  have HC := Aside0.mk hnc
  clear hn hR hbase
  have e1 : (0 : Int) ≤ (m : Int) := by omega
  have e2 : (m : Int) + 1 ≤ (N : Int) + 1 := by omega
  have e3 : (m : Int) ≤ (m : Int) + 1 := by omega
  have e4 : ((m : Int) == (m : Int) + 1) = false := by rw [beq_eq_false_iff_ne]; omega
  have e5 : (N : Int) + 1 ≤ (c : Int) := by omega
  have e6 : (0 : Int) ≤ (m : Int) + 1 := by omega
  have e7 : m ≤ c := by omega
  have e9 : m + 1 ≤ c := by omega
  go_enter Try.func29, Try.ntmps29
  go_wp2
  by_cases hck : c = m + 1
  · obtain rfl : m = N := by omega
    subst hck
    have HA := Aside0.mk (show (some ⟨g, 0, none⟩ : Option Addr) = if m + 1 = m + 1 then some ⟨g, 0, none⟩ else some ⟨g, (m + 1) * 2, none⟩ by rw [if_pos rfl])
    go_region_law (first | (refine del_step (A := some ⟨g, 0, none⟩) (L := 0) (c2 := 0) (W := w.drew) (N := m) (g := g) (c := m + 1) (m := m) (Kd.R_drew HR.out) HM.out HB.out HA.out (by rfl) (.tmp 22) (.tmp 25) (by rfl) (by simp [Act.eval, Act.put]) (by simp [Act.eval, Act.put]) (by omega) ?_; intro w1 HO1 HG1))
    go_wp2_with ((with_reducible refine gate_builtin (b := .clear) (xs := #[.tmp 31]) rfl ?_); (refine clear_law (g := g) (N := m) HO1.out HC.out rfl rfl (.tmp 31) rfl rfl (by omega) (by omega) ?_; intro w2 HO2 HG2))
    go_ret
    have hel : (xs.eraseIdx m).length = m := by rw [List.length_eraseIdx_of_lt (by rw [← HN.out]; omega), ← HN.out]; omega
    exact ⟨by rw [hel]; rfl, by rw [hel]; exact HO2.out, (show w.grownBy w1 (some g) from ⟨HG1.out.os, HG1.out.tape, HG1.out.output, HG1.out.size, HG1.out.block⟩).trans HG2.out⟩
  · have hcf : decide (c = m + 1) = false := by simpa using hck
    have HA := Aside0.mk (show (some ⟨g, (m + 1) * 2, none⟩ : Option Addr) = if c = m + 1 then some ⟨g, 0, none⟩ else some ⟨g, (m + 1) * 2, none⟩ by rw [if_neg hck])
    set_option maxHeartbeats 400000 in
    go_region_law (first | (refine del_step (A := some ⟨g, (m + 1) * 2, none⟩) (L := N - m) (c2 := c - (m + 1)) (W := w.drew) (N := N) (g := g) (c := c) (m := m) (Kd.R_drew HR.out) HM.out HB.out HA.out (by rfl) (.tmp 22) (.tmp 25) (by rfl) (by simp [Act.eval, Act.put]) (by simp [Act.eval, Act.put]) (by omega) ?_; intro w1 HO1 HG1))
    go_wp2_with ((with_reducible refine gate_builtin (b := .clear) (xs := #[.tmp 31]) rfl ?_); (refine clear_law (g := g) (N := N) HO1.out HC.out rfl rfl (.tmp 31) rfl rfl (by omega) (by omega) ?_; intro w2 HO2 HG2))
    go_ret
    have hel : (xs.eraseIdx m).length = N := by rw [List.length_eraseIdx_of_lt (by rw [← HN.out]; omega), ← HN.out]; omega
    exact ⟨by rw [hel]; rfl, by rw [hel]; exact HO2.out, (show w.grownBy w1 (some g) from ⟨HG1.out.os, HG1.out.tape, HG1.out.output, HG1.out.size, HG1.out.block⟩).trans HG2.out⟩

theorem delete_at (g n c base m : Nat) (ok : Nat → Prop) (xs : List S37) (w : World) (hR : k37.R 37 w base ok (.slice (some ⟨g, 0, none⟩) n c) xs) (hm : m < n) (hl : n < 1001) (hbase : base ≤ w.heap.size) :
    Calls Try.prog 29 #[.slice (some ⟨g, 0, none⟩) n c, .int .i64 m, .int .i64 ((m : Int) + 1)] w (Deleted w g base c ok (xs.eraseIdx m)) := by
  obtain ⟨N, rfl⟩ : ∃ N, n = N + 1 := ⟨n - 1, by omega⟩
  exact delete_any g N c base m ok xs w hR (by omega) (by omega) hbase

/-- The element at an index is taken out of the list: what a network is then. -/
theorem Net.deleted {w w1 : World} {b base g c : Nat} {ok : Nat → Prop} {n : Nat} {xs ys : List S37} {room lost : Int} (h : Net w b base ok (.slice (some ⟨g, 0, none⟩) n c) xs room lost) {e : Ending} (hd : Deleted w g base c ok ys e w1) :
    Net (w1.setCell ⟨b, 0, none⟩ (.slice (some ⟨g, 0, none⟩) ys.length c)) b base ok (.slice (some ⟨g, 0, none⟩) ys.length c) ys room lost ∧ Step w (w1.setCell ⟨b, 0, none⟩ (.slice (some ⟨g, 0, none⟩) ys.length c)) b (.slice (some ⟨g, 0, none⟩) n c) (.slice (some ⟨g, 0, none⟩) ys.length c) :=
  h.stored (by simpa [Value.ownBlock] using hd.2.2) hd.2.1 (.inl (by simp [Value.ownBlock]))

/-- Bytes that are told stay told while the network is at work. -/
theorem bytes_step {w w' : World} {b base base' : Nat} {ok ok' : Nat → Prop} {sv sv' v : Value} {xs : List S37} {l : List Int} {room lost : Int} (h : (Kd.int .u8).R 5 w base' ok' v l) (n : Net w b base ok sv xs room lost) (s : Step w w' b sv sv') : (Kd.int .u8).R 5 w' base' ok' v l := by
  have h1 := Kd.R_types h n.1 (by intro q hq; simp [Kd.int, Kd.scalar] at hq; omega)
  have hrow : ∀ k, sv.ownBlock = some k → ∃ cells, w.heap[k]? = some (.cells cells 37 (0, 0)) := Kd.R_typed n.2.1
  refine Kd.R_mono (Kd.R_step (Kd.R_bound h1) (fun k hk hlt => s.keep.2 k hlt hk.1.2 (fun e => ?_))) (fun k hk => hk.1.1)
  obtain ⟨cells, hc⟩ := hrow k e.symm
  obtain ⟨_, _, _, q, hq, cells', hc'⟩ := hk
  rw [hc] at hc'
  injection hc' with hc'
  injection hc' with _ hq'
  simp [Kd.int, Kd.scalar] at hq
  subst hq
  exact absurd hq' (by decide)

theorem Net.mono {w : World} {b base : Nat} {ok ok' : Nat → Prop} {sv : Value} {xs : List S37} {room lost : Int} (n : Net w b base ok sv xs room lost) (h : ∀ k, ok k → ok' k) : Net w b base ok' sv xs room lost := ⟨n.1, Kd.R_mono n.2.1 h, n.2.2⟩
theorem Net.tight {w : World} {b base : Nat} {ok : Nat → Prop} {sv : Value} {xs : List S37} {room lost : Int} (n : Net w b base ok sv xs room lost) : Net w b base (fun k => ok k ∧ k < w.heap.size) sv xs room lost := ⟨n.1, Kd.R_mono (Kd.R_bound n.2.1) (fun k h => ⟨h.1, h.2.2.1⟩), n.2.2⟩
theorem Net.far {w : World} {b base : Nat} {ok : Nat → Prop} {sv : Value} {xs : List S37} {room lost : Int} (n : Net w b base ok sv xs room lost) {p : Addr} (hb : b ≠ p.block) (h : ∀ k, ok k → k ≠ p.block) (u : Value) : Net (w.setCell p u) b base ok sv xs room lost := ⟨blk_far n.1 hb u, Kd.R_far n.2.1 h u, n.2.2⟩
theorem Step.far {w w' : World} {b : Nat} {sv sv' : Value} (s : Step w w' b sv sv') {p : Addr} (hp : w.heap.size ≤ p.block) (u : Value) : Step w (w'.setCell p u) b sv sv' :=
  ⟨s.os, s.tape, s.output, ⟨by have := s.keep.1; simpa [World.setCell] using this, fun k hk h1 h2 => (Below.heap_setCell w' p u k (by omega)).trans (s.keep.2 k hk h1 h2)⟩, s.at_⟩

/-- remove: the packet, and what the network is then. -/
def Removed (w : World) (b base : Nat) (ok : Nat → Prop) (sv : Value) (xs : List S37) (m : Nat) (room lost : Int) (e : Ending) (w' : World) : Prop :=
  ∃ A c, e = .returned (.agg #[.int .i64 (xs.getD m z37).f0, .slice A (xs.getD m z37).f1.length c]) ∧ (Kd.int .u8).R 5 w' base ok (.slice A (xs.getD m z37).f1.length c) (xs.getD m z37).f1 ∧
    ∃ sv', Net w' b base ok sv' (xs.eraseIdx m) room lost ∧ Step w w' b sv sv'

set_option maxHeartbeats 2000000 in
theorem remove_any (b base : Nat) (ok : Nat → Prop) (sv : Value) (xs : List S37) (room lost : Int) (m : Nat) (w : World) (hn : Net w b base ok sv xs room lost) (hm : m < xs.length) (hl : xs.length < 1000) (hbase : base ≤ w.heap.size) :
    Calls Try.prog 27 #[.pointer (some ⟨b, 0, none⟩), .int .i64 m] w (Removed w b base ok sv xs m room lost) := by
  obtain ⟨g, c0, A1, c1, rfl, hc0, q0, q1, hc1, hR⟩ := hn.elem m hm
  have h0 := hn.cell0
  have f0 := hn.free 0
  have HN := Aside0.mk hn
  have HR := Aside0.mk hR
  have HM := Aside0.mk hm
  have HB := Aside0.mk hbase
  have hlt : (m : Int) < (xs.length : Int) := by omega
  have h00 : (0 : Int) ≤ (m : Int) := by omega
  have hbl := blk_lt hn.1
  have hgl : g < w.heap.size := Kd.R_lt hn.2.1 g (by simp [Value.ownBlock])
  have HL := Aside0.mk (show xs.length < 1001 by omega)
  generalize hx : xs.getD m z37 = x at *
  have HX := Aside0.mk hx
  clear hn hR hm hbase hx
  go_enter Try.func27, Try.ntmps27
  go_wp2_with fail
  obtain ⟨w2, hw2⟩ : ∃ w2 : World, w2 = (w.alloc (.cells #[.int .i64 0, .slice none 0 0] 37)).alloc (.cells #[.int .i64 x.f0, .slice A1 x.f1.length c1] 37) := ⟨_, rfl⟩
  rw [← hw2]
  have d0 : w2.cell? ⟨w.heap.size + 1, 0, none⟩ = some (.int .i64 x.f0) := by rw [hw2]; go_simp
  have d1 : w2.cell? ⟨w.heap.size + 1, 1, none⟩ = some (.slice A1 x.f1.length c1) := by rw [hw2]; go_simp
  have e0 : w2.cell? ⟨w.heap.size, 0, none⟩ = some (.int .i64 0) := by rw [hw2]; go_simp
  have e1 : w2.cell? ⟨w.heap.size, 1, none⟩ = some (.slice none 0 0) := by rw [hw2]; go_simp
  have g0 : w2.frozen? ⟨w.heap.size, 0, none⟩ = false := by rw [hw2]; go_simp
  have g1 : w2.frozen? ⟨w.heap.size, 1, none⟩ = false := by rw [hw2]; go_simp
  have SZ := Aside0.mk (show w2.heap.size = w.heap.size + 2 by rw [hw2]; simp)
  have HB2 := Aside0.mk (show Below w.heap.size w w2 from by rw [hw2]; exact ((Below.refl _ _).alloc (Nat.le_refl _) _).alloc (by simp) _)
  clear hw2
  have HN2 := Aside0.mk (HN.out.tight.below HB2.out)
  refine (delete_at g xs.length c0 base m _ xs w2 HN2.out.2.1 HM.out HL.out (Nat.le_trans HB.out HB2.out.size)).mono ?_
  rintro e w3 hd
  have HD := Aside0.mk hd
  obtain ⟨rfl, _, hg3⟩ := hd
  have HG := Aside0.mk hg3
  have hne : ∀ k, k = w.heap.size ∨ k = w.heap.size + 1 → some k ≠ some g := fun k hk e => by injection e with e; omega
  have cellk : ∀ k i v, (k = w.heap.size ∨ k = w.heap.size + 1) → w2.cell? ⟨k, i, none⟩ = some v → w3.cell? ⟨k, i, none⟩ = some v := fun k i v hk hc => cell_grown HG.out hc (hne k hk)
  have d0' := cellk _ _ _ (.inr rfl) d0
  have d1' := cellk _ _ _ (.inr rfl) d1
  have e0' := cellk _ _ _ (.inl rfl) e0
  have e1' := cellk _ _ _ (.inl rfl) e1
  have frz : ∀ i, w3.frozen? ⟨w.heap.size, i, none⟩ = w2.frozen? ⟨w.heap.size, i, none⟩ := fun i => World.frozen?_of_block (w := w2) (HG.out.block w.heap.size (by rw [SZ.out]; omega) (hne _ (.inl rfl)))
  have g0' := (frz 0).trans g0
  have g1' := (frz 1).trans g1
  have hbg : some b ≠ some g := fun e => by have := Kd.R_ne HN.out.2.1 HN.out.1 (by decide); exact this (by simpa [Value.ownBlock] using e)
  have hb3 : w3.cell? ⟨b, 0, none⟩ = some (.slice (some ⟨g, 0, none⟩) xs.length c0) := cell_grown HG.out (pw_cell_below HB2.out h0) hbg
  have fb3 : w3.frozen? ⟨b, 0, none⟩ = false := (World.frozen?_of_block (w := w2) (HG.out.block b (by rw [SZ.out]; omega) hbg)).trans ((HB2.out.frozen (p := ⟨b, 0, none⟩) hbl).trans f0)
  clear d0 d1 e0 e1 g0 g1 cellk frz hne hbg q0 q1 h0 f0
  have hs3 : w.heap.size + 1 < w3.heap.size := by have := HG.out.size; have := SZ.out; omega
  obtain ⟨w4, hw4⟩ : ∃ w4 : World, w4 = w3.setCell ⟨b, 0, none⟩ (.slice (some ⟨g, 0, none⟩) (xs.eraseIdx m).length c0) := ⟨_, rfl⟩
  have p0 : ((w4.setCell ⟨w.heap.size, 0, none⟩ (.int .i64 x.f0)).setCell ⟨w.heap.size, 1, none⟩ (.slice A1 x.f1.length c1)).cell? ⟨w.heap.size, 0, none⟩ = some (.int .i64 x.f0) := by rw [hw4]; go_simp
  have p1 : ((w4.setCell ⟨w.heap.size, 0, none⟩ (.int .i64 x.f0)).setCell ⟨w.heap.size, 1, none⟩ (.slice A1 x.f1.length c1)).cell? ⟨w.heap.size, 1, none⟩ = some (.slice A1 x.f1.length c1) := by rw [hw4]; go_simp
  have HW4 := Aside0.mk hw4
  clear hw4 hg3
  go_wp2
  rw [← HW4.out]
  refine bodyPost_ret (v := .agg #[.int .i64 x.f0, .slice A1 x.f1.length c1]) (by simp [results, Try.results27, go_sem, p0, p1]) rfl ⟨A1, c1, by rw [HX.out], ?_, ?_⟩
  · rw [HX.out]
    have h1 := Kd.R_below (Kd.R_mono (Kd.R_bound HR.out) (ok' := fun k => ok k ∧ k ≠ w.heap.size) (fun k hk => ⟨hk.1, by have := hk.2.2.1; omega⟩)) HB2.out
    have h2 := bytes_step h1 HN2.out (by have := (HN2.out.deleted HD.out).2; rw [← HW4.out] at this; exact this)
    exact Kd.R_mono (Kd.R_far (Kd.R_far h2 (p := ⟨w.heap.size, 0, none⟩) (fun k hk => hk.2) _) (p := ⟨w.heap.size, 1, none⟩) (fun k hk => hk.2) _) (fun _ h => h.1)
  · have hd := HN2.out.deleted HD.out
    rw [← HW4.out] at hd
    refine ⟨_, ((hd.1.far (p := ⟨w.heap.size, 0, none⟩) (Nat.ne_of_lt hbl) (fun k hk => Nat.ne_of_lt hk.2) _).far (p := ⟨w.heap.size, 1, none⟩) (Nat.ne_of_lt hbl) (fun k hk => Nat.ne_of_lt hk.2) _).mono (fun k hk => hk.1), ?_⟩
    exact (((Step.of_below HB2.out).trans hd.2).far (Nat.le_refl _) _).far (Nat.le_refl _) _

theorem take_no (b base : Nat) (ok : Nat → Prop) (sv : Value) (xs : List S37) (room lost i : Int) (w : World) (hn : Net w b base ok sv xs room lost) (h : i < 0 ∨ (xs.length : Int) ≤ i) :
    Calls Try.prog 14 #[.pointer (some ⟨b, 0, none⟩), .int .i64 i] w fun e w' => e = .returned (.tuple #[.agg #[.int .i64 0, .slice none 0 0], .bool false]) ∧ Below w.heap.size w w' := by
  obtain ⟨A0, c0, rfl, hc0, _⟩ := hn.form
  have h0 := pw_cell_below (below_alloc (Below.refl _ _) (.cells #[.int .i64 0, .slice none 0 0] 37)) hn.cell0
  have H := Aside0.mk h
  clear h hn
  go_enter Try.func14, Try.ntmps14
  go_wp2_with (go_at_call 26; refine (has_no b xs.length c0 A0 i _ h0 H.out).mono ?_; rintro e w' ⟨rfl, rfl⟩)
  exact bodyPost_ret (v := .tuple #[.agg #[.int .i64 0, .slice none 0 0], .bool false]) (by simp [results, Try.results14, go_sem]) rfl ⟨rfl, below_alloc (Below.refl _ _) _⟩

/-- Take: the packet, true, and what the network is then. -/
def Taken (w : World) (b base : Nat) (ok : Nat → Prop) (sv : Value) (xs : List S37) (m : Nat) (room lost : Int) (e : Ending) (w' : World) : Prop :=
  ∃ A c, e = .returned (.tuple #[.agg #[.int .i64 (xs.getD m z37).f0, .slice A (xs.getD m z37).f1.length c], .bool true]) ∧ (Kd.int .u8).R 5 w' base ok (.slice A (xs.getD m z37).f1.length c) (xs.getD m z37).f1 ∧
    ∃ sv', Net w' b base ok sv' (xs.eraseIdx m) room lost ∧ Step w w' b sv sv'

set_option maxHeartbeats 2000000 in
theorem take_yes (b base : Nat) (ok : Nat → Prop) (sv : Value) (xs : List S37) (room lost : Int) (m : Nat) (w : World) (hn : Net w b base ok sv xs room lost) (hm : m < xs.length) (hl : xs.length < 1000) (hbase : base ≤ w.heap.size) :
    Calls Try.prog 14 #[.pointer (some ⟨b, 0, none⟩), .int .i64 m] w (Taken w b base ok sv xs m room lost) := by
  obtain ⟨A0, c0, rfl, hc0, _⟩ := hn.form
  obtain ⟨wa, hwa⟩ : ∃ wa : World, wa = w.alloc (.cells #[.int .i64 0, .slice none 0 0] 37) := ⟨_, rfl⟩
  have HBa := Aside0.mk (show Below w.heap.size w wa from hwa ▸ below_alloc (Below.refl _ _) _)
  have h0 := pw_cell_below HBa.out hn.cell0
  have d0 : wa.cell? ⟨w.heap.size, 0, none⟩ = some (.int .i64 0) := by rw [hwa]; go_simp
  have d1 : wa.cell? ⟨w.heap.size, 1, none⟩ = some (.slice none 0 0) := by rw [hwa]; go_simp
  have g0 : wa.frozen? ⟨w.heap.size, 0, none⟩ = false := by rw [hwa]; go_simp
  have g1 : wa.frozen? ⟨w.heap.size, 1, none⟩ = false := by rw [hwa]; go_simp
  have hbb : wa.heap[w.heap.size]? = some (.cells #[.int .i64 0, .slice none 0 0] 37 (0, 0)) := by rw [hwa]; exact heap_alloc_new w _
  have HBB := Aside0.mk hbb
  have SZ := Aside0.mk (show wa.heap.size = w.heap.size + 1 by rw [hwa]; simp)
  have HN := Aside0.mk hn
  have HNa := Aside0.mk (hn.tight.below HBa.out)
  have hlt : (m : Int) < (xs.length : Int) := by omega
  have h00 : (0 : Int) ≤ (m : Int) := by omega
  have hbl := blk_lt hn.1
  have HWA := Aside0.mk hwa
  have HM := Aside0.mk hm
  have HL := Aside0.mk hl
  have HB := Aside0.mk (Nat.le_trans hbase HBa.out.size)
  generalize hx : xs.getD m z37 = x at *
  have HX := Aside0.mk hx
  clear hn hwa hm hl hbase hx hbb
  go_enter Try.func14, Try.ntmps14
  go_wp2_with fail
  rw [← HWA.out]
  go_wp2_with (go_at_call 26; refine (has_yes b xs.length c0 _ m _ h0 h00 hlt).mono ?_; rintro e w' ⟨rfl, rfl⟩)
  refine (remove_any b base _ _ xs room lost m wa HNa.out HM.out HL.out HB.out).mono ?_
  rintro e w2 ⟨A3, c3, rfl, ho, sv', hn2, hs2⟩
  rw [HX.out] at ho ⊢
  have HO2 := Aside0.mk ho
  have HN2 := Aside0.mk hn2
  have HS2 := Aside0.mk hs2
  have hrow : w.heap.size ≠ b := Nat.ne_of_gt hbl
  have hrow2 : some w.heap.size ≠ (Value.slice A0 xs.length c0).ownBlock := fun e => by have := Kd.R_lt HN.out.2.1 _ e.symm; omega
  have hblk := (hs2.keep.2 w.heap.size (by rw [SZ.out]; omega) hrow hrow2).trans HBB.out
  have j0 := (blk_cell hblk 0).trans rfl
  have j1 := (blk_cell hblk 1).trans rfl
  have l0 := blk_frozen hblk 0
  have l1 := blk_frozen hblk 1
  have SZ2 : w.heap.size < w2.heap.size := blk_lt hblk
  clear ho hn2 hs2 hblk h0 d0 d1 g0 g1
  have p0 : ((w2.setCell ⟨w.heap.size, 0, none⟩ (.int .i64 x.f0)).setCell ⟨w.heap.size, 1, none⟩ (.slice A3 x.f1.length c3)).cell? ⟨w.heap.size, 0, none⟩ = some (.int .i64 x.f0) := by go_simp
  have p1 : ((w2.setCell ⟨w.heap.size, 0, none⟩ (.int .i64 x.f0)).setCell ⟨w.heap.size, 1, none⟩ (.slice A3 x.f1.length c3)).cell? ⟨w.heap.size, 1, none⟩ = some (.slice A3 x.f1.length c3) := by go_simp
  go_wp2
  refine bodyPost_ret (v := .tuple #[.agg #[.int .i64 x.f0, .slice A3 x.f1.length c3], .bool true]) (by simp [results, Try.results14, go_sem, p0, p1]) rfl ⟨A3, c3, by rw [HX.out], ?_, ?_⟩
  · rw [HX.out]
    exact Kd.R_mono (Kd.R_far (Kd.R_far HO2.out (p := ⟨w.heap.size, 0, none⟩) (fun k hk => Nat.ne_of_lt hk.2) _) (p := ⟨w.heap.size, 1, none⟩) (fun k hk => Nat.ne_of_lt hk.2) _) (fun _ h => h.1)
  · refine ⟨_, ((HN2.out.far (p := ⟨w.heap.size, 0, none⟩) (Nat.ne_of_lt hbl) (fun k hk => Nat.ne_of_lt hk.2) _).far (p := ⟨w.heap.size, 1, none⟩) (Nat.ne_of_lt hbl) (fun k hk => Nat.ne_of_lt hk.2) _).mono (fun k hk => hk.1), ?_⟩
    exact (((Step.of_below HBa.out).trans HS2.out).far (Nat.le_refl _) _).far (Nat.le_refl _) _

theorem drop_no (b base : Nat) (ok : Nat → Prop) (sv : Value) (xs : List S37) (room lost i : Int) (w : World) (hn : Net w b base ok sv xs room lost) (h : i < 0 ∨ (xs.length : Int) ≤ i) :
    Calls Try.prog 15 #[.pointer (some ⟨b, 0, none⟩), .int .i64 i] w fun e w' => e = .returned (.bool false) ∧ w = w' := by
  obtain ⟨A0, c0, rfl, hc0, _⟩ := hn.form
  have h0 := hn.cell0
  have H := Aside0.mk h
  clear h hn
  go_enter Try.func15, Try.ntmps15
  go_wp2_with (go_at_call 26; refine (has_no b xs.length c0 A0 i _ h0 H.out).mono ?_; rintro e w' ⟨rfl, rfl⟩)
  go_ret
  exact ⟨rfl, rfl⟩

theorem drop_yes (b base : Nat) (ok : Nat → Prop) (sv : Value) (xs : List S37) (room lost : Int) (m : Nat) (w : World) (hn : Net w b base ok sv xs room lost) (hm : m < xs.length) (hl : xs.length < 1000) (hbase : base ≤ w.heap.size) :
    Calls Try.prog 15 #[.pointer (some ⟨b, 0, none⟩), .int .i64 m] w fun e w' => e = .returned (.bool true) ∧ ∃ sv', Net w' b base ok sv' (xs.eraseIdx m) room lost ∧ Step w w' b sv sv' := by
  obtain ⟨A0, c0, rfl, hc0, _⟩ := hn.form
  have h0 := hn.cell0
  have hlt : (m : Int) < (xs.length : Int) := by omega
  have h00 : (0 : Int) ≤ (m : Int) := by omega
  have HN := Aside0.mk hn
  have HM := Aside0.mk hm
  have HL := Aside0.mk hl
  have HB := Aside0.mk hbase
  clear hn hm hl hbase
  go_enter Try.func15, Try.ntmps15
  go_wp2_with (go_at_call 26; refine (has_yes b xs.length c0 _ m _ h0 h00 hlt).mono ?_; rintro e w' ⟨rfl, rfl⟩)
  refine (remove_any b base ok _ xs room lost m _ HN.out HM.out HL.out HB.out).mono ?_
  rintro e w2 ⟨A3, c3, rfl, ho, sv', hn2, hs2⟩
  have HE := Aside0.mk (show ∃ sv', Net w2 b base ok sv' (xs.eraseIdx m) room lost ∧ Step _ w2 b (Value.slice A0 xs.length c0) sv' from ⟨sv', hn2, hs2⟩)
  clear ho hn2 hs2
  go_wp2
  go_ret
  exact ⟨rfl, HE.out⟩
end Go.Proofs.Ytcjeideiigdidaa.Net
