/-
The reference's network: Send, Take, Double.
Conditions: each theorem states what it asks.
-/
import Derived.Test.YtcjeideiigdidaaRef0
namespace Go.Proofs.Ytcjeideiigdidaa.Net
open Go.RowKit Go.Proofs.YtcjeideiigdidaaW.PrintWords Go.Proofs.YtcjeideiigdidaaW.PrintLast Go.Proofs.YtcjeideiigdidaaW.PrintMore
set_option linter.unusedVariables false
set_option linter.unusedSimpArgs false

theorem rsend_full (b base : Nat) (ok : Nat → Prop) (sv : Value) (xs : List S37) (room lost t0 : Int) (A : Option Addr) (n c : Nat) (w : World) (hn : RNet w b base ok sv xs room lost) (hf : room ≤ xs.length) (hl0 : 0 ≤ lost) (hl : lost ≤ 1000000) :
    Calls Try.prog 19 #[.pointer (some ⟨b, 0, none⟩), .int .i64 t0, .slice A n c] w fun e w' => e = .returned (.bool false) ∧ RNet w' b base ok sv xs room (lost + 1) ∧ Step w w' b sv sv := by
  obtain ⟨A0, c0, rfl, hc0, _⟩ := hn.form
  have h0 := hn.cell0
  have h1 := hn.cell1
  have h2 := hn.cell2
  have f2 := hn.free 2
  have hd : decide (room ≤ (xs.length : Int)) = true := by simpa using hf
  have hwr : IntKind.i64.wrap (lost + 1) = lost + 1 := wrap_sm _ (by omega) (by omega)
  have HN := Aside0.mk hn
  clear hn hf
  go_enter Try.func19, Try.ntmps19
  go_wp2
  go_quiet (fail)
  go_wp2
  go_ret
  exact ⟨rfl, (HN.out.below (pw_below_drewN (Below.refl _ _) nq)).set2 _, (Step.drewN w b _ nq).trans (Step.set _ b 2 _ _)⟩

/-- Behind an append to the list that then is stored into the network. -/
theorem RNet.stored {w w1 : World} {b base : Nat} {ok : Nat → Prop} {sv v1 : Value} {xs ys : List S37} {room lost : Int} (n : RNet w b base ok sv xs room lost) (hg : w.grownBy w1 sv.ownBlock) (ho : k37.R 37 w1 base ok v1 ys)
    (hat : v1.ownBlock = sv.ownBlock ∨ ∃ k, v1.ownBlock = some k ∧ w.heap.size ≤ k) : RNet (w1.setCell ⟨b, 1, none⟩ v1) b base ok v1 ys room lost ∧ Step w (w1.setCell ⟨b, 1, none⟩ v1) b sv v1 := by
  have hne : some b ≠ sv.ownBlock := Kd.R_ne n.2.1 n.1 (by decide)
  have hb1 : w1.heap[b]? = some (.cells #[.int .i64 room, sv, .int .i64 lost] 50 (0, 0)) := (hg.block b (blk_lt n.1) hne).trans n.1
  refine ⟨⟨by simpa using blk_set hb1 1 v1, Kd.R_set ho hb1 (by intro q hq; simp [k37, Kd.iso, Kd.pair, Kd.slice, Kd.int, Kd.scalar] at hq; omega) 1 _, n.2.2⟩, ⟨hg.os, hg.tape, hg.output, (KeepBut.of_grown hg b).set_ 1 _, hat⟩⟩

/-- append([]byte{}, l...) -/
theorem rbytes_step {w w1 : World} {b base : Nat} {ok : Nat → Prop} {room lost : Int} {sv : Value} {xs : List S37} {A : Option Addr} {c : Nat} {l : List Int}
    (n : RNet w b base ok sv xs room lost) (hB : Below w.heap.size w w1) (hl : (Kd.int .u8).C w A l.length l) (hll : l.length ≤ 140737488355328)
    {ops : Array Oper} {o : Oper} {a : Act} {Q : Exit → Act → World → Prop} {Kc : Act → World → Prop} (hw : Region.wanted o (yielded ops a.tmps) = true) (s y : Operand)
    (hop : o.op = .call { callee := .builtin .append, args := #[s, y], argTypes := #[34, 34] }) (hs : a.eval s = .slice (some ⟨w1.heap.size, 0, none⟩) 0 0) (hx : a.eval y = .slice A l.length c)
    (h : ∀ A2 c2 w2, w2.cell? ⟨b, 1, none⟩ = some sv → Aside0 (Below w.heap.size w w2) → Aside0 ((Kd.int .u8).R 5 w2 w.heap.size (fun _ => True) (.slice A2 l.length c2) l) → Kc (a.put o.dst (.slice A2 l.length c2)) w2) :
    if Region.wanted o (yielded ops a.tmps) = true then Oper.wp Try.prog o a (w1.alloc (.cells #[] 5)) Kc Q else Kc (a.put o.dst undef) (w1.alloc (.cells #[] 5)) := by
  have hB1 : Below w.heap.size w (w1.alloc (.cells #[] 5)) := hB.alloc hB.size _
  refine Kd.R_append_rows_step (Kd.int .u8) (Rr := (Kd.int .u8).K (w1.alloc (.cells #[] 5))) (w0 := w) w.heap.size hw s y 34 5 (.int .u8 0) 1 hop Try.underlying34 info5 rfl (by decide) (by omega) (.slice (some ⟨w1.heap.size, 0, none⟩) 0 0) [] l A l.length c (fun _ => True) (fun _ => False) hs hx
    (Kd.R_of_own (own_lit w1 w.heap.size 5 .u8 [] hB.size (by simp)) (fun _ _ => trivial)) (Kd.C_below hl hB1) (fun x cs hx => hx) (fun k hk => hk.elim) (fun _ _ => trivial) hB1 hB1.size (by simpa using hll) ?_
  intro v1 w2 ho2 hb2 hg2 hat2
  rw [List.nil_append] at ho2
  obtain ⟨A2, c2, rfl⟩ := Kd.R_slice ho2
  exact h A2 c2 w2 ((hb2.cell (p := ⟨b, 1, none⟩) (blk_lt n.1)).trans n.cell1) ⟨hb2⟩ ⟨ho2⟩

theorem rappend_step {w w1 : World} {b base : Nat} {ok : Nat → Prop} {room lost : Int} {A0 : Option Addr} {c0 : Nat} {xs : List S37} {x : S37} {A1 : Option Addr} {cc1 : Nat}
    (n : RNet w b base ok (.slice A0 xs.length c0) xs room lost) (hB : Below w.heap.size w w1) (ho : (Kd.int .u8).R 5 w1 w.heap.size (fun _ => True) (.slice A1 x.f1.length cc1) x.f1) (hok : ∀ k, w.heap.size ≤ k → ok k) (hbase : base ≤ w.heap.size) (hX : xs.length < 1000)
    {ops : Array Oper} {o : Oper} {a : Act} {Q : Exit → Act → World → Prop} {Kc : Act → World → Prop} (hw : Region.wanted o (yielded ops a.tmps) = true) (s y : Operand)
    (hop : o.op = .call { callee := .builtin .append, args := #[s, y], argTypes := #[45, 45] }) (hs : a.eval s = .slice A0 xs.length c0) (hx : a.eval y = .slice (some ⟨w1.heap.size, 0, none⟩) 1 1)
    (h : ∀ A2 c2 w2, w2.cell? ⟨b, 1, none⟩ = some (.slice A0 xs.length c0) → w2.frozen? ⟨b, 1, none⟩ = false → Aside0 (Appended w w2 base ok (.slice A0 xs.length c0) (.slice A2 (xs.length + 1) c2) (xs ++ [x])) → Kc (a.put o.dst (.slice A2 (xs.length + 1) c2)) w2) :
    if Region.wanted o (yielded ops a.tmps) = true then Oper.wp Try.prog o a (w1.alloc (.cells #[.int .i64 x.f0, .slice A1 x.f1.length cc1] 37)) Kc Q else Kc (a.put o.dst undef) (w1.alloc (.cells #[.int .i64 x.f0, .slice A1 x.f1.length cc1] 37)) := by
  have hlt := Kd.R_lt n.2.1
  have hM : k37.M w1 base (fun k => ok k ∧ some k ≠ (Value.slice A0 xs.length c0).ownBlock) x [.int .i64 x.f0, .slice A1 x.f1.length cc1] :=
    k37_mkM _ _ _ x (Kd.R_mono (Kd.R_lower (Kd.R_bound ho) hbase) (fun k hk => ⟨hok k hk.2.1, fun e => by have := hlt k e.symm; have := hk.2.1; omega⟩))
  refine Kd.R_append_step k37 (w0 := w1) base hw s y 45 37 (.agg #[.int .i64 0, .slice none 0 0]) 32 hop Try.underlying45 info37 rfl (by decide) (by omega) (.slice A0 xs.length c0) xs x [.int .i64 x.f0, .slice A1 x.f1.length cc1] ok _ hs hx hM (fun _ hk => hk)
    (fun k hk => hok k (Nat.le_trans hB.size hk)) (Kd.R_below n.2.1 hB) (Below.refl _ _) (Nat.le_trans hbase hB.size) (by omega) ?_
  intro v1 w2 ho2 hb2 hg2 hat2
  obtain ⟨A2, c2, rfl⟩ := Kd.R_slice ho2
  have hne : some b ≠ (Value.slice A0 xs.length c0).ownBlock := Kd.R_ne n.2.1 n.1 (by decide)
  have hb1 : w2.heap[b]? = some (.cells #[.int .i64 room, .slice A0 xs.length c0, .int .i64 lost] 50 (0, 0)) := (hg2.block b (Nat.lt_of_lt_of_le (blk_lt n.1) hB.size) hne).trans ((hB.block b (blk_lt n.1)).trans n.1)
  rw [List.length_append, List.length_singleton] at ho2 hat2 ⊢
  refine h A2 c2 w2 ((blk_cell hb1 1).trans rfl) (blk_frozen hb1 1) ⟨⟨(grown_of_below hB _).trans hg2, ho2, ?_⟩⟩
  rcases hat2 with e | ⟨k, e, hk⟩
  · exact .inl e
  · exact .inr ⟨k, e, Nat.le_trans hB.size hk⟩

set_option maxHeartbeats 2000000 in
theorem rsend_room (b base : Nat) (ok : Nat → Prop) (sv : Value) (xs : List S37) (room lost t0 : Int) (A : Option Addr) (c : Nat) (l : List Int) (w : World) (hn : RNet w b base ok sv xs room lost) (hf : (xs.length : Int) < room) (hr : room ≤ 256)
    (hl : (Kd.int .u8).C w A l.length l) (hll : l.length ≤ 140737488355328) (hbase : base ≤ w.heap.size) (hok : ∀ k, w.heap.size ≤ k → ok k) :
    Calls Try.prog 19 #[.pointer (some ⟨b, 0, none⟩), .int .i64 t0, .slice A l.length c] w fun e w' => e = .returned (.bool true) ∧ ∃ sv', RNet w' b base ok sv' (xs ++ [⟨t0, l⟩]) room lost ∧ Step w w' b sv sv' := by
  obtain ⟨A0, c0, rfl, hc0, _⟩ := hn.form
  have h0 := hn.cell0
  have h1 := hn.cell1
  have f1 := hn.free 1
  have HN := Aside0.mk hn
  have HL := Aside0.mk hl
  have HLL := Aside0.mk hll
  have HB := Aside0.mk hbase
  have HK := Aside0.mk hok
  have hd : decide (room ≤ (xs.length : Int)) = false := by simpa using hf
  have HX := Aside0.mk (show xs.length < 1000 by omega)
  have kk : ∀ n_, ((w.drewN n_).alloc (Obj.cells #[] 5)).cell? ⟨b, 1, none⟩ = some (.slice A0 xs.length c0) := fun n_ => pw_cell_below (below_step (pw_below_drewN (Below.refl _ _) n_) (below_alloc (Below.refl _ _) _)) h1
  clear hn hf hl hll hbase hok
  go_enter Try.func19, Try.ntmps19
  go_wp2
  go_quiet (fail)
  go_wp2
  go_region_law (first | (refine rappend_step (x := ⟨t0, l⟩) HN.out HB1.out HO1.out HK.out HB.out HX.out rfl (.tmp 28) (.tmp 34) rfl rfl rfl ?_; intro A2 c2 w2 k1 f1 hS) | (refine rbytes_step HN.out (by repeat (first | exact Below.refl _ _ | apply Below.drew | apply pw_below_drewN)) HL.out HLL.out rfl (.tmp 30) (.tmp 31) rfl rfl rfl ?_; intro A1 cc1 w1 k0 HB1 HO1; have k2 : (w1.alloc (Obj.cells #[Value.int IntKind.i64 t0, Value.slice A1 l.length cc1] 37)).cell? ⟨b, 1, none⟩ = some (.slice A0 xs.length c0) := pw_cell_below (below_alloc (Below.refl _ _) _) k0))
  all_goals (go_wp2; go_ret; exact ⟨rfl, _, RNet.stored HN.out hS.out.1 hS.out.2.1 hS.out.2.2⟩)

theorem rows_take {α : Type} {R : α → List Value → Prop} {size : Nat} {w : World} {A : Option Addr} {xs : List α} (h : ReadsRow R size w A xs.length xs) (m : Nat) (hm : m ≤ xs.length) : ReadsRow R size w A (xs.take m).length (xs.take m) := by
  have hl : (xs.take m).length = m := by rw [List.length_take]; omega
  refine ⟨rfl, by rw [hl]; have := h.2.1; omega, fun hp => ?_⟩
  obtain ⟨ad, e, hc⟩ := h.2.2 (by omega)
  refine ⟨ad, e, fun j p hj => hc j p ?_⟩
  have hj' : j < m := by have := (List.getElem?_eq_some_iff.1 hj).1; omega
  rwa [List.getElem?_take_of_lt hj'] at hj
theorem rows_drop {α : Type} {R : α → List Value → Prop} {size : Nat} {w : World} {A : Option Addr} {xs : List α} {c : Nat} (h : ReadsRow R size w A xs.length xs) (m : Nat) (hm : m ≤ xs.length) (hc : xs.length ≤ c) : ReadsRow R size w (if c = m then A else A.map (·.add (m * size))) (xs.drop m).length (xs.drop m) := by
  have hl : (xs.drop m).length = xs.length - m := List.length_drop
  refine ⟨rfl, by rw [hl]; have := h.2.1; omega, fun hp => ?_⟩
  rw [hl] at hp
  obtain ⟨ad, rfl, hcell⟩ := h.2.2 (by omega)
  rw [if_neg (by omega)]
  refine ⟨_, rfl, fun j p hj => ?_⟩
  rw [List.getElem?_drop] at hj
  obtain ⟨cs, h1, h2, h3⟩ := hcell (m + j) p hj
  refine ⟨cs, h1, h2, fun i u hu => ?_⟩
  have := h3 i u hu
  rw [add_add]
  rwa [show m * size + (j * size + i) = (m + j) * size + i by rw [Nat.add_mul]; omega]

theorem info37' : ∃ i : TypeInfo, Try.prog.info? 37 = some i ∧ i.size = 2 := by
  obtain ⟨i, hi, h⟩ := Option.map_eq_some_iff.1 info37
  simp only [Prod.mk.injEq] at h
  exact ⟨i, hi, h.2.1⟩

/-- The elements of the network's list, as they lie. -/
theorem rows_src {w : World} {base : Nat} {ok : Nat → Prop} {A0 : Option Addr} {n0 c0 : Nat} {xs : List S37} (h : k37.R 37 w base ok (.slice A0 n0 c0) xs) : ReadsRow (fun x cs => k37.M w base (fun k => ok k ∧ k < w.heap.size) x cs) 2 w A0 xs.length xs := by
  obtain ⟨A, c, e, _, hr⟩ := h.2.reads
  obtain ⟨rfl, -, -⟩ := Value.slice.inj e
  exact hr.imp_ (Below.refl _ _) (fun p c hp => k37.M_mono (fun k hk => ⟨hk.1.1, hk.2.2.1⟩) (k37.M_bound hp))
theorem rows_move {w w1 : World} {base : Nat} {ok : Nat → Prop} {A : Option Addr} {n : Nat} {ys : List S37} (h : ReadsRow (fun x cs => k37.M w base (fun k => ok k ∧ k < w.heap.size) x cs) 2 w A n ys) (hb : Below w.heap.size w w1) : ReadsRow (fun x cs => k37.M w1 base (fun k => ok k ∧ k < w.heap.size) x cs) 2 w1 A n ys :=
  h.imp_ hb (fun p c hp => Kd.M_step hp (fun k hk _ => hb.block k hk.2))

theorem rtake_step1 {w W1 : World} {b base m g : Nat} {ok : Nat → Prop} {room lost : Int} {A0 : Option Addr} {c0 : Nat} {xs : List S37}
    (n : RNet w b base ok (.slice A0 xs.length c0) xs room lost) (hB1 : Below w.heap.size w W1) (hblk : W1.heap[g]? = some (.cells #[] 37 (0, 0))) (hg : w.heap.size ≤ g) (hm : m ≤ xs.length) (hX : xs.length < 1000) (hok : ∀ k, w.heap.size ≤ k → ok k) (hbase : base ≤ w.heap.size)
    {ops : Array Oper} {o : Oper} {a : Act} {Q : Exit → Act → World → Prop} {Kc : Act → World → Prop} (hw : Region.wanted o (yielded ops a.tmps) = true) (s y : Operand)
    (hop : o.op = .call { callee := .builtin .append, args := #[s, y], argTypes := #[45, 45] }) (hs : a.eval s = .slice (some ⟨g, 0, none⟩) 0 0) (hx : a.eval y = .slice A0 m c0)
    (h : ∀ A2 c2 w2, w2.cell? ⟨b, 1, none⟩ = some (.slice A0 xs.length c0) → Aside0 (Below w.heap.size w w2) → Aside0 (k37.R 37 w2 base ok (.slice A2 m c2) (xs.take m)) → Aside0 (∃ k, (Value.slice A2 m c2).ownBlock = some k ∧ w.heap.size ≤ k) → Kc (a.put o.dst (.slice A2 m c2)) w2) :
    if Region.wanted o (yielded ops a.tmps) = true then Oper.wp Try.prog o a W1 Kc Q else Kc (a.put o.dst undef) W1 := by
  have hml : (xs.take m).length = m := by rw [List.length_take]; omega
  have hlit : k37.R 37 W1 base ok (.slice (some ⟨g, 0, none⟩) 0 0) [] := by
    refine ⟨fun k hk => ?_, [], ?_, Reps.none _ _⟩
    · obtain rfl : g = k := by simpa [Value.ownBlock] using hk
      exact hok _ hg
    · exact ⟨by simp, .inr ⟨g, 0, #[], rfl, Nat.le_trans hbase hg, hblk, Nat.le_refl _, by simp [maxLen], by simp, by simp⟩⟩
  have hsrc := rows_take (rows_move (rows_src n.2.1) hB1) m hm
  rw [hml] at hsrc
  refine Kd.R_append_rows_step k37 (Rr := fun x cs => k37.M W1 base (fun k => ok k ∧ k < w.heap.size) x cs) (w0 := w) base hw s y 45 37 (.agg #[.int .i64 0, .slice none 0 0]) 32 hop Try.underlying45 info37 rfl (by decide) (by omega) (.slice (some ⟨g, 0, none⟩) 0 0) [] (xs.take m) A0 m c0 ok (fun k => ok k ∧ k < w.heap.size) hs hx
    hlit hsrc (fun x cs hx => hx) (fun k hk => ⟨hk.1, fun e => by have := hk.2; simp [Value.ownBlock] at e; omega⟩) (fun k hk => hok k (by have := hB1.size; omega)) (hB1.mono hbase) (Nat.le_trans hbase hB1.size) (by simp; omega) ?_
  intro v1 w2 ho2 hb2 hg2 hat2
  rw [List.nil_append] at ho2
  obtain ⟨A2, c2, rfl⟩ := Kd.R_slice ho2
  rw [hml] at ho2 hat2 ⊢
  have hB2 : Below w.heap.size w w2 := hB1.grown hg2 hB1.size (fun k hk => by simp [Value.ownBlock] at hk; omega)
  refine h A2 c2 w2 ((hB2.cell (p := ⟨b, 1, none⟩) (blk_lt n.1)).trans n.cell1) ⟨hB2⟩ ⟨ho2⟩ ⟨?_⟩
  rcases hat2 with e | ⟨k', e, hk'⟩
  · exact ⟨g, by rw [e]; rfl, hg⟩
  · exact ⟨k', e, Nat.le_trans hB1.size hk'⟩

theorem rtake_step2 {w w2 : World} {b base m m2 c' : Nat} {ok : Nat → Prop} {room lost : Int} {A0 A2 A' : Option Addr} {c0 c2 : Nat} {xs : List S37}
    (n : RNet w b base ok (.slice A0 xs.length c0) xs room lost) (hB : Below w.heap.size w w2) (ho : k37.R 37 w2 base ok (.slice A2 m c2) (xs.take m)) (hfr0 : ∃ k, (Value.slice A2 m c2).ownBlock = some k ∧ w.heap.size ≤ k)
    (hm : m < xs.length) (hX : xs.length < 1000) (hok : ∀ k, w.heap.size ≤ k → ok k) (hbase : base ≤ w.heap.size) (hA : A' = if c0 = m + 1 then A0 else A0.map (·.add ((m + 1) * 2))) (hm2 : m2 = xs.length - (m + 1))
    {ops : Array Oper} {o : Oper} {a : Act} {Q : Exit → Act → World → Prop} {Kc : Act → World → Prop} (hw : Region.wanted o (yielded ops a.tmps) = true) (s y : Operand)
    (hop : o.op = .call { callee := .builtin .append, args := #[s, y], argTypes := #[45, 45] }) (hs : a.eval s = .slice A2 m c2) (hx : a.eval y = .slice A' m2 c')
    (h : ∀ A3 c3 w3, w3.cell? ⟨b, 1, none⟩ = some (.slice A0 xs.length c0) → w3.frozen? ⟨b, 1, none⟩ = false → Aside0 (Appended w w3 base ok (.slice A0 xs.length c0) (.slice A3 (m + m2) c3) (xs.eraseIdx m)) → Kc (a.put o.dst (.slice A3 (m + m2) c3)) w3) :
    if Region.wanted o (yielded ops a.tmps) = true then Oper.wp Try.prog o a w2 Kc Q else Kc (a.put o.dst undef) w2 := by
  have hc0 := (Kd.R_reads' n.2.1).2.1
  have hfr : ∀ k, (Value.slice A2 m c2).ownBlock = some k → w.heap.size ≤ k := fun k hk => by
    obtain ⟨k', e, hk'⟩ := hfr0
    rw [e] at hk
    injection hk with hk
    omega
  have hml : (xs.take m).length = m := by rw [List.length_take]; omega
  have hdl : (xs.drop (m + 1)).length = m2 := by rw [List.length_drop]; omega
  have hsrc := rows_drop (rows_move (rows_src n.2.1) hB) (m + 1) (by omega) hc0
  rw [hdl, ← hA] at hsrc
  refine Kd.R_append_rows_step k37 (Rr := fun x cs => k37.M w2 base (fun k => ok k ∧ k < w.heap.size) x cs) (w0 := w) base hw s y 45 37 (.agg #[.int .i64 0, .slice none 0 0]) 32 hop Try.underlying45 info37 rfl (by decide) (by omega) (.slice A2 m c2) (xs.take m) (xs.drop (m + 1)) A' m2 c' ok (fun k => ok k ∧ k < w.heap.size) hs hx
    ho hsrc (fun x cs hx => hx) (fun k hk => ⟨hk.1, fun e => by have := hfr k e.symm; have := hk.2; omega⟩) (fun k hk => hok k (by have := hB.size; omega)) (hB.mono hbase) (Nat.le_trans hbase hB.size) (by rw [hml]; omega) ?_
  intro v1 w3 ho3 hb3 hg3 hat3
  have hel : xs.take m ++ xs.drop (m + 1) = xs.eraseIdx m := (List.eraseIdx_eq_take_drop_succ xs m).symm
  have hln : (xs.eraseIdx m).length = m + m2 := by rw [← hel, List.length_append, hml, hdl]
  rw [hel] at ho3
  obtain ⟨A3, c3, rfl⟩ := Kd.R_slice ho3
  rw [hln] at ho3 hat3 ⊢
  have hB3 : Below w.heap.size w w3 := hB.grown hg3 hB.size hfr
  have hb1 := (hB3.block b (blk_lt n.1)).trans n.1
  refine h A3 c3 w3 ((blk_cell hb1 1).trans rfl) (blk_frozen hb1 1) ⟨⟨grown_of_below hB3 _, ho3, .inr ?_⟩⟩
  rcases hat3 with e | ⟨k', e, hk'⟩
  · obtain ⟨k', e', hk'⟩ := hfr0
    exact ⟨k', by rw [e]; exact e', hk'⟩
  · exact ⟨k', e, Nat.le_trans hB.size hk'⟩

theorem RNet.far {w : World} {b base : Nat} {ok : Nat → Prop} {sv : Value} {xs : List S37} {room lost : Int} (n : RNet w b base ok sv xs room lost) {p : Addr} (hb : b ≠ p.block) (h : ∀ k, ok k → k ≠ p.block) (u : Value) : RNet (w.setCell p u) b base ok sv xs room lost := ⟨blk_far n.1 hb u, Kd.R_far n.2.1 h u, n.2.2⟩
theorem RNet.mono {w : World} {b base : Nat} {ok ok' : Nat → Prop} {sv : Value} {xs : List S37} {room lost : Int} (n : RNet w b base ok sv xs room lost) (h : ∀ k, ok k → ok' k) : RNet w b base ok' sv xs room lost := ⟨n.1, Kd.R_mono n.2.1 h, n.2.2⟩
theorem RNet.tight {w : World} {b base : Nat} {ok : Nat → Prop} {sv : Value} {xs : List S37} {room lost : Int} (n : RNet w b base ok sv xs room lost) : RNet w b base (fun k => ok k ∧ k < w.heap.size) sv xs room lost := ⟨n.1, Kd.R_mono (Kd.R_bound n.2.1) (fun k h => ⟨h.1, h.2.2.1⟩), n.2.2⟩
/-- Bytes stay while a network is at work. -/
theorem bytes_keep {w w' : World} {b base t : Nat} {ok : Nat → Prop} {v : Value} {row : Option Nat} {l : List Int} {cs : Array Value} (h : (Kd.int .u8).R 5 w base ok v l) (hkk : KeepBut w w' b row) (hb : w.heap[b]? = some (.cells cs t (0, 0))) (ht : t ≠ 5)
    (hrow : ∀ k, row = some k → ∃ cells, w.heap[k]? = some (.cells cells 37 (0, 0))) : (Kd.int .u8).R 5 w' base ok v l := by
  have h1 := Kd.R_types h hb (by intro q hq; simp [Kd.int, Kd.scalar] at hq; omega)
  refine Kd.R_mono (Kd.R_step (Kd.R_bound h1) (fun k hk hlt => hkk.2 k hlt hk.1.2 (fun e => ?_))) (fun k hk => hk.1.1)
  obtain ⟨cells, hc⟩ := hrow k e.symm
  obtain ⟨_, _, _, q, hq, cells', hc'⟩ := hk
  rw [hc] at hc'
  injection hc' with hc'
  injection hc' with _ hq'
  simp [Kd.int, Kd.scalar] at hq
  subst hq
  exact absurd hq' (by decide)

theorem rtake_no (b base : Nat) (ok : Nat → Prop) (sv : Value) (xs : List S37) (room lost i : Int) (w : World) (hn : RNet w b base ok sv xs room lost) (h : i < 0 ∨ (xs.length : Int) ≤ i) :
    Calls Try.prog 20 #[.pointer (some ⟨b, 0, none⟩), .int .i64 i] w fun e w' => e = .returned (.tuple #[.agg #[.int .i64 0, .slice none 0 0], .bool false]) ∧ Below w.heap.size w w' := by
  obtain ⟨wa, hwa⟩ : ∃ wa : World, wa = w.alloc (.cells #[.int .i64 0, .slice none 0 0] 37) := ⟨_, rfl⟩
  have HBa := Aside0.mk (show Below w.heap.size w wa from hwa ▸ below_alloc (Below.refl _ _) _)
  have hblk : wa.heap[w.heap.size]? = some (.cells #[.int .i64 0, .slice none 0 0] 37 (0, 0)) := by rw [hwa]; exact heap_alloc_new w _
  have HN := Aside0.mk (hn.below HBa.out)
  have HH := Aside0.mk h
  have HWA := Aside0.mk hwa
  clear hn h hwa
  go_enter Try.func20, Try.ntmps20
  go_wp2_with fail
  rw [← HWA.out]
  refine (rlook_no b base ok sv xs room lost i wa HN.out HH.out).mono ?_
  rintro e w2 ⟨rfl, hb2⟩
  have hblk2 := (hb2.block w.heap.size (blk_lt hblk)).trans hblk
  have hl2 := blk_lt hblk2
  have c0 := (blk_cell hblk2 0).trans rfl
  have c1 := (blk_cell hblk2 1).trans rfl
  have g0 := blk_frozen hblk2 0
  have g1 := blk_frozen hblk2 1
  have HB2 := Aside0.mk (below_step HBa.out hb2)
  clear hb2 hblk hblk2
  have p0 : (((w2.setCell ⟨w.heap.size, 0, none⟩ (.int .i64 0)).setCell ⟨w.heap.size, 1, none⟩ (.slice none 0 0)).alloc (.cells #[.int .i64 0, .slice none 0 0] 37)).cell? ⟨w.heap.size, 0, none⟩ = some (.int .i64 0) := by go_simp
  have p1 : (((w2.setCell ⟨w.heap.size, 0, none⟩ (.int .i64 0)).setCell ⟨w.heap.size, 1, none⟩ (.slice none 0 0)).alloc (.cells #[.int .i64 0, .slice none 0 0] 37)).cell? ⟨w.heap.size, 1, none⟩ = some (.slice none 0 0) := by go_simp
  go_wp2
  refine bodyPost_ret (v := .tuple #[.agg #[.int .i64 0, .slice none 0 0], .bool false]) (by simp [results, Try.results20, go_sem, p0, p1]) rfl ⟨rfl, ?_⟩
  exact ((HB2.out.setCell (Nat.le_refl _) _).setCell (Nat.le_refl _) _).alloc (by simpa using HB2.out.size) _

set_option maxHeartbeats 4000000 in
theorem rtake_yes (b base : Nat) (ok : Nat → Prop) (sv : Value) (xs : List S37) (room lost : Int) (m : Nat) (w : World) (hn : RNet w b base ok sv xs room lost) (hm : m < xs.length) (hl : xs.length < 1000) (hbase : base ≤ w.heap.size) (hok : ∀ k, w.heap.size ≤ k → ok k) :
    Calls Try.prog 20 #[.pointer (some ⟨b, 0, none⟩), .int .i64 m] w fun e w' => ∃ A c, e = .returned (.tuple #[.agg #[.int .i64 (xs.getD m z37).f0, .slice A (xs.getD m z37).f1.length c], .bool true]) ∧ (Kd.int .u8).R 5 w' base ok (.slice A (xs.getD m z37).f1.length c) (xs.getD m z37).f1 ∧
      ∃ sv', RNet w' b base ok sv' (xs.eraseIdx m) room lost ∧ Step w w' b sv sv' := by
  obtain ⟨A0, c0, rfl, hc0, _⟩ := hn.form
  obtain ⟨wa, hwa⟩ : ∃ wa : World, wa = w.alloc (.cells #[.int .i64 0, .slice none 0 0] 37) := ⟨_, rfl⟩
  have HBa := Aside0.mk (show Below w.heap.size w wa from hwa ▸ below_alloc (Below.refl _ _) _)
  have hblk : wa.heap[w.heap.size]? = some (.cells #[.int .i64 0, .slice none 0 0] 37 (0, 0)) := by rw [hwa]; exact heap_alloc_new w _
  have HN := Aside0.mk hn
  have HM := Aside0.mk hm
  have HL := Aside0.mk hl
  have HB := Aside0.mk hbase
  have HK := Aside0.mk hok
  have HWA := Aside0.mk hwa
  have hbl := blk_lt hn.1
  have hrow : some w.heap.size ≠ (Value.slice A0 xs.length c0).ownBlock := fun e => by have := Kd.R_lt hn.2.1 _ e.symm; omega
  generalize hx : xs.getD m z37 = x at *
  have HX := Aside0.mk hx
  clear hn hl hwa hbase hok hx
  go_enter Try.func20, Try.ntmps20
  go_wp2_with fail
  rw [← HWA.out]
  refine (rlook_yes b base (fun k => ok k ∧ k < w.heap.size) _ xs room lost m wa ((show RNet w b base (fun k => ok k ∧ k < w.heap.size) _ xs room lost from ⟨HN.out.1, Kd.R_mono (Kd.R_bound HN.out.2.1) (fun k h => ⟨h.1, h.2.2.1⟩), HN.out.2.2⟩).below HBa.out) hm).mono ?_
  rintro e w2 ⟨⟨A1, c1, rfl, hR2⟩, hb2⟩
  rw [HX.out] at hR2 ⊢
  have HR2 := Aside0.mk hR2
  have hblk2 := (hb2.block w.heap.size (blk_lt hblk)).trans hblk
  have HB2 := Aside0.mk (below_step HBa.out hb2)
  clear hb2 hblk hR2
  obtain ⟨w3, hw3⟩ : ∃ w3 : World, w3 = w2.alloc (.cells #[.int .i64 x.f0, .slice A1 x.f1.length c1] 37) := ⟨_, rfl⟩
  have hb3 : Below w2.heap.size w2 w3 := hw3 ▸ below_alloc (Below.refl _ _) _
  have hblk3 : w3.heap[w2.heap.size]? = some (.cells #[.int .i64 x.f0, .slice A1 x.f1.length c1] 37 (0, 0)) := by rw [hw3]; exact heap_alloc_new w2 _
  have hblk3' := (hb3.block w.heap.size (blk_lt hblk2)).trans hblk2
  have HB3 := Aside0.mk (below_step HB2.out hb3)
  have HR3 := Aside0.mk (Kd.R_below HR2.out hb3)
  have hlt2' : w.heap.size < w3.heap.size := Nat.lt_of_lt_of_le (blk_lt hblk2) hb3.size
  have HN3 := Aside0.mk (show RNet w3 b base (fun k => ok k ∧ k ≠ w.heap.size) _ xs room lost from (HN.out.tight.mono (fun k hk => ⟨hk.1, Nat.ne_of_lt hk.2⟩)).below HB3.out)
  have hlt2 := blk_lt hblk2
  have hrow2 : some w2.heap.size ≠ (Value.slice A0 xs.length c0).ownBlock := fun e => by have := Kd.R_lt HN.out.2.1 _ e.symm; omega
  have HBLK := Aside0.mk hblk3
  have HBLK' := Aside0.mk hblk3'
  have HW3 := Aside0.mk hw3
  clear hw3 hblk2 hblk3 hblk3' hb3
  go_upto_region 3 with fail
  rw [← HW3.out]
  have n1 := HN3.out.cell1
  have kk : ∀ n_, ((w3.drewN n_).alloc (Obj.cells #[] 37)).cell? ⟨b, 1, none⟩ = some (.slice A0 xs.length c0) := fun n_ => pw_cell_below (below_step (pw_below_drewN (Below.refl _ _) n_) (below_alloc (Below.refl _ _) _)) n1
  have kk0 : (w3.alloc (Obj.cells #[] 37)).cell? ⟨b, 1, none⟩ = some (.slice A0 xs.length c0) := kk 0
  obtain ⟨i37, hi37, hs37⟩ := info37'
  have ct1 : ∀ W : World, (Instr.slice 45 (.slice A0 xs.length c0) none (some (.int .i64 m)) none).run Try.prog W = .ok (.slice A0 m c0) W := fun W => by
    have := cut_to (P := Try.prog) 45 37 .i64 Try.underlying45 hi37 A0 xs.length c0 m (by omega) (by omega) hc0 W
    simpa using this
  obtain ⟨A', hA'⟩ : ∃ A', A' = if c0 = m + 1 then A0 else A0.map (·.add ((m + 1) * 2)) := ⟨_, rfl⟩
  obtain ⟨m2, hm2⟩ : ∃ m2, m2 = xs.length - (m + 1) := ⟨_, rfl⟩
  have ct2 : ∀ W : World, (Instr.slice 45 (.slice A0 xs.length c0) (some (.int .i64 ((m : Int) + 1))) none none).run Try.prog W = .ok (.slice A' m2 (c0 - (m + 1))) W := fun W => by
    have := cut_from (P := Try.prog) 45 37 .i64 Try.underlying45 hi37 2 hs37 A0 xs.length c0 ((m : Int) + 1) (by omega) (by omega) W
    rw [show ((m : Int) + 1).toNat = m + 1 by omega] at this
    rw [hA', hm2]; exact this
  have hwm : IntKind.i64.wrap ((m : Int) + 1) = (m : Int) + 1 := wrap_sm _ (by omega) (by have := HL.out; omega)
  have HA' := Aside0.mk hA'
  have HM2 := Aside0.mk hm2
  have HK3 := Aside0.mk (show ∀ k, w3.heap.size ≤ k → ok k ∧ k ≠ w.heap.size from fun k hk => ⟨HK.out k (Nat.le_trans HB3.out.size hk), by omega⟩)
  have HB3b := Aside0.mk (Nat.le_trans HB.out HB3.out.size)
  clear hA' hm2 hi37 hs37 hc0 hm
  go_region_law (first | (refine rtake_step2 (m := m) (c' := c0 - (m + 1)) HN3.out HB1.out HO1.out HF1.out HM.out HL.out HK3.out HB3b.out HA'.out HM2.out (by rfl) (.tmp 23) (.tmp 30) (by rfl) (by simp [Act.eval, Act.put]) (by simp [Act.eval, Act.put]) ?_; intro A3 c3 w5 k1 f1 hS) | (refine rtake_step1 (m := m) (g := w3.heap.size) HN3.out (by repeat (first | exact Below.refl _ _ | apply Below.drew | apply pw_below_drewN | refine Below.alloc ?_ (by exact Nat.le_refl _) _)) (by exact heap_alloc_new w3 _) (Nat.le_refl _) (Nat.le_of_lt HM.out) HL.out HK3.out HB3b.out (by rfl) (.tmp 16) (.tmp 22) (by rfl) (by simp [Act.eval, Act.put]) (by simp [Act.eval, Act.put]) ?_; intro A2 c2 w4 k0 HB1 HO1 HF1))
  all_goals (
    have hst := RNet.stored HN3.out hS.out.1 hS.out.2.1 hS.out.2.2
    obtain ⟨w6, hw6⟩ : ∃ w6 : World, w6 = w5.setCell ⟨b, 1, none⟩ (.slice A3 (m + m2) c3) := ⟨_, rfl⟩
    rw [← hw6] at hst ⊢
    have HST := Aside0.mk hst
    have hb6 := (hst.2.keep.2 w2.heap.size (blk_lt HBLK.out) (by omega) hrow2).trans HBLK.out
    have hr6 := (hst.2.keep.2 w.heap.size (blk_lt HBLK'.out) (by omega) hrow).trans HBLK'.out
    have HR6 := Aside0.mk (bytes_keep HR3.out hst.2.keep HN3.out.1 (by decide) (Kd.R_typed HN3.out.2.1))
    have d0 := (blk_cell hb6 0).trans rfl
    have d1 := (blk_cell hb6 1).trans rfl
    have r0 := (blk_cell hr6 0).trans rfl
    have r1 := (blk_cell hr6 1).trans rfl
    have g0 := blk_frozen hr6 0
    have g1 := blk_frozen hr6 1
    have hs6 := blk_lt hr6
    clear hst hw6 hb6 hr6 hS k1 f1 k0 HB1 HO1 HF1 kk kk0 ct1 ct2 n1
    have p0 : ((w6.setCell ⟨w.heap.size, 0, none⟩ (.int .i64 x.f0)).setCell ⟨w.heap.size, 1, none⟩ (.slice A1 x.f1.length c1)).cell? ⟨w.heap.size, 0, none⟩ = some (.int .i64 x.f0) := by go_simp
    have p1 : ((w6.setCell ⟨w.heap.size, 0, none⟩ (.int .i64 x.f0)).setCell ⟨w.heap.size, 1, none⟩ (.slice A1 x.f1.length c1)).cell? ⟨w.heap.size, 1, none⟩ = some (.slice A1 x.f1.length c1) := by go_simp
    go_wp2
    refine bodyPost_ret (v := .tuple #[.agg #[.int .i64 x.f0, .slice A1 x.f1.length c1], .bool true]) (by simp [results, Try.results20, go_sem, p0, p1]) rfl ⟨A1, c1, rfl, ?_, _, ((HST.out.1.far (p := ⟨w.heap.size, 0, none⟩) (Nat.ne_of_lt hbl) (fun k hk => hk.2) _).far (p := ⟨w.heap.size, 1, none⟩) (Nat.ne_of_lt hbl) (fun k hk => hk.2) _).mono (fun k hk => hk.1), (((Step.of_below HB3.out).trans HST.out.2).far (Nat.le_refl _) _).far (Nat.le_refl _) _⟩
    exact Kd.R_mono (Kd.R_far (Kd.R_far HR6.out (p := ⟨w.heap.size, 0, none⟩) (fun k hk => Nat.ne_of_lt hk.2) _) (p := ⟨w.heap.size, 1, none⟩) (fun k hk => Nat.ne_of_lt hk.2) _) (fun _ h => h.1))
end Go.Proofs.Ytcjeideiigdidaa.Net
