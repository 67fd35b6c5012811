/-
The contracts of package network's functions that keep or add: New, Len, Lost, has, Send.
Conditions: the network lies in memory as Net says.
-/
import Derived.Test.YtcjeideiigdidaaNet0
import Derived.Deep.RegionLaw
namespace Go.Proofs.Ytcjeideiigdidaa.Net
open Go.RowKit Go.Proofs.YtcjeideiigdidaaW.PrintWords Go.Proofs.YtcjeideiigdidaaW.PrintLast Go.Proofs.YtcjeideiigdidaaW.PrintMore
set_option linter.unusedVariables false
set_option linter.unusedSimpArgs false

/-- A network at block b: its list is the row sv of the call's own. -/
def Net (w : World) (b base : Nat) (ok : Nat → Prop) (sv : Value) (xs : List S37) (room lost : Int) : Prop :=
  w.heap[b]? = some (.cells #[sv, .int .i64 room, .int .i64 lost] 55 (0, 0)) ∧ k37.R 37 w base ok sv xs ∧ base ≤ b

/-- What a call on the network leaves alone: all blocks but the network's own and its list's. -/
structure Step (w w' : World) (b : Nat) (sv sv' : Value) : Prop where
  os : w'.os = w.os
  tape : w'.tape = w.tape
  output : w'.output = w.output
  keep : KeepBut w w' b sv.ownBlock
  at_ : sv'.ownBlock = sv.ownBlock ∨ ∃ k, sv'.ownBlock = some k ∧ w.heap.size ≤ k

theorem Step.refl (w : World) (b : Nat) (sv : Value) : Step w w b sv sv := ⟨rfl, rfl, rfl, KeepBut.refl _ _ _, .inl rfl⟩
theorem Step.of_below {w w' : World} {b : Nat} {sv : Value} (h : Below w.heap.size w w') : Step w w' b sv sv := ⟨h.os, h.tape, h.output, KeepBut.of_below h _ _, .inl rfl⟩
theorem Step.below {w w' : World} {b base : Nat} {ok : Nat → Prop} {sv sv' : Value} {xs : List S37} {room lost : Int} (h : Step w w' b sv sv') (n : Net w b base ok sv xs room lost) : Below base w w' :=
  ⟨h.os, h.tape, h.output, h.keep.1, fun k hk => by
    have hb := n.2.2
    have hl := blk_lt n.1
    exact h.keep.2 k (by omega) (by omega) (fun e => by have := Kd.R_base n.2.1 k e.symm; omega)⟩

theorem Net.cell0 {w : World} {b base : Nat} {ok : Nat → Prop} {sv : Value} {xs : List S37} {room lost : Int} (n : Net w b base ok sv xs room lost) : w.cell? ⟨b, 0, none⟩ = some sv := (blk_cell n.1 0).trans rfl
theorem Net.cell1 {w : World} {b base : Nat} {ok : Nat → Prop} {sv : Value} {xs : List S37} {room lost : Int} (n : Net w b base ok sv xs room lost) : w.cell? ⟨b, 1, none⟩ = some (.int .i64 room) := (blk_cell n.1 1).trans rfl
theorem Net.cell2 {w : World} {b base : Nat} {ok : Nat → Prop} {sv : Value} {xs : List S37} {room lost : Int} (n : Net w b base ok sv xs room lost) : w.cell? ⟨b, 2, none⟩ = some (.int .i64 lost) := (blk_cell n.1 2).trans rfl
theorem Net.free {w : World} {b base : Nat} {ok : Nat → Prop} {sv : Value} {xs : List S37} {room lost : Int} (n : Net w b base ok sv xs room lost) (i : Nat) : w.frozen? ⟨b, i, none⟩ = false := blk_frozen n.1 i
theorem Net.form {w : World} {b base : Nat} {ok : Nat → Prop} {sv : Value} {xs : List S37} {room lost : Int} (n : Net w b base ok sv xs room lost) : ∃ A c, sv = .slice A xs.length c ∧ xs.length ≤ c ∧ k37.C w A xs.length xs := Kd.R_reads n.2.1
theorem Net.below {w w' : World} {b base : Nat} {ok : Nat → Prop} {sv : Value} {xs : List S37} {room lost : Int} (n : Net w b base ok sv xs room lost) (h : Below w.heap.size w w') : Net w' b base ok sv xs room lost :=
  ⟨(h.block b (blk_lt n.1)).trans n.1, Kd.R_below n.2.1 h, n.2.2⟩

theorem Net.drewN {w : World} {b base : Nat} {ok : Nat → Prop} {sv : Value} {xs : List S37} {room lost : Int} (n : Net w b base ok sv xs room lost) (m : Nat) : Net (w.drewN m) b base ok sv xs room lost := n.below (pw_below_drewN (Below.refl _ _) m)
theorem Step.trans {w w1 w2 : World} {b : Nat} {sv sv1 sv2 : Value} (h : Step w w1 b sv sv1) (k : Step w1 w2 b sv1 sv2) : Step w w2 b sv sv2 := by
  refine ⟨k.os.trans h.os, k.tape.trans h.tape, k.output.trans h.output, h.keep.trans (row1 := sv1.ownBlock) k.keep ?_, ?_⟩
  · exact h.at_
  · rcases k.at_ with e | ⟨g, e, hg⟩
    · rw [e]; exact h.at_
    · exact .inr ⟨g, e, Nat.le_trans h.keep.1 hg⟩
theorem Step.drewN (w : World) (b : Nat) (sv : Value) (m : Nat) : Step w (w.drewN m) b sv sv := Step.of_below (pw_below_drewN (Below.refl _ _) m)
/-- A store into the network's own cells. -/
theorem Step.set (w : World) (b i : Nat) (sv : Value) (u : Value) : Step w (w.setCell ⟨b, i, none⟩ u) b sv sv := ⟨rfl, rfl, rfl, (KeepBut.refl w b sv.ownBlock).set_ i u, .inl rfl⟩
theorem Net.set2 {w : World} {b base : Nat} {ok : Nat → Prop} {sv : Value} {xs : List S37} {room lost : Int} (n : Net w b base ok sv xs room lost) (x : Int) : Net (w.setCell ⟨b, 2, none⟩ (.int .i64 x)) b base ok sv xs room x :=
  ⟨by simpa using blk_set n.1 2 (.int .i64 x), Kd.R_set n.2.1 n.1 (by intro q hq; simp [k37, Kd.iso, Kd.pair, Kd.slice, Kd.int, Kd.scalar] at hq; omega) 2 _, n.2.2⟩

theorem new_ok (room : Int) (w : World) (h1 : 1 ≤ room) (h2 : room ≤ 256) :
    Calls Try.prog 8 #[.int .i64 room] w fun e w' => e = .returned (.tuple #[.pointer (some ⟨w.heap.size, 0, none⟩), .int .i64 0]) ∧ w' = w.alloc (.cells #[.slice none 0 0, .int .i64 room, .int .i64 0] 55) := by
  have e1 : decide (room < 1) = false := by simp; omega
  have e2 : decide (256 < room) = false := by simp; omega
  go_enter Try.func8, Try.ntmps8
  go_wp2
  go_ret2
  exact ⟨rfl, rfl⟩
theorem new_bad (room : Int) (w : World) (h : room < 1 ∨ 256 < room) :
    Calls Try.prog 8 #[.int .i64 room] w fun e w' => e = .returned (.tuple #[.pointer none, .int .i64 1]) ∧ w = w' := by
  by_cases h1 : room < 1
  · have e1 : decide (room < 1) = true := by simpa using h1
    clear h
    go_enter Try.func8, Try.ntmps8
    go_wp2
    go_ret2
    exact ⟨rfl, rfl⟩
  · have e1 : decide (room < 1) = false := by simpa using h1
    have e2 : decide (256 < room) = true := by simp; omega
    clear h
    go_enter Try.func8, Try.ntmps8
    go_wp2
    go_ret2
    exact ⟨rfl, rfl⟩
/-- A new network. -/
theorem net_new (w : World) (base : Nat) (ok : Nat → Prop) (room : Int) (hb : base ≤ w.heap.size) : Net (w.alloc (.cells #[.slice none 0 0, .int .i64 room, .int .i64 0] 55)) w.heap.size base ok (.slice none 0 0) [] room 0 :=
  ⟨by simpa using heap_alloc_new w _, Kd.R_nil _ _ _ _ _, hb⟩

theorem len_any (b n c : Nat) (A : Option Addr) (w : World) (h0 : w.cell? ⟨b, 0, none⟩ = some (.slice A n c)) :
    Calls Try.prog 10 #[.pointer (some ⟨b, 0, none⟩)] w fun e w' => e = .returned (.int .i64 n) ∧ w = w' := by
  go_enter Try.func10, Try.ntmps10
  go_wp2
  go_ret
  exact ⟨rfl, rfl⟩
theorem lost_any (b : Nat) (lost : Int) (w : World) (h0 : w.cell? ⟨b, 2, none⟩ = some (.int .i64 lost)) :
    Calls Try.prog 11 #[.pointer (some ⟨b, 0, none⟩)] w fun e w' => e = .returned (.int .i64 lost) ∧ w = w' := by
  go_enter Try.func11, Try.ntmps11
  go_wp2
  go_ret
  exact ⟨rfl, rfl⟩
theorem has_yes (b n c : Nat) (A : Option Addr) (i : Int) (w : World) (h0 : w.cell? ⟨b, 0, none⟩ = some (.slice A n c)) (h1 : 0 ≤ i) (h2 : i < n) :
    Calls Try.prog 26 #[.pointer (some ⟨b, 0, none⟩), .int .i64 i] w fun e w' => e = .returned (.bool true) ∧ w = w' := by
  have e1 : decide (0 ≤ i) = true := by simpa using h1
  have e2 : decide (i < (n : Int)) = true := by simpa using h2
  go_enter Try.func26, Try.ntmps26
  go_wp2
  go_ret
  exact ⟨rfl, rfl⟩
theorem has_no (b n c : Nat) (A : Option Addr) (i : Int) (w : World) (h0 : w.cell? ⟨b, 0, none⟩ = some (.slice A n c)) (h : i < 0 ∨ (n : Int) ≤ i) :
    Calls Try.prog 26 #[.pointer (some ⟨b, 0, none⟩), .int .i64 i] w fun e w' => e = .returned (.bool false) ∧ w = w' := by
  by_cases h1 : 0 ≤ i
  · have e1 : decide (0 ≤ i) = true := by simpa using h1
    have e2 : decide (i < (n : Int)) = false := by simp; omega
    clear h
    go_enter Try.func26, Try.ntmps26
    go_wp2
    go_ret
    exact ⟨rfl, rfl⟩
  · have e1 : decide (0 ≤ i) = false := by simpa using h1
    clear h
    go_enter Try.func26, Try.ntmps26
    go_wp2
    go_ret
    exact ⟨rfl, rfl⟩

theorem send_full (b base : Nat) (ok : Nat → Prop) (sv : Value) (xs : List S37) (room lost t0 : Int) (A : Option Addr) (n c : Nat) (w : World) (hn : Net w b base ok sv xs room lost) (hf : room ≤ xs.length) (hl0 : 0 ≤ lost) (hl : lost ≤ 1000000) :
    Calls Try.prog 13 #[.pointer (some ⟨b, 0, none⟩), .int .i64 t0, .slice A n c] w fun e w' => e = .returned (.bool false) ∧ Net w' b base ok sv xs room (lost + 1) ∧ Step w w' b sv sv := by
  obtain ⟨A0, c0, rfl, hc0, _⟩ := hn.form
  have h0 := hn.cell0
  have h1 := hn.cell1
  have h2 := hn.cell2
  have f2 := hn.free 2
  have HN := Aside0.mk hn
  have hd : decide (room ≤ (xs.length : Int)) = true := by simpa using hf
  clear hn hf
  go_enter Try.func13, Try.ntmps13
  go_wp2
  go_quiet (fail)
  go_wp2
  go_ret
  exact ⟨rfl, (HN.out.drewN nq).set2 _, (Step.drewN w b _ nq).trans (Step.set _ b 2 _ _)⟩

/-- Behind an append to the list that then is stored into the network. -/
theorem Net.stored {w w1 : World} {b base : Nat} {ok : Nat → Prop} {sv v1 : Value} {xs ys : List S37} {room lost : Int} (n : Net w b base ok sv xs room lost) (hg : w.grownBy w1 sv.ownBlock) (ho : k37.R 37 w1 base ok v1 ys)
    (hat : v1.ownBlock = sv.ownBlock ∨ ∃ k, v1.ownBlock = some k ∧ w.heap.size ≤ k) : Net (w1.setCell ⟨b, 0, none⟩ v1) b base ok v1 ys room lost ∧ Step w (w1.setCell ⟨b, 0, none⟩ v1) b sv v1 := by
  have hne : some b ≠ sv.ownBlock := Kd.R_ne n.2.1 n.1 (by decide)
  have hb1 : w1.heap[b]? = some (.cells #[sv, .int .i64 room, .int .i64 lost] 55 (0, 0)) := (hg.block b (blk_lt n.1) hne).trans n.1
  refine ⟨⟨by simpa using blk_set hb1 0 v1, Kd.R_set ho hb1 (by intro q hq; simp [k37, Kd.iso, Kd.pair, Kd.slice, Kd.int, Kd.scalar] at hq; omega) 0 _, n.2.2⟩, ⟨hg.os, hg.tape, hg.output, (KeepBut.of_grown hg b).set_ 0 _, hat⟩⟩

/-- What an append of one packet to the list leaves. -/
def Appended (w w2 : World) (base : Nat) (ok : Nat → Prop) (sv v2 : Value) (ys : List S37) : Prop :=
  w.grownBy w2 sv.ownBlock ∧ k37.R 37 w2 base ok v2 ys ∧ (v2.ownBlock = sv.ownBlock ∨ ∃ k, v2.ownBlock = some k ∧ w.heap.size ≤ k)

theorem append_step {w w1 : World} {b base : Nat} {ok : Nat → Prop} {room lost : Int} {A0 : Option Addr} {c0 : Nat} {xs : List S37} {x : S37} {A1 : Option Addr} {cc1 : Nat}
    (n : Net w b base ok (.slice A0 xs.length c0) xs room lost) (hB : Below w.heap.size w w1) (ho : (Kd.int .u8).R 5 w1 w.heap.size (fun _ => True) (.slice A1 x.f1.length cc1) x.f1) (hok : ∀ k, w.heap.size ≤ k → ok k) (hbase : base ≤ w.heap.size) (hX : xs.length < 1000)
    {ops : Array Oper} {o : Oper} {a : Act} {Q : Exit → Act → World → Prop} {Kc : Act → World → Prop} (hw : Region.wanted o (yielded ops a.tmps) = true) (s y : Operand)
    (hop : o.op = .call { callee := .builtin .append, args := #[s, y], argTypes := #[45, 45] }) (hs : a.eval s = .slice A0 xs.length c0) (hx : a.eval y = .slice (some ⟨w1.heap.size, 0, none⟩) 1 1)
    (h : ∀ A2 c2 w2, w2.cell? ⟨b, 0, none⟩ = some (.slice A0 xs.length c0) → w2.frozen? ⟨b, 0, none⟩ = false → Aside0 (Appended w w2 base ok (.slice A0 xs.length c0) (.slice A2 (xs.length + 1) c2) (xs ++ [x])) → Kc (a.put o.dst (.slice A2 (xs.length + 1) c2)) w2) :
    if Region.wanted o (yielded ops a.tmps) = true then Oper.wp Try.prog o a (w1.alloc (.cells #[.int .i64 x.f0, .slice A1 x.f1.length cc1] 37)) Kc Q else Kc (a.put o.dst undef) (w1.alloc (.cells #[.int .i64 x.f0, .slice A1 x.f1.length cc1] 37)) := by
  have hlt := Kd.R_lt n.2.1
  have hM : k37.M w1 base (fun k => ok k ∧ some k ≠ (Value.slice A0 xs.length c0).ownBlock) x [.int .i64 x.f0, .slice A1 x.f1.length cc1] :=
    k37_mkM _ _ _ x (Kd.R_mono (Kd.R_lower (Kd.R_bound ho) hbase) (fun k hk => ⟨hok k hk.2.1, fun e => by have := hlt k e.symm; have := hk.2.1; omega⟩))
  refine Kd.R_append_step k37 (w0 := w1) base hw s y 45 37 (.agg #[.int .i64 0, .slice none 0 0]) 32 hop Try.underlying45 info37 rfl (by decide) (by omega) (.slice A0 xs.length c0) xs x [.int .i64 x.f0, .slice A1 x.f1.length cc1] ok _ hs hx hM (fun _ hk => hk)
    (fun k hk => hok k (Nat.le_trans hB.size hk)) (Kd.R_below n.2.1 hB) (Below.refl _ _) (Nat.le_trans hbase hB.size) (by omega) ?_
  intro v1 w2 ho2 hb2 hg2 hat2
  obtain ⟨A2, c2, rfl⟩ := Kd.R_slice ho2
  have hne : some b ≠ (Value.slice A0 xs.length c0).ownBlock := Kd.R_ne n.2.1 n.1 (by decide)
  have hb1 : w2.heap[b]? = some (.cells #[.slice A0 xs.length c0, .int .i64 room, .int .i64 lost] 55 (0, 0)) := (hg2.block b (Nat.lt_of_lt_of_le (blk_lt n.1) hB.size) hne).trans ((hB.block b (blk_lt n.1)).trans n.1)
  rw [List.length_append, List.length_singleton] at ho2 hat2 ⊢
  refine h A2 c2 w2 ((blk_cell hb1 0).trans rfl) (blk_frozen hb1 0) ⟨⟨(grown_of_below hB _).trans hg2, ho2, ?_⟩⟩
  rcases hat2 with e | ⟨k, e, hk⟩
  · exact .inl e
  · exact .inr ⟨k, e, Nat.le_trans hB.size hk⟩

set_option maxHeartbeats 2000000 in
theorem send_room (b base : Nat) (ok : Nat → Prop) (sv : Value) (xs : List S37) (room lost t0 : Int) (A : Option Addr) (c : Nat) (l : List Int) (w : World) (hn : Net w b base ok sv xs room lost) (hf : (xs.length : Int) < room) (hr : room ≤ 256)
    (hl : (Kd.int .u8).C w A l.length l) (hll : l.length ≤ 140737488355328) (hbase : base ≤ w.heap.size) (hok : ∀ k, w.heap.size ≤ k → ok k) :
    Calls Try.prog 13 #[.pointer (some ⟨b, 0, none⟩), .int .i64 t0, .slice A l.length c] w fun e w' => e = .returned (.bool true) ∧ ∃ sv', Net w' b base ok sv' (xs ++ [⟨t0, l⟩]) room lost ∧ Step w w' b sv sv' := by
  obtain ⟨A0, c0, rfl, hc0, _⟩ := hn.form
  have h0 := hn.cell0
  have h1 := hn.cell1
  have f0 := hn.free 0
  have HN := Aside0.mk hn
  have HL := Aside0.mk hl
  have HLL := Aside0.mk hll
  have HB := Aside0.mk hbase
  have HK := Aside0.mk hok
  have hd : decide (room ≤ (xs.length : Int)) = false := by simpa using hf
  have HX := Aside0.mk (show xs.length < 1000 by omega)
  clear hn hf hl hll hbase hok
  go_enter Try.func13, Try.ntmps13
  go_wp2
  go_quiet (fail)
  go_wp2
  go_region_law (first | (refine append_step (x := ⟨t0, l⟩) HN.out HB1.out HO1.out HK.out HB.out HX.out rfl (.tmp 30) (.tmp 35) rfl rfl rfl ?_; intro A2 c2 w2 k1 f1 hS) | (go_simp; (go_at_call 25; refine (copied_any ⟨t0, l⟩ A c _ ?_ ?_).mono ?_; (exact Kd.C_below HL.out (by repeat (first | exact Below.refl _ _ | apply Below.drew | apply pw_below_drewN))); (exact HLL.out); rintro e w1 ⟨A1, cc1, rfl, ho, hb⟩; have HB1 := Aside0.mk (show Below w.heap.size w w1 from Below.trans (by repeat (first | exact Below.refl _ _ | apply Below.drew | apply pw_below_drewN)) hb); have HO1 := Aside0.mk (show (Kd.int .u8).R 5 w1 w.heap.size (fun _ => True) (.slice A1 l.length cc1) l from ho); have k0 := (HB1.out.cell (p := ⟨b, 0, none⟩) (by simpa using blk_lt HN.out.1)).trans h0; have k2 : (w1.alloc (Obj.cells #[Value.int IntKind.i64 t0, Value.slice A1 l.length cc1] 37)).cell? ⟨b, 0, none⟩ = some (.slice A0 xs.length c0) := pw_cell_below (below_alloc (Below.refl _ _) _) k0; clear hb ho)))
  all_goals (go_wp2; go_ret; exact ⟨rfl, _, Net.stored HN.out hS.out.1 hS.out.2.1 hS.out.2.2⟩)
end Go.Proofs.Ytcjeideiigdidaa.Net
