/-
The reference's network: what it is in memory; Look, same, SamePackets.
Conditions: each theorem states what it asks.
-/
import Derived.Test.YtcjeideiigdidaaOwns
namespace Go.Proofs.Ytcjeideiigdidaa.Net
open Go.RowKit Go.Proofs.YtcjeideiigdidaaW.PrintWords Go.Proofs.YtcjeideiigdidaaW.PrintLast Go.Proofs.YtcjeideiigdidaaW.PrintMore
set_option linter.unusedVariables false
set_option linter.unusedSimpArgs false

/-- A network of the reference at block r: its list is the row sv of the call's own. -/
def RNet (w : World) (r base : Nat) (ok : Nat → Prop) (sv : Value) (xs : List S37) (room gone : Int) : Prop :=
  w.heap[r]? = some (.cells #[.int .i64 room, sv, .int .i64 gone] 50 (0, 0)) ∧ k37.R 37 w base ok sv xs ∧ base ≤ r

theorem RNet.cell0 {w : World} {b base : Nat} {ok : Nat → Prop} {sv : Value} {xs : List S37} {room lost : Int} (n : RNet w b base ok sv xs room lost) : w.cell? ⟨b, 0, none⟩ = some (.int .i64 room) := (blk_cell n.1 0).trans rfl
theorem RNet.cell1 {w : World} {b base : Nat} {ok : Nat → Prop} {sv : Value} {xs : List S37} {room lost : Int} (n : RNet w b base ok sv xs room lost) : w.cell? ⟨b, 1, none⟩ = some sv := (blk_cell n.1 1).trans rfl
theorem RNet.cell2 {w : World} {b base : Nat} {ok : Nat → Prop} {sv : Value} {xs : List S37} {room lost : Int} (n : RNet w b base ok sv xs room lost) : w.cell? ⟨b, 2, none⟩ = some (.int .i64 lost) := (blk_cell n.1 2).trans rfl
theorem RNet.free {w : World} {b base : Nat} {ok : Nat → Prop} {sv : Value} {xs : List S37} {room lost : Int} (n : RNet w b base ok sv xs room lost) (i : Nat) : w.frozen? ⟨b, i, none⟩ = false := blk_frozen n.1 i
theorem RNet.form {w : World} {b base : Nat} {ok : Nat → Prop} {sv : Value} {xs : List S37} {room lost : Int} (n : RNet w b base ok sv xs room lost) : ∃ A c, sv = .slice A xs.length c ∧ xs.length ≤ c ∧ k37.C w A xs.length xs := Kd.R_reads n.2.1
theorem RNet.below {w w' : World} {b base : Nat} {ok : Nat → Prop} {sv : Value} {xs : List S37} {room lost : Int} (n : RNet w b base ok sv xs room lost) (h : Below w.heap.size w w') : RNet w' b base ok sv xs room lost :=
  ⟨(h.block b (blk_lt n.1)).trans n.1, Kd.R_below n.2.1 h, n.2.2⟩
theorem RNet.set2 {w : World} {b base : Nat} {ok : Nat → Prop} {sv : Value} {xs : List S37} {room lost : Int} (n : RNet w b base ok sv xs room lost) (x : Int) : RNet (w.setCell ⟨b, 2, none⟩ (.int .i64 x)) b base ok sv xs room x :=
  ⟨by simpa using blk_set n.1 2 (.int .i64 x), Kd.R_set n.2.1 n.1 (by intro q hq; simp [k37, Kd.iso, Kd.pair, Kd.slice, Kd.int, Kd.scalar] at hq; omega) 2 _, n.2.2⟩
theorem Step.belowR {w w' : World} {b base : Nat} {ok : Nat → Prop} {sv sv' : Value} {xs : List S37} {room lost : Int} (h : Step w w' b sv sv') (n : RNet w b base ok sv xs room lost) : Below base w w' :=
  ⟨h.os, h.tape, h.output, h.keep.1, fun k hk => by
    have hb := n.2.2
    have hl := blk_lt n.1
    exact h.keep.2 k (by omega) (by omega) (fun e => by have := Kd.R_base n.2.1 k e.symm; omega)⟩

/-- A list of packets that is no part of what is at work stays as it was. -/
theorem list_keep {w w' : World} {b base t : Nat} {ok : Nat → Prop} {v : Value} {row : Option Nat} {ys : List S37} {cs : Array Value} (h : k37.R 37 w base ok v ys) (hkk : KeepBut w w' b row) (hb : w.heap[b]? = some (.cells cs t (0, 0))) (ht : t ≠ 37 ∧ t ≠ 5)
    (hrow : ∀ k, row = some k → ∃ cells, w.heap[k]? = some (.cells cells 37 (0, 0))) (hne : ∀ k, row = some k → v.ownBlock ≠ some k) : k37.R 37 w' base ok v ys := by
  have hty := Kd.R_typed h
  obtain ⟨h0, inner, ho, hr⟩ := h
  have h2 : k37.R 37 w base (fun k => ok k ∧ k ≠ b ∧ some k ≠ row) v ys := by
    refine ⟨fun k hk => ⟨h0 k hk, fun e => ?_, fun e => hne k e.symm hk⟩, inner, ho, hr.imp_ (fun _ _ hp => k37.M_mono (fun k hk => ?_) (k37.M_bound hp))⟩
    · obtain ⟨cells, hc⟩ := hty k hk
      rw [e, hb] at hc
      injection hc with hc
      injection hc with _ hq
      exact ht.1 hq
    · obtain ⟨⟨hok, hne'⟩, _, _, q, hq, cells', hc'⟩ := hk
      have hq5 : q = 5 := by simpa [k37, Kd.iso, Kd.pair, Kd.slice, Kd.int, Kd.scalar] using hq
      subst hq5
      refine ⟨⟨hok, fun e => ?_, fun e => ?_⟩, hne'⟩
      · rw [e, hb] at hc'
        injection hc' with hc'
        injection hc' with _ hq
        exact ht.2 hq
      · obtain ⟨cells, hc⟩ := hrow k e.symm
        rw [hc] at hc'
        injection hc' with hc'
        injection hc' with _ hq
        exact absurd hq (by decide)
  exact Kd.R_mono (Kd.R_step h2 (fun k hk hlt => hkk.2 k hlt hk.2.1 hk.2.2)) (fun k hk => hk.1)

theorem rlook_no (b base : Nat) (ok : Nat → Prop) (sv : Value) (xs : List S37) (room lost i : Int) (w : World) (hn : RNet w b base ok sv xs room lost) (h : i < 0 ∨ (xs.length : Int) ≤ i) :
    Calls Try.prog 23 #[.pointer (some ⟨b, 0, none⟩), .int .i64 i] w fun e w' => e = .returned (.tuple #[.agg #[.int .i64 0, .slice none 0 0], .bool false]) ∧ Below w.heap.size w w' := by
  obtain ⟨A0, c0, rfl, hc0, _⟩ := hn.form
  have h1 := pw_cell_below (below_alloc (Below.refl _ _) (.cells #[.int .i64 0, .slice none 0 0] 37)) hn.cell1
  have p0 : (w.alloc (.cells #[.int .i64 0, .slice none 0 0] 37)).cell? ⟨w.heap.size, 0, none⟩ = some (.int .i64 0) := by go_simp
  have p1 : (w.alloc (.cells #[.int .i64 0, .slice none 0 0] 37)).cell? ⟨w.heap.size, 1, none⟩ = some (.slice none 0 0) := by go_simp
  clear hn
  go_enter Try.func23, Try.ntmps23
  rcases h with h | h
  · go_wp2
    refine bodyPost_ret (v := .tuple #[.agg #[.int .i64 0, .slice none 0 0], .bool false]) (by simp [results, Try.results23, go_sem, p0, p1]) rfl ⟨rfl, below_alloc (Below.refl _ _) _⟩
  · have h0 : ¬ i < 0 := by omega
    go_wp2
    refine bodyPost_ret (v := .tuple #[.agg #[.int .i64 0, .slice none 0 0], .bool false]) (by simp [results, Try.results23, go_sem, p0, p1]) rfl ⟨rfl, below_alloc (Below.refl _ _) _⟩

/-- A packet that is handed out, with true; its bytes are told by 'C'. -/
def Shown (x : S37) (base : Nat) (ok : Nat → Prop) (e : Ending) (w' : World) : Prop := ∃ A c, e = .returned (.tuple #[.agg #[.int .i64 x.f0, .slice A x.f1.length c], .bool true]) ∧ (Kd.int .u8).R 5 w' base ok (.slice A x.f1.length c) x.f1

theorem rlook_yes (b base : Nat) (ok : Nat → Prop) (sv : Value) (xs : List S37) (room lost : Int) (m : Nat) (w : World) (hn : RNet w b base ok sv xs room lost) (hm : m < xs.length) :
    Calls Try.prog 23 #[.pointer (some ⟨b, 0, none⟩), .int .i64 m] w fun e w' => Shown (xs.getD m z37) base ok e w' ∧ Below w.heap.size w w' := by
  obtain ⟨g, c0, A1, c1, rfl, hc0, hg, hgs, -, q0, q1, hR⟩ := elem37 hn.2.1 m hm
  have hb := below_alloc (Below.refl w.heap.size w) (.cells #[.int .i64 0, .slice none 0 0] 37)
  have h1 := pw_cell_below hb hn.cell1
  have q0' := pw_cell_below hb q0
  have q1' := pw_cell_below hb q1
  have HR := Aside0.mk hR
  generalize hx : xs.getD m z37 = x at *
  have p0 : (w.alloc (.cells #[.int .i64 x.f0, .slice A1 x.f1.length c1] 37)).cell? ⟨w.heap.size, 0, none⟩ = some (.int .i64 x.f0) := by go_simp
  have p1 : (w.alloc (.cells #[.int .i64 x.f0, .slice A1 x.f1.length c1] 37)).cell? ⟨w.heap.size, 1, none⟩ = some (.slice A1 x.f1.length c1) := by go_simp
  have hlt : (m : Int) < (xs.length : Int) := by omega
  have h00 : (0 : Int) ≤ (m : Int) := by omega
  clear hn hR q0 q1 hx
  go_enter Try.func23, Try.ntmps23
  go_wp2
  refine bodyPost_ret (v := .tuple #[.agg #[.int .i64 x.f0, .slice A1 x.f1.length c1], .bool true]) (by simp [results, Try.results23, go_sem, p0, p1]) rfl ⟨⟨A1, c1, rfl, ?_⟩, below_alloc (Below.refl _ _) _⟩
  exact Kd.R_below HR.out (below_alloc (Below.refl _ _) _)

/-- same: two packets of the same bytes. -/
theorem same_any (x : S37) (A B : Option Addr) (c d : Nat) (w : World) (hA : (Kd.int .u8).C w A x.f1.length x.f1) (hB : (Kd.int .u8).C w B x.f1.length x.f1) :
    Calls Try.prog 21 #[.agg #[.int .i64 x.f0, .slice A x.f1.length c], .agg #[.int .i64 x.f0, .slice B x.f1.length d]] w fun e w' => e = .returned (.bool true) ∧ Below w.heap.size w w' := by
  have hb : Below w.heap.size w ((w.alloc (.cells #[.int .i64 x.f0, .slice A x.f1.length c] 37)).alloc (.cells #[.int .i64 x.f0, .slice B x.f1.length d] 37)) := ((Below.refl _ _).alloc (Nat.le_refl _) _).alloc (by simp) _
  have s1 := Kd.C_string (P := Try.prog) (c := c) Try.underlying34 Try.underlying5 Try.underlying9 (Kd.C_below hA hb)
  have s2 := Kd.C_string (P := Try.prog) (c := d) Try.underlying34 Try.underlying5 Try.underlying9 (Kd.C_below hB hb)
  have HB := Aside0.mk hb
  clear hb hA hB
  go_enter Try.func21, Try.ntmps21
  go_wp2
  go_ret
  exact ⟨rfl, HB.out⟩
end Go.Proofs.Ytcjeideiigdidaa.Net
