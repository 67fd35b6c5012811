/-
The contracts of package network's Double and All.
Conditions: the network lies in memory as Net says; at most 1000 messages.
-/
import Derived.Test.YtcjeideiigdidaaNet2
namespace Go.Proofs.Ytcjeideiigdidaa.Net
open Go.RowKit Go.Proofs.YtcjeideiigdidaaW.PrintWords Go.Proofs.YtcjeideiigdidaaW.PrintLast Go.Proofs.YtcjeideiigdidaaW.PrintMore
set_option linter.unusedVariables false
set_option linter.unusedSimpArgs false

theorem has_yes' (b n c : Nat) (A : Option Addr) (i : Int) (w : World) (h0 : w.cell? ⟨b, 0, none⟩ = some (.slice A n c)) (h1 : 0 ≤ i) (h2 : i < n) :
    Calls Try.prog 26 #[.pointer (some ⟨b, 0, none⟩), .int .i64 i] w fun e w' => e = .returned (.bool true) ∧ w' = w := (has_yes b n c A i w h0 h1 h2).mono fun e w' h => ⟨h.1, h.2.symm⟩
theorem has_no' (b n c : Nat) (A : Option Addr) (i : Int) (w : World) (h0 : w.cell? ⟨b, 0, none⟩ = some (.slice A n c)) (h : i < 0 ∨ (n : Int) ≤ i) :
    Calls Try.prog 26 #[.pointer (some ⟨b, 0, none⟩), .int .i64 i] w fun e w' => e = .returned (.bool false) ∧ w' = w := (has_no b n c A i w h0 h).mono fun e w' h => ⟨h.1, h.2.symm⟩

theorem double_out (b base : Nat) (ok : Nat → Prop) (sv : Value) (xs : List S37) (room lost i : Int) (w : World) (hn : Net w b base ok sv xs room lost) (h : i < 0 ∨ (xs.length : Int) ≤ i) :
    Calls Try.prog 16 #[.pointer (some ⟨b, 0, none⟩), .int .i64 i] w fun e w' => e = .returned (.bool false) ∧ Drawn0 w w' := by
  obtain ⟨A0, c0, rfl, hc0, _⟩ := hn.form
  have h0 := hn.cell0
  have h1 := hn.cell1
  have H := Aside0.mk h
  clear h hn
  go_enter Try.func16, Try.ntmps16
  go_wp2_with fail
  go_quiet ((go_at_call 26; refine Calls.quiet_of_same (has_no' b xs.length c0 A0 i _ h0 H.out)))
  go_wp2
  go_ret
  exact ⟨rfl, ⟨⟨_, rfl⟩⟩⟩

theorem double_full (b base : Nat) (ok : Nat → Prop) (sv : Value) (xs : List S37) (room lost : Int) (m : Nat) (w : World) (hn : Net w b base ok sv xs room lost) (hm : m < xs.length) (hf : room ≤ xs.length) :
    Calls Try.prog 16 #[.pointer (some ⟨b, 0, none⟩), .int .i64 m] w fun e w' => e = .returned (.bool false) ∧ Drawn0 w w' := by
  obtain ⟨A0, c0, rfl, hc0, _⟩ := hn.form
  have h0 := hn.cell0
  have h1 := hn.cell1
  have hlt : (m : Int) < (xs.length : Int) := by omega
  have h00 : (0 : Int) ≤ (m : Int) := by omega
  have hd : decide (room ≤ (xs.length : Int)) = true := by simpa using hf
  clear hn
  go_enter Try.func16, Try.ntmps16
  go_wp2_with fail
  go_quiet ((go_at_call 26; refine Calls.quiet_of_same (has_yes' b xs.length c0 A0 m _ h0 h00 hlt)))
  go_wp2
  go_ret
  exact ⟨rfl, ⟨⟨_, rfl⟩⟩⟩

set_option maxHeartbeats 4000000 in
theorem double_yes (b base : Nat) (ok : Nat → Prop) (sv : Value) (xs : List S37) (room lost : Int) (m : Nat) (w : World) (hn : Net w b base ok sv xs room lost) (hm : m < xs.length) (hf : (xs.length : Int) < room) (hr : room ≤ 256)
    (hll : (xs.getD m z37).f1.length ≤ 140737488355328) (hbase : base ≤ w.heap.size) (hok : ∀ k, w.heap.size ≤ k → ok k) :
    Calls Try.prog 16 #[.pointer (some ⟨b, 0, none⟩), .int .i64 m] w fun e w' => e = .returned (.bool true) ∧ ∃ sv', Net w' b base ok sv' (xs ++ [xs.getD m z37]) room lost ∧ Step w w' b sv sv' := by
  obtain ⟨g, c0, A1, c1, rfl, hc0, q0, q1, hc1, hR⟩ := hn.elem m hm
  have h0 := hn.cell0
  have h1 := hn.cell1
  have f0 := hn.free 0
  have HN := Aside0.mk hn
  have HL := Aside0.mk (Kd.R_reads' hR).2.2
  have HLL := Aside0.mk hll
  have HB := Aside0.mk hbase
  have HK := Aside0.mk hok
  have HX := Aside0.mk (show xs.length < 1000 by omega)
  have hlt : (m : Int) < (xs.length : Int) := by omega
  have h00 : (0 : Int) ≤ (m : Int) := by omega
  have hd : decide (room ≤ (xs.length : Int)) = false := by simpa using hf
  generalize hx : xs.getD m z37 = x at *
  clear hn hm hf hr hll hbase hok hR hx
  go_enter Try.func16, Try.ntmps16
  go_wp2_with fail
  go_quiet ((go_at_call 26; refine Calls.quiet_of_same (has_yes' b xs.length c0 (some ⟨g, 0, none⟩) m _ h0 h00 hlt)))
  go_wp2
  go_region_law (first | (refine append_step (x := x) HN.out HB1.out HO1.out HK.out HB.out HX.out (by rfl) (.tmp 29) (.tmp 39) (by rfl) (by simp [Act.eval, Act.put]) (by simp [Act.eval, Act.put]) ?_; intro A2 c2 w2 k1 f1 hS) | (go_simp; (go_at_call 25; refine (copied_any x A1 c1 _ ?_ ?_).mono ?_; (exact Kd.C_below HL.out (by repeat (first | exact Below.refl _ _ | apply Below.drew | apply pw_below_drewN))); (exact HLL.out); rintro e w1 ⟨A3, cc3, rfl, ho, hb⟩; have HB1 := Aside0.mk (show Below w.heap.size w w1 from Below.trans (by repeat (first | exact Below.refl _ _ | apply Below.drew | apply pw_below_drewN)) hb); have HO1 := Aside0.mk (show (Kd.int .u8).R 5 w1 w.heap.size (fun _ => True) (.slice A3 x.f1.length cc3) x.f1 from ho); have k0 := (HB1.out.cell (p := ⟨b, 0, none⟩) (by simpa using blk_lt HN.out.1)).trans h0; have k2 : (w1.alloc (Obj.cells #[Value.int IntKind.i64 x.f0, Value.slice A3 x.f1.length cc3] 37)).cell? ⟨b, 0, none⟩ = some (.slice (some ⟨g, 0, none⟩) xs.length c0) := pw_cell_below (below_alloc (Below.refl _ _) _) k0; clear hb ho)))
  all_goals (go_wp2; go_ret; exact ⟨rfl, _, Net.stored HN.out hS.out.1 hS.out.2.1 hS.out.2.2⟩)
end Go.Proofs.Ytcjeideiigdidaa.Net
