/-
The reference's network: Double; SamePackets; what either network does to the other.
Conditions: each theorem states what it asks.
-/
import Derived.Test.YtcjeideiigdidaaRef1
namespace Go.Proofs.Ytcjeideiigdidaa.Net
open Go.RowKit Go.Proofs.YtcjeideiigdidaaW.PrintWords Go.Proofs.YtcjeideiigdidaaW.PrintLast Go.Proofs.YtcjeideiigdidaaW.PrintMore
set_option linter.unusedVariables false
set_option linter.unusedSimpArgs false

theorem rdouble_out (b base : Nat) (ok : Nat → Prop) (sv : Value) (xs : List S37) (room lost i : Int) (w : World) (hn : RNet w b base ok sv xs room lost) (h : i < 0 ∨ (xs.length : Int) ≤ i) :
    Calls Try.prog 22 #[.pointer (some ⟨b, 0, none⟩), .int .i64 i] w fun e w' => e = .returned (.bool false) ∧ Below w.heap.size w w' := by
  have HN := Aside0.mk hn
  have HH := Aside0.mk h
  clear hn h
  go_enter Try.func22, Try.ntmps22
  go_wp2_with fail
  refine (rlook_no b base ok sv xs room lost i w HN.out HH.out).mono ?_
  rintro e w2 ⟨rfl, hb2⟩
  have HB2 := Aside0.mk hb2
  clear hb2
  go_wp2
  go_quiet (fail)
  go_wp2
  go_ret
  exact ⟨rfl, pw_below_drewN (below_step HB2.out (below_alloc (Below.refl _ _) _)) _⟩

theorem rdouble_full (b base : Nat) (ok : Nat → Prop) (sv : Value) (xs : List S37) (room lost : Int) (m : Nat) (w : World) (hn : RNet w b base ok sv xs room lost) (hm : m < xs.length) (hf : room ≤ xs.length) :
    Calls Try.prog 22 #[.pointer (some ⟨b, 0, none⟩), .int .i64 m] w fun e w' => e = .returned (.bool false) ∧ Below w.heap.size w w' := by
  obtain ⟨A0, c0, rfl, hc0, _⟩ := hn.form
  have HN := Aside0.mk hn
  clear hn
  have hd : decide ((xs.length : Int) < room) = false := by simpa using hf
  generalize hx : xs.getD m z37 = x at *
  have HX := Aside0.mk hx
  clear hx
  go_enter Try.func22, Try.ntmps22
  go_wp2_with fail
  refine (rlook_yes b base ok _ xs room lost m w HN.out hm).mono ?_
  rintro e w2 ⟨⟨A1, c1, rfl, hR2⟩, hb2⟩
  rw [HX.out] at hR2 ⊢
  have HB2 := Aside0.mk (below_step hb2 (below_alloc (Below.refl _ _) (.cells #[.int .i64 x.f0, .slice A1 x.f1.length c1] 37)))
  have n0 := pw_cell_below HB2.out HN.out.cell0
  have n1 := pw_cell_below HB2.out HN.out.cell1
  clear hb2 hR2
  go_wp2
  go_quiet (fail)
  go_wp2
  go_ret
  exact ⟨rfl, pw_below_drewN HB2.out _⟩

set_option maxHeartbeats 4000000 in
theorem rdouble_yes (b base : Nat) (ok : Nat → Prop) (sv : Value) (xs : List S37) (room lost : Int) (m : Nat) (w : World) (hn : RNet w b base ok sv xs room lost) (hm : m < xs.length) (hf : (xs.length : Int) < room) (hr : room ≤ 256)
    (hll : (xs.getD m z37).f1.length ≤ 140737488355328) (hbase : base ≤ w.heap.size) (hok : ∀ k, w.heap.size ≤ k → ok k) :
    Calls Try.prog 22 #[.pointer (some ⟨b, 0, none⟩), .int .i64 m] w fun e w' => e = .returned (.bool true) ∧ ∃ sv', RNet w' b base ok sv' (xs ++ [xs.getD m z37]) room lost ∧ Step w w' b sv sv' := by
  obtain ⟨A0, c0, rfl, hc0, _⟩ := hn.form
  have HN := Aside0.mk hn
  have HB := Aside0.mk hbase
  have HK := Aside0.mk hok
  clear hn hbase hok
  have hd : decide ((xs.length : Int) < room) = true := by simpa using hf
  generalize hx : xs.getD m z37 = x at *
  have HX := Aside0.mk hx
  have HLL := Aside0.mk hll
  clear hx hll
  go_enter Try.func22, Try.ntmps22
  go_wp2_with fail
  refine (rlook_yes b base ok _ xs room lost m w HN.out hm).mono ?_
  rintro e w2 ⟨⟨A1, c1, rfl, hR2⟩, hb2⟩
  rw [HX.out] at hR2 ⊢
  obtain ⟨w3, hw3⟩ : ∃ w3 : World, w3 = w2.alloc (.cells #[.int .i64 x.f0, .slice A1 x.f1.length c1] 37) := ⟨_, rfl⟩
  have hb3 : Below w2.heap.size w2 w3 := hw3 ▸ below_alloc (Below.refl _ _) _
  have hblk3 : w3.heap[w2.heap.size]? = some (.cells #[.int .i64 x.f0, .slice A1 x.f1.length c1] 37 (0, 0)) := by rw [hw3]; exact heap_alloc_new w2 _
  have HB3 := Aside0.mk (below_step hb2 hb3)
  have HC3 := Aside0.mk (Kd.C_below (Kd.R_reads' hR2).2.2 hb3)
  have HN3 := Aside0.mk (HN.out.below HB3.out)
  have n0 := HN3.out.cell0
  have n1 := HN3.out.cell1
  have d0 := (blk_cell hblk3 0).trans rfl
  have d1 := (blk_cell hblk3 1).trans rfl
  have HW3 := Aside0.mk hw3
  clear hb2 hR2 hb3 hblk3 hw3
  go_upto_region 2 with fail
  rw [← HW3.out]
  go_region_law (go_simp; (go_at_call 19; refine (rsend_room b base ok (.slice A0 xs.length c0) xs room lost x.f0 A1 c1 x.f1 _ (HN3.out.below ?_) hf hr (Kd.C_below HC3.out ?_) HLL.out ?_ ?_).mono ?_; (repeat (first | exact Below.refl _ _ | apply Below.drew | apply pw_below_drewN)); (repeat (first | exact Below.refl _ _ | apply Below.drew | apply pw_below_drewN)); exact Nat.le_trans HB.out HB3.out.size; exact fun k hk => HK.out k (Nat.le_trans HB3.out.size hk); rintro e w5 ⟨rfl, sv5, hn5, hs5⟩; have HE := Aside0.mk (show ∃ sv', RNet w5 b base ok sv' (xs ++ [x]) room lost ∧ Step w w5 b (.slice A0 xs.length c0) sv' from ⟨sv5, hn5, (Step.of_below (HB3.out.trans (by repeat (first | exact Below.refl _ _ | apply Below.drew | apply pw_below_drewN)))).trans hs5⟩); clear hn5 hs5))
  all_goals (go_wp2; go_ret; exact ⟨rfl, HE.out⟩)
end Go.Proofs.Ytcjeideiigdidaa.Net
