-- WRITTEN BY A PROGRAM OF THIS SESSION (wip/cut/printx.py). Not trusted: Lean checks it.
import Derived.Test.YtkhiglincdognaaPAx0
import Derived.Test.YtkhiglincdognaaPAx3
import Derived.Test.YtkhiglincdognaaRPP
namespace Go.Proofs.Ytkhiglincdognaa.PA
open Go.RowKit Go.Proofs.YtkhiglincdognaaW.PrintWords Go.Proofs.YtkhiglincdognaaW.PrintLast Go.Proofs.YtkhiglincdognaaW.PrintMore
attribute [local go_sem] max2_int min2_int max_two min_two max_three min_three max_four min_four   -- for this text's walks alone
set_option linter.unusedVariables false
set_option linter.unusedSimpArgs false

/-! ### partsyncref21_lacking: function 53 -/
mutual
def partsyncref21_lacking.l0 : Nat → List (List (S50)) → List Int → List (List (S50)) → Int → Int → Option (Int × Int × Bool)
  | 0, _, _, _, _, _ => none
  | k + 1, x0, x1, x14, x15, x16 => if x16 < x15 then (if 0 ≤ x16 then (if x16 < (x14.length : Int) then (if x16 < (x1.length : Int) then (if 0 ≤ (rd x1 x16) then (if (rd x1 x16) ≤ ((rd_L4 x14 x16).length : Int) then ((some ((rd_L4 x14 x16).take ((rd x1 x16) : Int).toNat : List (S50))).bind fun y311 => (partsyncref21_lacking.l1 k x0 x1 x16 x14 x15 x16 y311 (y311.length : Int) 0)) else (none)) else (none)) else (none)) else (none)) else (none)) else (some (0, 0, false))
def partsyncref21_lacking.l1 : Nat → List (List (S50)) → List Int → Int → List (List (S50)) → Int → Int → List (S50) → Int → Int → Option (Int × Int × Bool)
  | 0, _, _, _, _, _, _, _, _, _ => none
  | k + 1, x0, x1, x7, x14, x15, x16, x26, x27, x28 => if x28 < x27 then (if 0 ≤ x28 then (if x28 < (x26.length : Int) then (partsyncref21_lacking.l2 k x0 x1 x7 x28 x14 x15 x16 x26 x27 x28 ((rd_T50 x26 x28).f1) (((rd_T50 x26 x28).f1).length : Int) 0 ((rd_T50 x26 x28).f0) ((rd_T50 x26 x28).f1)) else (none)) else (none)) else (partsyncref21_lacking.l0 k x0 x1 x14 x15 (wrap64 (x16 + 1)))
def partsyncref21_lacking.l2 : Nat → List (List (S50)) → List Int → Int → Int → List (List (S50)) → Int → Int → List (S50) → Int → Int → List Int → Int → Int → Int → List Int → Option (Int × Int × Bool)
  | 0, _, _, _, _, _, _, _, _, _, _, _, _, _, _, _ => none
  | k + 1, x0, x1, x7, x9, x14, x15, x16, x26, x27, x28, x34, x35, x36, x317000, x317001 => if x36 < x35 then (if 0 ≤ x36 then (if x36 < (x34.length : Int) then (if 0 ≤ (rd x34 x36) then (if (rd x34 x36) < (x0.length : Int) then ((partsyncref21_find.f k (rd_L4 x0 (rd x34 x36)) x317000).bind fun t319 => (if t319 < 0 then (some (x7, x9, true)) else (if (rd x34 x36) < (x1.length : Int) then (if t319 ≥ (rd x1 (rd x34 x36)) then (some (x7, x9, true)) else (partsyncref21_lacking.l2 k x0 x1 x7 x9 x14 x15 x16 x26 x27 x28 x34 x35 (wrap64 (x36 + 1)) x317000 x317001)) else (none)))) else (none)) else (none)) else (none)) else (none)) else (partsyncref21_lacking.l1 k x0 x1 x7 x14 x15 x16 x26 x27 (wrap64 (x28 + 1)))
end
def partsyncref21_lacking.f (k : Nat) (l0 : List (List (S50))) (l1 : List Int) : Option (Int × Int × Bool) := partsyncref21_lacking.l0 k l0 l1 l0 (l0.length : Int) 0
theorem partsyncref21_lacking.mono_l : ∀ k, (∀ y0 y1 y2 y3 y4, LeO (partsyncref21_lacking.l0 k y0 y1 y2 y3 y4) (partsyncref21_lacking.l0 (k + 1) y0 y1 y2 y3 y4)) ∧ (∀ y0 y1 y2 y3 y4 y5 y6 y7 y8, LeO (partsyncref21_lacking.l1 k y0 y1 y2 y3 y4 y5 y6 y7 y8) (partsyncref21_lacking.l1 (k + 1) y0 y1 y2 y3 y4 y5 y6 y7 y8)) ∧ (∀ y0 y1 y2 y3 y4 y5 y6 y7 y8 y9 y10 y11 y12 y13 y14, LeO (partsyncref21_lacking.l2 k y0 y1 y2 y3 y4 y5 y6 y7 y8 y9 y10 y11 y12 y13 y14) (partsyncref21_lacking.l2 (k + 1) y0 y1 y2 y3 y4 y5 y6 y7 y8 y9 y10 y11 y12 y13 y14))
  | 0 => ⟨fun _ _ _ _ _ r h => by simp [partsyncref21_lacking.l0] at h, fun _ _ _ _ _ _ _ _ _ r h => by simp [partsyncref21_lacking.l1] at h, fun _ _ _ _ _ _ _ _ _ _ _ _ _ _ _ r h => by simp [partsyncref21_lacking.l2] at h⟩
  | k + 1 => by
    obtain ⟨ih0, ih1, ih2⟩ := partsyncref21_lacking.mono_l k
    refine ⟨?_, ?_, ?_⟩
    · intro y0 y1 y2 y3 y4
      unfold partsyncref21_lacking.l0
      repeat' first
      | (with_reducible exact ih0 _ _ _ _ _)
      | (with_reducible exact ih1 _ _ _ _ _ _ _ _ _)
      | (with_reducible exact ih2 _ _ _ _ _ _ _ _ _ _ _ _ _ _ _)
      | (with_reducible exact partsyncref21_find.mono _ _ _)
      | (with_reducible exact LeO.refl _)
      | (with_reducible exact LeO.none _)
      | (with_reducible refine LeO.ite ?_ ?_)
      | (with_reducible refine LeO.bind ?_ (fun _ => ?_))
      | exact ih0 _ _ _ _ _
      | exact ih1 _ _ _ _ _ _ _ _ _
      | exact ih2 _ _ _ _ _ _ _ _ _ _ _ _ _ _ _
      | exact partsyncref21_find.mono _ _ _
      | exact LeO.none _
      | refine LeO.ite ?_ ?_
      | refine LeO.bind ?_ (fun _ => ?_)
    · intro y0 y1 y2 y3 y4 y5 y6 y7 y8
      unfold partsyncref21_lacking.l1
      repeat' first
      | (with_reducible exact ih0 _ _ _ _ _)
      | (with_reducible exact ih1 _ _ _ _ _ _ _ _ _)
      | (with_reducible exact ih2 _ _ _ _ _ _ _ _ _ _ _ _ _ _ _)
      | (with_reducible exact partsyncref21_find.mono _ _ _)
      | (with_reducible exact LeO.refl _)
      | (with_reducible exact LeO.none _)
      | (with_reducible refine LeO.ite ?_ ?_)
      | (with_reducible refine LeO.bind ?_ (fun _ => ?_))
      | exact ih0 _ _ _ _ _
      | exact ih1 _ _ _ _ _ _ _ _ _
      | exact ih2 _ _ _ _ _ _ _ _ _ _ _ _ _ _ _
      | exact partsyncref21_find.mono _ _ _
      | exact LeO.none _
      | refine LeO.ite ?_ ?_
      | refine LeO.bind ?_ (fun _ => ?_)
    · intro y0 y1 y2 y3 y4 y5 y6 y7 y8 y9 y10 y11 y12 y13 y14
      unfold partsyncref21_lacking.l2
      repeat' first
      | (with_reducible exact ih0 _ _ _ _ _)
      | (with_reducible exact ih1 _ _ _ _ _ _ _ _ _)
      | (with_reducible exact ih2 _ _ _ _ _ _ _ _ _ _ _ _ _ _ _)
      | (with_reducible exact partsyncref21_find.mono _ _ _)
      | (with_reducible exact LeO.refl _)
      | (with_reducible exact LeO.none _)
      | (with_reducible refine LeO.ite ?_ ?_)
      | (with_reducible refine LeO.bind ?_ (fun _ => ?_))
      | exact ih0 _ _ _ _ _
      | exact ih1 _ _ _ _ _ _ _ _ _
      | exact ih2 _ _ _ _ _ _ _ _ _ _ _ _ _ _ _
      | exact partsyncref21_find.mono _ _ _
      | exact LeO.none _
      | refine LeO.ite ?_ ?_
      | refine LeO.bind ?_ (fun _ => ?_)
theorem partsyncref21_lacking.mono : ∀ a0 a1 k, LeO (partsyncref21_lacking.f k a0 a1) (partsyncref21_lacking.f (k + 1) a0 a1) := by
  intro a0 a1 k
  obtain ⟨ih0, ih1, ih2⟩ := partsyncref21_lacking.mono_l k
  unfold partsyncref21_lacking.f
  repeat' first
      | (with_reducible exact ih0 _ _ _ _ _)
      | (with_reducible exact ih1 _ _ _ _ _ _ _ _ _)
      | (with_reducible exact ih2 _ _ _ _ _ _ _ _ _ _ _ _ _ _ _)
      | (with_reducible exact partsyncref21_find.mono _ _ _)
      | (with_reducible exact LeO.refl _)
      | (with_reducible exact LeO.none _)
      | (with_reducible refine LeO.ite ?_ ?_)
      | (with_reducible refine LeO.bind ?_ (fun _ => ?_))
      | exact ih0 _ _ _ _ _
      | exact ih1 _ _ _ _ _ _ _ _ _
      | exact ih2 _ _ _ _ _ _ _ _ _ _ _ _ _ _ _
      | exact partsyncref21_find.mono _ _ _
      | exact LeO.none _
      | refine LeO.ite ?_ ?_
      | refine LeO.bind ?_ (fun _ => ?_)
def partsyncref21_lacking.T10 : Bool × List (List Nat × List Nat) := (true, [([], []), ([], []), ([0, 1], [0, 1]), ([2], [2]), ([], []), ([4], [4]), ([3, 5], [3, 5]), ([6, 6, 0, 1, 2, 3, 4, 5, 6], [6])])
def partsyncref21_lacking.B10 : List Nat := [0, 0, 3, 7, 0, 16, 63, 127]
theorem partsyncref21_lacking.tab10 : rtab .any (opsOf Try.f53 10) = partsyncref21_lacking.T10 := by kernel_rfl
theorem partsyncref21_lacking.bits10 : waitsOk partsyncref21_lacking.T10.2 partsyncref21_lacking.B10 = true := by kernel_rfl
set_option maxHeartbeats 8000000 in
set_option maxRecDepth 100000 in
theorem partsyncref21_lacking.calls (k : Nat) (A0 : Option Addr) (c0 : Nat) (l0 : List (List (S50))) (A1 : Option Addr) (c1 : Nat) (l1 : List Int) (r1 : Int) (r2 : Int) (r3 : Bool) (w : World) (hr0 : Kd.C (Kd.slice 50 k50) w A0 l0.length l0) (hc0 : l0.length ≤ c0) (hr1 : Kd.C (Kd.int .i64) w A1 l1.length l1) (hc1 : l1.length ≤ c1) (h : partsyncref21_lacking.f k l0 l1 = some (r1, r2, r3)) :
    Calls Try.prog 53 #[.slice A0 l0.length c0, .slice A1 l1.length c1] w fun e w' => e = .returned (.tuple #[.int .i64 r1, .int .i64 r2, .bool r3]) ∧ Below w.heap.size w w' := by
  have hu50 := Try.underlying50
  have HR0 := Aside0.mk hr0
  have HC0 := Aside0.mk hc0
  clear hr0 hc0
  have HR1 := Aside0.mk hr1
  have HC1 := Aside0.mk hc1
  clear hr1 hc1
  have HB := Aside0.mk (Below.refl w.heap.size w)
  have H : (partsyncref21_lacking.l0 k l0 l1 l0 (l0.length : Int) 0) = some (r1, r2, r3) := h
  clear h
  have H' := Aside0.mk H
  clear H
  go_enter Try.func53, Try.ntmps53
  go_wp2
  go_loopg [16] k (fun kq v16 w' => ∃ (x16_1 : Int), v16 = .int .i64 x16_1 ∧ Aside0 (partsyncref21_lacking.l0 kq l0 l1 l0 (l0.length : Int) x16_1 = some (r1, r2, r3)) ∧ Aside0 (kq ≤ k) ∧ Aside0 (Below w.heap.size w w'))
  case atStart => exact ⟨(0), (by first | rfl | (simp; done) | (simp [*]; done)), H', ⟨Nat.le_refl _⟩, ⟨by repeat (first | (with_reducible first | exact HB.out | apply below_alloc | apply pw_below_drewN | apply below_drew1) | exact HB.out)⟩⟩
  case round =>
    clear H'
    try clear c1
    try clear p2
    obtain ⟨x16_1, rfl, HA, HK1, HB⟩ := hrel
    cases gk with
    | zero => exact absurd HA.out (by simp [partsyncref21_lacking.l0])
    | succ k1 =>
      have H := HA.out
      clear HA
      simp only [partsyncref21_lacking.l0] at H
      by_cases c3 : x16_1 < (l0.length : Int)
      · rw [if_pos c3] at H
        have c3b0 : decide (x16_1 < (l0.length : Int)) = true := decide_eq_true c3
        clear c3
        by_cases c4 : 0 ≤ x16_1
        · rw [if_pos c4] at H
          have c4b0 : decide (0 ≤ x16_1) = true := decide_eq_true c4
          clear c4
          by_cases c5 : x16_1 < (l0.length : Int)
          · rw [if_pos c5] at H
            have c5b0 : decide (x16_1 < (l0.length : Int)) = true := decide_eq_true c5
            clear c5
            by_cases c6 : x16_1 < (l1.length : Int)
            · rw [if_pos c6] at H
              have c6b0 : decide (x16_1 < (l1.length : Int)) = true := decide_eq_true c6
              clear c6
              by_cases c7 : 0 ≤ (rd l1 x16_1)
              · rw [if_pos c7] at H
                have c7b0 := eq_true c7
                have c7b1 : decide (0 ≤ (rd l1 x16_1)) = true := decide_eq_true c7
                clear c7
                by_cases c8 : (rd l1 x16_1) ≤ ((rd_L4 l0 x16_1).length : Int)
                · rw [if_pos c8] at H
                  have c8b0 := eq_true c8
                  have c8b1 : decide ((rd l1 x16_1) ≤ ((rd_L4 l0 x16_1).length : Int)) = true := decide_eq_true c8
                  clear c8
                  obtain ⟨y311, hy311⟩ : ∃ y_ : List (S50), y_ = ((rd_L4 l0 x16_1).take ((rd l1 x16_1) : Int).toNat) := ⟨_, rfl⟩
                  replace H : (partsyncref21_lacking.l1 k1 l0 l1 x16_1 l0 (l0.length : Int) x16_1 y311 (y311.length : Int) 0) = some (r1, r2, r3) := by first | (rw [hy311]; with_reducible exact H) | (have H2_ := (Option.bind_some _ _).symm.trans H; rw [hy311]; with_reducible exact H2_) | (have H2_ := (Option.bind_some _ _).symm.trans H; with_reducible exact H2_) | with_reducible exact H | (rw [hy311]; exact H) | exact H
                  have Ny311 := Aside0.mk hy311
                  clear hy311
                  have H' := Aside0.mk H
                  clear H
                  have p309 : 0 ≤ (x16_1 : Int) := of_decide_eq_true (by first | (with_reducible assumption) | assumption)
                  have q309 : x16_1 < (l0.length : Int) := of_decide_eq_true (by first | (with_reducible assumption) | assumption)
                  obtain ⟨ad309, A309_0, c309_0, e309, hx309_0, hl309_0, hi309_0⟩ := at_L4 HR0.out x16_1 p309 q309
                  cases e309
                  replace hx309_0 := (HB.out.cell (World.block_lt_of_cell? w _ hx309_0)).trans hx309_0
                  have HR309_0 := Aside0.mk hi309_0
                  have HC309_0 := Aside0.mk hl309_0
                  clear hi309_0 hl309_0
                  replace p309 := eq_true p309
                  replace q309 := eq_true q309
                  have p310 : 0 ≤ (x16_1 : Int) := of_decide_eq_true (by first | (with_reducible assumption) | assumption)
                  have q310 : x16_1 < (l1.length : Int) := of_decide_eq_true (by first | (with_reducible assumption) | assumption)
                  obtain ⟨ad310, e310, hx310_0⟩ := Kd.at_int HR1.out x16_1 p310 q310
                  cases e310
                  replace hx310_0 := (HB.out.cell (World.block_lt_of_cell? w _ hx310_0)).trans hx310_0
                  replace p310 := eq_true p310
                  replace q310 := eq_true q310
                  have q9 : ((rd l1 x16_1) : Int) ≤ (((rd_L4 l0 x16_1).length : Int) : Int) := of_decide_eq_true (by first | (with_reducible assumption) | assumption)
                  obtain ⟨i09, hi09, _, hsz9, _⟩ := info_parts info50
                  have hroom9 : (rd_L4 l0 x16_1).length ≤ c309_0 := HC309_0.out
                  have hC9 : Kd.C k50 _ A309_0 (rd_L4 l0 x16_1).length (rd_L4 l0 x16_1) := HR309_0.out
                  have hcut9 := cut_to (P := Try.prog) 47 50 .i64 Try.underlying47 hi09 A309_0 (rd_L4 l0 x16_1).length c309_0 (rd l1 x16_1) (of_decide_eq_true (by first | (with_reducible assumption) | assumption)) q9 hroom9
                  have hr9 := Kd.C_take (m := ((rd l1 x16_1) : Int).toNat) hC9 (by omega)
                  have hy9 : y311.length = ((rd l1 x16_1) : Int).toNat := (by rw [Ny311.out, List.length_take]; omega)
                  rw [← Ny311.out] at hr9
                  rw [← hy9] at hcut9
                  have HR314 := Aside0.mk hr9
                  have HC314 := Aside0.mk (show y311.length ≤ c309_0 from by omega)
                  clear hr9 hC9 hroom9 hi09 hsz9
                  have KY9 := Aside0.mk hy9
                  clear hy9
                  replace q9 := eq_true q9
                  go_wp2
                  go_loopg [28] k1 (fun kq v28 w' => ∃ (x28_2 : Int), v28 = .int .i64 x28_2 ∧ Aside0 (partsyncref21_lacking.l1 kq l0 l1 x16_1 l0 (l0.length : Int) x16_1 y311 (y311.length : Int) x28_2 = some (r1, r2, r3)) ∧ Aside0 (kq ≤ k1) ∧ Aside0 (Below w.heap.size w w'))
                  case atStart => exact ⟨(0), (by first | rfl | (simp; done) | (simp [*]; done)), H', ⟨Nat.le_refl _⟩, ⟨by repeat (first | (with_reducible first | exact HB.out | apply below_alloc | apply pw_below_drewN | apply below_drew1) | exact HB.out)⟩⟩
                  case round =>
                    clear H'
                    try clear c1
                    try clear p2
                    try clear c3
                    try clear c3b0
                    try clear p3
                    try clear q3
                    try clear hx3
                    try clear c4
                    try clear c4b0
                    try clear c5
                    try clear c5b0
                    try clear c6
                    try clear c6b0
                    try clear c7
                    try clear c7b0
                    try clear c7b1
                    try clear c8
                    try clear c8b0
                    try clear c8b1
                    try clear q9
                    try clear hx309_0
                    try clear hx310_0
                    try clear p2
                    try clear p309
                    try clear p310
                    try clear q309
                    try clear q310
                    try clear q9
                    obtain ⟨x28_2, rfl, HA, HK2, HB⟩ := hrel
                    cases gk with
                    | zero => exact absurd HA.out (by simp [partsyncref21_lacking.l1])
                    | succ k2 =>
                      have H := HA.out
                      clear HA
                      simp only [partsyncref21_lacking.l1] at H
                      by_cases c10 : x28_2 < (y311.length : Int)
                      · rw [if_pos c10] at H
                        have c10b0 : decide (x28_2 < (y311.length : Int)) = true := decide_eq_true c10
                        clear c10
                        by_cases c11 : 0 ≤ x28_2
                        · rw [if_pos c11] at H
                          have c11b0 : decide (0 ≤ x28_2) = true := decide_eq_true c11
                          clear c11
                          by_cases c12 : x28_2 < (y311.length : Int)
                          · rw [if_pos c12] at H
                            have c12b0 : decide (x28_2 < (y311.length : Int)) = true := decide_eq_true c12
                            clear c12
                            have H' := Aside0.mk H
                            clear H
                            have p315 : 0 ≤ (x28_2 : Int) := of_decide_eq_true (by first | (with_reducible assumption) | assumption)
                            have q315 : x28_2 < (y311.length : Int) := of_decide_eq_true (by first | (with_reducible assumption) | assumption)
                            obtain ⟨ad315, A315_1, c315_1, e315, hx315_0, hx315_1, hl315_1, hi315_1⟩ := at_T50 HR314.out x28_2 p315 q315
                            cases e315
                            replace hx315_0 := (HB.out.cell (World.block_lt_of_cell? w _ hx315_0)).trans hx315_0
                            replace hx315_1 := (HB.out.cell (World.block_lt_of_cell? w _ hx315_1)).trans hx315_1
                            have HR315_1 := Aside0.mk hi315_1
                            have HC315_1 := Aside0.mk hl315_1
                            clear hi315_1 hl315_1
                            replace p315 := eq_true p315
                            replace q315 := eq_true q315
                            go_wp2_with (first | ((with_reducible refine gate_dst (N := 10) rfl ?_); refine box_event ?hg (N := 10) ?hd (cs := #[.int .i64 0, .slice none 0 0]) (t := 50) ?hr ?_; (case hd => rfl); (case hg => rfl); (case hr => first | (go_simp; done) | (go_simp; rfl)); intro gb316 hg w13 hbox hb; have n0_ := Aside0.mk (below_step (by repeat (first | (with_reducible first | exact HB.out | apply below_alloc | apply pw_below_drewN | apply below_drew1) | exact HB.out)) hb); have n1_ := Aside0.mk (hbox); have n2_ := Aside0.mk ((by rw [hg]; exact (below_size (by repeat (first | (with_reducible first | exact HB.out | apply below_alloc | apply pw_below_drewN | apply below_drew1) | exact HB.out))) : w.heap.size ≤ gb316)); have n3_ := Aside0.mk ((by rw [hg]; exact (below_size (by repeat (first | (with_reducible first | exact HB.out | apply below_alloc | apply pw_below_drewN | apply below_drew1) | exact HB.out))) : w.heap.size ≤ gb316)); clear HB; have HB := n0_; have BK316 := n1_; have GW316 := n2_; have GE316 := n3_; clear n0_ n1_ n2_ n3_; clear hb hbox hg; have hcz14_0 : w13.cell? ⟨gb316, 0, none⟩ = some (.int .i64 0) := (blk_cell BK316.out 0).trans rfl; have hcz14_1 : w13.cell? ⟨gb316, 1, none⟩ = some (.slice none 0 0) := (blk_cell BK316.out 1).trans rfl; have hfz14_0 := blk_frozen BK316.out 0; have hfz14_1 := blk_frozen BK316.out 1))
                            go_loopg [36] k2 (fun kq v36 w' => ∃ (x36_3 : Int), v36 = .int .i64 x36_3 ∧ Aside0 (partsyncref21_lacking.l2 kq l0 l1 x16_1 x28_2 l0 (l0.length : Int) x16_1 y311 (y311.length : Int) x28_2 ((rd_T50 y311 x28_2).f1) (((rd_T50 y311 x28_2).f1).length : Int) x36_3 ((rd_T50 y311 x28_2).f0) ((rd_T50 y311 x28_2).f1) = some (r1, r2, r3)) ∧ Aside0 (kq ≤ k2) ∧ Aside0 (w'.heap[gb316]? = some (.cells #[.int .i64 ((rd_T50 y311 x28_2).f0), (.slice A315_1 ((rd_T50 y311 x28_2).f1).length c315_1)] 50 (0, 0))) ∧ Aside0 (Below w.heap.size w w'))
                            case atStart => exact ⟨(0), (by first | rfl | (simp; done) | (simp [*]; done)), H', ⟨Nat.le_refl _⟩, ⟨by (with_reducible repeat (first | refine blk_drewN ?_ _ | refine blk_drew ?_ | refine blk_alloc ?_ _)); refine blk_put (cs := #[.int .i64 ((rd_T50 y311 x28_2).f0), .slice none 0 0]) ?_ 1 _ rfl; (with_reducible repeat (first | refine blk_drewN ?_ _ | refine blk_drew ?_ | refine blk_alloc ?_ _)); refine blk_put (cs := #[.int .i64 0, .slice none 0 0]) ?_ 0 _ rfl; (with_reducible repeat (first | refine blk_drewN ?_ _ | refine blk_drew ?_ | refine blk_alloc ?_ _)); exact BK316.out⟩, ⟨by repeat (first | (with_reducible first | exact HB.out | apply below_alloc | apply pw_below_drewN | apply below_drew1 | refine below_set ?_ GE316.out) | exact HB.out)⟩⟩
                            case round =>
                              clear H'
                              try clear c1
                              try clear p2
                              try clear c3
                              try clear c3b0
                              try clear p3
                              try clear q3
                              try clear hx3
                              try clear c4
                              try clear c4b0
                              try clear c5
                              try clear c5b0
                              try clear c6
                              try clear c6b0
                              try clear c7
                              try clear c7b0
                              try clear c7b1
                              try clear c8
                              try clear c8b0
                              try clear c8b1
                              try clear q9
                              try clear c10
                              try clear c10b0
                              try clear c11
                              try clear c11b0
                              try clear c12
                              try clear c12b0
                              try clear hcz14_0
                              try clear hcz14_1
                              try clear hfz14_0
                              try clear hfz14_1
                              try clear hx309_0
                              try clear hx310_0
                              try clear hx315_0
                              try clear hx315_1
                              try clear p2
                              try clear p3
                              try clear p309
                              try clear p310
                              try clear p315
                              try clear q3
                              try clear q309
                              try clear q310
                              try clear q315
                              try clear q9
                              obtain ⟨x36_3, rfl, HA, HK3, BK316, HB⟩ := hrel
                              cases gk with
                              | zero => exact absurd HA.out (by simp [partsyncref21_lacking.l2])
                              | succ k3 =>
                                have H := HA.out
                                clear HA
                                simp only [partsyncref21_lacking.l2] at H
                                by_cases c15 : x36_3 < (((rd_T50 y311 x28_2).f1).length : Int)
                                · rw [if_pos c15] at H
                                  have c15b0 : decide (x36_3 < (((rd_T50 y311 x28_2).f1).length : Int)) = true := decide_eq_true c15
                                  clear c15
                                  by_cases c16 : 0 ≤ x36_3
                                  · rw [if_pos c16] at H
                                    have c16b0 : decide (0 ≤ x36_3) = true := decide_eq_true c16
                                    clear c16
                                    by_cases c17 : x36_3 < (((rd_T50 y311 x28_2).f1).length : Int)
                                    · rw [if_pos c17] at H
                                      have c17b0 : decide (x36_3 < (((rd_T50 y311 x28_2).f1).length : Int)) = true := decide_eq_true c17
                                      clear c17
                                      by_cases c18 : 0 ≤ (rd ((rd_T50 y311 x28_2).f1) x36_3)
                                      · rw [if_pos c18] at H
                                        have c18b0 : decide (0 ≤ (rd ((rd_T50 y311 x28_2).f1) x36_3)) = true := decide_eq_true c18
                                        clear c18
                                        by_cases c19 : (rd ((rd_T50 y311 x28_2).f1) x36_3) < (l0.length : Int)
                                        · rw [if_pos c19] at H
                                          have c19b0 : decide ((rd ((rd_T50 y311 x28_2).f1) x36_3) < (l0.length : Int)) = true := decide_eq_true c19
                                          clear c19
                                          replace H := Option.bind_eq_some_iff.mp H
                                          obtain ⟨t319, A200, H⟩ := H
                                          replace H : (if t319 < 0 then (some (x16_1, x28_2, true)) else (if (rd ((rd_T50 y311 x28_2).f1) x36_3) < (l1.length : Int) then (if t319 ≥ (rd l1 (rd ((rd_T50 y311 x28_2).f1) x36_3)) then (some (x16_1, x28_2, true)) else (partsyncref21_lacking.l2 k3 l0 l1 x16_1 x28_2 l0 (l0.length : Int) x16_1 y311 (y311.length : Int) x28_2 ((rd_T50 y311 x28_2).f1) (((rd_T50 y311 x28_2).f1).length : Int) (wrap64 (x36_3 + 1)) ((rd_T50 y311 x28_2).f0) ((rd_T50 y311 x28_2).f1))) else (none))) = some (r1, r2, r3) := H
                                          have A20 := Aside0.mk A200
                                          clear A200
                                          by_cases c21 : t319 < 0
                                          · rw [if_pos c21] at H
                                            have c21b0 : decide (t319 < 0) = true := decide_eq_true c21
                                            clear c21
                                            simp only [Option.some.injEq, Prod.mk.injEq] at H
                                            obtain ⟨rfl, rfl, rfl⟩ := H
                                            have p317 : 0 ≤ (x36_3 : Int) := of_decide_eq_true (by first | (with_reducible assumption) | assumption)
                                            have q317 : x36_3 < (((rd_T50 y311 x28_2).f1).length : Int) := of_decide_eq_true (by first | (with_reducible assumption) | assumption)
                                            obtain ⟨ad317, e317, hx317_0⟩ := Kd.at_int HR315_1.out x36_3 p317 q317
                                            cases e317
                                            replace hx317_0 := (HB.out.cell (World.block_lt_of_cell? w _ hx317_0)).trans hx317_0
                                            replace p317 := eq_true p317
                                            replace q317 := eq_true q317
                                            try go_wp2
                                            have n0_ := Aside0.mk (blk_drew BK316.out)
                                            have n1_ := Aside0.mk (below_drew1 HB.out)
                                            clear BK316
                                            clear HB
                                            have BK316 := n0_
                                            have HB := n1_
                                            clear n0_ n1_
                                            have p318 : 0 ≤ ((rd ((rd_T50 y311 x28_2).f1) x36_3) : Int) := of_decide_eq_true (by first | (with_reducible assumption) | assumption)
                                            have q318 : (rd ((rd_T50 y311 x28_2).f1) x36_3) < (l0.length : Int) := of_decide_eq_true (by first | (with_reducible assumption) | assumption)
                                            obtain ⟨ad318, A318_0, c318_0, e318, hx318_0, hl318_0, hi318_0⟩ := at_L4 HR0.out (rd ((rd_T50 y311 x28_2).f1) x36_3) p318 q318
                                            have hw318_0 := hx318_0
                                            obtain rfl : ad309 = ad318 := (by injection e318)
                                            replace hx318_0 := (HB.out.cell (World.block_lt_of_cell? w _ hx318_0)).trans hx318_0
                                            have HR318_0 := Aside0.mk hi318_0
                                            have HC318_0 := Aside0.mk hl318_0
                                            clear hi318_0 hl318_0
                                            replace p318 := eq_true p318
                                            replace q318 := eq_true q318
                                            refine start_ (n := 8) (S := fun w' => w'.cell? ⟨gb316, 0, none⟩ = some (.int .i64 ((rd_T50 y311 x28_2).f0)) ∧ w'.cell? ⟨gb316, 1, none⟩ = some (.slice (some ad317) ((rd_T50 y311 x28_2).f1).length c315_1) ∧ w'.cell? (ad309.add ((rd ((rd_T50 y311 x28_2).f1) x36_3)).toNat) = some (.slice A318_0 (rd_L4 l0 (rd ((rd_T50 y311 x28_2).f1) x36_3)).length c318_0)) (ds := []) #[false, false, false, false, false, false, false, false] (by kernel_rfl) rfl rfl ⟨(blk_cell BK316.out 0).trans rfl, (blk_cell BK316.out 1).trans rfl, ((HB.out.cell (World.block_lt_of_cell? w _ hw318_0)).trans hw318_0)⟩ (fun hHeld => ?_); refine with_tabW partsyncref21_lacking.tab10 partsyncref21_lacking.bits10 (fun HT_ HW_ => ?_)
                                            generalize wr.drew = w22 at BK316 HB HR318_0 hx318_0 hHeld ⊢
                                            refine pure_ (i := 0) (N := some 40) (v := ?_) (a' := ?_) #[true, false, false, false, false, false, false, false] rfl rfl (any_of HT_.out (by kernel_rfl)) (fun _ _ _ h => h) (Or.inl ⟨by rfl, ?_⟩) ?_ ?_
                                            rotate_left
                                            · intro w'
                                              go_simp
                                              with_reducible rfl
                                            rotate_left
                                            · simp only [Act.put, List.setIfInBounds_toArray, List.set_cons_zero, List.set_cons_succ, i64_w, i32_w]
                                              rfl
                                            refine pure_ (i := 1) (N := some 41) (v := ?_) (a' := ?_) #[true, true, false, false, false, false, false, false] rfl rfl (any_of HT_.out (by kernel_rfl)) (fun _ _ _ h => h) (Or.inl ⟨by rfl, ?_⟩) ?_ ?_
                                            rotate_left
                                            · intro w'
                                              go_simp
                                              with_reducible rfl
                                            rotate_left
                                            · simp only [Act.put, List.setIfInBounds_toArray, List.set_cons_zero, List.set_cons_succ, i64_w, i32_w]
                                              rfl
                                            refine pure_ (i := 2) (N := some 42) (v := ?_) (a' := ?_) #[true, true, true, false, false, false, false, false] rfl rfl (any_of HT_.out (by kernel_rfl)) (fun _ _ _ h => h) (Or.inl ⟨by rfl, ?_⟩) ?_ ?_
                                            rotate_left
                                            · intro w'
                                              go_simp
                                              with_reducible rfl
                                            rotate_left
                                            · simp only [Act.put, List.setIfInBounds_toArray, List.set_cons_zero, List.set_cons_succ, i64_w, i32_w]
                                              rfl
                                            refine pure_ (i := 4) (N := some 44) (v := ?_) (a' := ?_) #[true, true, true, false, true, false, false, false] rfl rfl (any_of HT_.out (by kernel_rfl)) (fun _ _ _ h => h) (Or.inl ⟨by rfl, ?_⟩) ?_ ?_
                                            rotate_left
                                            · intro w'
                                              go_simp
                                              with_reducible rfl
                                            rotate_left
                                            · simp only [Act.put, List.setIfInBounds_toArray, List.set_cons_zero, List.set_cons_succ, i64_w, i32_w]
                                              rfl
                                            refine take_ (i := 3) (N := some 43) (v := ?_) (a' := ?_) #[true, true, true, true, true, false, false, false] rfl rfl (take_ofW HT_.out HW_.out (by kernel_rfl)) (fun _ _ _ h => h) (Or.inl ⟨by rfl, ?_⟩) hHeld ?_ ?_
                                            rotate_left
                                            · rintro w' ⟨s0, s1, s2⟩
                                              go_simp
                                              with_reducible rfl
                                            rotate_left
                                            · simp only [Act.put, List.setIfInBounds_toArray, List.set_cons_zero, List.set_cons_succ, i64_w, i32_w]
                                              rfl
                                            refine take_ (i := 5) (N := some 45) (v := ?_) (a' := ?_) #[true, true, true, true, true, true, false, false] rfl rfl (take_ofW HT_.out HW_.out (by kernel_rfl)) (fun _ _ _ h => h) (Or.inl ⟨by rfl, ?_⟩) hHeld ?_ ?_
                                            rotate_left
                                            · rintro w' ⟨s0, s1, s2⟩
                                              go_simp
                                              with_reducible rfl
                                            rotate_left
                                            · simp only [Act.put, List.setIfInBounds_toArray, List.set_cons_zero, List.set_cons_succ, i64_w, i32_w]
                                              rfl
                                            refine one_ (i := 6) (N := some 46) #[true, true, true, true, true, true, true, false] rfl rfl (one_of HT_.out (by kernel_rfl)) (by decide) (fun K hK => ?_)
                                            refine goes_ Try.func48 (by kernel_rfl) rfl #[.slice A318_0 (rd_L4 l0 (rd ((rd_T50 y311 x28_2).f1) x36_3)).length c318_0, .int .i64 ((rd_T50 y311 x28_2).f0)] (by rfl) rfl rfl (by (try simp only [List.map_toArray, List.map_cons, List.map_nil]); first | done | rfl | (simp only [List.length_drop, List.length_take]; rfl)) ?_
                                            with_reducible refine (partsyncref21_find.calls k3 _ _ (rd_L4 l0 (rd ((rd_T50 y311 x28_2).f1) x36_3)) ((rd_T50 y311 x28_2).f0) t319 _ ?side1 ?side2 A20.out).mono ?_
                                            (case side1 => repeat (first | exact (Kd.C_below HR318_0.out HB.out) | (with_reducible refine Kd.C_alloc ?_ _) | (with_reducible refine Kd.C_drewN ?_ _) | (with_reducible refine Kd.C_drew ?_)))
                                            (case side2 => exact HC318_0.out)
                                            rintro e w23 ⟨rfl, hb⟩
                                            refine ⟨_, rfl, ?_⟩
                                            have n0_ := Aside0.mk (blk_below (g := gb316) (o := .cells #[.int .i64 ((rd_T50 y311 x28_2).f0), .slice (some ad317) ((rd_T50 y311 x28_2).f1).length c315_1] 50 (0, 0)) (by (with_reducible repeat (first | refine blk_drewN ?_ _ | refine blk_drew ?_ | refine blk_alloc ?_ _)); exact BK316.out) hb)
                                            have n1_ := Aside0.mk (below_step (by repeat (first | (with_reducible first | exact HB.out | apply below_alloc | apply pw_below_drewN | apply below_drew1 | refine below_set ?_ GE316.out) | exact HB.out)) hb)
                                            clear BK316
                                            clear HB
                                            have BK316 := n0_
                                            have HB := n1_
                                            clear n0_ n1_
                                            (try clear hb)
                                            (try clear hb2)
                                            (try clear hk)
                                            (try clear hi)
                                            refine hK.out _ _ ⟨(blk_cell BK316.out 0).trans rfl, (blk_cell BK316.out 1).trans rfl, ((HB.out.cell (World.block_lt_of_cell? w _ hw318_0)).trans hw318_0)⟩ (fun hHeld => ?_)
                                            clear hK K
                                            refine norm_ (a' := ?_) ?_ ?_
                                            rotate_left
                                            · show Act.put _ (some 46) _ = _
                                              simp only [Act.put, List.setIfInBounds_toArray, List.set_cons_zero, List.set_cons_succ, i64_w, i32_w]
                                              rfl
                                            refine pure_ (i := 7) (N := some 13) (v := ?_) (a' := ?_) #[true, true, true, true, true, true, true, true] rfl rfl (any_of HT_.out (by kernel_rfl)) (fun _ _ _ h => h) (Or.inl ⟨by rfl, ?_⟩) ?_ ?_
                                            rotate_left
                                            · intro w'
                                              go_simp
                                              with_reducible rfl
                                            rotate_left
                                            · simp only [Act.put, List.setIfInBounds_toArray, List.set_cons_zero, List.set_cons_succ, i64_w, i32_w]
                                              rfl
                                            refine done_ (done_of HT_.out (by kernel_rfl)) ?_
                                            try go_wp2
                                            go_ret3
                                            exact ⟨by first | rfl | (simp [errW_none, errW_some] <;> rfl) | (simp [*, errW_none, errW_some] <;> rfl), by repeat (first | (with_reducible first | exact HB.out | apply below_alloc | apply pw_below_drewN | apply below_drew1 | refine below_set ?_ GE316.out) | exact HB.out)⟩
                                          · rw [if_neg c21] at H
                                            have c21b0 : decide (t319 < 0) = false := decide_eq_false c21
                                            clear c21
                                            by_cases c24 : (rd ((rd_T50 y311 x28_2).f1) x36_3) < (l1.length : Int)
                                            · rw [if_pos c24] at H
                                              have c24b0 : decide ((rd ((rd_T50 y311 x28_2).f1) x36_3) < (l1.length : Int)) = true := decide_eq_true c24
                                              clear c24
                                              by_cases c25 : t319 ≥ (rd l1 (rd ((rd_T50 y311 x28_2).f1) x36_3))
                                              · rw [if_pos c25] at H
                                                have c25b0 : decide ((rd l1 (rd ((rd_T50 y311 x28_2).f1) x36_3)) ≤ t319) = true := decide_eq_true c25
                                                clear c25
                                                simp only [Option.some.injEq, Prod.mk.injEq] at H
                                                obtain ⟨rfl, rfl, rfl⟩ := H
                                                have p317 : 0 ≤ (x36_3 : Int) := of_decide_eq_true (by first | (with_reducible assumption) | assumption)
                                                have q317 : x36_3 < (((rd_T50 y311 x28_2).f1).length : Int) := of_decide_eq_true (by first | (with_reducible assumption) | assumption)
                                                obtain ⟨ad317, e317, hx317_0⟩ := Kd.at_int HR315_1.out x36_3 p317 q317
                                                cases e317
                                                replace hx317_0 := (HB.out.cell (World.block_lt_of_cell? w _ hx317_0)).trans hx317_0
                                                replace p317 := eq_true p317
                                                replace q317 := eq_true q317
                                                try go_wp2
                                                have n0_ := Aside0.mk (blk_drew BK316.out)
                                                have n1_ := Aside0.mk (below_drew1 HB.out)
                                                clear BK316
                                                clear HB
                                                have BK316 := n0_
                                                have HB := n1_
                                                clear n0_ n1_
                                                have p318 : 0 ≤ ((rd ((rd_T50 y311 x28_2).f1) x36_3) : Int) := of_decide_eq_true (by first | (with_reducible assumption) | assumption)
                                                have q318 : (rd ((rd_T50 y311 x28_2).f1) x36_3) < (l0.length : Int) := of_decide_eq_true (by first | (with_reducible assumption) | assumption)
                                                obtain ⟨ad318, A318_0, c318_0, e318, hx318_0, hl318_0, hi318_0⟩ := at_L4 HR0.out (rd ((rd_T50 y311 x28_2).f1) x36_3) p318 q318
                                                have hw318_0 := hx318_0
                                                obtain rfl : ad309 = ad318 := (by injection e318)
                                                replace hx318_0 := (HB.out.cell (World.block_lt_of_cell? w _ hx318_0)).trans hx318_0
                                                have HR318_0 := Aside0.mk hi318_0
                                                have HC318_0 := Aside0.mk hl318_0
                                                clear hi318_0 hl318_0
                                                replace p318 := eq_true p318
                                                replace q318 := eq_true q318
                                                refine start_ (n := 8) (S := fun w' => w'.cell? ⟨gb316, 0, none⟩ = some (.int .i64 ((rd_T50 y311 x28_2).f0)) ∧ w'.cell? ⟨gb316, 1, none⟩ = some (.slice (some ad317) ((rd_T50 y311 x28_2).f1).length c315_1) ∧ w'.cell? (ad309.add ((rd ((rd_T50 y311 x28_2).f1) x36_3)).toNat) = some (.slice A318_0 (rd_L4 l0 (rd ((rd_T50 y311 x28_2).f1) x36_3)).length c318_0)) (ds := []) #[false, false, false, false, false, false, false, false] (by kernel_rfl) rfl rfl ⟨(blk_cell BK316.out 0).trans rfl, (blk_cell BK316.out 1).trans rfl, ((HB.out.cell (World.block_lt_of_cell? w _ hw318_0)).trans hw318_0)⟩ (fun hHeld => ?_); refine with_tabW partsyncref21_lacking.tab10 partsyncref21_lacking.bits10 (fun HT_ HW_ => ?_)
                                                generalize wr.drew = w26 at BK316 HB HR318_0 hx318_0 hHeld ⊢
                                                refine pure_ (i := 0) (N := some 40) (v := ?_) (a' := ?_) #[true, false, false, false, false, false, false, false] rfl rfl (any_of HT_.out (by kernel_rfl)) (fun _ _ _ h => h) (Or.inl ⟨by rfl, ?_⟩) ?_ ?_
                                                rotate_left
                                                · intro w'
                                                  go_simp
                                                  with_reducible rfl
                                                rotate_left
                                                · simp only [Act.put, List.setIfInBounds_toArray, List.set_cons_zero, List.set_cons_succ, i64_w, i32_w]
                                                  rfl
                                                refine pure_ (i := 1) (N := some 41) (v := ?_) (a' := ?_) #[true, true, false, false, false, false, false, false] rfl rfl (any_of HT_.out (by kernel_rfl)) (fun _ _ _ h => h) (Or.inl ⟨by rfl, ?_⟩) ?_ ?_
                                                rotate_left
                                                · intro w'
                                                  go_simp
                                                  with_reducible rfl
                                                rotate_left
                                                · simp only [Act.put, List.setIfInBounds_toArray, List.set_cons_zero, List.set_cons_succ, i64_w, i32_w]
                                                  rfl
                                                refine pure_ (i := 2) (N := some 42) (v := ?_) (a' := ?_) #[true, true, true, false, false, false, false, false] rfl rfl (any_of HT_.out (by kernel_rfl)) (fun _ _ _ h => h) (Or.inl ⟨by rfl, ?_⟩) ?_ ?_
                                                rotate_left
                                                · intro w'
                                                  go_simp
                                                  with_reducible rfl
                                                rotate_left
                                                · simp only [Act.put, List.setIfInBounds_toArray, List.set_cons_zero, List.set_cons_succ, i64_w, i32_w]
                                                  rfl
                                                refine pure_ (i := 4) (N := some 44) (v := ?_) (a' := ?_) #[true, true, true, false, true, false, false, false] rfl rfl (any_of HT_.out (by kernel_rfl)) (fun _ _ _ h => h) (Or.inl ⟨by rfl, ?_⟩) ?_ ?_
                                                rotate_left
                                                · intro w'
                                                  go_simp
                                                  with_reducible rfl
                                                rotate_left
                                                · simp only [Act.put, List.setIfInBounds_toArray, List.set_cons_zero, List.set_cons_succ, i64_w, i32_w]
                                                  rfl
                                                refine take_ (i := 3) (N := some 43) (v := ?_) (a' := ?_) #[true, true, true, true, true, false, false, false] rfl rfl (take_ofW HT_.out HW_.out (by kernel_rfl)) (fun _ _ _ h => h) (Or.inl ⟨by rfl, ?_⟩) hHeld ?_ ?_
                                                rotate_left
                                                · rintro w' ⟨s0, s1, s2⟩
                                                  go_simp
                                                  with_reducible rfl
                                                rotate_left
                                                · simp only [Act.put, List.setIfInBounds_toArray, List.set_cons_zero, List.set_cons_succ, i64_w, i32_w]
                                                  rfl
                                                refine take_ (i := 5) (N := some 45) (v := ?_) (a' := ?_) #[true, true, true, true, true, true, false, false] rfl rfl (take_ofW HT_.out HW_.out (by kernel_rfl)) (fun _ _ _ h => h) (Or.inl ⟨by rfl, ?_⟩) hHeld ?_ ?_
                                                rotate_left
                                                · rintro w' ⟨s0, s1, s2⟩
                                                  go_simp
                                                  with_reducible rfl
                                                rotate_left
                                                · simp only [Act.put, List.setIfInBounds_toArray, List.set_cons_zero, List.set_cons_succ, i64_w, i32_w]
                                                  rfl
                                                refine one_ (i := 6) (N := some 46) #[true, true, true, true, true, true, true, false] rfl rfl (one_of HT_.out (by kernel_rfl)) (by decide) (fun K hK => ?_)
                                                refine goes_ Try.func48 (by kernel_rfl) rfl #[.slice A318_0 (rd_L4 l0 (rd ((rd_T50 y311 x28_2).f1) x36_3)).length c318_0, .int .i64 ((rd_T50 y311 x28_2).f0)] (by rfl) rfl rfl (by (try simp only [List.map_toArray, List.map_cons, List.map_nil]); first | done | rfl | (simp only [List.length_drop, List.length_take]; rfl)) ?_
                                                with_reducible refine (partsyncref21_find.calls k3 _ _ (rd_L4 l0 (rd ((rd_T50 y311 x28_2).f1) x36_3)) ((rd_T50 y311 x28_2).f0) t319 _ ?side1 ?side2 A20.out).mono ?_
                                                (case side1 => repeat (first | exact (Kd.C_below HR318_0.out HB.out) | (with_reducible refine Kd.C_alloc ?_ _) | (with_reducible refine Kd.C_drewN ?_ _) | (with_reducible refine Kd.C_drew ?_)))
                                                (case side2 => exact HC318_0.out)
                                                rintro e w27 ⟨rfl, hb⟩
                                                refine ⟨_, rfl, ?_⟩
                                                have n0_ := Aside0.mk (blk_below (g := gb316) (o := .cells #[.int .i64 ((rd_T50 y311 x28_2).f0), .slice (some ad317) ((rd_T50 y311 x28_2).f1).length c315_1] 50 (0, 0)) (by (with_reducible repeat (first | refine blk_drewN ?_ _ | refine blk_drew ?_ | refine blk_alloc ?_ _)); exact BK316.out) hb)
                                                have n1_ := Aside0.mk (below_step (by repeat (first | (with_reducible first | exact HB.out | apply below_alloc | apply pw_below_drewN | apply below_drew1 | refine below_set ?_ GE316.out) | exact HB.out)) hb)
                                                clear BK316
                                                clear HB
                                                have BK316 := n0_
                                                have HB := n1_
                                                clear n0_ n1_
                                                (try clear hb)
                                                (try clear hb2)
                                                (try clear hk)
                                                (try clear hi)
                                                refine hK.out _ _ ⟨(blk_cell BK316.out 0).trans rfl, (blk_cell BK316.out 1).trans rfl, ((HB.out.cell (World.block_lt_of_cell? w _ hw318_0)).trans hw318_0)⟩ (fun hHeld => ?_)
                                                clear hK K
                                                refine norm_ (a' := ?_) ?_ ?_
                                                rotate_left
                                                · show Act.put _ (some 46) _ = _
                                                  simp only [Act.put, List.setIfInBounds_toArray, List.set_cons_zero, List.set_cons_succ, i64_w, i32_w]
                                                  rfl
                                                refine pure_ (i := 7) (N := some 13) (v := ?_) (a' := ?_) #[true, true, true, true, true, true, true, true] rfl rfl (any_of HT_.out (by kernel_rfl)) (fun _ _ _ h => h) (Or.inl ⟨by rfl, ?_⟩) ?_ ?_
                                                rotate_left
                                                · intro w'
                                                  go_simp
                                                  with_reducible rfl
                                                rotate_left
                                                · simp only [Act.put, List.setIfInBounds_toArray, List.set_cons_zero, List.set_cons_succ, i64_w, i32_w]
                                                  rfl
                                                refine done_ (done_of HT_.out (by kernel_rfl)) ?_
                                                have p320 : 0 ≤ ((rd ((rd_T50 y311 x28_2).f1) x36_3) : Int) := of_decide_eq_true (by first | (with_reducible assumption) | assumption)
                                                have q320 : (rd ((rd_T50 y311 x28_2).f1) x36_3) < (l1.length : Int) := of_decide_eq_true (by first | (with_reducible assumption) | assumption)
                                                obtain ⟨ad320, e320, hx320_0⟩ := Kd.at_int HR1.out (rd ((rd_T50 y311 x28_2).f1) x36_3) p320 q320
                                                obtain rfl : ad310 = ad320 := (by injection e320)
                                                replace hx320_0 := (HB.out.cell (World.block_lt_of_cell? w _ hx320_0)).trans hx320_0
                                                replace p320 := eq_true p320
                                                replace q320 := eq_true q320
                                                try go_wp2
                                                go_ret3
                                                exact ⟨by first | rfl | (simp [errW_none, errW_some] <;> rfl) | (simp [*, errW_none, errW_some] <;> rfl), by repeat (first | (with_reducible first | exact HB.out | apply below_alloc | apply pw_below_drewN | apply below_drew1 | refine below_set ?_ GE316.out) | exact HB.out)⟩
                                              · rw [if_neg c25] at H
                                                have c25b0 : decide ((rd l1 (rd ((rd_T50 y311 x28_2).f1) x36_3)) ≤ t319) = false := decide_eq_false c25
                                                clear c25
                                                have H' := Aside0.mk H
                                                clear H
                                                have p317 : 0 ≤ (x36_3 : Int) := of_decide_eq_true (by first | (with_reducible assumption) | assumption)
                                                have q317 : x36_3 < (((rd_T50 y311 x28_2).f1).length : Int) := of_decide_eq_true (by first | (with_reducible assumption) | assumption)
                                                obtain ⟨ad317, e317, hx317_0⟩ := Kd.at_int HR315_1.out x36_3 p317 q317
                                                cases e317
                                                replace hx317_0 := (HB.out.cell (World.block_lt_of_cell? w _ hx317_0)).trans hx317_0
                                                replace p317 := eq_true p317
                                                replace q317 := eq_true q317
                                                try go_wp2
                                                have n0_ := Aside0.mk (blk_drew BK316.out)
                                                have n1_ := Aside0.mk (below_drew1 HB.out)
                                                clear BK316
                                                clear HB
                                                have BK316 := n0_
                                                have HB := n1_
                                                clear n0_ n1_
                                                have p318 : 0 ≤ ((rd ((rd_T50 y311 x28_2).f1) x36_3) : Int) := of_decide_eq_true (by first | (with_reducible assumption) | assumption)
                                                have q318 : (rd ((rd_T50 y311 x28_2).f1) x36_3) < (l0.length : Int) := of_decide_eq_true (by first | (with_reducible assumption) | assumption)
                                                obtain ⟨ad318, A318_0, c318_0, e318, hx318_0, hl318_0, hi318_0⟩ := at_L4 HR0.out (rd ((rd_T50 y311 x28_2).f1) x36_3) p318 q318
                                                have hw318_0 := hx318_0
                                                obtain rfl : ad309 = ad318 := (by injection e318)
                                                replace hx318_0 := (HB.out.cell (World.block_lt_of_cell? w _ hx318_0)).trans hx318_0
                                                have HR318_0 := Aside0.mk hi318_0
                                                have HC318_0 := Aside0.mk hl318_0
                                                clear hi318_0 hl318_0
                                                replace p318 := eq_true p318
                                                replace q318 := eq_true q318
                                                refine start_ (n := 8) (S := fun w' => w'.cell? ⟨gb316, 0, none⟩ = some (.int .i64 ((rd_T50 y311 x28_2).f0)) ∧ w'.cell? ⟨gb316, 1, none⟩ = some (.slice (some ad317) ((rd_T50 y311 x28_2).f1).length c315_1) ∧ w'.cell? (ad309.add ((rd ((rd_T50 y311 x28_2).f1) x36_3)).toNat) = some (.slice A318_0 (rd_L4 l0 (rd ((rd_T50 y311 x28_2).f1) x36_3)).length c318_0)) (ds := []) #[false, false, false, false, false, false, false, false] (by kernel_rfl) rfl rfl ⟨(blk_cell BK316.out 0).trans rfl, (blk_cell BK316.out 1).trans rfl, ((HB.out.cell (World.block_lt_of_cell? w _ hw318_0)).trans hw318_0)⟩ (fun hHeld => ?_); refine with_tabW partsyncref21_lacking.tab10 partsyncref21_lacking.bits10 (fun HT_ HW_ => ?_)
                                                generalize wr.drew = w28 at BK316 HB HR318_0 hx318_0 hHeld ⊢
                                                refine pure_ (i := 0) (N := some 40) (v := ?_) (a' := ?_) #[true, false, false, false, false, false, false, false] rfl rfl (any_of HT_.out (by kernel_rfl)) (fun _ _ _ h => h) (Or.inl ⟨by rfl, ?_⟩) ?_ ?_
                                                rotate_left
                                                · intro w'
                                                  go_simp
                                                  with_reducible rfl
                                                rotate_left
                                                · simp only [Act.put, List.setIfInBounds_toArray, List.set_cons_zero, List.set_cons_succ, i64_w, i32_w]
                                                  rfl
                                                refine pure_ (i := 1) (N := some 41) (v := ?_) (a' := ?_) #[true, true, false, false, false, false, false, false] rfl rfl (any_of HT_.out (by kernel_rfl)) (fun _ _ _ h => h) (Or.inl ⟨by rfl, ?_⟩) ?_ ?_
                                                rotate_left
                                                · intro w'
                                                  go_simp
                                                  with_reducible rfl
                                                rotate_left
                                                · simp only [Act.put, List.setIfInBounds_toArray, List.set_cons_zero, List.set_cons_succ, i64_w, i32_w]
                                                  rfl
                                                refine pure_ (i := 2) (N := some 42) (v := ?_) (a' := ?_) #[true, true, true, false, false, false, false, false] rfl rfl (any_of HT_.out (by kernel_rfl)) (fun _ _ _ h => h) (Or.inl ⟨by rfl, ?_⟩) ?_ ?_
                                                rotate_left
                                                · intro w'
                                                  go_simp
                                                  with_reducible rfl
                                                rotate_left
                                                · simp only [Act.put, List.setIfInBounds_toArray, List.set_cons_zero, List.set_cons_succ, i64_w, i32_w]
                                                  rfl
                                                refine pure_ (i := 4) (N := some 44) (v := ?_) (a' := ?_) #[true, true, true, false, true, false, false, false] rfl rfl (any_of HT_.out (by kernel_rfl)) (fun _ _ _ h => h) (Or.inl ⟨by rfl, ?_⟩) ?_ ?_
                                                rotate_left
                                                · intro w'
                                                  go_simp
                                                  with_reducible rfl
                                                rotate_left
                                                · simp only [Act.put, List.setIfInBounds_toArray, List.set_cons_zero, List.set_cons_succ, i64_w, i32_w]
                                                  rfl
                                                refine take_ (i := 3) (N := some 43) (v := ?_) (a' := ?_) #[true, true, true, true, true, false, false, false] rfl rfl (take_ofW HT_.out HW_.out (by kernel_rfl)) (fun _ _ _ h => h) (Or.inl ⟨by rfl, ?_⟩) hHeld ?_ ?_
                                                rotate_left
                                                · rintro w' ⟨s0, s1, s2⟩
                                                  go_simp
                                                  with_reducible rfl
                                                rotate_left
                                                · simp only [Act.put, List.setIfInBounds_toArray, List.set_cons_zero, List.set_cons_succ, i64_w, i32_w]
                                                  rfl
                                                refine take_ (i := 5) (N := some 45) (v := ?_) (a' := ?_) #[true, true, true, true, true, true, false, false] rfl rfl (take_ofW HT_.out HW_.out (by kernel_rfl)) (fun _ _ _ h => h) (Or.inl ⟨by rfl, ?_⟩) hHeld ?_ ?_
                                                rotate_left
                                                · rintro w' ⟨s0, s1, s2⟩
                                                  go_simp
                                                  with_reducible rfl
                                                rotate_left
                                                · simp only [Act.put, List.setIfInBounds_toArray, List.set_cons_zero, List.set_cons_succ, i64_w, i32_w]
                                                  rfl
                                                refine one_ (i := 6) (N := some 46) #[true, true, true, true, true, true, true, false] rfl rfl (one_of HT_.out (by kernel_rfl)) (by decide) (fun K hK => ?_)
                                                refine goes_ Try.func48 (by kernel_rfl) rfl #[.slice A318_0 (rd_L4 l0 (rd ((rd_T50 y311 x28_2).f1) x36_3)).length c318_0, .int .i64 ((rd_T50 y311 x28_2).f0)] (by rfl) rfl rfl (by (try simp only [List.map_toArray, List.map_cons, List.map_nil]); first | done | rfl | (simp only [List.length_drop, List.length_take]; rfl)) ?_
                                                with_reducible refine (partsyncref21_find.calls k3 _ _ (rd_L4 l0 (rd ((rd_T50 y311 x28_2).f1) x36_3)) ((rd_T50 y311 x28_2).f0) t319 _ ?side1 ?side2 A20.out).mono ?_
                                                (case side1 => repeat (first | exact (Kd.C_below HR318_0.out HB.out) | (with_reducible refine Kd.C_alloc ?_ _) | (with_reducible refine Kd.C_drewN ?_ _) | (with_reducible refine Kd.C_drew ?_)))
                                                (case side2 => exact HC318_0.out)
                                                rintro e w29 ⟨rfl, hb⟩
                                                refine ⟨_, rfl, ?_⟩
                                                have n0_ := Aside0.mk (blk_below (g := gb316) (o := .cells #[.int .i64 ((rd_T50 y311 x28_2).f0), .slice (some ad317) ((rd_T50 y311 x28_2).f1).length c315_1] 50 (0, 0)) (by (with_reducible repeat (first | refine blk_drewN ?_ _ | refine blk_drew ?_ | refine blk_alloc ?_ _)); exact BK316.out) hb)
                                                have n1_ := Aside0.mk (below_step (by repeat (first | (with_reducible first | exact HB.out | apply below_alloc | apply pw_below_drewN | apply below_drew1 | refine below_set ?_ GE316.out) | exact HB.out)) hb)
                                                clear BK316
                                                clear HB
                                                have BK316 := n0_
                                                have HB := n1_
                                                clear n0_ n1_
                                                (try clear hb)
                                                (try clear hb2)
                                                (try clear hk)
                                                (try clear hi)
                                                refine hK.out _ _ ⟨(blk_cell BK316.out 0).trans rfl, (blk_cell BK316.out 1).trans rfl, ((HB.out.cell (World.block_lt_of_cell? w _ hw318_0)).trans hw318_0)⟩ (fun hHeld => ?_)
                                                clear hK K
                                                refine norm_ (a' := ?_) ?_ ?_
                                                rotate_left
                                                · show Act.put _ (some 46) _ = _
                                                  simp only [Act.put, List.setIfInBounds_toArray, List.set_cons_zero, List.set_cons_succ, i64_w, i32_w]
                                                  rfl
                                                refine pure_ (i := 7) (N := some 13) (v := ?_) (a' := ?_) #[true, true, true, true, true, true, true, true] rfl rfl (any_of HT_.out (by kernel_rfl)) (fun _ _ _ h => h) (Or.inl ⟨by rfl, ?_⟩) ?_ ?_
                                                rotate_left
                                                · intro w'
                                                  go_simp
                                                  with_reducible rfl
                                                rotate_left
                                                · simp only [Act.put, List.setIfInBounds_toArray, List.set_cons_zero, List.set_cons_succ, i64_w, i32_w]
                                                  rfl
                                                refine done_ (done_of HT_.out (by kernel_rfl)) ?_
                                                have p320 : 0 ≤ ((rd ((rd_T50 y311 x28_2).f1) x36_3) : Int) := of_decide_eq_true (by first | (with_reducible assumption) | assumption)
                                                have q320 : (rd ((rd_T50 y311 x28_2).f1) x36_3) < (l1.length : Int) := of_decide_eq_true (by first | (with_reducible assumption) | assumption)
                                                obtain ⟨ad320, e320, hx320_0⟩ := Kd.at_int HR1.out (rd ((rd_T50 y311 x28_2).f1) x36_3) p320 q320
                                                obtain rfl : ad310 = ad320 := (by injection e320)
                                                replace hx320_0 := (HB.out.cell (World.block_lt_of_cell? w _ hx320_0)).trans hx320_0
                                                replace p320 := eq_true p320
                                                replace q320 := eq_true q320
                                                try go_wp2
                                                go_roundg k3
                                                case measure => have := HK1.out; have := HK2.out; have := HK3.out; omega
                                                case rel => exact ⟨(wrap64 (x36_3 + 1)), (by first | rfl | (simp; done) | (simp [*]; done)), H', ⟨by have := HK1.out; have := HK2.out; have := HK3.out; omega⟩, ⟨by (with_reducible repeat (first | refine blk_drewN ?_ _ | refine blk_drew ?_ | refine blk_alloc ?_ _)); exact BK316.out⟩, ⟨by repeat (first | (with_reducible first | exact HB.out | apply below_alloc | apply pw_below_drewN | apply below_drew1 | refine below_set ?_ GE316.out) | exact HB.out)⟩⟩
                                            · rw [if_neg c24] at H
                                              exact absurd H (by simp)
                                        · rw [if_neg c19] at H
                                          exact absurd H (by simp)
                                      · rw [if_neg c18] at H
                                        exact absurd H (by simp)
                                    · rw [if_neg c17] at H
                                      exact absurd H (by simp)
                                  · rw [if_neg c16] at H
                                    exact absurd H (by simp)
                                · rw [if_neg c15] at H
                                  have c15b0 : decide (x36_3 < (((rd_T50 y311 x28_2).f1).length : Int)) = false := decide_eq_false c15
                                  clear c15
                                  have H' := Aside0.mk H
                                  clear H
                                  go_wp2
                                  go_roundg k3
                                  case measure => have := HK1.out; have := HK2.out; have := HK3.out; omega
                                  case rel => exact ⟨(wrap64 (x28_2 + 1)), (by first | rfl | (simp; done) | (simp [*]; done)), H', ⟨by have := HK1.out; have := HK2.out; have := HK3.out; omega⟩, ⟨by repeat (first | (with_reducible first | exact HB.out | apply below_alloc | apply pw_below_drewN | apply below_drew1 | refine below_set ?_ GE316.out) | exact HB.out)⟩⟩
                          · rw [if_neg c12] at H
                            exact absurd H (by simp)
                        · rw [if_neg c11] at H
                          exact absurd H (by simp)
                      · rw [if_neg c10] at H
                        have c10b0 : decide (x28_2 < (y311.length : Int)) = false := decide_eq_false c10
                        clear c10
                        have H' := Aside0.mk H
                        clear H
                        go_wp2
                        go_roundg k2
                        case measure => have := HK1.out; have := HK2.out; omega
                        case rel => exact ⟨(wrap64 (x16_1 + 1)), (by first | rfl | (simp; done) | (simp [*]; done)), H', ⟨by have := HK1.out; have := HK2.out; omega⟩, ⟨by repeat (first | (with_reducible first | exact HB.out | apply below_alloc | apply pw_below_drewN | apply below_drew1) | exact HB.out)⟩⟩
                · rw [if_neg c8] at H
                  exact absurd H (by simp)
              · rw [if_neg c7] at H
                exact absurd H (by simp)
            · rw [if_neg c6] at H
              exact absurd H (by simp)
          · rw [if_neg c5] at H
            exact absurd H (by simp)
        · rw [if_neg c4] at H
          exact absurd H (by simp)
      · rw [if_neg c3] at H
        have c3b0 : decide (x16_1 < (l0.length : Int)) = false := decide_eq_false c3
        clear c3
        simp only [Option.some.injEq, Prod.mk.injEq] at H
        obtain ⟨rfl, rfl, rfl⟩ := H
        go_wp2
        go_ret3
        exact ⟨by first | rfl | (simp [errW_none, errW_some] <;> rfl) | (simp [*, errW_none, errW_some] <;> rfl), by repeat (first | (with_reducible first | exact HB.out | apply below_alloc | apply pw_below_drewN | apply below_drew1) | exact HB.out)⟩

/-! ### partsyncref21_Closed: function 33 -/
def partsyncref21_Closed.f (k : Nat) (a0 : Int) (l1 : List (List (S50))) (l2 : List Int) : Option (Bool × Int) := (partsyncref21_place.f k a0 l1 l2).bind fun t321 => (if t321 = 0 then ((partsyncref21_lacking.f k l1 l2).bind fun bt322 => (some (!bt322.2.2, 0))) else (some (false, t321)))
theorem partsyncref21_Closed.mono : ∀ a0 a1 a2 k, LeO (partsyncref21_Closed.f k a0 a1 a2) (partsyncref21_Closed.f (k + 1) a0 a1 a2) := by
  intro a0 a1 a2 k
  unfold partsyncref21_Closed.f
  repeat' first
      | (with_reducible exact partsyncref21_lacking.mono _ _ _)
      | (with_reducible exact partsyncref21_place.mono _ _ _ _)
      | (with_reducible exact LeO.refl _)
      | (with_reducible exact LeO.none _)
      | (with_reducible refine LeO.ite ?_ ?_)
      | (with_reducible refine LeO.bind ?_ (fun _ => ?_))
      | exact partsyncref21_lacking.mono _ _ _
      | exact partsyncref21_place.mono _ _ _ _
      | exact LeO.none _
      | refine LeO.ite ?_ ?_
      | refine LeO.bind ?_ (fun _ => ?_)
set_option maxHeartbeats 8000000 in
set_option maxRecDepth 100000 in
theorem partsyncref21_Closed.calls (k : Nat) (a0 : Int) (A1 : Option Addr) (c1 : Nat) (l1 : List (List (S50))) (A2 : Option Addr) (c2 : Nat) (l2 : List Int) (r1 : Bool) (r2 : Int) (w : World) (hr1 : Kd.C (Kd.slice 50 k50) w A1 l1.length l1) (hc1 : l1.length ≤ c1) (hr2 : Kd.C (Kd.int .i64) w A2 l2.length l2) (hc2 : l2.length ≤ c2) (h : partsyncref21_Closed.f k a0 l1 l2 = some (r1, r2)) :
    Calls Try.prog 33 #[.int .i64 a0, .slice A1 l1.length c1, .slice A2 l2.length c2] w fun e w' => e = .returned (.tuple #[.bool r1, .int .i64 r2]) ∧ Below w.heap.size w w' := by
  have HR1 := Aside0.mk hr1
  have HC1 := Aside0.mk hc1
  clear hr1 hc1
  have HR2 := Aside0.mk hr2
  have HC2 := Aside0.mk hc2
  clear hr2 hc2
  have HB := Aside0.mk (Below.refl w.heap.size w)
  have H : ((partsyncref21_place.f k a0 l1 l2).bind fun t321 => (if t321 = 0 then ((partsyncref21_lacking.f k l1 l2).bind fun bt322 => (some (!bt322.2.2, 0))) else (some (false, t321)))) = some (r1, r2) := h
  clear h
  replace H := Option.bind_eq_some_iff.mp H
  obtain ⟨t321, A40, H⟩ := H
  replace H : (if t321 = 0 then ((partsyncref21_lacking.f k l1 l2).bind fun bt322 => (some (!bt322.2.2, 0))) else (some (false, t321))) = some (r1, r2) := H
  have A4 := Aside0.mk A40
  clear A40
  by_cases c5 : t321 = 0
  · rw [if_pos c5] at H
    have c5b0 : (t321 == 0) = true := beq_iff_eq.mpr c5
    have c5b1 : (t321 != 0) = false := bne_eq_false_iff_eq.mpr c5
    clear c5
    replace H := Option.bind_eq_some_iff.mp H
    obtain ⟨⟨t322, t323, t324⟩, A60, H⟩ := H
    replace H : (some (!t324, 0)) = some (r1, r2) := H
    have A6 := Aside0.mk A60
    clear A60
    simp only [Option.some.injEq, Prod.mk.injEq] at H
    obtain ⟨rfl, rfl⟩ := H
    go_enter Try.func33, Try.ntmps33
    go_wp2_with (first | ((with_reducible refine gate_callee (f := 50) rfl ?_); refine goesL_ (some 15) rfl rfl Try.func50 (by kernel_rfl) rfl #[.int .i64 a0, .slice A1 l1.length c1, .slice A2 l2.length c2] rfl (by (try simp only [List.map_toArray, List.map_cons, List.map_nil]); first | done | rfl | (simp only [List.length_drop, List.length_take]; rfl)) ?_; (with_reducible refine (partsyncref21_place.calls k a0 _ _ l1 _ _ l2 t321 _ ?side1 ?side2 ?side3 ?side4 A4.out).mono ?_); (case side1 => repeat (first | exact HR1.out | (with_reducible refine Kd.C_alloc ?_ _) | (with_reducible refine Kd.C_drewN ?_ _) | (with_reducible refine Kd.C_drew ?_))); (case side2 => exact HC1.out); (case side3 => repeat (first | exact HR2.out | (with_reducible refine Kd.C_alloc ?_ _) | (with_reducible refine Kd.C_drewN ?_ _) | (with_reducible refine Kd.C_drew ?_))); (case side4 => exact HC2.out); rintro e w7 ⟨rfl, hb⟩; refine ⟨_, rfl, ?_⟩; have n0_ := Aside0.mk (below_step (by repeat (first | (with_reducible first | exact HB.out | apply below_alloc | apply pw_below_drewN | apply below_drew1) | exact HB.out)) hb); clear HB; have HB := n0_; clear n0_; (try clear hb); (try clear hb2); (try clear hk); (try clear hi)) | ((with_reducible refine gate_callee (f := 53) rfl ?_); refine goesL_ (some 22) rfl rfl Try.func53 (by kernel_rfl) rfl #[.slice A1 l1.length c1, .slice A2 l2.length c2] rfl (by (try simp only [List.map_toArray, List.map_cons, List.map_nil]); first | done | rfl | (simp only [List.length_drop, List.length_take]; rfl)) ?_; (with_reducible refine (partsyncref21_lacking.calls k _ _ l1 _ _ l2 t322 t323 t324 _ ?side1 ?side2 ?side3 ?side4 A6.out).mono ?_); (case side1 => repeat (first | exact (Kd.C_below HR1.out HB.out) | (with_reducible refine Kd.C_alloc ?_ _) | (with_reducible refine Kd.C_drewN ?_ _) | (with_reducible refine Kd.C_drew ?_))); (case side2 => exact HC1.out); (case side3 => repeat (first | exact (Kd.C_below HR2.out HB.out) | (with_reducible refine Kd.C_alloc ?_ _) | (with_reducible refine Kd.C_drewN ?_ _) | (with_reducible refine Kd.C_drew ?_))); (case side4 => exact HC2.out); rintro e w8 ⟨rfl, hb⟩; refine ⟨_, rfl, ?_⟩; have n0_ := Aside0.mk (below_step (by repeat (first | (with_reducible first | exact HB.out | apply below_alloc | apply pw_below_drewN | apply below_drew1) | exact HB.out)) hb); clear HB; have HB := n0_; clear n0_; (try clear hb); (try clear hb2); (try clear hk); (try clear hi)))
    go_ret2
    exact ⟨by first | rfl | (simp [errW_none, errW_some] <;> rfl) | (simp [*, errW_none, errW_some] <;> rfl), by repeat (first | (with_reducible first | exact HB.out | apply below_alloc | apply pw_below_drewN | apply below_drew1) | exact HB.out)⟩
  · rw [if_neg c5] at H
    have c5b0 : (t321 == 0) = false := beq_eq_false_iff_ne.mpr c5
    have c5b1 : (t321 != 0) = true := bne_iff_ne.mpr c5
    simp only [Option.some.injEq, Prod.mk.injEq] at H
    obtain ⟨rfl, rfl⟩ := H
    go_enter Try.func33, Try.ntmps33
    go_wp2_with (first | ((with_reducible refine gate_callee (f := 50) rfl ?_); refine goesL_ (some 15) rfl rfl Try.func50 (by kernel_rfl) rfl #[.int .i64 a0, .slice A1 l1.length c1, .slice A2 l2.length c2] rfl (by (try simp only [List.map_toArray, List.map_cons, List.map_nil]); first | done | rfl | (simp only [List.length_drop, List.length_take]; rfl)) ?_; (with_reducible refine (partsyncref21_place.calls k a0 _ _ l1 _ _ l2 t321 _ ?side1 ?side2 ?side3 ?side4 A4.out).mono ?_); (case side1 => repeat (first | exact HR1.out | (with_reducible refine Kd.C_alloc ?_ _) | (with_reducible refine Kd.C_drewN ?_ _) | (with_reducible refine Kd.C_drew ?_))); (case side2 => exact HC1.out); (case side3 => repeat (first | exact HR2.out | (with_reducible refine Kd.C_alloc ?_ _) | (with_reducible refine Kd.C_drewN ?_ _) | (with_reducible refine Kd.C_drew ?_))); (case side4 => exact HC2.out); rintro e w9 ⟨rfl, hb⟩; refine ⟨_, rfl, ?_⟩; have n0_ := Aside0.mk (below_step (by repeat (first | (with_reducible first | exact HB.out | apply below_alloc | apply pw_below_drewN | apply below_drew1) | exact HB.out)) hb); clear HB; have HB := n0_; clear n0_; (try clear hb); (try clear hb2); (try clear hk); (try clear hi)))
    go_ret2
    exact ⟨by first | rfl | (simp [errW_none, errW_some] <;> rfl) | (simp [*, errW_none, errW_some] <;> rfl), by repeat (first | (with_reducible first | exact HB.out | apply below_alloc | apply pw_below_drewN | apply below_drew1) | exact HB.out)⟩

end Go.Proofs.Ytkhiglincdognaa.PA
