-- WRITTEN BY A PROGRAM OF THIS SESSION (wip/cut/printx.py). Not trusted: Lean checks it.
import Derived.Test.YtkhiglincdognaaPAx0
namespace Go.Proofs.Ytkhiglincdognaa.PA
open Go.RowKit Go.Proofs.YtkhiglincdognaaW.PrintWords Go.Proofs.YtkhiglincdognaaW.PrintLast Go.Proofs.YtkhiglincdognaaW.PrintMore
attribute [local go_sem] max2_int min2_int max_two min_two max_three min_three max_four min_four   -- for this text's walks alone
set_option linter.unusedVariables false
set_option linter.unusedSimpArgs false

-- NOT PRINTED: function 43 (sort_Search)

/-! ### partsyncref21_upto: function 52 -/
mutual
def partsyncref21_upto.l0 : Nat → Int → List Int → List (List (S50)) → Int → Int → Option (List Int)
  | 0, _, _, _, _, _ => none
  | k + 1, x1, x5, x13, x14, x15 => if x15 < x14 then (if 0 ≤ x15 then (if x15 < (x13.length : Int) then (partsyncref21_upto.l1 k x1 x5 x15 x13 x14 x15 (rd_L4 x13 x15) ((rd_L4 x13 x15).length : Int) 0) else (none)) else (none)) else (some x5)
def partsyncref21_upto.l1 : Nat → Int → List Int → Int → List (List (S50)) → Int → Int → List (S50) → Int → Int → Option (List Int)
  | 0, _, _, _, _, _, _, _, _, _ => none
  | k + 1, x1, x5, x6, x13, x14, x15, x20, x21, x22 => if x22 < x21 then (if 0 ≤ x22 then (if x22 < (x20.length : Int) then (if ((rd_T50 x20 x22).f0) ≤ x1 then (if 0 ≤ x6 then (if x6 < (x5.length : Int) then (partsyncref21_upto.l1 k x1 (x5.set (x6 : Int).toNat (wrap64 ((rd x5 x6) + 1))) x6 x13 x14 x15 x20 x21 (wrap64 (x22 + 1))) else (none)) else (none)) else (partsyncref21_upto.l1 k x1 x5 x6 x13 x14 x15 x20 x21 (wrap64 (x22 + 1)))) else (none)) else (none)) else (partsyncref21_upto.l0 k x1 x5 x13 x14 (wrap64 (x15 + 1)))
end
def partsyncref21_upto.f (k : Nat) (l0 : List (List (S50))) (a1 : Int) : Option (List Int) := if 0 ≤ (l0.length : Int) then (if ((l0.length : Int) : Int).toNat ≤ 35184372088832 then (partsyncref21_upto.l0 k a1 (List.replicate ((l0.length : Int) : Int).toNat 0) l0 (l0.length : Int) 0) else (none)) else (none)
theorem partsyncref21_upto.mono_l : ∀ k, (∀ y0 y1 y2 y3 y4, LeO (partsyncref21_upto.l0 k y0 y1 y2 y3 y4) (partsyncref21_upto.l0 (k + 1) y0 y1 y2 y3 y4)) ∧ (∀ y0 y1 y2 y3 y4 y5 y6 y7 y8, LeO (partsyncref21_upto.l1 k y0 y1 y2 y3 y4 y5 y6 y7 y8) (partsyncref21_upto.l1 (k + 1) y0 y1 y2 y3 y4 y5 y6 y7 y8))
  | 0 => ⟨fun _ _ _ _ _ r h => by simp [partsyncref21_upto.l0] at h, fun _ _ _ _ _ _ _ _ _ r h => by simp [partsyncref21_upto.l1] at h⟩
  | k + 1 => by
    obtain ⟨ih0, ih1⟩ := partsyncref21_upto.mono_l k
    refine ⟨?_, ?_⟩
    · intro y0 y1 y2 y3 y4
      unfold partsyncref21_upto.l0
      repeat' first
      | (with_reducible exact ih0 _ _ _ _ _)
      | (with_reducible exact ih1 _ _ _ _ _ _ _ _ _)
      | (with_reducible exact LeO.refl _)
      | (with_reducible exact LeO.none _)
      | (with_reducible refine LeO.ite ?_ ?_)
      | (with_reducible refine LeO.bind ?_ (fun _ => ?_))
      | exact ih0 _ _ _ _ _
      | exact ih1 _ _ _ _ _ _ _ _ _
      | exact LeO.none _
      | refine LeO.ite ?_ ?_
      | refine LeO.bind ?_ (fun _ => ?_)
    · intro y0 y1 y2 y3 y4 y5 y6 y7 y8
      unfold partsyncref21_upto.l1
      repeat' first
      | (with_reducible exact ih0 _ _ _ _ _)
      | (with_reducible exact ih1 _ _ _ _ _ _ _ _ _)
      | (with_reducible exact LeO.refl _)
      | (with_reducible exact LeO.none _)
      | (with_reducible refine LeO.ite ?_ ?_)
      | (with_reducible refine LeO.bind ?_ (fun _ => ?_))
      | exact ih0 _ _ _ _ _
      | exact ih1 _ _ _ _ _ _ _ _ _
      | exact LeO.none _
      | refine LeO.ite ?_ ?_
      | refine LeO.bind ?_ (fun _ => ?_)
theorem partsyncref21_upto.mono : ∀ a0 a1 k, LeO (partsyncref21_upto.f k a0 a1) (partsyncref21_upto.f (k + 1) a0 a1) := by
  intro a0 a1 k
  obtain ⟨ih0, ih1⟩ := partsyncref21_upto.mono_l k
  unfold partsyncref21_upto.f
  repeat' first
      | (with_reducible exact ih0 _ _ _ _ _)
      | (with_reducible exact ih1 _ _ _ _ _ _ _ _ _)
      | (with_reducible exact LeO.refl _)
      | (with_reducible exact LeO.none _)
      | (with_reducible refine LeO.ite ?_ ?_)
      | (with_reducible refine LeO.bind ?_ (fun _ => ?_))
      | exact ih0 _ _ _ _ _
      | exact ih1 _ _ _ _ _ _ _ _ _
      | exact LeO.none _
      | refine LeO.ite ?_ ?_
      | refine LeO.bind ?_ (fun _ => ?_)
set_option maxHeartbeats 8000000 in
set_option maxRecDepth 100000 in
theorem partsyncref21_upto.calls (k : Nat) (A0 : Option Addr) (c0 : Nat) (l0 : List (List (S50))) (a1 : Int) (r : List Int) (w : World) (hr0 : Kd.C (Kd.slice 50 k50) w A0 l0.length l0) (hc0 : l0.length ≤ c0) (h : partsyncref21_upto.f k l0 a1 = some r) :
    Calls Try.prog 52 #[.slice A0 l0.length c0, .int .i64 a1] w fun e w' => ∃ v0_ : Value, e = .returned (v0_) ∧ Kd.R (Kd.int .i64) 3 w' w.heap.size (fun _ => True) v0_ r ∧ Below w.heap.size w w' := by
  have hu50 := Try.underlying50
  have HR0 := Aside0.mk hr0
  have HC0 := Aside0.mk hc0
  clear hr0 hc0
  have HB := Aside0.mk (Below.refl w.heap.size w)
  have H : (if 0 ≤ (l0.length : Int) then (if ((l0.length : Int) : Int).toNat ≤ 35184372088832 then (partsyncref21_upto.l0 k a1 (List.replicate ((l0.length : Int) : Int).toNat 0) l0 (l0.length : Int) 0) else (none)) else (none)) = some r := h
  clear h
  by_cases c3 : 0 ≤ (l0.length : Int)
  · rw [if_pos c3] at H
    have c3b0 := eq_true c3
    have c3b1 : decide (0 ≤ (l0.length : Int)) = true := decide_eq_true c3
    clear c3
    by_cases c4 : ((l0.length : Int) : Int).toNat ≤ 35184372088832
    · rw [if_pos c4] at H
      have c4b0 := eq_true c4
      have c4b1 : decide (((l0.length : Int) : Int).toNat ≤ 35184372088832) = true := decide_eq_true c4
      clear c4
      obtain ⟨y271, hy271⟩ : ∃ y_ : List Int, y_ = (List.replicate ((l0.length : Int) : Int).toNat 0) := ⟨_, rfl⟩
      replace H : (partsyncref21_upto.l0 k a1 y271 l0 (l0.length : Int) 0) = some r := by first | (rw [hy271]; with_reducible exact H) | (have H2_ := (Option.bind_some _ _).symm.trans H; rw [hy271]; with_reducible exact H2_) | (have H2_ := (Option.bind_some _ _).symm.trans H; with_reducible exact H2_) | with_reducible exact H | (rw [hy271]; exact H) | exact H
      have Ny271 := Aside0.mk hy271
      clear hy271
      have H' := Aside0.mk H
      clear H
      go_enter Try.func52, Try.ntmps52
      go_wp2_with (first | ((with_reducible refine gate_dst (N := 12) rfl ?_); refine Kd.R_make (Kd.int .i64) _ 3 rfl (N := 12) rfl 26 _ _ rfl (l0.length : Int) rfl rfl Try.underlying26 (.int .i64 0) 8 info3 rfl (by decide) (by omega) 0 (ok := fun _ => True) (okp := fun _ => True) rfl (fun _ hk => hk) trivial (of_decide_eq_true (by first | (with_reducible assumption) | assumption)) (Nat.le_trans (Nat.mul_le_mul_right _ (of_decide_eq_true (by first | (with_reducible assumption) | assumption) : (l0.length : Int).toNat ≤ 35184372088832)) (by omega)) (Below.refl _ _) (Nat.le_refl _) ?_; intro v272 w5 ho6 hb hg_ hnew_; clear hg_ hnew_; (first | rw [← Ny271.out] at ho6 | (simp only [Int.reduceToNat] at ho6; rw [← Ny271.out] at ho6)); have n0_ := Aside0.mk (Kd.R_lower ho6 (below_size (by repeat (first | (with_reducible first | exact HB.out | apply below_alloc | apply pw_below_drewN | apply below_drew1) | exact HB.out)))); have n1_ := Aside0.mk (below_step (by repeat (first | (with_reducible first | exact HB.out | apply below_alloc | apply pw_below_drewN | apply below_drew1) | exact HB.out)) hb); clear HB; have HO273 := n0_; have HB := n1_; clear n0_ n1_; clear hb ho6))
      go_loopg [15] k (fun kq v15 w' => ∃ (x5_1 : List Int) (x15_1 : Int), v15 = .int .i64 x15_1 ∧ Aside0 (partsyncref21_upto.l0 kq a1 x5_1 l0 (l0.length : Int) x15_1 = some r) ∧ Aside0 (kq ≤ k) ∧ Aside0 (Kd.R (Kd.int .i64) 3 w' w.heap.size (fun _ => True) v272 x5_1) ∧ Aside0 (Below w.heap.size w w'))
      case atStart => exact ⟨(y271), (0), (by first | rfl | (simp; done) | (simp [*]; done)), H', ⟨Nat.le_refl _⟩, ⟨by (with_reducible repeat (first | apply Kd.R_alloc | apply Kd.R_drewN | apply Kd.R_drew)); exact HO273.out⟩, ⟨by repeat (first | (with_reducible first | exact HB.out | apply below_alloc | apply pw_below_drewN | apply below_drew1) | exact HB.out)⟩⟩
      case round =>
        clear H'
        try clear p2
        try clear c3
        try clear c3b0
        try clear c3b1
        try clear c4
        try clear c4b0
        try clear c4b1
        try clear c5
        obtain ⟨x5_1, x15_1, rfl, HA, HK1, HO_5, HB⟩ := hrel
        cases gk with
        | zero => exact absurd HA.out (by simp [partsyncref21_upto.l0])
        | succ k1 =>
          have H := HA.out
          clear HA
          simp only [partsyncref21_upto.l0] at H
          by_cases c7 : x15_1 < (l0.length : Int)
          · rw [if_pos c7] at H
            have c7b0 : decide (x15_1 < (l0.length : Int)) = true := decide_eq_true c7
            clear c7
            by_cases c8 : 0 ≤ x15_1
            · rw [if_pos c8] at H
              have c8b0 : decide (0 ≤ x15_1) = true := decide_eq_true c8
              clear c8
              by_cases c9 : x15_1 < (l0.length : Int)
              · rw [if_pos c9] at H
                have c9b0 : decide (x15_1 < (l0.length : Int)) = true := decide_eq_true c9
                clear c9
                have H' := Aside0.mk H
                clear H
                have p274 : 0 ≤ (x15_1 : Int) := of_decide_eq_true (by first | (with_reducible assumption) | assumption)
                have q274 : x15_1 < (l0.length : Int) := of_decide_eq_true (by first | (with_reducible assumption) | assumption)
                obtain ⟨ad274, A274_0, c274_0, e274, hx274_0, hl274_0, hi274_0⟩ := at_L4 HR0.out x15_1 p274 q274
                cases e274
                replace hx274_0 := (HB.out.cell (World.block_lt_of_cell? w _ hx274_0)).trans hx274_0
                have HR274_0 := Aside0.mk hi274_0
                have HC274_0 := Aside0.mk hl274_0
                clear hi274_0 hl274_0
                replace p274 := eq_true p274
                replace q274 := eq_true q274
                go_wp2
                go_loopg [22] k1 (fun kq v22 w' => ∃ (x5_2 : List Int) (x22_2 : Int), v22 = .int .i64 x22_2 ∧ Aside0 (partsyncref21_upto.l1 kq a1 x5_2 x15_1 l0 (l0.length : Int) x15_1 (rd_L4 l0 x15_1) ((rd_L4 l0 x15_1).length : Int) x22_2 = some r) ∧ Aside0 (kq ≤ k1) ∧ Aside0 (Kd.R (Kd.int .i64) 3 w' w.heap.size (fun _ => True) v272 x5_2) ∧ Aside0 (Below w.heap.size w w'))
                case atStart => exact ⟨(x5_1), (0), (by first | rfl | (simp; done) | (simp [*]; done)), H', ⟨Nat.le_refl _⟩, ⟨by (with_reducible repeat (first | apply Kd.R_alloc | apply Kd.R_drewN | apply Kd.R_drew)); exact HO_5.out⟩, ⟨by repeat (first | (with_reducible first | exact HB.out | apply below_alloc | apply pw_below_drewN | apply below_drew1) | exact HB.out)⟩⟩
                case round =>
                  clear H'
                  try clear c2
                  try clear p2
                  try clear q2
                  try clear hx2
                  try clear c3
                  try clear c3b0
                  try clear c3b1
                  try clear c4
                  try clear c4b0
                  try clear c4b1
                  try clear c5
                  try clear c7
                  try clear c7b0
                  try clear c8
                  try clear c8b0
                  try clear c9
                  try clear c9b0
                  try clear hx274_0
                  try clear p2
                  try clear p274
                  try clear q274
                  obtain ⟨x5_2, x22_2, rfl, HA, HK2, HO_5, HB⟩ := hrel
                  cases gk with
                  | zero => exact absurd HA.out (by simp [partsyncref21_upto.l1])
                  | succ k2 =>
                    have H := HA.out
                    clear HA
                    simp only [partsyncref21_upto.l1] at H
                    by_cases c10 : x22_2 < ((rd_L4 l0 x15_1).length : Int)
                    · rw [if_pos c10] at H
                      have c10b0 : decide (x22_2 < ((rd_L4 l0 x15_1).length : Int)) = true := decide_eq_true c10
                      clear c10
                      by_cases c11 : 0 ≤ x22_2
                      · rw [if_pos c11] at H
                        have c11b0 : decide (0 ≤ x22_2) = true := decide_eq_true c11
                        clear c11
                        by_cases c12 : x22_2 < ((rd_L4 l0 x15_1).length : Int)
                        · rw [if_pos c12] at H
                          have c12b0 : decide (x22_2 < ((rd_L4 l0 x15_1).length : Int)) = true := decide_eq_true c12
                          clear c12
                          by_cases c13 : ((rd_T50 (rd_L4 l0 x15_1) x22_2).f0) ≤ a1
                          · rw [if_pos c13] at H
                            have c13b0 : decide (((rd_T50 (rd_L4 l0 x15_1) x22_2).f0) ≤ a1) = true := decide_eq_true c13
                            clear c13
                            by_cases c14 : 0 ≤ x15_1
                            · rw [if_pos c14] at H
                              have c14b0 : decide (0 ≤ x15_1) = true := decide_eq_true c14
                              clear c14
                              by_cases c15 : x15_1 < (x5_2.length : Int)
                              · rw [if_pos c15] at H
                                have c15b0 : decide (x15_1 < (x5_2.length : Int)) = true := decide_eq_true c15
                                clear c15
                                obtain ⟨y278, hy278⟩ : ∃ y_ : List Int, y_ = (x5_2.set (x15_1 : Int).toNat (wrap64 ((rd x5_2 x15_1) + 1))) := ⟨_, rfl⟩
                                replace H : (partsyncref21_upto.l1 k2 a1 y278 x15_1 l0 (l0.length : Int) x15_1 (rd_L4 l0 x15_1) ((rd_L4 l0 x15_1).length : Int) (wrap64 (x22_2 + 1))) = some r := by first | (rw [hy278]; with_reducible exact H) | (have H2_ := (Option.bind_some _ _).symm.trans H; rw [hy278]; with_reducible exact H2_) | (have H2_ := (Option.bind_some _ _).symm.trans H; with_reducible exact H2_) | with_reducible exact H | (rw [hy278]; exact H) | exact H
                                have Ny278 := Aside0.mk hy278
                                clear hy278
                                have H' := Aside0.mk H
                                clear H
                                have p275 : 0 ≤ (x22_2 : Int) := of_decide_eq_true (by first | (with_reducible assumption) | assumption)
                                have q275 : x22_2 < ((rd_L4 l0 x15_1).length : Int) := of_decide_eq_true (by first | (with_reducible assumption) | assumption)
                                obtain ⟨ad275, A275_1, c275_1, e275, hx275_0, hx275_1, hl275_1, hi275_1⟩ := at_T50 HR274_0.out x22_2 p275 q275
                                cases e275
                                replace hx275_0 := (HB.out.cell (World.block_lt_of_cell? w _ hx275_0)).trans hx275_0
                                replace hx275_1 := (HB.out.cell (World.block_lt_of_cell? w _ hx275_1)).trans hx275_1
                                have HR275_1 := Aside0.mk hi275_1
                                have HC275_1 := Aside0.mk hl275_1
                                clear hi275_1 hl275_1
                                replace p275 := eq_true p275
                                replace q275 := eq_true q275
                                go_wp2_with (first | ((with_reducible refine gate_dst (N := 9) rfl ?_); refine box_event ?hg (N := 9) ?hd (cs := #[.int .i64 0, .slice none 0 0]) (t := 50) ?hr ?_; (case hd => rfl); (case hg => rfl); (case hr => first | (go_simp; done) | (go_simp; rfl)); intro gb276 hg w17 hbox hb; have n0_ := Aside0.mk (Kd.R_below (by (with_reducible repeat (first | apply Kd.R_alloc | apply Kd.R_drewN | apply Kd.R_drew)); exact HO_5.out) hb); have n1_ := Aside0.mk (below_step (by repeat (first | (with_reducible first | exact HB.out | apply below_alloc | apply pw_below_drewN | apply below_drew1) | exact HB.out)) hb); have n2_ := Aside0.mk (hbox); have n3_ := Aside0.mk ((by rw [hg]; exact (below_size (by repeat (first | (with_reducible first | exact HB.out | apply below_alloc | apply pw_below_drewN | apply below_drew1) | exact HB.out))) : w.heap.size ≤ gb276)); have n4_ := Aside0.mk ((by rw [hg]; exact (below_size (by repeat (first | (with_reducible first | exact HB.out | apply below_alloc | apply pw_below_drewN | apply below_drew1) | exact HB.out))) : w.heap.size ≤ gb276)); clear HO_5; clear HB; have HO_5 := n0_; have HB := n1_; have BK276 := n2_; have GW276 := n3_; have GE276 := n4_; clear n0_ n1_ n2_ n3_ n4_; clear hb hbox hg; have hcz18_0 : w17.cell? ⟨gb276, 0, none⟩ = some (.int .i64 0) := (blk_cell BK276.out 0).trans rfl; have hcz18_1 : w17.cell? ⟨gb276, 1, none⟩ = some (.slice none 0 0) := (blk_cell BK276.out 1).trans rfl; have hfz18_0 := blk_frozen BK276.out 0; have hfz18_1 := blk_frozen BK276.out 1) | ((with_reducible refine gate_store (t := 50) (p := 9) rfl ?_); refine store_event (t := 50) (p := 9) (v := ?vo_w19) (w1 := ((w17.setCell ⟨gb276, 0, none⟩ (.int .i64 ((rd_T50 (rd_L4 l0 x15_1) x22_2).f0))).setCell ⟨gb276, 1, none⟩ (.slice A275_1 ((rd_T50 (rd_L4 l0 x15_1) x22_2).f1).length c275_1))) ?hg ?ho ?hn ?hr ?_; (case ho => rfl); (case hg => rfl); (case hn => rfl); (case hr => first | (go_simp; done) | (go_simp; rfl)); intro w19 hw; have n0_ : Aside0 (Kd.R (Kd.int .i64) 3 w19 w.heap.size (fun _ => True) v272 x5_2) := ⟨(by rw [hw]; exact (by (with_reducible repeat (first | apply Kd.R_alloc | apply Kd.R_drewN | apply Kd.R_drew)); exact Kd.R_mono (Kd.R_far (p := ⟨gb276, 1, none⟩) (Kd.R_far (p := ⟨gb276, 0, none⟩) (Kd.R_types HO_5.out BK276.out (by decide)) (fun _ hk => hk.2) (.int .i64 ((rd_T50 (rd_L4 l0 x15_1) x22_2).f0))) (fun _ hk => hk.2) (.slice A275_1 ((rd_T50 (rd_L4 l0 x15_1) x22_2).f1).length c275_1)) (fun _ hk => trivial)))⟩; have n1_ : Aside0 (w19.heap[gb276]? = some (.cells #[.int .i64 ((rd_T50 (rd_L4 l0 x15_1) x22_2).f0), .slice A275_1 ((rd_T50 (rd_L4 l0 x15_1) x22_2).f1).length c275_1] 50 (0, 0))) := ⟨(by rw [hw]; exact (by (with_reducible repeat (first | refine blk_drewN ?_ _ | refine blk_drew ?_ | refine blk_alloc ?_ _)); refine blk_put (cs := #[.int .i64 ((rd_T50 (rd_L4 l0 x15_1) x22_2).f0), .slice none 0 0]) ?_ 1 _ rfl; (with_reducible repeat (first | refine blk_drewN ?_ _ | refine blk_drew ?_ | refine blk_alloc ?_ _)); refine blk_put (cs := #[.int .i64 0, .slice none 0 0]) ?_ 0 _ rfl; (with_reducible repeat (first | refine blk_drewN ?_ _ | refine blk_drew ?_ | refine blk_alloc ?_ _)); exact BK276.out))⟩; have n2_ : Aside0 (Below w.heap.size w w19) := ⟨(by rw [hw]; exact (by repeat (first | (with_reducible first | exact HB.out | apply below_alloc | apply pw_below_drewN | apply below_drew1 | refine below_set ?_ GE276.out) | exact HB.out)))⟩; clear hw; clear HO_5; clear BK276; clear HB; have HO_5 := n0_; have BK276 := n1_; have HB := n2_; clear n0_ n1_ n2_; have hcz20_0 : w19.cell? ⟨gb276, 0, none⟩ = some (.int .i64 ((rd_T50 (rd_L4 l0 x15_1) x22_2).f0)) := (blk_cell BK276.out 0).trans rfl; have hcz20_1 : w19.cell? ⟨gb276, 1, none⟩ = some (.slice A275_1 ((rd_T50 (rd_L4 l0 x15_1) x22_2).f1).length c275_1) := (blk_cell BK276.out 1).trans rfl; have hfz20_0 := blk_frozen BK276.out 0; have hfz20_1 := blk_frozen BK276.out 1; obtain ⟨Ao21, co21, eo21⟩ := Kd.R_slice HO_5.out; subst eo21; have p277 : 0 ≤ (x15_1 : Int) := of_decide_eq_true (by first | (with_reducible assumption) | assumption); have q277 : x15_1 < (x5_2.length : Int) := of_decide_eq_true (by first | (with_reducible assumption) | assumption); obtain ⟨ad277, e277, hx277_0⟩ := Kd.at_int (Kd.R_reads' HO_5.out).2.2 x15_1 p277 q277; cases e277; replace p277 := eq_true p277; replace q277 := eq_true q277; have p16 : 0 ≤ (x15_1 : Int) := of_decide_eq_true (by first | (with_reducible assumption) | assumption); have q16 : (x15_1 : Int) < ((x5_2.length : Int) : Int) := of_decide_eq_true (by first | (with_reducible assumption) | assumption); obtain ⟨go16, co16, eo16, gb16, gl16, cl16, HG16⟩ := Kd.R_form HO_5.out (by omega); (first | cases eo16 | (injection eo16 with ea_ en_ ec_; (first | subst ea_ | (injection ea_ with ea_; subst ea_)); subst ec_; clear en_)); have GB16 := Aside0.mk gb16; have GG16 := Aside0.mk HG16; clear gb16 gl16 HG16; (first | simp only [add_plain] at hx277_0 | skip); obtain ⟨hx16_0, hf16_0⟩ := Kd.R_celln 0 HO_5.out (x15_1 : Int) p16 q16; replace p16 := eq_true p16; replace q16 := eq_true q16; obtain ⟨hy22_, hz22_⟩ := Kd.R_celln 0 HO_5.out (x15_1 : Int) (of_decide_eq_true (by first | (with_reducible assumption) | assumption)) (of_decide_eq_true (by first | (with_reducible assumption) | assumption)); have HP22 := Kd.R_putg HO_5.out (x15_1 : Int) (wrap64 ((rd x5_2 x15_1) + 1))) | ((with_reducible refine gate_store (t := 3) (p := 35) rfl ?_); refine store_event (t := 3) (p := 35) (v := ?vo_w23) (w1 := (w19.setCell ⟨go16, (x15_1 : Int).toNat, none⟩ (.int .i64 (wrap64 ((rd x5_2 x15_1) + 1))))) ?hg ?ho ?hn ?hr ?_; (case ho => rfl); (case hg => rfl); (case hn => rfl); (case hr => first | (go_simp; done) | (go_simp; rfl)); intro w23 hw; have hg : w19.grownBy w23 (some go16) := (by rw [hw]; exact HP22.2); have hp_ : Kd.R (Kd.int .i64) 3 w23 w.heap.size (fun _ => True) (.slice (some ⟨go16, 0, none⟩) x5_2.length co21) y278 := (by rw [hw, Ny278.out]; exact HP22.1); clear HP22; have n0_ := Aside0.mk (hp_); have n1_ := Aside0.mk (blk_grown (g := gb276) (o := .cells #[.int .i64 ((rd_T50 (rd_L4 l0 x15_1) x22_2).f0), .slice A275_1 ((rd_T50 (rd_L4 l0 x15_1) x22_2).f1).length c275_1] 50 (0, 0)) (by (with_reducible repeat (first | refine blk_drewN ?_ _ | refine blk_drew ?_ | refine blk_alloc ?_ _)); exact BK276.out) hg (Kd.R_ne HO_5.out BK276.out (by decide))); have n2_ := Aside0.mk ((by rw [hw]; exact below_set (HB.out) GB16.out : Below w.heap.size w w23)); clear HO_5; clear BK276; clear HB; have HO_5 := n0_; have BK276 := n1_; have HB := n2_; clear n0_ n1_ n2_; clear hg hw hp_))
                                go_roundg k2
                                case measure => have := HK1.out; have := HK2.out; omega
                                case rel => exact ⟨(y278), (wrap64 (x22_2 + 1)), (by first | rfl | (simp; done) | (simp [*]; done)), H', ⟨by have := HK1.out; have := HK2.out; omega⟩, ⟨by (with_reducible repeat (first | apply Kd.R_alloc | apply Kd.R_drewN | apply Kd.R_drew)); exact HO_5.out⟩, ⟨by repeat (first | (with_reducible first | exact HB.out | apply below_alloc | apply pw_below_drewN | apply below_drew1 | refine below_set ?_ GE276.out) | exact HB.out)⟩⟩
                              · rw [if_neg c15] at H
                                exact absurd H (by simp)
                            · rw [if_neg c14] at H
                              exact absurd H (by simp)
                          · rw [if_neg c13] at H
                            have c13b0 : decide (((rd_T50 (rd_L4 l0 x15_1) x22_2).f0) ≤ a1) = false := decide_eq_false c13
                            clear c13
                            have H' := Aside0.mk H
                            clear H
                            have p275 : 0 ≤ (x22_2 : Int) := of_decide_eq_true (by first | (with_reducible assumption) | assumption)
                            have q275 : x22_2 < ((rd_L4 l0 x15_1).length : Int) := of_decide_eq_true (by first | (with_reducible assumption) | assumption)
                            obtain ⟨ad275, A275_1, c275_1, e275, hx275_0, hx275_1, hl275_1, hi275_1⟩ := at_T50 HR274_0.out x22_2 p275 q275
                            cases e275
                            replace hx275_0 := (HB.out.cell (World.block_lt_of_cell? w _ hx275_0)).trans hx275_0
                            replace hx275_1 := (HB.out.cell (World.block_lt_of_cell? w _ hx275_1)).trans hx275_1
                            have HR275_1 := Aside0.mk hi275_1
                            have HC275_1 := Aside0.mk hl275_1
                            clear hi275_1 hl275_1
                            replace p275 := eq_true p275
                            replace q275 := eq_true q275
                            go_wp2_with (first | ((with_reducible refine gate_dst (N := 9) rfl ?_); refine box_event ?hg (N := 9) ?hd (cs := #[.int .i64 0, .slice none 0 0]) (t := 50) ?hr ?_; (case hd => rfl); (case hg => rfl); (case hr => first | (go_simp; done) | (go_simp; rfl)); intro gb276 hg w24 hbox hb; have n0_ := Aside0.mk (Kd.R_below (by (with_reducible repeat (first | apply Kd.R_alloc | apply Kd.R_drewN | apply Kd.R_drew)); exact HO_5.out) hb); have n1_ := Aside0.mk (below_step (by repeat (first | (with_reducible first | exact HB.out | apply below_alloc | apply pw_below_drewN | apply below_drew1) | exact HB.out)) hb); have n2_ := Aside0.mk (hbox); have n3_ := Aside0.mk ((by rw [hg]; exact (below_size (by repeat (first | (with_reducible first | exact HB.out | apply below_alloc | apply pw_below_drewN | apply below_drew1) | exact HB.out))) : w.heap.size ≤ gb276)); have n4_ := Aside0.mk ((by rw [hg]; exact (below_size (by repeat (first | (with_reducible first | exact HB.out | apply below_alloc | apply pw_below_drewN | apply below_drew1) | exact HB.out))) : w.heap.size ≤ gb276)); clear HO_5; clear HB; have HO_5 := n0_; have HB := n1_; have BK276 := n2_; have GW276 := n3_; have GE276 := n4_; clear n0_ n1_ n2_ n3_ n4_; clear hb hbox hg; have hcz25_0 : w24.cell? ⟨gb276, 0, none⟩ = some (.int .i64 0) := (blk_cell BK276.out 0).trans rfl; have hcz25_1 : w24.cell? ⟨gb276, 1, none⟩ = some (.slice none 0 0) := (blk_cell BK276.out 1).trans rfl; have hfz25_0 := blk_frozen BK276.out 0; have hfz25_1 := blk_frozen BK276.out 1))
                            go_roundg k2
                            case measure => have := HK1.out; have := HK2.out; omega
                            case rel => exact ⟨(x5_2), (wrap64 (x22_2 + 1)), (by first | rfl | (simp; done) | (simp [*]; done)), H', ⟨by have := HK1.out; have := HK2.out; omega⟩, ⟨by (with_reducible repeat (first | apply Kd.R_alloc | apply Kd.R_drewN | apply Kd.R_drew)); exact Kd.R_mono (Kd.R_far (p := ⟨gb276, 1, none⟩) (Kd.R_far (p := ⟨gb276, 0, none⟩) (Kd.R_types HO_5.out BK276.out (by decide)) (fun _ hk => hk.2) (.int .i64 ((rd_T50 (rd_L4 l0 x15_1) x22_2).f0))) (fun _ hk => hk.2) (.slice A275_1 ((rd_T50 (rd_L4 l0 x15_1) x22_2).f1).length c275_1)) (fun _ hk => trivial)⟩, ⟨by repeat (first | (with_reducible first | exact HB.out | apply below_alloc | apply pw_below_drewN | apply below_drew1 | refine below_set ?_ GE276.out) | exact HB.out)⟩⟩
                        · rw [if_neg c12] at H
                          exact absurd H (by simp)
                      · rw [if_neg c11] at H
                        exact absurd H (by simp)
                    · rw [if_neg c10] at H
                      have c10b0 : decide (x22_2 < ((rd_L4 l0 x15_1).length : Int)) = false := decide_eq_false c10
                      clear c10
                      have H' := Aside0.mk H
                      clear H
                      go_wp2
                      go_roundg k2
                      case measure => have := HK1.out; have := HK2.out; omega
                      case rel => exact ⟨(x5_2), (wrap64 (x15_1 + 1)), (by first | rfl | (simp; done) | (simp [*]; done)), H', ⟨by have := HK1.out; have := HK2.out; omega⟩, ⟨by (with_reducible repeat (first | apply Kd.R_alloc | apply Kd.R_drewN | apply Kd.R_drew)); exact HO_5.out⟩, ⟨by repeat (first | (with_reducible first | exact HB.out | apply below_alloc | apply pw_below_drewN | apply below_drew1) | exact HB.out)⟩⟩
              · rw [if_neg c9] at H
                exact absurd H (by simp)
            · rw [if_neg c8] at H
              exact absurd H (by simp)
          · rw [if_neg c7] at H
            have c7b0 : decide (x15_1 < (l0.length : Int)) = false := decide_eq_false c7
            clear c7
            obtain rfl := Option.some.inj H
            go_wp2
            go_ret
            exact ⟨_, by first | rfl | (simp [errW_none, errW_some] <;> rfl) | (simp [*, errW_none, errW_some] <;> rfl), by (with_reducible repeat (first | apply Kd.R_alloc | apply Kd.R_drewN | apply Kd.R_drew)); exact HO_5.out, by repeat (first | (with_reducible first | exact HB.out | apply below_alloc | apply pw_below_drewN | apply below_drew1) | exact HB.out)⟩
    · rw [if_neg c4] at H
      exact absurd H (by simp)
  · rw [if_neg c3] at H
    exact absurd H (by simp)

-- BY HAND: function 25 (cut_Of)

end Go.Proofs.Ytkhiglincdognaa.PA
