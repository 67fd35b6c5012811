-- WRITTEN BY A PROGRAM OF THIS SESSION (wip/cut/printx.py). Not trusted: Lean checks it.
import Derived.Test.YtkhiglincdognaaPAx0
import Derived.Test.YtkhiglincdognaaPAx3
namespace Go.Proofs.Ytkhiglincdognaa.PA
open Go.RowKit Go.Proofs.YtkhiglincdognaaW.PrintWords Go.Proofs.YtkhiglincdognaaW.PrintLast Go.Proofs.YtkhiglincdognaaW.PrintMore
attribute [local go_sem] max2_int min2_int max_two min_two max_three min_three max_four min_four   -- for this text's walks alone
set_option linter.unusedVariables false
set_option linter.unusedSimpArgs false

/-! ### partsyncref21_whole: function 57 -/
mutual
def partsyncref21_whole.l0 : Nat → List (List (S50)) → Int → Bool → List (List (S50)) → Int → Int → Option (Bool)
  | 0, _, _, _, _, _, _ => none
  | k + 1, x0, x1, x5, x11, x12, x13 => if x13 < x12 then (if 0 ≤ x13 then (if x13 < (x11.length : Int) then ((partsyncref21_find.f k (rd_L4 x11 x13) x1).bind fun t165 => (if t165 ≥ 0 then (if 0 ≤ t165 then (if t165 < ((rd_L4 x11 x13).length : Int) then (partsyncref21_whole.l1 k x0 x1 true x11 x12 x13 ((rd_T50 (rd_L4 x11 x13) t165).f1) (((rd_T50 (rd_L4 x11 x13) t165).f1).length : Int) 0) else (none)) else (none)) else (partsyncref21_whole.l0 k x0 x1 x5 x11 x12 (wrap64 (x13 + 1))))) else (none)) else (none)) else (some x5)
def partsyncref21_whole.l1 : Nat → List (List (S50)) → Int → Bool → List (List (S50)) → Int → Int → List Int → Int → Int → Option (Bool)
  | 0, _, _, _, _, _, _, _, _, _ => none
  | k + 1, x0, x1, x5, x11, x12, x13, x26, x27, x28 => if x28 < x27 then (if 0 ≤ x28 then (if x28 < (x26.length : Int) then (if 0 ≤ (rd x26 x28) then (if (rd x26 x28) < (x0.length : Int) then ((partsyncref21_find.f k (rd_L4 x0 (rd x26 x28)) x1).bind fun t169 => (if t169 < 0 then (some false) else (partsyncref21_whole.l1 k x0 x1 x5 x11 x12 x13 x26 x27 (wrap64 (x28 + 1))))) else (none)) else (none)) else (none)) else (none)) else (partsyncref21_whole.l0 k x0 x1 x5 x11 x12 (wrap64 (x13 + 1)))
end
def partsyncref21_whole.f (k : Nat) (l0 : List (List (S50))) (a1 : Int) : Option (Bool) := partsyncref21_whole.l0 k l0 a1 false l0 (l0.length : Int) 0
theorem partsyncref21_whole.mono_l : ∀ k, (∀ y0 y1 y2 y3 y4 y5, LeO (partsyncref21_whole.l0 k y0 y1 y2 y3 y4 y5) (partsyncref21_whole.l0 (k + 1) y0 y1 y2 y3 y4 y5)) ∧ (∀ y0 y1 y2 y3 y4 y5 y6 y7 y8, LeO (partsyncref21_whole.l1 k y0 y1 y2 y3 y4 y5 y6 y7 y8) (partsyncref21_whole.l1 (k + 1) y0 y1 y2 y3 y4 y5 y6 y7 y8))
  | 0 => ⟨fun _ _ _ _ _ _ r h => by simp [partsyncref21_whole.l0] at h, fun _ _ _ _ _ _ _ _ _ r h => by simp [partsyncref21_whole.l1] at h⟩
  | k + 1 => by
    obtain ⟨ih0, ih1⟩ := partsyncref21_whole.mono_l k
    refine ⟨?_, ?_⟩
    · intro y0 y1 y2 y3 y4 y5
      unfold partsyncref21_whole.l0
      repeat' first
      | (with_reducible exact ih0 _ _ _ _ _ _)
      | (with_reducible exact ih1 _ _ _ _ _ _ _ _ _)
      | (with_reducible exact partsyncref21_find.mono _ _ _)
      | (with_reducible exact LeO.refl _)
      | (with_reducible exact LeO.none _)
      | (with_reducible refine LeO.ite ?_ ?_)
      | (with_reducible refine LeO.bind ?_ (fun _ => ?_))
      | exact ih0 _ _ _ _ _ _
      | exact ih1 _ _ _ _ _ _ _ _ _
      | exact partsyncref21_find.mono _ _ _
      | exact LeO.none _
      | refine LeO.ite ?_ ?_
      | refine LeO.bind ?_ (fun _ => ?_)
    · intro y0 y1 y2 y3 y4 y5 y6 y7 y8
      unfold partsyncref21_whole.l1
      repeat' first
      | (with_reducible exact ih0 _ _ _ _ _ _)
      | (with_reducible exact ih1 _ _ _ _ _ _ _ _ _)
      | (with_reducible exact partsyncref21_find.mono _ _ _)
      | (with_reducible exact LeO.refl _)
      | (with_reducible exact LeO.none _)
      | (with_reducible refine LeO.ite ?_ ?_)
      | (with_reducible refine LeO.bind ?_ (fun _ => ?_))
      | exact ih0 _ _ _ _ _ _
      | exact ih1 _ _ _ _ _ _ _ _ _
      | exact partsyncref21_find.mono _ _ _
      | exact LeO.none _
      | refine LeO.ite ?_ ?_
      | refine LeO.bind ?_ (fun _ => ?_)
theorem partsyncref21_whole.mono : ∀ a0 a1 k, LeO (partsyncref21_whole.f k a0 a1) (partsyncref21_whole.f (k + 1) a0 a1) := by
  intro a0 a1 k
  obtain ⟨ih0, ih1⟩ := partsyncref21_whole.mono_l k
  unfold partsyncref21_whole.f
  repeat' first
      | (with_reducible exact ih0 _ _ _ _ _ _)
      | (with_reducible exact ih1 _ _ _ _ _ _ _ _ _)
      | (with_reducible exact partsyncref21_find.mono _ _ _)
      | (with_reducible exact LeO.refl _)
      | (with_reducible exact LeO.none _)
      | (with_reducible refine LeO.ite ?_ ?_)
      | (with_reducible refine LeO.bind ?_ (fun _ => ?_))
      | exact ih0 _ _ _ _ _ _
      | exact ih1 _ _ _ _ _ _ _ _ _
      | exact partsyncref21_find.mono _ _ _
      | exact LeO.none _
      | refine LeO.ite ?_ ?_
      | refine LeO.bind ?_ (fun _ => ?_)
set_option maxHeartbeats 8000000 in
set_option maxRecDepth 100000 in
theorem partsyncref21_whole.calls (k : Nat) (A0 : Option Addr) (c0 : Nat) (l0 : List (List (S50))) (a1 : Int) (r : Bool) (w : World) (hr0 : Kd.C (Kd.slice 50 k50) w A0 l0.length l0) (hc0 : l0.length ≤ c0) (h : partsyncref21_whole.f k l0 a1 = some r) :
    Calls Try.prog 57 #[.slice A0 l0.length c0, .int .i64 a1] w fun e w' => e = .returned (.bool r) ∧ Below w.heap.size w w' := by
  have HR0 := Aside0.mk hr0
  have HC0 := Aside0.mk hc0
  clear hr0 hc0
  have HB := Aside0.mk (Below.refl w.heap.size w)
  have H : (partsyncref21_whole.l0 k l0 a1 false l0 (l0.length : Int) 0) = some r := h
  clear h
  have H' := Aside0.mk H
  clear H
  go_enter Try.func57, Try.ntmps57
  go_wp2
  go_loopg [5, 13] k (fun kq v5 v13 w' => ∃ (x5_1 : Bool) (x13_1 : Int), v5 = .bool x5_1 ∧ v13 = .int .i64 x13_1 ∧ Aside0 (partsyncref21_whole.l0 kq l0 a1 x5_1 l0 (l0.length : Int) x13_1 = some r) ∧ Aside0 (kq ≤ k) ∧ Aside0 (Below w.heap.size w w'))
  case atStart => exact ⟨(false), (0), (by first | rfl | (simp; done) | (simp [*]; done)), (by first | rfl | (simp; done) | (simp [*]; done)), H', ⟨Nat.le_refl _⟩, ⟨by repeat (first | (with_reducible first | exact HB.out | apply below_alloc | apply pw_below_drewN | apply below_drew1) | exact HB.out)⟩⟩
  case round =>
    clear H'
    try clear p2
    obtain ⟨x5_1, x13_1, rfl, rfl, HA, HK1, HB⟩ := hrel
    cases gk with
    | zero => exact absurd HA.out (by simp [partsyncref21_whole.l0])
    | succ k1 =>
      have H := HA.out
      clear HA
      simp only [partsyncref21_whole.l0] at H
      by_cases c3 : x13_1 < (l0.length : Int)
      · rw [if_pos c3] at H
        have c3b0 : decide (x13_1 < (l0.length : Int)) = true := decide_eq_true c3
        clear c3
        by_cases c4 : 0 ≤ x13_1
        · rw [if_pos c4] at H
          have c4b0 : decide (0 ≤ x13_1) = true := decide_eq_true c4
          clear c4
          by_cases c5 : x13_1 < (l0.length : Int)
          · rw [if_pos c5] at H
            have c5b0 : decide (x13_1 < (l0.length : Int)) = true := decide_eq_true c5
            clear c5
            replace H := Option.bind_eq_some_iff.mp H
            obtain ⟨t165, A60, H⟩ := H
            replace H : (if t165 ≥ 0 then (if 0 ≤ t165 then (if t165 < ((rd_L4 l0 x13_1).length : Int) then (partsyncref21_whole.l1 k1 l0 a1 true l0 (l0.length : Int) x13_1 ((rd_T50 (rd_L4 l0 x13_1) t165).f1) (((rd_T50 (rd_L4 l0 x13_1) t165).f1).length : Int) 0) else (none)) else (none)) else (partsyncref21_whole.l0 k1 l0 a1 x5_1 l0 (l0.length : Int) (wrap64 (x13_1 + 1)))) = some r := H
            have A6 := Aside0.mk A60
            clear A60
            by_cases c7 : t165 ≥ 0
            · rw [if_pos c7] at H
              have c7b0 : decide (0 ≤ t165) = true := decide_eq_true c7
              clear c7
              by_cases c8 : 0 ≤ t165
              · rw [if_pos c8] at H
                have c8b0 : decide (0 ≤ t165) = true := decide_eq_true c8
                clear c8
                by_cases c9 : t165 < ((rd_L4 l0 x13_1).length : Int)
                · rw [if_pos c9] at H
                  have c9b0 : decide (t165 < ((rd_L4 l0 x13_1).length : Int)) = true := decide_eq_true c9
                  clear c9
                  have H' := Aside0.mk H
                  clear H
                  have p164 : 0 ≤ (x13_1 : Int) := of_decide_eq_true (by first | (with_reducible assumption) | assumption)
                  have q164 : x13_1 < (l0.length : Int) := of_decide_eq_true (by first | (with_reducible assumption) | assumption)
                  obtain ⟨ad164, A164_0, c164_0, e164, hx164_0, hl164_0, hi164_0⟩ := at_L4 HR0.out x13_1 p164 q164
                  cases e164
                  replace hx164_0 := (HB.out.cell (World.block_lt_of_cell? w _ hx164_0)).trans hx164_0
                  have HR164_0 := Aside0.mk hi164_0
                  have HC164_0 := Aside0.mk hl164_0
                  clear hi164_0 hl164_0
                  replace p164 := eq_true p164
                  replace q164 := eq_true q164
                  go_wp2_with (first | ((with_reducible refine gate_callee (f := 48) rfl ?_); refine goesL_ (some 19) rfl rfl Try.func48 (by kernel_rfl) rfl #[.slice A164_0 (rd_L4 l0 x13_1).length c164_0, .int .i64 a1] rfl (by (try simp only [List.map_toArray, List.map_cons, List.map_nil]); first | done | rfl | (simp only [List.length_drop, List.length_take]; rfl)) ?_; (with_reducible refine (partsyncref21_find.calls k1 _ _ (rd_L4 l0 x13_1) a1 t165 _ ?side1 ?side2 A6.out).mono ?_); (case side1 => repeat (first | exact (Kd.C_below HR164_0.out HB.out) | (with_reducible refine Kd.C_alloc ?_ _) | (with_reducible refine Kd.C_drewN ?_ _) | (with_reducible refine Kd.C_drew ?_))); (case side2 => exact HC164_0.out); rintro e w10 ⟨rfl, hb⟩; refine ⟨_, rfl, ?_⟩; have n0_ := Aside0.mk (below_step (by repeat (first | (with_reducible first | exact HB.out | apply below_alloc | apply pw_below_drewN | apply below_drew1) | exact HB.out)) hb); clear HB; have HB := n0_; clear n0_; (try clear hb); (try clear hb2); (try clear hk); (try clear hi); have p166 : 0 ≤ (t165 : Int) := of_decide_eq_true (by first | (with_reducible assumption) | assumption); have q166 : t165 < ((rd_L4 l0 x13_1).length : Int) := of_decide_eq_true (by first | (with_reducible assumption) | assumption); obtain ⟨ad166, A166_1, c166_1, e166, hx166_0, hx166_1, hl166_1, hi166_1⟩ := at_T50 HR164_0.out t165 p166 q166; cases e166; replace hx166_0 := (HB.out.cell (World.block_lt_of_cell? w _ hx166_0)).trans hx166_0; replace hx166_1 := (HB.out.cell (World.block_lt_of_cell? w _ hx166_1)).trans hx166_1; have HR166_1 := Aside0.mk hi166_1; have HC166_1 := Aside0.mk hl166_1; clear hi166_1 hl166_1; replace p166 := eq_true p166; replace q166 := eq_true q166))
                  go_loopg [28] k1 (fun kq v28 w' => ∃ (x28_2 : Int), v28 = .int .i64 x28_2 ∧ Aside0 (partsyncref21_whole.l1 kq l0 a1 true l0 (l0.length : Int) x13_1 ((rd_T50 (rd_L4 l0 x13_1) t165).f1) (((rd_T50 (rd_L4 l0 x13_1) t165).f1).length : Int) x28_2 = some r) ∧ Aside0 (kq ≤ k1) ∧ Aside0 (Below w.heap.size w w'))
                  case atStart => exact ⟨(0), (by first | rfl | (simp; done) | (simp [*]; done)), H', ⟨Nat.le_refl _⟩, ⟨by repeat (first | (with_reducible first | exact HB.out | apply below_alloc | apply pw_below_drewN | apply below_drew1) | exact HB.out)⟩⟩
                  case round =>
                    clear H'
                    try clear c1
                    try clear p1
                    try clear q1
                    try clear hx1
                    try clear p2
                    try clear c3
                    try clear c3b0
                    try clear c4
                    try clear c4b0
                    try clear c5
                    try clear c5b0
                    try clear p6
                    try clear c7
                    try clear c7b0
                    try clear c8
                    try clear c8b0
                    try clear c9
                    try clear c9b0
                    try clear hx164_0
                    try clear hx166_0
                    try clear hx166_1
                    try clear p164
                    try clear p166
                    try clear p2
                    try clear q164
                    try clear q166
                    obtain ⟨x28_2, rfl, HA, HK2, HB⟩ := hrel
                    cases gk with
                    | zero => exact absurd HA.out (by simp [partsyncref21_whole.l1])
                    | succ k2 =>
                      have H := HA.out
                      clear HA
                      simp only [partsyncref21_whole.l1] at H
                      by_cases c11 : x28_2 < (((rd_T50 (rd_L4 l0 x13_1) t165).f1).length : Int)
                      · rw [if_pos c11] at H
                        have c11b0 : decide (x28_2 < (((rd_T50 (rd_L4 l0 x13_1) t165).f1).length : Int)) = true := decide_eq_true c11
                        clear c11
                        by_cases c12 : 0 ≤ x28_2
                        · rw [if_pos c12] at H
                          have c12b0 : decide (0 ≤ x28_2) = true := decide_eq_true c12
                          clear c12
                          by_cases c13 : x28_2 < (((rd_T50 (rd_L4 l0 x13_1) t165).f1).length : Int)
                          · rw [if_pos c13] at H
                            have c13b0 : decide (x28_2 < (((rd_T50 (rd_L4 l0 x13_1) t165).f1).length : Int)) = true := decide_eq_true c13
                            clear c13
                            by_cases c14 : 0 ≤ (rd ((rd_T50 (rd_L4 l0 x13_1) t165).f1) x28_2)
                            · rw [if_pos c14] at H
                              have c14b0 : decide (0 ≤ (rd ((rd_T50 (rd_L4 l0 x13_1) t165).f1) x28_2)) = true := decide_eq_true c14
                              clear c14
                              by_cases c15 : (rd ((rd_T50 (rd_L4 l0 x13_1) t165).f1) x28_2) < (l0.length : Int)
                              · rw [if_pos c15] at H
                                have c15b0 : decide ((rd ((rd_T50 (rd_L4 l0 x13_1) t165).f1) x28_2) < (l0.length : Int)) = true := decide_eq_true c15
                                clear c15
                                replace H := Option.bind_eq_some_iff.mp H
                                obtain ⟨t169, A160, H⟩ := H
                                replace H : (if t169 < 0 then (some false) else (partsyncref21_whole.l1 k2 l0 a1 true l0 (l0.length : Int) x13_1 ((rd_T50 (rd_L4 l0 x13_1) t165).f1) (((rd_T50 (rd_L4 l0 x13_1) t165).f1).length : Int) (wrap64 (x28_2 + 1)))) = some r := H
                                have A16 := Aside0.mk A160
                                clear A160
                                by_cases c17 : t169 < 0
                                · rw [if_pos c17] at H
                                  have c17b0 : decide (t169 < 0) = true := decide_eq_true c17
                                  clear c17
                                  obtain rfl := Option.some.inj H
                                  have p167 : 0 ≤ (x28_2 : Int) := of_decide_eq_true (by first | (with_reducible assumption) | assumption)
                                  have q167 : x28_2 < (((rd_T50 (rd_L4 l0 x13_1) t165).f1).length : Int) := of_decide_eq_true (by first | (with_reducible assumption) | assumption)
                                  obtain ⟨ad167, e167, hx167_0⟩ := Kd.at_int HR166_1.out x28_2 p167 q167
                                  cases e167
                                  replace hx167_0 := (HB.out.cell (World.block_lt_of_cell? w _ hx167_0)).trans hx167_0
                                  replace p167 := eq_true p167
                                  replace q167 := eq_true q167
                                  have p168 : 0 ≤ ((rd ((rd_T50 (rd_L4 l0 x13_1) t165).f1) x28_2) : Int) := of_decide_eq_true (by first | (with_reducible assumption) | assumption)
                                  have q168 : (rd ((rd_T50 (rd_L4 l0 x13_1) t165).f1) x28_2) < (l0.length : Int) := of_decide_eq_true (by first | (with_reducible assumption) | assumption)
                                  obtain ⟨ad168, A168_0, c168_0, e168, hx168_0, hl168_0, hi168_0⟩ := at_L4 HR0.out (rd ((rd_T50 (rd_L4 l0 x13_1) t165).f1) x28_2) p168 q168
                                  obtain rfl : ad164 = ad168 := (by injection e168)
                                  replace hx168_0 := (HB.out.cell (World.block_lt_of_cell? w _ hx168_0)).trans hx168_0
                                  have HR168_0 := Aside0.mk hi168_0
                                  have HC168_0 := Aside0.mk hl168_0
                                  clear hi168_0 hl168_0
                                  replace p168 := eq_true p168
                                  replace q168 := eq_true q168
                                  go_wp2_with (first | ((with_reducible refine gate_callee (f := 48) rfl ?_); refine goesL_ (some 37) rfl rfl Try.func48 (by kernel_rfl) rfl #[.slice A168_0 (rd_L4 l0 (rd ((rd_T50 (rd_L4 l0 x13_1) t165).f1) x28_2)).length c168_0, .int .i64 a1] rfl (by (try simp only [List.map_toArray, List.map_cons, List.map_nil]); first | done | rfl | (simp only [List.length_drop, List.length_take]; rfl)) ?_; (with_reducible refine (partsyncref21_find.calls k2 _ _ (rd_L4 l0 (rd ((rd_T50 (rd_L4 l0 x13_1) t165).f1) x28_2)) a1 t169 _ ?side1 ?side2 A16.out).mono ?_); (case side1 => repeat (first | exact (Kd.C_below HR168_0.out HB.out) | (with_reducible refine Kd.C_alloc ?_ _) | (with_reducible refine Kd.C_drewN ?_ _) | (with_reducible refine Kd.C_drew ?_))); (case side2 => exact HC168_0.out); rintro e w18 ⟨rfl, hb⟩; refine ⟨_, rfl, ?_⟩; have n0_ := Aside0.mk (below_step (by repeat (first | (with_reducible first | exact HB.out | apply below_alloc | apply pw_below_drewN | apply below_drew1) | exact HB.out)) hb); clear HB; have HB := n0_; clear n0_; (try clear hb); (try clear hb2); (try clear hk); (try clear hi)))
                                  go_ret
                                  exact ⟨by first | rfl | (simp [errW_none, errW_some] <;> rfl) | (simp [*, errW_none, errW_some] <;> rfl), by repeat (first | (with_reducible first | exact HB.out | apply below_alloc | apply pw_below_drewN | apply below_drew1) | exact HB.out)⟩
                                · rw [if_neg c17] at H
                                  have c17b0 : decide (t169 < 0) = false := decide_eq_false c17
                                  clear c17
                                  have H' := Aside0.mk H
                                  clear H
                                  have p167 : 0 ≤ (x28_2 : Int) := of_decide_eq_true (by first | (with_reducible assumption) | assumption)
                                  have q167 : x28_2 < (((rd_T50 (rd_L4 l0 x13_1) t165).f1).length : Int) := of_decide_eq_true (by first | (with_reducible assumption) | assumption)
                                  obtain ⟨ad167, e167, hx167_0⟩ := Kd.at_int HR166_1.out x28_2 p167 q167
                                  cases e167
                                  replace hx167_0 := (HB.out.cell (World.block_lt_of_cell? w _ hx167_0)).trans hx167_0
                                  replace p167 := eq_true p167
                                  replace q167 := eq_true q167
                                  have p168 : 0 ≤ ((rd ((rd_T50 (rd_L4 l0 x13_1) t165).f1) x28_2) : Int) := of_decide_eq_true (by first | (with_reducible assumption) | assumption)
                                  have q168 : (rd ((rd_T50 (rd_L4 l0 x13_1) t165).f1) x28_2) < (l0.length : Int) := of_decide_eq_true (by first | (with_reducible assumption) | assumption)
                                  obtain ⟨ad168, A168_0, c168_0, e168, hx168_0, hl168_0, hi168_0⟩ := at_L4 HR0.out (rd ((rd_T50 (rd_L4 l0 x13_1) t165).f1) x28_2) p168 q168
                                  obtain rfl : ad164 = ad168 := (by injection e168)
                                  replace hx168_0 := (HB.out.cell (World.block_lt_of_cell? w _ hx168_0)).trans hx168_0
                                  have HR168_0 := Aside0.mk hi168_0
                                  have HC168_0 := Aside0.mk hl168_0
                                  clear hi168_0 hl168_0
                                  replace p168 := eq_true p168
                                  replace q168 := eq_true q168
                                  go_wp2_with (first | ((with_reducible refine gate_callee (f := 48) rfl ?_); refine goesL_ (some 37) rfl rfl Try.func48 (by kernel_rfl) rfl #[.slice A168_0 (rd_L4 l0 (rd ((rd_T50 (rd_L4 l0 x13_1) t165).f1) x28_2)).length c168_0, .int .i64 a1] rfl (by (try simp only [List.map_toArray, List.map_cons, List.map_nil]); first | done | rfl | (simp only [List.length_drop, List.length_take]; rfl)) ?_; (with_reducible refine (partsyncref21_find.calls k2 _ _ (rd_L4 l0 (rd ((rd_T50 (rd_L4 l0 x13_1) t165).f1) x28_2)) a1 t169 _ ?side1 ?side2 A16.out).mono ?_); (case side1 => repeat (first | exact (Kd.C_below HR168_0.out HB.out) | (with_reducible refine Kd.C_alloc ?_ _) | (with_reducible refine Kd.C_drewN ?_ _) | (with_reducible refine Kd.C_drew ?_))); (case side2 => exact HC168_0.out); rintro e w19 ⟨rfl, hb⟩; refine ⟨_, rfl, ?_⟩; have n0_ := Aside0.mk (below_step (by repeat (first | (with_reducible first | exact HB.out | apply below_alloc | apply pw_below_drewN | apply below_drew1) | exact HB.out)) hb); clear HB; have HB := n0_; clear n0_; (try clear hb); (try clear hb2); (try clear hk); (try clear hi)))
                                  go_roundg k2
                                  case measure => have := HK1.out; have := HK2.out; omega
                                  case rel => exact ⟨(wrap64 (x28_2 + 1)), (by first | rfl | (simp; done) | (simp [*]; done)), H', ⟨by have := HK1.out; have := HK2.out; omega⟩, ⟨by repeat (first | (with_reducible first | exact HB.out | apply below_alloc | apply pw_below_drewN | apply below_drew1) | exact HB.out)⟩⟩
                              · rw [if_neg c15] at H
                                exact absurd H (by simp)
                            · rw [if_neg c14] at H
                              exact absurd H (by simp)
                          · rw [if_neg c13] at H
                            exact absurd H (by simp)
                        · rw [if_neg c12] at H
                          exact absurd H (by simp)
                      · rw [if_neg c11] at H
                        have c11b0 : decide (x28_2 < (((rd_T50 (rd_L4 l0 x13_1) t165).f1).length : Int)) = false := decide_eq_false c11
                        clear c11
                        have H' := Aside0.mk H
                        clear H
                        go_wp2
                        go_roundg k2
                        case measure => have := HK1.out; have := HK2.out; omega
                        case rel => exact ⟨(true), (wrap64 (x13_1 + 1)), (by first | rfl | (simp; done) | (simp [*]; done)), (by first | rfl | (simp; done) | (simp [*]; done)), H', ⟨by have := HK1.out; have := HK2.out; omega⟩, ⟨by repeat (first | (with_reducible first | exact HB.out | apply below_alloc | apply pw_below_drewN | apply below_drew1) | exact HB.out)⟩⟩
                · rw [if_neg c9] at H
                  exact absurd H (by simp)
              · rw [if_neg c8] at H
                exact absurd H (by simp)
            · rw [if_neg c7] at H
              have c7b0 : decide (0 ≤ t165) = false := decide_eq_false c7
              clear c7
              have H' := Aside0.mk H
              clear H
              have p164 : 0 ≤ (x13_1 : Int) := of_decide_eq_true (by first | (with_reducible assumption) | assumption)
              have q164 : x13_1 < (l0.length : Int) := of_decide_eq_true (by first | (with_reducible assumption) | assumption)
              obtain ⟨ad164, A164_0, c164_0, e164, hx164_0, hl164_0, hi164_0⟩ := at_L4 HR0.out x13_1 p164 q164
              cases e164
              replace hx164_0 := (HB.out.cell (World.block_lt_of_cell? w _ hx164_0)).trans hx164_0
              have HR164_0 := Aside0.mk hi164_0
              have HC164_0 := Aside0.mk hl164_0
              clear hi164_0 hl164_0
              replace p164 := eq_true p164
              replace q164 := eq_true q164
              go_wp2_with (first | ((with_reducible refine gate_callee (f := 48) rfl ?_); refine goesL_ (some 19) rfl rfl Try.func48 (by kernel_rfl) rfl #[.slice A164_0 (rd_L4 l0 x13_1).length c164_0, .int .i64 a1] rfl (by (try simp only [List.map_toArray, List.map_cons, List.map_nil]); first | done | rfl | (simp only [List.length_drop, List.length_take]; rfl)) ?_; (with_reducible refine (partsyncref21_find.calls k1 _ _ (rd_L4 l0 x13_1) a1 t165 _ ?side1 ?side2 A6.out).mono ?_); (case side1 => repeat (first | exact (Kd.C_below HR164_0.out HB.out) | (with_reducible refine Kd.C_alloc ?_ _) | (with_reducible refine Kd.C_drewN ?_ _) | (with_reducible refine Kd.C_drew ?_))); (case side2 => exact HC164_0.out); rintro e w20 ⟨rfl, hb⟩; refine ⟨_, rfl, ?_⟩; have n0_ := Aside0.mk (below_step (by repeat (first | (with_reducible first | exact HB.out | apply below_alloc | apply pw_below_drewN | apply below_drew1) | exact HB.out)) hb); clear HB; have HB := n0_; clear n0_; (try clear hb); (try clear hb2); (try clear hk); (try clear hi)))
              go_roundg k1
              case measure => have := HK1.out; omega
              case rel => exact ⟨(x5_1), (wrap64 (x13_1 + 1)), (by first | rfl | (simp; done) | (simp [*]; done)), (by first | rfl | (simp; done) | (simp [*]; done)), H', ⟨by have := HK1.out; omega⟩, ⟨by repeat (first | (with_reducible first | exact HB.out | apply below_alloc | apply pw_below_drewN | apply below_drew1) | exact HB.out)⟩⟩
          · rw [if_neg c5] at H
            exact absurd H (by simp)
        · rw [if_neg c4] at H
          exact absurd H (by simp)
      · rw [if_neg c3] at H
        have c3b0 : decide (x13_1 < (l0.length : Int)) = false := decide_eq_false c3
        clear c3
        obtain rfl := Option.some.inj H
        go_wp2
        go_ret
        exact ⟨by first | rfl | (simp [errW_none, errW_some] <;> rfl) | (simp [*, errW_none, errW_some] <;> rfl), by repeat (first | (with_reducible first | exact HB.out | apply below_alloc | apply pw_below_drewN | apply below_drew1) | exact HB.out)⟩

-- BY HAND: function 41 (cut_whole)

end Go.Proofs.Ytkhiglincdognaa.PA
