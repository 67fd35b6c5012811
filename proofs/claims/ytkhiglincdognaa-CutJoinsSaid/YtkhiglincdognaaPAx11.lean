-- WRITTEN BY A PROGRAM OF THIS SESSION (wip/cut/printx.py). Not trusted: Lean checks it.
import Derived.Test.YtkhiglincdognaaPAx0
import Derived.Test.YtkhiglincdognaaPAx6
import Derived.Test.YtkhiglincdognaaPAx9
import Derived.Test.YtkhiglincdognaaHOpen
namespace Go.Proofs.Ytkhiglincdognaa.PA
open Go.RowKit Go.Proofs.YtkhiglincdognaaW.PrintWords Go.Proofs.YtkhiglincdognaaW.PrintLast Go.Proofs.YtkhiglincdognaaW.PrintMore
attribute [local go_sem] max2_int min2_int max_two min_two max_three min_three max_four min_four   -- for this text's walks alone
set_option linter.unusedVariables false
set_option linter.unusedSimpArgs false

/-! ### cut_Closed: function 26 -/
def cut_Closed.f (k : Nat) (a0 : Int) (l1 : List (List (S50))) (l2 : List Int) : Option (Bool × Int) := (cut_checkCut.f k a0 l1 l2).bind fun t283 => (if t283 = 0 then ((cut_open.f k l1 l2).bind fun bt284 => (some (!bt284.2.2, 0))) else (some (false, t283)))
theorem cut_Closed.mono : ∀ a0 a1 a2 k, LeO (cut_Closed.f k a0 a1 a2) (cut_Closed.f (k + 1) a0 a1 a2) := by
  intro a0 a1 a2 k
  unfold cut_Closed.f
  repeat' first
      | (with_reducible exact cut_checkCut.mono _ _ _ _)
      | (with_reducible exact cut_open.mono _ _ _)
      | (with_reducible exact LeO.refl _)
      | (with_reducible exact LeO.none _)
      | (with_reducible refine LeO.ite ?_ ?_)
      | (with_reducible refine LeO.bind ?_ (fun _ => ?_))
      | exact cut_checkCut.mono _ _ _ _
      | exact cut_open.mono _ _ _
      | exact LeO.none _
      | refine LeO.ite ?_ ?_
      | refine LeO.bind ?_ (fun _ => ?_)
set_option maxHeartbeats 8000000 in
set_option maxRecDepth 100000 in
theorem cut_Closed.calls (k : Nat) (a0 : Int) (A1 : Option Addr) (c1 : Nat) (l1 : List (List (S50))) (A2 : Option Addr) (c2 : Nat) (l2 : List Int) (r1 : Bool) (r2 : Int) (w : World) (hr1 : Kd.C (Kd.slice 50 k50) w A1 l1.length l1) (hc1 : l1.length ≤ c1) (hr2 : Kd.C (Kd.int .i64) w A2 l2.length l2) (hc2 : l2.length ≤ c2) (h : cut_Closed.f k a0 l1 l2 = some (r1, r2)) :
    Calls Try.prog 26 #[.int .i64 a0, .slice A1 l1.length c1, .slice A2 l2.length c2] w fun e w' => e = .returned (.tuple #[.bool r1, .int .i64 r2]) ∧ Below w.heap.size w w' := by
  have HR1 := Aside0.mk hr1
  have HC1 := Aside0.mk hc1
  clear hr1 hc1
  have HR2 := Aside0.mk hr2
  have HC2 := Aside0.mk hc2
  clear hr2 hc2
  have HB := Aside0.mk (Below.refl w.heap.size w)
  have H : ((cut_checkCut.f k a0 l1 l2).bind fun t283 => (if t283 = 0 then ((cut_open.f k l1 l2).bind fun bt284 => (some (!bt284.2.2, 0))) else (some (false, t283)))) = some (r1, r2) := h
  clear h
  replace H := Option.bind_eq_some_iff.mp H
  obtain ⟨t283, A40, H⟩ := H
  replace H : (if t283 = 0 then ((cut_open.f k l1 l2).bind fun bt284 => (some (!bt284.2.2, 0))) else (some (false, t283))) = some (r1, r2) := H
  have A4 := Aside0.mk A40
  clear A40
  by_cases c5 : t283 = 0
  · rw [if_pos c5] at H
    have c5b0 : (t283 == 0) = true := beq_iff_eq.mpr c5
    have c5b1 : (t283 != 0) = false := bne_eq_false_iff_eq.mpr c5
    clear c5
    replace H := Option.bind_eq_some_iff.mp H
    obtain ⟨⟨t284, t285, t286⟩, A60, H⟩ := H
    replace H : (some (!t286, 0)) = some (r1, r2) := H
    have A6 := Aside0.mk A60
    clear A60
    simp only [Option.some.injEq, Prod.mk.injEq] at H
    obtain ⟨rfl, rfl⟩ := H
    go_enter Try.func26, Try.ntmps26
    go_wp2_with (first | ((with_reducible refine gate_callee (f := 42) rfl ?_); refine goesL_ (some 15) rfl rfl Try.func42 (by kernel_rfl) rfl #[.int .i64 a0, .slice A1 l1.length c1, .slice A2 l2.length c2] rfl (by (try simp only [List.map_toArray, List.map_cons, List.map_nil]); first | done | rfl | (simp only [List.length_drop, List.length_take]; rfl)) ?_; (with_reducible refine (cut_checkCut.calls k a0 _ _ l1 _ _ l2 t283 _ ?side1 ?side2 ?side3 ?side4 A4.out).mono ?_); (case side1 => repeat (first | exact HR1.out | (with_reducible refine Kd.C_alloc ?_ _) | (with_reducible refine Kd.C_drewN ?_ _) | (with_reducible refine Kd.C_drew ?_))); (case side2 => exact HC1.out); (case side3 => repeat (first | exact HR2.out | (with_reducible refine Kd.C_alloc ?_ _) | (with_reducible refine Kd.C_drewN ?_ _) | (with_reducible refine Kd.C_drew ?_))); (case side4 => exact HC2.out); rintro e w7 ⟨rfl, hb⟩; refine ⟨_, rfl, ?_⟩; have n0_ := Aside0.mk (below_step (by repeat (first | (with_reducible first | exact HB.out | apply below_alloc | apply pw_below_drewN | apply below_drew1) | exact HB.out)) hb); clear HB; have HB := n0_; clear n0_; (try clear hb); (try clear hb2); (try clear hk); (try clear hi)) | ((with_reducible refine gate_callee (f := 45) rfl ?_); refine goesL_ (some 22) rfl rfl Try.func45 (by kernel_rfl) rfl #[.slice A1 l1.length c1, .slice A2 l2.length c2] rfl (by (try simp only [List.map_toArray, List.map_cons, List.map_nil]); first | done | rfl | (simp only [List.length_drop, List.length_take]; rfl)) ?_; (with_reducible refine (cut_open.calls k _ _ l1 _ _ l2 t284 t285 t286 _ ?side1 ?side2 ?side3 ?side4 A6.out).mono ?_); (case side1 => repeat (first | exact (Kd.C_below HR1.out HB.out) | (with_reducible refine Kd.C_alloc ?_ _) | (with_reducible refine Kd.C_drewN ?_ _) | (with_reducible refine Kd.C_drew ?_))); (case side2 => exact HC1.out); (case side3 => repeat (first | exact (Kd.C_below HR2.out HB.out) | (with_reducible refine Kd.C_alloc ?_ _) | (with_reducible refine Kd.C_drewN ?_ _) | (with_reducible refine Kd.C_drew ?_))); (case side4 => exact HC2.out); rintro e w8 ⟨rfl, hb⟩; refine ⟨_, rfl, ?_⟩; have n0_ := Aside0.mk (below_step (by repeat (first | (with_reducible first | exact HB.out | apply below_alloc | apply pw_below_drewN | apply below_drew1) | exact HB.out)) hb); clear HB; have HB := n0_; clear n0_; (try clear hb); (try clear hb2); (try clear hk); (try clear hi)))
    go_ret2
    exact ⟨by first | rfl | (simp [errW_none, errW_some] <;> rfl) | (simp [*, errW_none, errW_some] <;> rfl), by repeat (first | (with_reducible first | exact HB.out | apply below_alloc | apply pw_below_drewN | apply below_drew1) | exact HB.out)⟩
  · rw [if_neg c5] at H
    have c5b0 : (t283 == 0) = false := beq_eq_false_iff_ne.mpr c5
    have c5b1 : (t283 != 0) = true := bne_iff_ne.mpr c5
    simp only [Option.some.injEq, Prod.mk.injEq] at H
    obtain ⟨rfl, rfl⟩ := H
    go_enter Try.func26, Try.ntmps26
    go_wp2_with (first | ((with_reducible refine gate_callee (f := 42) rfl ?_); refine goesL_ (some 15) rfl rfl Try.func42 (by kernel_rfl) rfl #[.int .i64 a0, .slice A1 l1.length c1, .slice A2 l2.length c2] rfl (by (try simp only [List.map_toArray, List.map_cons, List.map_nil]); first | done | rfl | (simp only [List.length_drop, List.length_take]; rfl)) ?_; (with_reducible refine (cut_checkCut.calls k a0 _ _ l1 _ _ l2 t283 _ ?side1 ?side2 ?side3 ?side4 A4.out).mono ?_); (case side1 => repeat (first | exact HR1.out | (with_reducible refine Kd.C_alloc ?_ _) | (with_reducible refine Kd.C_drewN ?_ _) | (with_reducible refine Kd.C_drew ?_))); (case side2 => exact HC1.out); (case side3 => repeat (first | exact HR2.out | (with_reducible refine Kd.C_alloc ?_ _) | (with_reducible refine Kd.C_drewN ?_ _) | (with_reducible refine Kd.C_drew ?_))); (case side4 => exact HC2.out); rintro e w9 ⟨rfl, hb⟩; refine ⟨_, rfl, ?_⟩; have n0_ := Aside0.mk (below_step (by repeat (first | (with_reducible first | exact HB.out | apply below_alloc | apply pw_below_drewN | apply below_drew1) | exact HB.out)) hb); clear HB; have HB := n0_; clear n0_; (try clear hb); (try clear hb2); (try clear hk); (try clear hi)))
    go_ret2
    exact ⟨by first | rfl | (simp [errW_none, errW_some] <;> rfl) | (simp [*, errW_none, errW_some] <;> rfl), by repeat (first | (with_reducible first | exact HB.out | apply below_alloc | apply pw_below_drewN | apply below_drew1) | exact HB.out)⟩

/-! ### partsyncref21_pair: function 55 -/
def partsyncref21_pair.l0 : Nat → List Int → List Int → Int → Int → Option (Int)
  | 0, _, _, _, _ => none
  | k + 1, x0, x1, x12, x13 => if x13 < x12 then (if 0 ≤ x13 then (if x13 < (x0.length : Int) then (if (rd x0 x13) < 0 then (some 1) else (if x13 < (x1.length : Int) then (if (rd x1 x13) < 0 then (some 1) else (partsyncref21_pair.l0 k x0 x1 x12 (wrap64 (x13 + 1)))) else (none))) else (none)) else (none)) else (some 0)
def partsyncref21_pair.f (k : Nat) (l0 : List Int) (l1 : List Int) : Option (Int) := if (l0.length : Int) = (l1.length : Int) then (partsyncref21_pair.l0 k l0 l1 (l0.length : Int) 0) else (some 1)
theorem partsyncref21_pair.mono_l : ∀ k, (∀ y0 y1 y2 y3, LeO (partsyncref21_pair.l0 k y0 y1 y2 y3) (partsyncref21_pair.l0 (k + 1) y0 y1 y2 y3))
  | 0 => fun _ _ _ _ r h => by simp [partsyncref21_pair.l0] at h
  | k + 1 => by
    have ih0 := partsyncref21_pair.mono_l k
    · intro y0 y1 y2 y3
      unfold partsyncref21_pair.l0
      repeat' first
      | (with_reducible exact ih0 _ _ _ _)
      | (with_reducible exact LeO.refl _)
      | (with_reducible exact LeO.none _)
      | (with_reducible refine LeO.ite ?_ ?_)
      | (with_reducible refine LeO.bind ?_ (fun _ => ?_))
      | exact ih0 _ _ _ _
      | exact LeO.none _
      | refine LeO.ite ?_ ?_
      | refine LeO.bind ?_ (fun _ => ?_)
theorem partsyncref21_pair.mono : ∀ a0 a1 k, LeO (partsyncref21_pair.f k a0 a1) (partsyncref21_pair.f (k + 1) a0 a1) := by
  intro a0 a1 k
  have ih0 := partsyncref21_pair.mono_l k
  unfold partsyncref21_pair.f
  repeat' first
      | (with_reducible exact ih0 _ _ _ _)
      | (with_reducible exact LeO.refl _)
      | (with_reducible exact LeO.none _)
      | (with_reducible refine LeO.ite ?_ ?_)
      | (with_reducible refine LeO.bind ?_ (fun _ => ?_))
      | exact ih0 _ _ _ _
      | exact LeO.none _
      | refine LeO.ite ?_ ?_
      | refine LeO.bind ?_ (fun _ => ?_)
set_option maxHeartbeats 8000000 in
set_option maxRecDepth 100000 in
theorem partsyncref21_pair.calls (k : Nat) (A0 : Option Addr) (c0 : Nat) (l0 : List Int) (A1 : Option Addr) (c1 : Nat) (l1 : List Int) (r : Int) (w : World) (hr0 : Kd.C (Kd.int .i64) w A0 l0.length l0) (hc0 : l0.length ≤ c0) (hr1 : Kd.C (Kd.int .i64) w A1 l1.length l1) (hc1 : l1.length ≤ c1) (h : partsyncref21_pair.f k l0 l1 = some r) :
    Calls Try.prog 55 #[.slice A0 l0.length c0, .slice A1 l1.length c1] w fun e w' => e = .returned (.int .i64 r) ∧ Drawn0 w w' := by
  have HR0 := Aside0.mk hr0
  have HC0 := Aside0.mk hc0
  clear hr0 hc0
  have HR1 := Aside0.mk hr1
  have HC1 := Aside0.mk hc1
  clear hr1 hc1
  have H : (if (l0.length : Int) = (l1.length : Int) then (partsyncref21_pair.l0 k l0 l1 (l0.length : Int) 0) else (some 1)) = some r := h
  clear h
  by_cases c3 : (l0.length : Int) = (l1.length : Int)
  · rw [if_pos c3] at H
    have c3b0 : ((l0.length : Int) == (l1.length : Int)) = true := beq_iff_eq.mpr c3
    have c3b1 : ((l0.length : Int) != (l1.length : Int)) = false := bne_eq_false_iff_eq.mpr c3
    have c3b2 : (l0.length == l1.length) = true := by first | simpa using c3 | (simp at c3 ⊢; omega)
    clear c3
    have H' := Aside0.mk H
    clear H
    go_enter Try.func55, Try.ntmps55
    go_wp2
    go_loopg [13] k (fun kq v13 w' => ∃ (x13_1 : Int), v13 = .int .i64 x13_1 ∧ Aside0 (partsyncref21_pair.l0 kq l0 l1 (l0.length : Int) x13_1 = some r) ∧ Aside0 (kq ≤ k) ∧ Drawn0 w w')
    case atStart => exact ⟨(0), (by first | rfl | (simp; done) | (simp [*]; done)), H', ⟨Nat.le_refl _⟩, by repeat (first | exact Drawn0.refl _ | apply Drawn0.step)⟩
    case round =>
      clear H'
      try clear c1
      try clear p2
      try clear c3
      try clear c3b0
      try clear c3b1
      try clear c3b2
      obtain ⟨x13_1, rfl, HA, HK1, ⟨m1, rfl⟩⟩ := hrel
      cases gk with
      | zero => exact absurd HA.out (by simp [partsyncref21_pair.l0])
      | succ k1 =>
        have H := HA.out
        clear HA
        simp only [partsyncref21_pair.l0] at H
        by_cases c4 : x13_1 < (l0.length : Int)
        · rw [if_pos c4] at H
          have c4b0 : decide (x13_1 < (l0.length : Int)) = true := decide_eq_true c4
          clear c4
          by_cases c5 : 0 ≤ x13_1
          · rw [if_pos c5] at H
            have c5b0 : decide (0 ≤ x13_1) = true := decide_eq_true c5
            clear c5
            by_cases c6 : x13_1 < (l0.length : Int)
            · rw [if_pos c6] at H
              have c6b0 : decide (x13_1 < (l0.length : Int)) = true := decide_eq_true c6
              clear c6
              by_cases c7 : (rd l0 x13_1) < 0
              · rw [if_pos c7] at H
                have c7b0 : decide ((rd l0 x13_1) < 0) = true := decide_eq_true c7
                clear c7
                obtain rfl := Option.some.inj H
                have p287 : 0 ≤ (x13_1 : Int) := of_decide_eq_true (by first | (with_reducible assumption) | assumption)
                have q287 : x13_1 < (l0.length : Int) := of_decide_eq_true (by first | (with_reducible assumption) | assumption)
                obtain ⟨ad287, e287, hx287_0⟩ := Kd.at_int HR0.out x13_1 p287 q287
                cases e287
                replace p287 := eq_true p287
                replace q287 := eq_true q287
                go_wp2
                go_ret
                exact ⟨by first | rfl | (simp; done) | (simp [*]; done), by repeat (first | exact Drawn0.refl _ | apply Drawn0.step)⟩
              · rw [if_neg c7] at H
                have c7b0 : decide ((rd l0 x13_1) < 0) = false := decide_eq_false c7
                clear c7
                by_cases c8 : x13_1 < (l1.length : Int)
                · rw [if_pos c8] at H
                  have c8b0 : decide (x13_1 < (l1.length : Int)) = true := decide_eq_true c8
                  clear c8
                  by_cases c9 : (rd l1 x13_1) < 0
                  · rw [if_pos c9] at H
                    have c9b0 : decide ((rd l1 x13_1) < 0) = true := decide_eq_true c9
                    clear c9
                    obtain rfl := Option.some.inj H
                    have p287 : 0 ≤ (x13_1 : Int) := of_decide_eq_true (by first | (with_reducible assumption) | assumption)
                    have q287 : x13_1 < (l0.length : Int) := of_decide_eq_true (by first | (with_reducible assumption) | assumption)
                    obtain ⟨ad287, e287, hx287_0⟩ := Kd.at_int HR0.out x13_1 p287 q287
                    cases e287
                    replace p287 := eq_true p287
                    replace q287 := eq_true q287
                    have p288 : 0 ≤ (x13_1 : Int) := of_decide_eq_true (by first | (with_reducible assumption) | assumption)
                    have q288 : x13_1 < (l1.length : Int) := of_decide_eq_true (by first | (with_reducible assumption) | assumption)
                    obtain ⟨ad288, e288, hx288_0⟩ := Kd.at_int HR1.out x13_1 p288 q288
                    cases e288
                    replace p288 := eq_true p288
                    replace q288 := eq_true q288
                    go_wp2
                    go_ret
                    exact ⟨by first | rfl | (simp; done) | (simp [*]; done), by repeat (first | exact Drawn0.refl _ | apply Drawn0.step)⟩
                  · rw [if_neg c9] at H
                    have c9b0 : decide ((rd l1 x13_1) < 0) = false := decide_eq_false c9
                    clear c9
                    have H' := Aside0.mk H
                    clear H
                    have p287 : 0 ≤ (x13_1 : Int) := of_decide_eq_true (by first | (with_reducible assumption) | assumption)
                    have q287 : x13_1 < (l0.length : Int) := of_decide_eq_true (by first | (with_reducible assumption) | assumption)
                    obtain ⟨ad287, e287, hx287_0⟩ := Kd.at_int HR0.out x13_1 p287 q287
                    cases e287
                    replace p287 := eq_true p287
                    replace q287 := eq_true q287
                    have p288 : 0 ≤ (x13_1 : Int) := of_decide_eq_true (by first | (with_reducible assumption) | assumption)
                    have q288 : x13_1 < (l1.length : Int) := of_decide_eq_true (by first | (with_reducible assumption) | assumption)
                    obtain ⟨ad288, e288, hx288_0⟩ := Kd.at_int HR1.out x13_1 p288 q288
                    cases e288
                    replace p288 := eq_true p288
                    replace q288 := eq_true q288
                    go_wp2
                    go_roundg k1
                    case measure => have := HK1.out; omega
                    case rel => exact ⟨(wrap64 (x13_1 + 1)), (by first | rfl | (simp; done) | (simp [*]; done)), H', ⟨by have := HK1.out; omega⟩, by repeat (first | exact Drawn0.refl _ | apply Drawn0.step)⟩
                · rw [if_neg c8] at H
                  exact absurd H (by simp)
            · rw [if_neg c6] at H
              exact absurd H (by simp)
          · rw [if_neg c5] at H
            exact absurd H (by simp)
        · rw [if_neg c4] at H
          have c4b0 : decide (x13_1 < (l0.length : Int)) = false := decide_eq_false c4
          clear c4
          obtain rfl := Option.some.inj H
          go_wp2
          go_ret
          exact ⟨by first | rfl | (simp; done) | (simp [*]; done), by repeat (first | exact Drawn0.refl _ | apply Drawn0.step)⟩
  · rw [if_neg c3] at H
    have c3b0 : ((l0.length : Int) == (l1.length : Int)) = false := beq_eq_false_iff_ne.mpr c3
    have c3b1 : ((l0.length : Int) != (l1.length : Int)) = true := bne_iff_ne.mpr c3
    have c3b2 : (l0.length == l1.length) = false := by first | simpa using c3 | (simp at c3 ⊢; omega)
    obtain rfl := Option.some.inj H
    go_enter Try.func55, Try.ntmps55
    go_wp2
    go_ret
    exact ⟨by first | rfl | (simp; done) | (simp [*]; done), by repeat (first | exact Drawn0.refl _ | apply Drawn0.step)⟩

/-! ### partsyncref21_Compare: function 37 -/
mutual
def partsyncref21_Compare.l0 : Nat → List Int → List Int → Bool → Bool → Int → Int → Option (Int × Int)
  | 0, _, _, _, _, _, _ => none
  | k + 1, x0, x1, x7, x8, x17, x18 => if x18 < x17 then (if x7 = true then (if x8 = true then (partsyncref21_Compare.l0 k x0 x1 true true x17 (wrap64 (x18 + 1))) else (if 0 ≤ x18 then (if x18 < (x0.length : Int) then (if x18 < (x1.length : Int) then (partsyncref21_Compare.l0 k x0 x1 true (decide ((rd x0 x18) > (rd x1 x18))) x17 (wrap64 (x18 + 1))) else (none)) else (none)) else (none))) else (if 0 ≤ x18 then (if x18 < (x0.length : Int) then (if x18 < (x1.length : Int) then (if x8 = true then (partsyncref21_Compare.l0 k x0 x1 (decide ((rd x0 x18) < (rd x1 x18))) true x17 (wrap64 (x18 + 1))) else (partsyncref21_Compare.l0 k x0 x1 (decide ((rd x0 x18) < (rd x1 x18))) (decide ((rd x0 x18) > (rd x1 x18))) x17 (wrap64 (x18 + 1)))) else (none)) else (none)) else (none))) else (if x7 = true then (partsyncref21_Compare.j1 k x7 x8 x8) else (partsyncref21_Compare.j1 k x7 x8 false))
def partsyncref21_Compare.j1 : Nat → Bool → Bool → Bool → Option (Int × Int)
  | 0, _, _, _ => none
  | k + 1, x7, x8, x46 => if x46 = true then (some (3, 0)) else (if x7 = true then (some (1, 0)) else (if x8 = true then (some (2, 0)) else (some (0, 0))))
end
def partsyncref21_Compare.f (k : Nat) (l0 : List Int) (l1 : List Int) : Option (Int × Int) := (partsyncref21_pair.f k l0 l1).bind fun t289 => (if t289 = 0 then (partsyncref21_Compare.l0 k l0 l1 false false (l0.length : Int) 0) else (some (0, t289)))
theorem partsyncref21_Compare.mono_l : ∀ k, (∀ y0 y1 y2 y3 y4 y5, LeO (partsyncref21_Compare.l0 k y0 y1 y2 y3 y4 y5) (partsyncref21_Compare.l0 (k + 1) y0 y1 y2 y3 y4 y5)) ∧ (∀ y0 y1 y2, LeO (partsyncref21_Compare.j1 k y0 y1 y2) (partsyncref21_Compare.j1 (k + 1) y0 y1 y2))
  | 0 => ⟨fun _ _ _ _ _ _ r h => by simp [partsyncref21_Compare.l0] at h, fun _ _ _ r h => by simp [partsyncref21_Compare.j1] at h⟩
  | k + 1 => by
    obtain ⟨ih0, ih1⟩ := partsyncref21_Compare.mono_l k
    refine ⟨?_, ?_⟩
    · intro y0 y1 y2 y3 y4 y5
      unfold partsyncref21_Compare.l0
      repeat' first
      | (with_reducible exact ih0 _ _ _ _ _ _)
      | (with_reducible exact ih1 _ _ _)
      | (with_reducible exact partsyncref21_pair.mono _ _ _)
      | (with_reducible exact LeO.refl _)
      | (with_reducible exact LeO.none _)
      | (with_reducible refine LeO.ite ?_ ?_)
      | (with_reducible refine LeO.bind ?_ (fun _ => ?_))
      | exact ih0 _ _ _ _ _ _
      | exact ih1 _ _ _
      | exact partsyncref21_pair.mono _ _ _
      | exact LeO.none _
      | refine LeO.ite ?_ ?_
      | refine LeO.bind ?_ (fun _ => ?_)
    · intro y0 y1 y2
      unfold partsyncref21_Compare.j1
      repeat' first
      | (with_reducible exact ih0 _ _ _ _ _ _)
      | (with_reducible exact ih1 _ _ _)
      | (with_reducible exact partsyncref21_pair.mono _ _ _)
      | (with_reducible exact LeO.refl _)
      | (with_reducible exact LeO.none _)
      | (with_reducible refine LeO.ite ?_ ?_)
      | (with_reducible refine LeO.bind ?_ (fun _ => ?_))
      | exact ih0 _ _ _ _ _ _
      | exact ih1 _ _ _
      | exact partsyncref21_pair.mono _ _ _
      | exact LeO.none _
      | refine LeO.ite ?_ ?_
      | refine LeO.bind ?_ (fun _ => ?_)
theorem partsyncref21_Compare.mono : ∀ a0 a1 k, LeO (partsyncref21_Compare.f k a0 a1) (partsyncref21_Compare.f (k + 1) a0 a1) := by
  intro a0 a1 k
  obtain ⟨ih0, ih1⟩ := partsyncref21_Compare.mono_l k
  unfold partsyncref21_Compare.f
  repeat' first
      | (with_reducible exact ih0 _ _ _ _ _ _)
      | (with_reducible exact ih1 _ _ _)
      | (with_reducible exact partsyncref21_pair.mono _ _ _)
      | (with_reducible exact LeO.refl _)
      | (with_reducible exact LeO.none _)
      | (with_reducible refine LeO.ite ?_ ?_)
      | (with_reducible refine LeO.bind ?_ (fun _ => ?_))
      | exact ih0 _ _ _ _ _ _
      | exact ih1 _ _ _
      | exact partsyncref21_pair.mono _ _ _
      | exact LeO.none _
      | refine LeO.ite ?_ ?_
      | refine LeO.bind ?_ (fun _ => ?_)
set_option maxHeartbeats 8000000 in
set_option maxRecDepth 100000 in
theorem partsyncref21_Compare.calls (k : Nat) (A0 : Option Addr) (c0 : Nat) (l0 : List Int) (A1 : Option Addr) (c1 : Nat) (l1 : List Int) (r1 : Int) (r2 : Int) (w : World) (hr0 : Kd.C (Kd.int .i64) w A0 l0.length l0) (hc0 : l0.length ≤ c0) (hr1 : Kd.C (Kd.int .i64) w A1 l1.length l1) (hc1 : l1.length ≤ c1) (h : partsyncref21_Compare.f k l0 l1 = some (r1, r2)) :
    Calls Try.prog 37 #[.slice A0 l0.length c0, .slice A1 l1.length c1] w fun e w' => e = .returned (.tuple #[.int .i64 r1, .int .i64 r2]) ∧ Drawn0 w w' := by
  have HR0 := Aside0.mk hr0
  have HC0 := Aside0.mk hc0
  clear hr0 hc0
  have HR1 := Aside0.mk hr1
  have HC1 := Aside0.mk hc1
  clear hr1 hc1
  have H : ((partsyncref21_pair.f k l0 l1).bind fun t289 => (if t289 = 0 then (partsyncref21_Compare.l0 k l0 l1 false false (l0.length : Int) 0) else (some (0, t289)))) = some (r1, r2) := h
  clear h
  replace H := Option.bind_eq_some_iff.mp H
  obtain ⟨t289, A30, H⟩ := H
  replace H : (if t289 = 0 then (partsyncref21_Compare.l0 k l0 l1 false false (l0.length : Int) 0) else (some (0, t289))) = some (r1, r2) := H
  have A3 := Aside0.mk A30
  clear A30
  by_cases c4 : t289 = 0
  · rw [if_pos c4] at H
    have c4b0 : (t289 == 0) = true := beq_iff_eq.mpr c4
    have c4b1 : (t289 != 0) = false := bne_eq_false_iff_eq.mpr c4
    clear c4
    have H' := Aside0.mk H
    clear H
    go_enter Try.func37, Try.ntmps37
    go_wp2_with (first | (go_at_call 55; (with_reducible refine (partsyncref21_pair.calls k _ _ l0 _ _ l1 t289 _ ?side1 ?side2 ?side3 ?side4 A3.out).mono ?_); (case side1 => repeat (first | exact HR0.out | (with_reducible refine Kd.C_alloc ?_ _) | (with_reducible refine Kd.C_drewN ?_ _) | (with_reducible refine Kd.C_drew ?_))); (case side2 => exact HC0.out); (case side3 => repeat (first | exact HR1.out | (with_reducible refine Kd.C_alloc ?_ _) | (with_reducible refine Kd.C_drewN ?_ _) | (with_reducible refine Kd.C_drew ?_))); (case side4 => exact HC1.out); rintro e w' ⟨rfl, ⟨nd, rfl⟩⟩; (try first | exact ⟨rfl, _, World.drewN_drewN _ _ _⟩ | exact ⟨rfl, _, Eq.trans (World.drewN_drewN _ _ _) (congrArg (World.drewN _) (Nat.add_assoc _ _ _))⟩)))
    repeat (go_quiet (first | (go_at_call 55; (with_reducible refine (partsyncref21_pair.calls k _ _ l0 _ _ l1 t289 _ ?side1 ?side2 ?side3 ?side4 A3.out).mono ?_); (case side1 => repeat (first | exact HR0.out | (with_reducible refine Kd.C_alloc ?_ _) | (with_reducible refine Kd.C_drewN ?_ _) | (with_reducible refine Kd.C_drew ?_))); (case side2 => exact HC0.out); (case side3 => repeat (first | exact HR1.out | (with_reducible refine Kd.C_alloc ?_ _) | (with_reducible refine Kd.C_drewN ?_ _) | (with_reducible refine Kd.C_drew ?_))); (case side4 => exact HC1.out); rintro e w' ⟨rfl, ⟨nd, rfl⟩⟩; (try first | exact ⟨rfl, _, World.drewN_drewN _ _ _⟩ | exact ⟨rfl, _, Eq.trans (World.drewN_drewN _ _ _) (congrArg (World.drewN _) (Nat.add_assoc _ _ _))⟩))); try go_wp2_with (first | (go_at_call 55; (with_reducible refine (partsyncref21_pair.calls k _ _ l0 _ _ l1 t289 _ ?side1 ?side2 ?side3 ?side4 A3.out).mono ?_); (case side1 => repeat (first | exact HR0.out | (with_reducible refine Kd.C_alloc ?_ _) | (with_reducible refine Kd.C_drewN ?_ _) | (with_reducible refine Kd.C_drew ?_))); (case side2 => exact HC0.out); (case side3 => repeat (first | exact HR1.out | (with_reducible refine Kd.C_alloc ?_ _) | (with_reducible refine Kd.C_drewN ?_ _) | (with_reducible refine Kd.C_drew ?_))); (case side4 => exact HC1.out); rintro e w' ⟨rfl, ⟨nd, rfl⟩⟩; (try first | exact ⟨rfl, _, World.drewN_drewN _ _ _⟩ | exact ⟨rfl, _, Eq.trans (World.drewN_drewN _ _ _) (congrArg (World.drewN _) (Nat.add_assoc _ _ _))⟩))))
    go_loopg [7, 8, 18] k (fun kq v7 v8 v18 w' => ∃ (x7_1 : Bool) (x8_1 : Bool) (x18_1 : Int), v7 = .bool x7_1 ∧ v8 = .bool x8_1 ∧ v18 = .int .i64 x18_1 ∧ Aside0 (partsyncref21_Compare.l0 kq l0 l1 x7_1 x8_1 (l0.length : Int) x18_1 = some (r1, r2)) ∧ Aside0 (kq ≤ k) ∧ Drawn0 w w')
    case atStart => exact ⟨(false), (false), (0), (by first | rfl | (simp; done) | (simp [*]; done)), (by first | rfl | (simp; done) | (simp [*]; done)), (by first | rfl | (simp; done) | (simp [*]; done)), H', ⟨Nat.le_refl _⟩, by repeat (first | exact Drawn0.refl _ | apply Drawn0.step)⟩
    case round =>
      clear H'
      try clear c1
      try clear p2
      try clear c3
      try clear c4
      try clear c4b0
      try clear c4b1
      obtain ⟨x7_1, x8_1, x18_1, rfl, rfl, rfl, HA, HK1, ⟨m1, rfl⟩⟩ := hrel
      cases gk with
      | zero => exact absurd HA.out (by simp [partsyncref21_Compare.l0])
      | succ k1 =>
        have H := HA.out
        clear HA
        simp only [partsyncref21_Compare.l0] at H
        by_cases c5 : x18_1 < (l0.length : Int)
        · rw [if_pos c5] at H
          have c5b0 : decide (x18_1 < (l0.length : Int)) = true := decide_eq_true c5
          clear c5
          by_cases c6 : x7_1 = true
          · subst c6
            have H1 : (if x8_1 = true then (partsyncref21_Compare.l0 k1 l0 l1 true true (l0.length : Int) (wrap64 (x18_1 + 1))) else (if 0 ≤ x18_1 then (if x18_1 < (l0.length : Int) then (if x18_1 < (l1.length : Int) then (partsyncref21_Compare.l0 k1 l0 l1 true (decide ((rd l0 x18_1) > (rd l1 x18_1))) (l0.length : Int) (wrap64 (x18_1 + 1))) else (none)) else (none)) else (none))) = some (r1, r2) := by rw [if_pos rfl] at H; exact H
            clear H
            have H := H1
            clear H1
            by_cases c7 : x8_1 = true
            · subst c7
              have H1 : (partsyncref21_Compare.l0 k1 l0 l1 true true (l0.length : Int) (wrap64 (x18_1 + 1))) = some (r1, r2) := by rw [if_pos rfl] at H; exact H
              clear H
              have H := H1
              clear H1
              have H' := Aside0.mk H
              clear H
              go_wp2
              repeat (go_quiet (fail); try go_wp2)
              go_roundg k1
              case measure => have := HK1.out; omega
              case rel => exact ⟨(true), (true), (wrap64 (x18_1 + 1)), (by first | rfl | (simp; done) | (simp [*]; done)), (by first | rfl | (simp; done) | (simp [*]; done)), (by first | rfl | (simp; done) | (simp [*]; done)), H', ⟨by have := HK1.out; omega⟩, by repeat (first | exact Drawn0.refl _ | apply Drawn0.step)⟩
            · replace c7 := Bool.eq_false_iff.mpr c7
              subst c7
              have H1 : (if 0 ≤ x18_1 then (if x18_1 < (l0.length : Int) then (if x18_1 < (l1.length : Int) then (partsyncref21_Compare.l0 k1 l0 l1 true (decide ((rd l0 x18_1) > (rd l1 x18_1))) (l0.length : Int) (wrap64 (x18_1 + 1))) else (none)) else (none)) else (none)) = some (r1, r2) := by rw [if_neg (show ¬ (false = true) by decide)] at H; exact H
              clear H
              have H := H1
              clear H1
              by_cases c8 : 0 ≤ x18_1
              · rw [if_pos c8] at H
                have c8b0 : decide (0 ≤ x18_1) = true := decide_eq_true c8
                clear c8
                by_cases c9 : x18_1 < (l0.length : Int)
                · rw [if_pos c9] at H
                  have c9b0 : decide (x18_1 < (l0.length : Int)) = true := decide_eq_true c9
                  clear c9
                  by_cases c10 : x18_1 < (l1.length : Int)
                  · rw [if_pos c10] at H
                    have c10b0 : decide (x18_1 < (l1.length : Int)) = true := decide_eq_true c10
                    clear c10
                    have H' := Aside0.mk H
                    clear H
                    have p290 : 0 ≤ (x18_1 : Int) := of_decide_eq_true (by first | (with_reducible assumption) | assumption)
                    have q290 : x18_1 < (l0.length : Int) := of_decide_eq_true (by first | (with_reducible assumption) | assumption)
                    obtain ⟨ad290, e290, hx290_0⟩ := Kd.at_int HR0.out x18_1 p290 q290
                    cases e290
                    replace p290 := eq_true p290
                    replace q290 := eq_true q290
                    have p291 : 0 ≤ (x18_1 : Int) := of_decide_eq_true (by first | (with_reducible assumption) | assumption)
                    have q291 : x18_1 < (l1.length : Int) := of_decide_eq_true (by first | (with_reducible assumption) | assumption)
                    obtain ⟨ad291, e291, hx291_0⟩ := Kd.at_int HR1.out x18_1 p291 q291
                    cases e291
                    replace p291 := eq_true p291
                    replace q291 := eq_true q291
                    go_wp2
                    repeat (go_quiet (fail); try go_wp2)
                    go_roundg k1
                    case measure => have := HK1.out; omega
                    case rel => exact ⟨(true), (decide ((rd l0 x18_1) > (rd l1 x18_1))), (wrap64 (x18_1 + 1)), (by first | rfl | (simp; done) | (simp [*]; done)), (by first | rfl | (simp; done) | (simp [*]; done)), (by first | rfl | (simp; done) | (simp [*]; done)), H', ⟨by have := HK1.out; omega⟩, by repeat (first | exact Drawn0.refl _ | apply Drawn0.step)⟩
                  · rw [if_neg c10] at H
                    exact absurd H (by simp)
                · rw [if_neg c9] at H
                  exact absurd H (by simp)
              · rw [if_neg c8] at H
                exact absurd H (by simp)
          · replace c6 := Bool.eq_false_iff.mpr c6
            subst c6
            have H1 : (if 0 ≤ x18_1 then (if x18_1 < (l0.length : Int) then (if x18_1 < (l1.length : Int) then (if x8_1 = true then (partsyncref21_Compare.l0 k1 l0 l1 (decide ((rd l0 x18_1) < (rd l1 x18_1))) true (l0.length : Int) (wrap64 (x18_1 + 1))) else (partsyncref21_Compare.l0 k1 l0 l1 (decide ((rd l0 x18_1) < (rd l1 x18_1))) (decide ((rd l0 x18_1) > (rd l1 x18_1))) (l0.length : Int) (wrap64 (x18_1 + 1)))) else (none)) else (none)) else (none)) = some (r1, r2) := by rw [if_neg (show ¬ (false = true) by decide)] at H; exact H
            clear H
            have H := H1
            clear H1
            by_cases c11 : 0 ≤ x18_1
            · rw [if_pos c11] at H
              have c11b0 : decide (0 ≤ x18_1) = true := decide_eq_true c11
              clear c11
              by_cases c12 : x18_1 < (l0.length : Int)
              · rw [if_pos c12] at H
                have c12b0 : decide (x18_1 < (l0.length : Int)) = true := decide_eq_true c12
                clear c12
                by_cases c13 : x18_1 < (l1.length : Int)
                · rw [if_pos c13] at H
                  have c13b0 : decide (x18_1 < (l1.length : Int)) = true := decide_eq_true c13
                  clear c13
                  by_cases c14 : x8_1 = true
                  · subst c14
                    have H1 : (partsyncref21_Compare.l0 k1 l0 l1 (decide ((rd l0 x18_1) < (rd l1 x18_1))) true (l0.length : Int) (wrap64 (x18_1 + 1))) = some (r1, r2) := by rw [if_pos rfl] at H; exact H
                    clear H
                    have H := H1
                    clear H1
                    have H' := Aside0.mk H
                    clear H
                    have p292 : 0 ≤ (x18_1 : Int) := of_decide_eq_true (by first | (with_reducible assumption) | assumption)
                    have q292 : x18_1 < (l0.length : Int) := of_decide_eq_true (by first | (with_reducible assumption) | assumption)
                    obtain ⟨ad292, e292, hx292_0⟩ := Kd.at_int HR0.out x18_1 p292 q292
                    cases e292
                    replace p292 := eq_true p292
                    replace q292 := eq_true q292
                    have p293 : 0 ≤ (x18_1 : Int) := of_decide_eq_true (by first | (with_reducible assumption) | assumption)
                    have q293 : x18_1 < (l1.length : Int) := of_decide_eq_true (by first | (with_reducible assumption) | assumption)
                    obtain ⟨ad293, e293, hx293_0⟩ := Kd.at_int HR1.out x18_1 p293 q293
                    cases e293
                    replace p293 := eq_true p293
                    replace q293 := eq_true q293
                    go_wp2
                    repeat (go_quiet (fail); try go_wp2)
                    go_roundg k1
                    case measure => have := HK1.out; omega
                    case rel => exact ⟨(decide ((rd l0 x18_1) < (rd l1 x18_1))), (true), (wrap64 (x18_1 + 1)), (by first | rfl | (simp; done) | (simp [*]; done)), (by first | rfl | (simp; done) | (simp [*]; done)), (by first | rfl | (simp; done) | (simp [*]; done)), H', ⟨by have := HK1.out; omega⟩, by repeat (first | exact Drawn0.refl _ | apply Drawn0.step)⟩
                  · replace c14 := Bool.eq_false_iff.mpr c14
                    subst c14
                    have H1 : (partsyncref21_Compare.l0 k1 l0 l1 (decide ((rd l0 x18_1) < (rd l1 x18_1))) (decide ((rd l0 x18_1) > (rd l1 x18_1))) (l0.length : Int) (wrap64 (x18_1 + 1))) = some (r1, r2) := by rw [if_neg (show ¬ (false = true) by decide)] at H; exact H
                    clear H
                    have H := H1
                    clear H1
                    have H' := Aside0.mk H
                    clear H
                    have p292 : 0 ≤ (x18_1 : Int) := of_decide_eq_true (by first | (with_reducible assumption) | assumption)
                    have q292 : x18_1 < (l0.length : Int) := of_decide_eq_true (by first | (with_reducible assumption) | assumption)
                    obtain ⟨ad292, e292, hx292_0⟩ := Kd.at_int HR0.out x18_1 p292 q292
                    cases e292
                    replace p292 := eq_true p292
                    replace q292 := eq_true q292
                    have p293 : 0 ≤ (x18_1 : Int) := of_decide_eq_true (by first | (with_reducible assumption) | assumption)
                    have q293 : x18_1 < (l1.length : Int) := of_decide_eq_true (by first | (with_reducible assumption) | assumption)
                    obtain ⟨ad293, e293, hx293_0⟩ := Kd.at_int HR1.out x18_1 p293 q293
                    cases e293
                    replace p293 := eq_true p293
                    replace q293 := eq_true q293
                    have p294 : 0 ≤ (x18_1 : Int) := of_decide_eq_true (by first | (with_reducible assumption) | assumption)
                    have q294 : x18_1 < (l0.length : Int) := of_decide_eq_true (by first | (with_reducible assumption) | assumption)
                    obtain ⟨ad294, e294, hx294_0⟩ := Kd.at_int HR0.out x18_1 p294 q294
                    obtain rfl : ad292 = ad294 := (by injection e294)
                    replace p294 := eq_true p294
                    replace q294 := eq_true q294
                    have p295 : 0 ≤ (x18_1 : Int) := of_decide_eq_true (by first | (with_reducible assumption) | assumption)
                    have q295 : x18_1 < (l1.length : Int) := of_decide_eq_true (by first | (with_reducible assumption) | assumption)
                    obtain ⟨ad295, e295, hx295_0⟩ := Kd.at_int HR1.out x18_1 p295 q295
                    obtain rfl : ad293 = ad295 := (by injection e295)
                    replace p295 := eq_true p295
                    replace q295 := eq_true q295
                    go_wp2
                    repeat (go_quiet (fail); try go_wp2)
                    go_roundg k1
                    case measure => have := HK1.out; omega
                    case rel => exact ⟨(decide ((rd l0 x18_1) < (rd l1 x18_1))), (decide ((rd l0 x18_1) > (rd l1 x18_1))), (wrap64 (x18_1 + 1)), (by first | rfl | (simp; done) | (simp [*]; done)), (by first | rfl | (simp; done) | (simp [*]; done)), (by first | rfl | (simp; done) | (simp [*]; done)), H', ⟨by have := HK1.out; omega⟩, by repeat (first | exact Drawn0.refl _ | apply Drawn0.step)⟩
                · rw [if_neg c13] at H
                  exact absurd H (by simp)
              · rw [if_neg c12] at H
                exact absurd H (by simp)
            · rw [if_neg c11] at H
              exact absurd H (by simp)
        · rw [if_neg c5] at H
          have c5b0 : decide (x18_1 < (l0.length : Int)) = false := decide_eq_false c5
          clear c5
          have HC15 := Aside0.mk H
          clear H
          go_upto_region 11 with (fail)
          repeat (go_quiet (fail); go_upto_region 11 with (fail))
          go_cut [46] (fun v46 wc => ∃ (kq : Nat) (x46_14 : Bool), v46 = .bool x46_14 ∧ Aside0 (partsyncref21_Compare.j1 kq x7_1 x8_1 x46_14 = some (r1, r2)) ∧ Aside0 (kq ≤ k1) ∧ Drawn0 w wc)
          case first =>
            have H := HC15.out
            clear HC15
            by_cases c16 : x7_1 = true
            · subst c16
              have H1 : (partsyncref21_Compare.j1 k1 true x8_1 x8_1) = some (r1, r2) := by rw [if_pos rfl] at H; exact H
              clear H
              have H := H1
              clear H1
              have H' := Aside0.mk H
              clear H
              go_wp2
              repeat (go_quiet (fail); try go_wp2)
              go_meet
              case rel => exact ⟨_, (x8_1), (by first | rfl | (simp; done) | (simp [*]; done)), H', ⟨by have := HK1.out; first | omega | exact Nat.le_refl _⟩, by repeat (first | exact Drawn0.refl _ | apply Drawn0.step)⟩
            · replace c16 := Bool.eq_false_iff.mpr c16
              subst c16
              have H1 : (partsyncref21_Compare.j1 k1 false x8_1 false) = some (r1, r2) := by rw [if_neg (show ¬ (false = true) by decide)] at H; exact H
              clear H
              have H := H1
              clear H1
              have H' := Aside0.mk H
              clear H
              go_wp2
              repeat (go_quiet (fail); try go_wp2)
              go_meet
              case rel => exact ⟨_, (false), (by first | rfl | (simp; done) | (simp [*]; done)), H', ⟨by have := HK1.out; first | omega | exact Nat.le_refl _⟩, by repeat (first | exact Drawn0.refl _ | apply Drawn0.step)⟩
          case rest =>
            clear HC15
            try clear c1
            try clear p2
            try clear q2
            try clear hx2
            try clear c3
            try clear c4
            try clear c4b0
            try clear c4b1
            try clear c5
            try clear c5b0
            try clear c6
            try clear p6
            try clear c7
            try clear c8
            try clear c8b0
            try clear c9
            try clear c9b0
            try clear c10
            try clear c10b0
            try clear c11
            try clear c11b0
            try clear c12
            try clear c12b0
            try clear c13
            try clear c13b0
            try clear c14
            try clear c16
            try clear hx290_0
            try clear hx291_0
            try clear hx292_0
            try clear hx293_0
            try clear hx294_0
            try clear hx295_0
            try clear p2
            try clear p290
            try clear p291
            try clear p292
            try clear p293
            try clear p294
            try clear p295
            try clear q290
            try clear q291
            try clear q292
            try clear q293
            try clear q294
            try clear q295
            obtain ⟨kq, x46_14, rfl, HA, HJ14, ⟨mc14, rfl⟩⟩ := hcut
            cases kq with
            | zero => exact absurd HA.out (by simp [partsyncref21_Compare.j1])
            | succ kj14 =>
              have H := HA.out
              clear HA
              simp only [partsyncref21_Compare.j1] at H
              by_cases c17 : x46_14 = true
              · subst c17
                have H1 : (some (3, 0)) = some (r1, r2) := by rw [if_pos rfl] at H; exact H
                clear H
                have H := H1
                clear H1
                simp only [Option.some.injEq, Prod.mk.injEq] at H
                obtain ⟨rfl, rfl⟩ := H
                go_wp2
                repeat (go_quiet (fail); try go_wp2)
                go_ret2
                exact ⟨by first | rfl | (simp; done) | (simp [*]; done), by repeat (first | exact Drawn0.refl _ | apply Drawn0.step)⟩
              · replace c17 := Bool.eq_false_iff.mpr c17
                subst c17
                have H1 : (if x7_1 = true then (some (1, 0)) else (if x8_1 = true then (some (2, 0)) else (some (0, 0)))) = some (r1, r2) := by rw [if_neg (show ¬ (false = true) by decide)] at H; exact H
                clear H
                have H := H1
                clear H1
                by_cases c18 : x7_1 = true
                · subst c18
                  have H1 : (some (1, 0)) = some (r1, r2) := by rw [if_pos rfl] at H; exact H
                  clear H
                  have H := H1
                  clear H1
                  simp only [Option.some.injEq, Prod.mk.injEq] at H
                  obtain ⟨rfl, rfl⟩ := H
                  go_wp2
                  repeat (go_quiet (fail); try go_wp2)
                  go_ret2
                  exact ⟨by first | rfl | (simp; done) | (simp [*]; done), by repeat (first | exact Drawn0.refl _ | apply Drawn0.step)⟩
                · replace c18 := Bool.eq_false_iff.mpr c18
                  subst c18
                  have H1 : (if x8_1 = true then (some (2, 0)) else (some (0, 0))) = some (r1, r2) := by rw [if_neg (show ¬ (false = true) by decide)] at H; exact H
                  clear H
                  have H := H1
                  clear H1
                  by_cases c19 : x8_1 = true
                  · subst c19
                    have H1 : (some (2, 0)) = some (r1, r2) := by rw [if_pos rfl] at H; exact H
                    clear H
                    have H := H1
                    clear H1
                    simp only [Option.some.injEq, Prod.mk.injEq] at H
                    obtain ⟨rfl, rfl⟩ := H
                    go_wp2
                    repeat (go_quiet (fail); try go_wp2)
                    go_ret2
                    exact ⟨by first | rfl | (simp; done) | (simp [*]; done), by repeat (first | exact Drawn0.refl _ | apply Drawn0.step)⟩
                  · replace c19 := Bool.eq_false_iff.mpr c19
                    subst c19
                    have H1 : (some (0, 0)) = some (r1, r2) := by rw [if_neg (show ¬ (false = true) by decide)] at H; exact H
                    clear H
                    have H := H1
                    clear H1
                    simp only [Option.some.injEq, Prod.mk.injEq] at H
                    obtain ⟨rfl, rfl⟩ := H
                    go_wp2
                    repeat (go_quiet (fail); try go_wp2)
                    go_ret2
                    exact ⟨by first | rfl | (simp; done) | (simp [*]; done), by repeat (first | exact Drawn0.refl _ | apply Drawn0.step)⟩
  · rw [if_neg c4] at H
    have c4b0 : (t289 == 0) = false := beq_eq_false_iff_ne.mpr c4
    have c4b1 : (t289 != 0) = true := bne_iff_ne.mpr c4
    simp only [Option.some.injEq, Prod.mk.injEq] at H
    obtain ⟨rfl, rfl⟩ := H
    go_enter Try.func37, Try.ntmps37
    go_wp2_with (first | (go_at_call 55; (with_reducible refine (partsyncref21_pair.calls k _ _ l0 _ _ l1 t289 _ ?side1 ?side2 ?side3 ?side4 A3.out).mono ?_); (case side1 => repeat (first | exact HR0.out | (with_reducible refine Kd.C_alloc ?_ _) | (with_reducible refine Kd.C_drewN ?_ _) | (with_reducible refine Kd.C_drew ?_))); (case side2 => exact HC0.out); (case side3 => repeat (first | exact HR1.out | (with_reducible refine Kd.C_alloc ?_ _) | (with_reducible refine Kd.C_drewN ?_ _) | (with_reducible refine Kd.C_drew ?_))); (case side4 => exact HC1.out); rintro e w' ⟨rfl, ⟨nd, rfl⟩⟩; (try first | exact ⟨rfl, _, World.drewN_drewN _ _ _⟩ | exact ⟨rfl, _, Eq.trans (World.drewN_drewN _ _ _) (congrArg (World.drewN _) (Nat.add_assoc _ _ _))⟩)))
    repeat (go_quiet (first | (go_at_call 55; (with_reducible refine (partsyncref21_pair.calls k _ _ l0 _ _ l1 t289 _ ?side1 ?side2 ?side3 ?side4 A3.out).mono ?_); (case side1 => repeat (first | exact HR0.out | (with_reducible refine Kd.C_alloc ?_ _) | (with_reducible refine Kd.C_drewN ?_ _) | (with_reducible refine Kd.C_drew ?_))); (case side2 => exact HC0.out); (case side3 => repeat (first | exact HR1.out | (with_reducible refine Kd.C_alloc ?_ _) | (with_reducible refine Kd.C_drewN ?_ _) | (with_reducible refine Kd.C_drew ?_))); (case side4 => exact HC1.out); rintro e w' ⟨rfl, ⟨nd, rfl⟩⟩; (try first | exact ⟨rfl, _, World.drewN_drewN _ _ _⟩ | exact ⟨rfl, _, Eq.trans (World.drewN_drewN _ _ _) (congrArg (World.drewN _) (Nat.add_assoc _ _ _))⟩))); try go_wp2_with (first | (go_at_call 55; (with_reducible refine (partsyncref21_pair.calls k _ _ l0 _ _ l1 t289 _ ?side1 ?side2 ?side3 ?side4 A3.out).mono ?_); (case side1 => repeat (first | exact HR0.out | (with_reducible refine Kd.C_alloc ?_ _) | (with_reducible refine Kd.C_drewN ?_ _) | (with_reducible refine Kd.C_drew ?_))); (case side2 => exact HC0.out); (case side3 => repeat (first | exact HR1.out | (with_reducible refine Kd.C_alloc ?_ _) | (with_reducible refine Kd.C_drewN ?_ _) | (with_reducible refine Kd.C_drew ?_))); (case side4 => exact HC1.out); rintro e w' ⟨rfl, ⟨nd, rfl⟩⟩; (try first | exact ⟨rfl, _, World.drewN_drewN _ _ _⟩ | exact ⟨rfl, _, Eq.trans (World.drewN_drewN _ _ _) (congrArg (World.drewN _) (Nat.add_assoc _ _ _))⟩))))
    go_ret2
    exact ⟨by first | rfl | (simp; done) | (simp [*]; done), by repeat (first | exact Drawn0.refl _ | apply Drawn0.step)⟩

/-! ### partsyncref21_place: function 50 -/
def partsyncref21_place.l0 : Nat → List (List (S50)) → List Int → Int → Int → Option (Int)
  | 0, _, _, _, _ => none
  | k + 1, x1, x21, x22, x23 => if x23 < x22 then (if 0 ≤ x23 then (if x23 < (x21.length : Int) then (if (rd x21 x23) < 0 then (some 1) else (if x23 < (x1.length : Int) then (if (rd x21 x23) > ((rd_L4 x1 x23).length : Int) then (some 1) else (partsyncref21_place.l0 k x1 x21 x22 (wrap64 (x23 + 1)))) else (none))) else (none)) else (none)) else (some 0)
def partsyncref21_place.f (k : Nat) (a0 : Int) (l1 : List (List (S50))) (l2 : List Int) : Option (Int) := (partsyncref21_Check.f k a0 l1).bind fun t296 => (if t296 = 0 then (if (l2.length : Int) = (l1.length : Int) then (partsyncref21_place.l0 k l1 l2 (l2.length : Int) 0) else (some 1)) else (some t296))
theorem partsyncref21_place.mono_l : ∀ k, (∀ y0 y1 y2 y3, LeO (partsyncref21_place.l0 k y0 y1 y2 y3) (partsyncref21_place.l0 (k + 1) y0 y1 y2 y3))
  | 0 => fun _ _ _ _ r h => by simp [partsyncref21_place.l0] at h
  | k + 1 => by
    have ih0 := partsyncref21_place.mono_l k
    · intro y0 y1 y2 y3
      unfold partsyncref21_place.l0
      repeat' first
      | (with_reducible exact ih0 _ _ _ _)
      | (with_reducible exact partsyncref21_Check.mono _ _ _)
      | (with_reducible exact LeO.refl _)
      | (with_reducible exact LeO.none _)
      | (with_reducible refine LeO.ite ?_ ?_)
      | (with_reducible refine LeO.bind ?_ (fun _ => ?_))
      | exact ih0 _ _ _ _
      | exact partsyncref21_Check.mono _ _ _
      | exact LeO.none _
      | refine LeO.ite ?_ ?_
      | refine LeO.bind ?_ (fun _ => ?_)
theorem partsyncref21_place.mono : ∀ a0 a1 a2 k, LeO (partsyncref21_place.f k a0 a1 a2) (partsyncref21_place.f (k + 1) a0 a1 a2) := by
  intro a0 a1 a2 k
  have ih0 := partsyncref21_place.mono_l k
  unfold partsyncref21_place.f
  repeat' first
      | (with_reducible exact ih0 _ _ _ _)
      | (with_reducible exact partsyncref21_Check.mono _ _ _)
      | (with_reducible exact LeO.refl _)
      | (with_reducible exact LeO.none _)
      | (with_reducible refine LeO.ite ?_ ?_)
      | (with_reducible refine LeO.bind ?_ (fun _ => ?_))
      | exact ih0 _ _ _ _
      | exact partsyncref21_Check.mono _ _ _
      | exact LeO.none _
      | refine LeO.ite ?_ ?_
      | refine LeO.bind ?_ (fun _ => ?_)
set_option maxHeartbeats 8000000 in
set_option maxRecDepth 100000 in
theorem partsyncref21_place.calls (k : Nat) (a0 : Int) (A1 : Option Addr) (c1 : Nat) (l1 : List (List (S50))) (A2 : Option Addr) (c2 : Nat) (l2 : List Int) (r : Int) (w : World) (hr1 : Kd.C (Kd.slice 50 k50) w A1 l1.length l1) (hc1 : l1.length ≤ c1) (hr2 : Kd.C (Kd.int .i64) w A2 l2.length l2) (hc2 : l2.length ≤ c2) (h : partsyncref21_place.f k a0 l1 l2 = some r) :
    Calls Try.prog 50 #[.int .i64 a0, .slice A1 l1.length c1, .slice A2 l2.length c2] w fun e w' => e = .returned (.int .i64 r) ∧ Below w.heap.size w w' := by
  have HR1 := Aside0.mk hr1
  have HC1 := Aside0.mk hc1
  clear hr1 hc1
  have HR2 := Aside0.mk hr2
  have HC2 := Aside0.mk hc2
  clear hr2 hc2
  have HB := Aside0.mk (Below.refl w.heap.size w)
  have H : ((partsyncref21_Check.f k a0 l1).bind fun t296 => (if t296 = 0 then (if (l2.length : Int) = (l1.length : Int) then (partsyncref21_place.l0 k l1 l2 (l2.length : Int) 0) else (some 1)) else (some t296))) = some r := h
  clear h
  replace H := Option.bind_eq_some_iff.mp H
  obtain ⟨t296, A40, H⟩ := H
  replace H : (if t296 = 0 then (if (l2.length : Int) = (l1.length : Int) then (partsyncref21_place.l0 k l1 l2 (l2.length : Int) 0) else (some 1)) else (some t296)) = some r := H
  have A4 := Aside0.mk A40
  clear A40
  by_cases c5 : t296 = 0
  · rw [if_pos c5] at H
    have c5b0 : (t296 == 0) = true := beq_iff_eq.mpr c5
    have c5b1 : (t296 != 0) = false := bne_eq_false_iff_eq.mpr c5
    clear c5
    by_cases c6 : (l2.length : Int) = (l1.length : Int)
    · rw [if_pos c6] at H
      have c6b0 : ((l2.length : Int) == (l1.length : Int)) = true := beq_iff_eq.mpr c6
      have c6b1 : ((l2.length : Int) != (l1.length : Int)) = false := bne_eq_false_iff_eq.mpr c6
      have c6b2 : (l2.length == l1.length) = true := by first | simpa using c6 | (simp at c6 ⊢; omega)
      clear c6
      have H' := Aside0.mk H
      clear H
      go_enter Try.func50, Try.ntmps50
      go_wp2_with (first | ((with_reducible refine gate_callee (f := 30) rfl ?_); refine goesL_ (some 12) rfl rfl Try.func30 (by kernel_rfl) rfl #[.int .i64 a0, .slice A1 l1.length c1] rfl (by (try simp only [List.map_toArray, List.map_cons, List.map_nil]); first | done | rfl | (simp only [List.length_drop, List.length_take]; rfl)) ?_; (with_reducible refine (partsyncref21_Check.calls k a0 _ _ l1 t296 _ ?side1 ?side2 A4.out).mono ?_); (case side1 => repeat (first | exact HR1.out | (with_reducible refine Kd.C_alloc ?_ _) | (with_reducible refine Kd.C_drewN ?_ _) | (with_reducible refine Kd.C_drew ?_))); (case side2 => exact HC1.out); rintro e w7 ⟨rfl, hb⟩; refine ⟨_, rfl, ?_⟩; have n0_ := Aside0.mk (below_step (by repeat (first | (with_reducible first | exact HB.out | apply below_alloc | apply pw_below_drewN | apply below_drew1) | exact HB.out)) hb); clear HB; have HB := n0_; clear n0_; (try clear hb); (try clear hb2); (try clear hk); (try clear hi)))
      go_loopg [23] k (fun kq v23 w' => ∃ (x23_1 : Int), v23 = .int .i64 x23_1 ∧ Aside0 (partsyncref21_place.l0 kq l1 l2 (l2.length : Int) x23_1 = some r) ∧ Aside0 (kq ≤ k) ∧ Aside0 (Below w.heap.size w w'))
      case atStart => exact ⟨(0), (by first | rfl | (simp; done) | (simp [*]; done)), H', ⟨Nat.le_refl _⟩, ⟨by repeat (first | (with_reducible first | exact HB.out | apply below_alloc | apply pw_below_drewN | apply below_drew1) | exact HB.out)⟩⟩
      case round =>
        clear H'
        try clear c1
        try clear c2
        try clear p2
        try clear c3
        try clear c5
        try clear c5b0
        try clear c5b1
        try clear c6
        try clear c6b0
        try clear c6b1
        try clear c6b2
        obtain ⟨x23_1, rfl, HA, HK1, HB⟩ := hrel
        cases gk with
        | zero => exact absurd HA.out (by simp [partsyncref21_place.l0])
        | succ k1 =>
          have H := HA.out
          clear HA
          simp only [partsyncref21_place.l0] at H
          by_cases c8 : x23_1 < (l2.length : Int)
          · rw [if_pos c8] at H
            have c8b0 : decide (x23_1 < (l2.length : Int)) = true := decide_eq_true c8
            clear c8
            by_cases c9 : 0 ≤ x23_1
            · rw [if_pos c9] at H
              have c9b0 : decide (0 ≤ x23_1) = true := decide_eq_true c9
              clear c9
              by_cases c10 : x23_1 < (l2.length : Int)
              · rw [if_pos c10] at H
                have c10b0 : decide (x23_1 < (l2.length : Int)) = true := decide_eq_true c10
                clear c10
                by_cases c11 : (rd l2 x23_1) < 0
                · rw [if_pos c11] at H
                  have c11b0 : decide ((rd l2 x23_1) < 0) = true := decide_eq_true c11
                  clear c11
                  obtain rfl := Option.some.inj H
                  have p297 : 0 ≤ (x23_1 : Int) := of_decide_eq_true (by first | (with_reducible assumption) | assumption)
                  have q297 : x23_1 < (l2.length : Int) := of_decide_eq_true (by first | (with_reducible assumption) | assumption)
                  obtain ⟨ad297, e297, hx297_0⟩ := Kd.at_int HR2.out x23_1 p297 q297
                  cases e297
                  replace hx297_0 := (HB.out.cell (World.block_lt_of_cell? w _ hx297_0)).trans hx297_0
                  replace p297 := eq_true p297
                  replace q297 := eq_true q297
                  go_wp2
                  go_ret
                  exact ⟨by first | rfl | (simp [errW_none, errW_some] <;> rfl) | (simp [*, errW_none, errW_some] <;> rfl), by repeat (first | (with_reducible first | exact HB.out | apply below_alloc | apply pw_below_drewN | apply below_drew1) | exact HB.out)⟩
                · rw [if_neg c11] at H
                  have c11b0 : decide ((rd l2 x23_1) < 0) = false := decide_eq_false c11
                  clear c11
                  by_cases c12 : x23_1 < (l1.length : Int)
                  · rw [if_pos c12] at H
                    have c12b0 : decide (x23_1 < (l1.length : Int)) = true := decide_eq_true c12
                    clear c12
                    by_cases c13 : (rd l2 x23_1) > ((rd_L4 l1 x23_1).length : Int)
                    · rw [if_pos c13] at H
                      have c13b0 : decide (((rd_L4 l1 x23_1).length : Int) < (rd l2 x23_1)) = true := decide_eq_true c13
                      clear c13
                      obtain rfl := Option.some.inj H
                      have p297 : 0 ≤ (x23_1 : Int) := of_decide_eq_true (by first | (with_reducible assumption) | assumption)
                      have q297 : x23_1 < (l2.length : Int) := of_decide_eq_true (by first | (with_reducible assumption) | assumption)
                      obtain ⟨ad297, e297, hx297_0⟩ := Kd.at_int HR2.out x23_1 p297 q297
                      cases e297
                      replace hx297_0 := (HB.out.cell (World.block_lt_of_cell? w _ hx297_0)).trans hx297_0
                      replace p297 := eq_true p297
                      replace q297 := eq_true q297
                      have p298 : 0 ≤ (x23_1 : Int) := of_decide_eq_true (by first | (with_reducible assumption) | assumption)
                      have q298 : x23_1 < (l1.length : Int) := of_decide_eq_true (by first | (with_reducible assumption) | assumption)
                      obtain ⟨ad298, A298_0, c298_0, e298, hx298_0, hl298_0, hi298_0⟩ := at_L4 HR1.out x23_1 p298 q298
                      cases e298
                      replace hx298_0 := (HB.out.cell (World.block_lt_of_cell? w _ hx298_0)).trans hx298_0
                      have HR298_0 := Aside0.mk hi298_0
                      have HC298_0 := Aside0.mk hl298_0
                      clear hi298_0 hl298_0
                      replace p298 := eq_true p298
                      replace q298 := eq_true q298
                      go_wp2
                      go_ret
                      exact ⟨by first | rfl | (simp [errW_none, errW_some] <;> rfl) | (simp [*, errW_none, errW_some] <;> rfl), by repeat (first | (with_reducible first | exact HB.out | apply below_alloc | apply pw_below_drewN | apply below_drew1) | exact HB.out)⟩
                    · rw [if_neg c13] at H
                      have c13b0 : decide (((rd_L4 l1 x23_1).length : Int) < (rd l2 x23_1)) = false := decide_eq_false c13
                      clear c13
                      have H' := Aside0.mk H
                      clear H
                      have p297 : 0 ≤ (x23_1 : Int) := of_decide_eq_true (by first | (with_reducible assumption) | assumption)
                      have q297 : x23_1 < (l2.length : Int) := of_decide_eq_true (by first | (with_reducible assumption) | assumption)
                      obtain ⟨ad297, e297, hx297_0⟩ := Kd.at_int HR2.out x23_1 p297 q297
                      cases e297
                      replace hx297_0 := (HB.out.cell (World.block_lt_of_cell? w _ hx297_0)).trans hx297_0
                      replace p297 := eq_true p297
                      replace q297 := eq_true q297
                      have p298 : 0 ≤ (x23_1 : Int) := of_decide_eq_true (by first | (with_reducible assumption) | assumption)
                      have q298 : x23_1 < (l1.length : Int) := of_decide_eq_true (by first | (with_reducible assumption) | assumption)
                      obtain ⟨ad298, A298_0, c298_0, e298, hx298_0, hl298_0, hi298_0⟩ := at_L4 HR1.out x23_1 p298 q298
                      cases e298
                      replace hx298_0 := (HB.out.cell (World.block_lt_of_cell? w _ hx298_0)).trans hx298_0
                      have HR298_0 := Aside0.mk hi298_0
                      have HC298_0 := Aside0.mk hl298_0
                      clear hi298_0 hl298_0
                      replace p298 := eq_true p298
                      replace q298 := eq_true q298
                      go_wp2
                      go_roundg k1
                      case measure => have := HK1.out; omega
                      case rel => exact ⟨(wrap64 (x23_1 + 1)), (by first | rfl | (simp; done) | (simp [*]; done)), H', ⟨by have := HK1.out; omega⟩, ⟨by repeat (first | (with_reducible first | exact HB.out | apply below_alloc | apply pw_below_drewN | apply below_drew1) | exact HB.out)⟩⟩
                  · rw [if_neg c12] at H
                    exact absurd H (by simp)
              · rw [if_neg c10] at H
                exact absurd H (by simp)
            · rw [if_neg c9] at H
              exact absurd H (by simp)
          · rw [if_neg c8] at H
            have c8b0 : decide (x23_1 < (l2.length : Int)) = false := decide_eq_false c8
            clear c8
            obtain rfl := Option.some.inj H
            go_wp2
            go_ret
            exact ⟨by first | rfl | (simp [errW_none, errW_some] <;> rfl) | (simp [*, errW_none, errW_some] <;> rfl), by repeat (first | (with_reducible first | exact HB.out | apply below_alloc | apply pw_below_drewN | apply below_drew1) | exact HB.out)⟩
    · rw [if_neg c6] at H
      have c6b0 : ((l2.length : Int) == (l1.length : Int)) = false := beq_eq_false_iff_ne.mpr c6
      have c6b1 : ((l2.length : Int) != (l1.length : Int)) = true := bne_iff_ne.mpr c6
      have c6b2 : (l2.length == l1.length) = false := by first | simpa using c6 | (simp at c6 ⊢; omega)
      obtain rfl := Option.some.inj H
      go_enter Try.func50, Try.ntmps50
      go_wp2_with (first | ((with_reducible refine gate_callee (f := 30) rfl ?_); refine goesL_ (some 12) rfl rfl Try.func30 (by kernel_rfl) rfl #[.int .i64 a0, .slice A1 l1.length c1] rfl (by (try simp only [List.map_toArray, List.map_cons, List.map_nil]); first | done | rfl | (simp only [List.length_drop, List.length_take]; rfl)) ?_; (with_reducible refine (partsyncref21_Check.calls k a0 _ _ l1 t296 _ ?side1 ?side2 A4.out).mono ?_); (case side1 => repeat (first | exact HR1.out | (with_reducible refine Kd.C_alloc ?_ _) | (with_reducible refine Kd.C_drewN ?_ _) | (with_reducible refine Kd.C_drew ?_))); (case side2 => exact HC1.out); rintro e w14 ⟨rfl, hb⟩; refine ⟨_, rfl, ?_⟩; have n0_ := Aside0.mk (below_step (by repeat (first | (with_reducible first | exact HB.out | apply below_alloc | apply pw_below_drewN | apply below_drew1) | exact HB.out)) hb); clear HB; have HB := n0_; clear n0_; (try clear hb); (try clear hb2); (try clear hk); (try clear hi)))
      go_ret
      exact ⟨by first | rfl | (simp [errW_none, errW_some] <;> rfl) | (simp [*, errW_none, errW_some] <;> rfl), by repeat (first | (with_reducible first | exact HB.out | apply below_alloc | apply pw_below_drewN | apply below_drew1) | exact HB.out)⟩
  · rw [if_neg c5] at H
    have c5b0 : (t296 == 0) = false := beq_eq_false_iff_ne.mpr c5
    have c5b1 : (t296 != 0) = true := bne_iff_ne.mpr c5
    obtain rfl := Option.some.inj H
    go_enter Try.func50, Try.ntmps50
    go_wp2_with (first | ((with_reducible refine gate_callee (f := 30) rfl ?_); refine goesL_ (some 12) rfl rfl Try.func30 (by kernel_rfl) rfl #[.int .i64 a0, .slice A1 l1.length c1] rfl (by (try simp only [List.map_toArray, List.map_cons, List.map_nil]); first | done | rfl | (simp only [List.length_drop, List.length_take]; rfl)) ?_; (with_reducible refine (partsyncref21_Check.calls k a0 _ _ l1 t296 _ ?side1 ?side2 A4.out).mono ?_); (case side1 => repeat (first | exact HR1.out | (with_reducible refine Kd.C_alloc ?_ _) | (with_reducible refine Kd.C_drewN ?_ _) | (with_reducible refine Kd.C_drew ?_))); (case side2 => exact HC1.out); rintro e w15 ⟨rfl, hb⟩; refine ⟨_, rfl, ?_⟩; have n0_ := Aside0.mk (below_step (by repeat (first | (with_reducible first | exact HB.out | apply below_alloc | apply pw_below_drewN | apply below_drew1) | exact HB.out)) hb); clear HB; have HB := n0_; clear n0_; (try clear hb); (try clear hb2); (try clear hk); (try clear hi)))
    go_ret
    exact ⟨by first | rfl | (simp [errW_none, errW_some] <;> rfl) | (simp [*, errW_none, errW_some] <;> rfl), by repeat (first | (with_reducible first | exact HB.out | apply below_alloc | apply pw_below_drewN | apply below_drew1) | exact HB.out)⟩

end Go.Proofs.Ytkhiglincdognaa.PA
