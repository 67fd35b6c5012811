-- WRITTEN BY A PROGRAM OF THIS SESSION (wip/cut/printx.py). Not trusted: Lean checks it.
import Derived.Test.YtkhiglincdognaaPAx0
import Derived.Test.YtkhiglincdognaaPAx3
import Derived.Test.YtkhiglincdognaaPAx4
namespace Go.Proofs.Ytkhiglincdognaa.PA
open Go.RowKit Go.Proofs.YtkhiglincdognaaW.PrintWords Go.Proofs.YtkhiglincdognaaW.PrintLast Go.Proofs.YtkhiglincdognaaW.PrintMore
attribute [local go_sem] max2_int min2_int max_two min_two max_three min_three max_four min_four   -- for this text's walks alone
set_option linter.unusedVariables false
set_option linter.unusedSimpArgs false

/-! ### partsyncref21_Check: function 30 -/
mutual
def partsyncref21_Check.j0 : Nat → Int → List (List (S50)) → Bool → Option (Int)
  | 0, _, _, _ => none
  | k + 1, x0, x1, x32 => if x32 = true then (some 1) else (partsyncref21_Check.l0 k x0 x1 x1 (x1.length : Int) 0)
def partsyncref21_Check.l0 : Nat → Int → List (List (S50)) → List (List (S50)) → Int → Int → Option (Int)
  | 0, _, _, _, _, _ => none
  | k + 1, x0, x1, x33, x34, x35 => if x35 < x34 then (if 0 ≤ x35 then (if x35 < (x33.length : Int) then (partsyncref21_Check.l1 k x0 x1 x35 x0 x33 x34 x35 (rd_L4 x33 x35) ((rd_L4 x33 x35).length : Int) 0) else (none)) else (none)) else (partsyncref21_Check.l2 k x1 x1 (x1.length : Int) 0)
def partsyncref21_Check.l1 : Nat → Int → List (List (S50)) → Int → Int → List (List (S50)) → Int → Int → List (S50) → Int → Int → Option (Int)
  | 0, _, _, _, _, _, _, _, _, _, _ => none
  | k + 1, x0, x1, x5, x7, x33, x34, x35, x41, x42, x43 => if x43 < x42 then (if 0 ≤ x43 then (if x43 < (x41.length : Int) then (if ((rd_T50 x41 x43).f0) ≤ x7 then (some 210) else (if ((rd_T50 x41 x43).f0) > 1073741824 then (some 210) else ((partsyncref21_fits.f k ((rd_T50 x41 x43).f1) (x1.length : Int) x5).bind fun t259 => (if t259 = true then (partsyncref21_Check.l1 k x0 x1 x5 ((rd_T50 x41 x43).f0) x33 x34 x35 x41 x42 (wrap64 (x43 + 1))) else (some 210))))) else (none)) else (none)) else (partsyncref21_Check.l0 k x0 x1 x33 x34 (wrap64 (x35 + 1)))
def partsyncref21_Check.l2 : Nat → List (List (S50)) → List (List (S50)) → Int → Int → Option (Int)
  | 0, _, _, _, _ => none
  | k + 1, x1, x69, x70, x71 => if x71 < x70 then (if 0 ≤ x71 then (if x71 < (x69.length : Int) then (partsyncref21_Check.l3 k x1 x71 x69 x70 x71 (rd_L4 x69 x71) ((rd_L4 x69 x71).length : Int) 0) else (none)) else (none)) else (some 0)
def partsyncref21_Check.l3 : Nat → List (List (S50)) → Int → List (List (S50)) → Int → Int → List (S50) → Int → Int → Option (Int)
  | 0, _, _, _, _, _, _, _, _ => none
  | k + 1, x1, x10, x69, x70, x71, x76, x77, x78 => if x78 < x77 then (if 0 ≤ x78 then (if x78 < (x76.length : Int) then (if 0 ≤ (wrap64 (x10 + 1)) then (if (wrap64 (x10 + 1)) ≤ (x1.length : Int) then ((some (x1.drop ((wrap64 (x10 + 1)) : Int).toNat : List (List (S50)))).bind fun y263 => (partsyncref21_Check.l4 k x1 x10 x69 x70 x71 x76 x77 x78 y263 (y263.length : Int) 0 ((rd_T50 x76 x78).f0) ((rd_T50 x76 x78).f1))) else (none)) else (none)) else (none)) else (none)) else (partsyncref21_Check.l2 k x1 x69 x70 (wrap64 (x71 + 1)))
def partsyncref21_Check.l4 : Nat → List (List (S50)) → Int → List (List (S50)) → Int → Int → List (S50) → Int → Int → List (List (S50)) → Int → Int → Int → List Int → Option (Int)
  | 0, _, _, _, _, _, _, _, _, _, _, _, _, _ => none
  | k + 1, x1, x10, x69, x70, x71, x76, x77, x78, x85, x86, x87, x263000, x263001 => if x87 < x86 then (if 0 ≤ x87 then (if x87 < (x85.length : Int) then ((partsyncref21_find.f k (rd_L4 x85 x87) x263000).bind fun t268 => (if t268 ≥ 0 then (if 0 ≤ t268 then (if t268 < ((rd_L4 x85 x87).length : Int) then ((partsyncref21_Same.f k x263001 ((rd_T50 (rd_L4 x85 x87) t268).f1)).bind fun t270 => (if t270 = true then (partsyncref21_Check.l4 k x1 x10 x69 x70 x71 x76 x77 x78 x85 x86 (wrap64 (x87 + 1)) x263000 x263001) else (some 210))) else (none)) else (none)) else (partsyncref21_Check.l4 k x1 x10 x69 x70 x71 x76 x77 x78 x85 x86 (wrap64 (x87 + 1)) x263000 x263001))) else (none)) else (none)) else (partsyncref21_Check.l3 k x1 x10 x69 x70 x71 x76 x77 (wrap64 (x78 + 1)))
end
def partsyncref21_Check.f (k : Nat) (a0 : Int) (l1 : List (List (S50))) : Option (Int) := if a0 < 0 then (partsyncref21_Check.j0 k a0 l1 true) else (if a0 > 1073741824 then (partsyncref21_Check.j0 k a0 l1 true) else (if (l1.length : Int) < 1 then (partsyncref21_Check.j0 k a0 l1 true) else (partsyncref21_Check.j0 k a0 l1 (decide ((l1.length : Int) > 4)))))
theorem partsyncref21_Check.mono_l : ∀ k, (∀ y0 y1 y2, LeO (partsyncref21_Check.j0 k y0 y1 y2) (partsyncref21_Check.j0 (k + 1) y0 y1 y2)) ∧ (∀ y0 y1 y2 y3 y4, LeO (partsyncref21_Check.l0 k y0 y1 y2 y3 y4) (partsyncref21_Check.l0 (k + 1) y0 y1 y2 y3 y4)) ∧ (∀ y0 y1 y2 y3 y4 y5 y6 y7 y8 y9, LeO (partsyncref21_Check.l1 k y0 y1 y2 y3 y4 y5 y6 y7 y8 y9) (partsyncref21_Check.l1 (k + 1) y0 y1 y2 y3 y4 y5 y6 y7 y8 y9)) ∧ (∀ y0 y1 y2 y3, LeO (partsyncref21_Check.l2 k y0 y1 y2 y3) (partsyncref21_Check.l2 (k + 1) y0 y1 y2 y3)) ∧ (∀ y0 y1 y2 y3 y4 y5 y6 y7, LeO (partsyncref21_Check.l3 k y0 y1 y2 y3 y4 y5 y6 y7) (partsyncref21_Check.l3 (k + 1) y0 y1 y2 y3 y4 y5 y6 y7)) ∧ (∀ y0 y1 y2 y3 y4 y5 y6 y7 y8 y9 y10 y11 y12, LeO (partsyncref21_Check.l4 k y0 y1 y2 y3 y4 y5 y6 y7 y8 y9 y10 y11 y12) (partsyncref21_Check.l4 (k + 1) y0 y1 y2 y3 y4 y5 y6 y7 y8 y9 y10 y11 y12))
  | 0 => ⟨fun _ _ _ r h => by simp [partsyncref21_Check.j0] at h, fun _ _ _ _ _ r h => by simp [partsyncref21_Check.l0] at h, fun _ _ _ _ _ _ _ _ _ _ r h => by simp [partsyncref21_Check.l1] at h, fun _ _ _ _ r h => by simp [partsyncref21_Check.l2] at h, fun _ _ _ _ _ _ _ _ r h => by simp [partsyncref21_Check.l3] at h, fun _ _ _ _ _ _ _ _ _ _ _ _ _ r h => by simp [partsyncref21_Check.l4] at h⟩
  | k + 1 => by
    obtain ⟨ih0, ih1, ih2, ih3, ih4, ih5⟩ := partsyncref21_Check.mono_l k
    refine ⟨?_, ?_, ?_, ?_, ?_, ?_⟩
    · intro y0 y1 y2
      unfold partsyncref21_Check.j0
      repeat' first
      | (with_reducible exact ih0 _ _ _)
      | (with_reducible exact ih1 _ _ _ _ _)
      | (with_reducible exact ih2 _ _ _ _ _ _ _ _ _ _)
      | (with_reducible exact ih3 _ _ _ _)
      | (with_reducible exact ih4 _ _ _ _ _ _ _ _)
      | (with_reducible exact ih5 _ _ _ _ _ _ _ _ _ _ _ _ _)
      | (with_reducible exact partsyncref21_Same.mono _ _ _)
      | (with_reducible exact partsyncref21_find.mono _ _ _)
      | (with_reducible exact partsyncref21_fits.mono _ _ _ _)
      | (with_reducible exact LeO.refl _)
      | (with_reducible exact LeO.none _)
      | (with_reducible refine LeO.ite ?_ ?_)
      | (with_reducible refine LeO.bind ?_ (fun _ => ?_))
      | exact ih0 _ _ _
      | exact ih1 _ _ _ _ _
      | exact ih2 _ _ _ _ _ _ _ _ _ _
      | exact ih3 _ _ _ _
      | exact ih4 _ _ _ _ _ _ _ _
      | exact ih5 _ _ _ _ _ _ _ _ _ _ _ _ _
      | exact partsyncref21_Same.mono _ _ _
      | exact partsyncref21_find.mono _ _ _
      | exact partsyncref21_fits.mono _ _ _ _
      | exact LeO.none _
      | refine LeO.ite ?_ ?_
      | refine LeO.bind ?_ (fun _ => ?_)
    · intro y0 y1 y2 y3 y4
      unfold partsyncref21_Check.l0
      repeat' first
      | (with_reducible exact ih0 _ _ _)
      | (with_reducible exact ih1 _ _ _ _ _)
      | (with_reducible exact ih2 _ _ _ _ _ _ _ _ _ _)
      | (with_reducible exact ih3 _ _ _ _)
      | (with_reducible exact ih4 _ _ _ _ _ _ _ _)
      | (with_reducible exact ih5 _ _ _ _ _ _ _ _ _ _ _ _ _)
      | (with_reducible exact partsyncref21_Same.mono _ _ _)
      | (with_reducible exact partsyncref21_find.mono _ _ _)
      | (with_reducible exact partsyncref21_fits.mono _ _ _ _)
      | (with_reducible exact LeO.refl _)
      | (with_reducible exact LeO.none _)
      | (with_reducible refine LeO.ite ?_ ?_)
      | (with_reducible refine LeO.bind ?_ (fun _ => ?_))
      | exact ih0 _ _ _
      | exact ih1 _ _ _ _ _
      | exact ih2 _ _ _ _ _ _ _ _ _ _
      | exact ih3 _ _ _ _
      | exact ih4 _ _ _ _ _ _ _ _
      | exact ih5 _ _ _ _ _ _ _ _ _ _ _ _ _
      | exact partsyncref21_Same.mono _ _ _
      | exact partsyncref21_find.mono _ _ _
      | exact partsyncref21_fits.mono _ _ _ _
      | exact LeO.none _
      | refine LeO.ite ?_ ?_
      | refine LeO.bind ?_ (fun _ => ?_)
    · intro y0 y1 y2 y3 y4 y5 y6 y7 y8 y9
      unfold partsyncref21_Check.l1
      repeat' first
      | (with_reducible exact ih0 _ _ _)
      | (with_reducible exact ih1 _ _ _ _ _)
      | (with_reducible exact ih2 _ _ _ _ _ _ _ _ _ _)
      | (with_reducible exact ih3 _ _ _ _)
      | (with_reducible exact ih4 _ _ _ _ _ _ _ _)
      | (with_reducible exact ih5 _ _ _ _ _ _ _ _ _ _ _ _ _)
      | (with_reducible exact partsyncref21_Same.mono _ _ _)
      | (with_reducible exact partsyncref21_find.mono _ _ _)
      | (with_reducible exact partsyncref21_fits.mono _ _ _ _)
      | (with_reducible exact LeO.refl _)
      | (with_reducible exact LeO.none _)
      | (with_reducible refine LeO.ite ?_ ?_)
      | (with_reducible refine LeO.bind ?_ (fun _ => ?_))
      | exact ih0 _ _ _
      | exact ih1 _ _ _ _ _
      | exact ih2 _ _ _ _ _ _ _ _ _ _
      | exact ih3 _ _ _ _
      | exact ih4 _ _ _ _ _ _ _ _
      | exact ih5 _ _ _ _ _ _ _ _ _ _ _ _ _
      | exact partsyncref21_Same.mono _ _ _
      | exact partsyncref21_find.mono _ _ _
      | exact partsyncref21_fits.mono _ _ _ _
      | exact LeO.none _
      | refine LeO.ite ?_ ?_
      | refine LeO.bind ?_ (fun _ => ?_)
    · intro y0 y1 y2 y3
      unfold partsyncref21_Check.l2
      repeat' first
      | (with_reducible exact ih0 _ _ _)
      | (with_reducible exact ih1 _ _ _ _ _)
      | (with_reducible exact ih2 _ _ _ _ _ _ _ _ _ _)
      | (with_reducible exact ih3 _ _ _ _)
      | (with_reducible exact ih4 _ _ _ _ _ _ _ _)
      | (with_reducible exact ih5 _ _ _ _ _ _ _ _ _ _ _ _ _)
      | (with_reducible exact partsyncref21_Same.mono _ _ _)
      | (with_reducible exact partsyncref21_find.mono _ _ _)
      | (with_reducible exact partsyncref21_fits.mono _ _ _ _)
      | (with_reducible exact LeO.refl _)
      | (with_reducible exact LeO.none _)
      | (with_reducible refine LeO.ite ?_ ?_)
      | (with_reducible refine LeO.bind ?_ (fun _ => ?_))
      | exact ih0 _ _ _
      | exact ih1 _ _ _ _ _
      | exact ih2 _ _ _ _ _ _ _ _ _ _
      | exact ih3 _ _ _ _
      | exact ih4 _ _ _ _ _ _ _ _
      | exact ih5 _ _ _ _ _ _ _ _ _ _ _ _ _
      | exact partsyncref21_Same.mono _ _ _
      | exact partsyncref21_find.mono _ _ _
      | exact partsyncref21_fits.mono _ _ _ _
      | exact LeO.none _
      | refine LeO.ite ?_ ?_
      | refine LeO.bind ?_ (fun _ => ?_)
    · intro y0 y1 y2 y3 y4 y5 y6 y7
      unfold partsyncref21_Check.l3
      repeat' first
      | (with_reducible exact ih0 _ _ _)
      | (with_reducible exact ih1 _ _ _ _ _)
      | (with_reducible exact ih2 _ _ _ _ _ _ _ _ _ _)
      | (with_reducible exact ih3 _ _ _ _)
      | (with_reducible exact ih4 _ _ _ _ _ _ _ _)
      | (with_reducible exact ih5 _ _ _ _ _ _ _ _ _ _ _ _ _)
      | (with_reducible exact partsyncref21_Same.mono _ _ _)
      | (with_reducible exact partsyncref21_find.mono _ _ _)
      | (with_reducible exact partsyncref21_fits.mono _ _ _ _)
      | (with_reducible exact LeO.refl _)
      | (with_reducible exact LeO.none _)
      | (with_reducible refine LeO.ite ?_ ?_)
      | (with_reducible refine LeO.bind ?_ (fun _ => ?_))
      | exact ih0 _ _ _
      | exact ih1 _ _ _ _ _
      | exact ih2 _ _ _ _ _ _ _ _ _ _
      | exact ih3 _ _ _ _
      | exact ih4 _ _ _ _ _ _ _ _
      | exact ih5 _ _ _ _ _ _ _ _ _ _ _ _ _
      | exact partsyncref21_Same.mono _ _ _
      | exact partsyncref21_find.mono _ _ _
      | exact partsyncref21_fits.mono _ _ _ _
      | exact LeO.none _
      | refine LeO.ite ?_ ?_
      | refine LeO.bind ?_ (fun _ => ?_)
    · intro y0 y1 y2 y3 y4 y5 y6 y7 y8 y9 y10 y11 y12
      unfold partsyncref21_Check.l4
      repeat' first
      | (with_reducible exact ih0 _ _ _)
      | (with_reducible exact ih1 _ _ _ _ _)
      | (with_reducible exact ih2 _ _ _ _ _ _ _ _ _ _)
      | (with_reducible exact ih3 _ _ _ _)
      | (with_reducible exact ih4 _ _ _ _ _ _ _ _)
      | (with_reducible exact ih5 _ _ _ _ _ _ _ _ _ _ _ _ _)
      | (with_reducible exact partsyncref21_Same.mono _ _ _)
      | (with_reducible exact partsyncref21_find.mono _ _ _)
      | (with_reducible exact partsyncref21_fits.mono _ _ _ _)
      | (with_reducible exact LeO.refl _)
      | (with_reducible exact LeO.none _)
      | (with_reducible refine LeO.ite ?_ ?_)
      | (with_reducible refine LeO.bind ?_ (fun _ => ?_))
      | exact ih0 _ _ _
      | exact ih1 _ _ _ _ _
      | exact ih2 _ _ _ _ _ _ _ _ _ _
      | exact ih3 _ _ _ _
      | exact ih4 _ _ _ _ _ _ _ _
      | exact ih5 _ _ _ _ _ _ _ _ _ _ _ _ _
      | exact partsyncref21_Same.mono _ _ _
      | exact partsyncref21_find.mono _ _ _
      | exact partsyncref21_fits.mono _ _ _ _
      | exact LeO.none _
      | refine LeO.ite ?_ ?_
      | refine LeO.bind ?_ (fun _ => ?_)
theorem partsyncref21_Check.mono : ∀ a0 a1 k, LeO (partsyncref21_Check.f k a0 a1) (partsyncref21_Check.f (k + 1) a0 a1) := by
  intro a0 a1 k
  obtain ⟨ih0, ih1, ih2, ih3, ih4, ih5⟩ := partsyncref21_Check.mono_l k
  unfold partsyncref21_Check.f
  repeat' first
      | (with_reducible exact ih0 _ _ _)
      | (with_reducible exact ih1 _ _ _ _ _)
      | (with_reducible exact ih2 _ _ _ _ _ _ _ _ _ _)
      | (with_reducible exact ih3 _ _ _ _)
      | (with_reducible exact ih4 _ _ _ _ _ _ _ _)
      | (with_reducible exact ih5 _ _ _ _ _ _ _ _ _ _ _ _ _)
      | (with_reducible exact partsyncref21_Same.mono _ _ _)
      | (with_reducible exact partsyncref21_find.mono _ _ _)
      | (with_reducible exact partsyncref21_fits.mono _ _ _ _)
      | (with_reducible exact LeO.refl _)
      | (with_reducible exact LeO.none _)
      | (with_reducible refine LeO.ite ?_ ?_)
      | (with_reducible refine LeO.bind ?_ (fun _ => ?_))
      | exact ih0 _ _ _
      | exact ih1 _ _ _ _ _
      | exact ih2 _ _ _ _ _ _ _ _ _ _
      | exact ih3 _ _ _ _
      | exact ih4 _ _ _ _ _ _ _ _
      | exact ih5 _ _ _ _ _ _ _ _ _ _ _ _ _
      | exact partsyncref21_Same.mono _ _ _
      | exact partsyncref21_find.mono _ _ _
      | exact partsyncref21_fits.mono _ _ _ _
      | exact LeO.none _
      | refine LeO.ite ?_ ?_
      | refine LeO.bind ?_ (fun _ => ?_)
set_option maxHeartbeats 8000000 in
set_option maxRecDepth 100000 in
theorem partsyncref21_Check.calls (k : Nat) (a0 : Int) (A1 : Option Addr) (c1 : Nat) (l1 : List (List (S50))) (r : Int) (w : World) (hr1 : Kd.C (Kd.slice 50 k50) w A1 l1.length l1) (hc1 : l1.length ≤ c1) (h : partsyncref21_Check.f k a0 l1 = some r) :
    Calls Try.prog 30 #[.int .i64 a0, .slice A1 l1.length c1] w fun e w' => e = .returned (.int .i64 r) ∧ Below w.heap.size w w' := by
  have hu50 := Try.underlying50
  have HR1 := Aside0.mk hr1
  have HC1 := Aside0.mk hc1
  clear hr1 hc1
  have HB := Aside0.mk (Below.refl w.heap.size w)
  have H : (if a0 < 0 then (partsyncref21_Check.j0 k a0 l1 true) else (if a0 > 1073741824 then (partsyncref21_Check.j0 k a0 l1 true) else (if (l1.length : Int) < 1 then (partsyncref21_Check.j0 k a0 l1 true) else (partsyncref21_Check.j0 k a0 l1 (decide ((l1.length : Int) > 4)))))) = some r := h
  clear h
  have HC3 := Aside0.mk H
  clear H
  go_enter Try.func30, Try.ntmps30
  go_upto_region 1 with (fail)
  go_cut [32] (fun v32 wc => ∃ (kq : Nat) (x32_2 : Bool), v32 = .bool x32_2 ∧ Aside0 (partsyncref21_Check.j0 kq a0 l1 x32_2 = some r) ∧ Aside0 (kq ≤ k) ∧ Aside0 (Below w.heap.size w wc))
  case first =>
    have H := HC3.out
    clear HC3
    by_cases c4 : a0 < 0
    · rw [if_pos c4] at H
      have c4b0 : decide (a0 < 0) = true := decide_eq_true c4
      clear c4
      (first | rw [c4b0] | (simp only [i64_w, i32_w]; rw [c4b0]) | skip)
      have H' := Aside0.mk H
      clear H
      go_wp2
      go_meet
      case rel => exact ⟨_, (true), (by first | rfl | (simp; done) | (simp [*]; done)), H', ⟨by first | omega | exact Nat.le_refl _⟩, ⟨by repeat (first | (with_reducible first | exact HB.out | apply below_alloc | apply pw_below_drewN | apply below_drew1) | exact HB.out)⟩⟩
    · rw [if_neg c4] at H
      have c4b0 : decide (a0 < 0) = false := decide_eq_false c4
      clear c4
      (first | rw [c4b0] | (simp only [i64_w, i32_w]; rw [c4b0]) | skip)
      by_cases c5 : a0 > 1073741824
      · rw [if_pos c5] at H
        have c5b0 : decide (1073741824 < a0) = true := decide_eq_true c5
        clear c5
        have H' := Aside0.mk H
        clear H
        go_wp2
        go_meet
        case rel => exact ⟨_, (true), (by first | rfl | (simp; done) | (simp [*]; done)), H', ⟨by first | omega | exact Nat.le_refl _⟩, ⟨by repeat (first | (with_reducible first | exact HB.out | apply below_alloc | apply pw_below_drewN | apply below_drew1) | exact HB.out)⟩⟩
      · rw [if_neg c5] at H
        have c5b0 : decide (1073741824 < a0) = false := decide_eq_false c5
        clear c5
        by_cases c6 : (l1.length : Int) < 1
        · rw [if_pos c6] at H
          have c6b0 : decide ((l1.length : Int) < 1) = true := decide_eq_true c6
          have c6b1 : decide (l1.length < 1) = true := decide_eq_true (by omega)
          clear c6
          have H' := Aside0.mk H
          clear H
          go_wp2
          go_meet
          case rel => exact ⟨_, (true), (by first | rfl | (simp; done) | (simp [*]; done)), H', ⟨by first | omega | exact Nat.le_refl _⟩, ⟨by repeat (first | (with_reducible first | exact HB.out | apply below_alloc | apply pw_below_drewN | apply below_drew1) | exact HB.out)⟩⟩
        · rw [if_neg c6] at H
          have c6b0 : decide ((l1.length : Int) < 1) = false := decide_eq_false c6
          have c6b1 : decide (l1.length < 1) = false := decide_eq_false (by omega)
          clear c6
          have H' := Aside0.mk H
          clear H
          go_wp2
          go_meet
          case rel => exact ⟨_, (decide ((l1.length : Int) > 4)), (by first | rfl | (simp; done) | (simp [*]; done)), H', ⟨by first | omega | exact Nat.le_refl _⟩, ⟨by repeat (first | (with_reducible first | exact HB.out | apply below_alloc | apply pw_below_drewN | apply below_drew1) | exact HB.out)⟩⟩
  case rest =>
    clear HC3
    try clear c1
    try clear p2
    try clear c3
    try clear c4
    try clear c4b0
    try clear c5
    try clear c5b0
    try clear c6
    try clear c6b0
    try clear c6b1
    obtain ⟨kq, x32_2, rfl, HA, HJ2, HB⟩ := hcut
    cases kq with
    | zero => exact absurd HA.out (by simp [partsyncref21_Check.j0])
    | succ kj2 =>
      have H := HA.out
      clear HA
      simp only [partsyncref21_Check.j0] at H
      by_cases c7 : x32_2 = true
      · subst c7
        have H1 : (some 1) = some r := by rw [if_pos rfl] at H; exact H
        clear H
        have H := H1
        clear H1
        obtain rfl := Option.some.inj H
        go_wp2
        go_ret
        exact ⟨by first | rfl | (simp [errW_none, errW_some] <;> rfl) | (simp [*, errW_none, errW_some] <;> rfl), by repeat (first | (with_reducible first | exact HB.out | apply below_alloc | apply pw_below_drewN | apply below_drew1) | exact HB.out)⟩
      · replace c7 := Bool.eq_false_iff.mpr c7
        subst c7
        have H1 : (partsyncref21_Check.l0 kj2 a0 l1 l1 (l1.length : Int) 0) = some r := by rw [if_neg (show ¬ (false = true) by decide)] at H; exact H
        clear H
        have H := H1
        clear H1
        have H' := Aside0.mk H
        clear H
        go_wp2
        go_loopg [35] kj2 (fun kq v35 w' => ∃ (x35_2 : Int), v35 = .int .i64 x35_2 ∧ Aside0 (partsyncref21_Check.l0 kq a0 l1 l1 (l1.length : Int) x35_2 = some r) ∧ Aside0 (kq ≤ kj2) ∧ Aside0 (Below w.heap.size w w'))
        case atStart => exact ⟨(0), (by first | rfl | (simp; done) | (simp [*]; done)), H', ⟨Nat.le_refl _⟩, ⟨by repeat (first | (with_reducible first | exact HB.out | apply below_alloc | apply pw_below_drewN | apply below_drew1) | exact HB.out)⟩⟩
        case round =>
          clear H'
          try clear c1
          try clear p2
          try clear c3
          try clear c4
          try clear c4b0
          try clear c5
          try clear c5b0
          try clear c6
          try clear c6b0
          try clear c6b1
          try clear c7
          try clear p2
          obtain ⟨x35_2, rfl, HA, HK2, HB⟩ := hrel
          cases gk with
          | zero => exact absurd HA.out (by simp [partsyncref21_Check.l0])
          | succ k2 =>
            have H := HA.out
            clear HA
            simp only [partsyncref21_Check.l0] at H
            by_cases c8 : x35_2 < (l1.length : Int)
            · rw [if_pos c8] at H
              have c8b0 : decide (x35_2 < (l1.length : Int)) = true := decide_eq_true c8
              clear c8
              by_cases c9 : 0 ≤ x35_2
              · rw [if_pos c9] at H
                have c9b0 : decide (0 ≤ x35_2) = true := decide_eq_true c9
                clear c9
                by_cases c10 : x35_2 < (l1.length : Int)
                · rw [if_pos c10] at H
                  have c10b0 : decide (x35_2 < (l1.length : Int)) = true := decide_eq_true c10
                  clear c10
                  have H' := Aside0.mk H
                  clear H
                  have p256 : 0 ≤ (x35_2 : Int) := of_decide_eq_true (by first | (with_reducible assumption) | assumption)
                  have q256 : x35_2 < (l1.length : Int) := of_decide_eq_true (by first | (with_reducible assumption) | assumption)
                  obtain ⟨ad256, A256_0, c256_0, e256, hx256_0, hl256_0, hi256_0⟩ := at_L4 HR1.out x35_2 p256 q256
                  cases e256
                  replace hx256_0 := (HB.out.cell (World.block_lt_of_cell? w _ hx256_0)).trans hx256_0
                  have HR256_0 := Aside0.mk hi256_0
                  have HC256_0 := Aside0.mk hl256_0
                  clear hi256_0 hl256_0
                  replace p256 := eq_true p256
                  replace q256 := eq_true q256
                  go_wp2
                  go_loopg [7, 43] k2 (fun kq v7 v43 w' => ∃ (x7_3 : Int) (x43_3 : Int), v7 = .int .i64 x7_3 ∧ v43 = .int .i64 x43_3 ∧ Aside0 (partsyncref21_Check.l1 kq a0 l1 x35_2 x7_3 l1 (l1.length : Int) x35_2 (rd_L4 l1 x35_2) ((rd_L4 l1 x35_2).length : Int) x43_3 = some r) ∧ Aside0 (kq ≤ k2) ∧ Aside0 (Below w.heap.size w w'))
                  case atStart => exact ⟨(a0), (0), (by first | rfl | (simp; done) | (simp [*]; done)), (by first | rfl | (simp; done) | (simp [*]; done)), H', ⟨Nat.le_refl _⟩, ⟨by repeat (first | (with_reducible first | exact HB.out | apply below_alloc | apply pw_below_drewN | apply below_drew1) | exact HB.out)⟩⟩
                  case round =>
                    clear H'
                    try clear c1
                    try clear c2
                    try clear p2
                    try clear q2
                    try clear hx2
                    try clear c3
                    try clear c4
                    try clear c4b0
                    try clear c5
                    try clear c5b0
                    try clear c6
                    try clear c6b0
                    try clear c6b1
                    try clear c7
                    try clear c8
                    try clear c8b0
                    try clear c9
                    try clear c9b0
                    try clear c10
                    try clear c10b0
                    try clear hx256_0
                    try clear p2
                    try clear p256
                    try clear q256
                    obtain ⟨x7_3, x43_3, rfl, rfl, HA, HK3, HB⟩ := hrel
                    cases gk with
                    | zero => exact absurd HA.out (by simp [partsyncref21_Check.l1])
                    | succ k3 =>
                      have H := HA.out
                      clear HA
                      simp only [partsyncref21_Check.l1] at H
                      by_cases c11 : x43_3 < ((rd_L4 l1 x35_2).length : Int)
                      · rw [if_pos c11] at H
                        have c11b0 : decide (x43_3 < ((rd_L4 l1 x35_2).length : Int)) = true := decide_eq_true c11
                        clear c11
                        by_cases c12 : 0 ≤ x43_3
                        · rw [if_pos c12] at H
                          have c12b0 : decide (0 ≤ x43_3) = true := decide_eq_true c12
                          clear c12
                          by_cases c13 : x43_3 < ((rd_L4 l1 x35_2).length : Int)
                          · rw [if_pos c13] at H
                            have c13b0 : decide (x43_3 < ((rd_L4 l1 x35_2).length : Int)) = true := decide_eq_true c13
                            clear c13
                            by_cases c14 : ((rd_T50 (rd_L4 l1 x35_2) x43_3).f0) ≤ x7_3
                            · rw [if_pos c14] at H
                              have c14b0 : decide (((rd_T50 (rd_L4 l1 x35_2) x43_3).f0) ≤ x7_3) = true := decide_eq_true c14
                              clear c14
                              obtain rfl := Option.some.inj H
                              have p257 : 0 ≤ (x43_3 : Int) := of_decide_eq_true (by first | (with_reducible assumption) | assumption)
                              have q257 : x43_3 < ((rd_L4 l1 x35_2).length : Int) := of_decide_eq_true (by first | (with_reducible assumption) | assumption)
                              obtain ⟨ad257, A257_1, c257_1, e257, hx257_0, hx257_1, hl257_1, hi257_1⟩ := at_T50 HR256_0.out x43_3 p257 q257
                              cases e257
                              replace hx257_0 := (HB.out.cell (World.block_lt_of_cell? w _ hx257_0)).trans hx257_0
                              replace hx257_1 := (HB.out.cell (World.block_lt_of_cell? w _ hx257_1)).trans hx257_1
                              have HR257_1 := Aside0.mk hi257_1
                              have HC257_1 := Aside0.mk hl257_1
                              clear hi257_1 hl257_1
                              replace p257 := eq_true p257
                              replace q257 := eq_true q257
                              go_wp2_with (first | ((with_reducible refine gate_dst (N := 9) rfl ?_); (try (refine gate_guard (by rfl) ?_; dsimp only)); refine box_event ?hg (N := 9) ?hd (cs := #[.int .i64 0, .slice none 0 0]) (t := 50) ?hr ?_; (case hd => rfl); (case hg => rfl); (case hr => first | (go_simp; done) | (go_simp; rfl)); intro gb258 hg w15 hbox hb; have n0_ := Aside0.mk (below_step (by repeat (first | (with_reducible first | exact HB.out | apply below_alloc | apply pw_below_drewN | apply below_drew1) | exact HB.out)) hb); have n1_ := Aside0.mk (hbox); have n2_ := Aside0.mk ((by rw [hg]; exact (below_size (by repeat (first | (with_reducible first | exact HB.out | apply below_alloc | apply pw_below_drewN | apply below_drew1) | exact HB.out))) : w.heap.size ≤ gb258)); have n3_ := Aside0.mk ((by rw [hg]; exact (below_size (by repeat (first | (with_reducible first | exact HB.out | apply below_alloc | apply pw_below_drewN | apply below_drew1) | exact HB.out))) : w.heap.size ≤ gb258)); clear HB; have HB := n0_; have BK258 := n1_; have GW258 := n2_; have GE258 := n3_; clear n0_ n1_ n2_ n3_; clear hb hbox hg; have hcz16_0 : w15.cell? ⟨gb258, 0, none⟩ = some (.int .i64 0) := (blk_cell BK258.out 0).trans rfl; have hcz16_1 : w15.cell? ⟨gb258, 1, none⟩ = some (.slice none 0 0) := (blk_cell BK258.out 1).trans rfl; have hfz16_0 := blk_frozen BK258.out 0; have hfz16_1 := blk_frozen BK258.out 1))
                              go_ret
                              exact ⟨by first | rfl | (simp [errW_none, errW_some] <;> rfl) | (simp [*, errW_none, errW_some] <;> rfl), by repeat (first | (with_reducible first | exact HB.out | apply below_alloc | apply pw_below_drewN | apply below_drew1 | refine below_set ?_ GE258.out) | exact HB.out)⟩
                            · rw [if_neg c14] at H
                              have c14b0 : decide (((rd_T50 (rd_L4 l1 x35_2) x43_3).f0) ≤ x7_3) = false := decide_eq_false c14
                              clear c14
                              by_cases c17 : ((rd_T50 (rd_L4 l1 x35_2) x43_3).f0) > 1073741824
                              · rw [if_pos c17] at H
                                have c17b0 : decide (1073741824 < ((rd_T50 (rd_L4 l1 x35_2) x43_3).f0)) = true := decide_eq_true c17
                                clear c17
                                obtain rfl := Option.some.inj H
                                have p257 : 0 ≤ (x43_3 : Int) := of_decide_eq_true (by first | (with_reducible assumption) | assumption)
                                have q257 : x43_3 < ((rd_L4 l1 x35_2).length : Int) := of_decide_eq_true (by first | (with_reducible assumption) | assumption)
                                obtain ⟨ad257, A257_1, c257_1, e257, hx257_0, hx257_1, hl257_1, hi257_1⟩ := at_T50 HR256_0.out x43_3 p257 q257
                                cases e257
                                replace hx257_0 := (HB.out.cell (World.block_lt_of_cell? w _ hx257_0)).trans hx257_0
                                replace hx257_1 := (HB.out.cell (World.block_lt_of_cell? w _ hx257_1)).trans hx257_1
                                have HR257_1 := Aside0.mk hi257_1
                                have HC257_1 := Aside0.mk hl257_1
                                clear hi257_1 hl257_1
                                replace p257 := eq_true p257
                                replace q257 := eq_true q257
                                go_wp2_with (first | ((with_reducible refine gate_dst (N := 9) rfl ?_); (try (refine gate_guard (by rfl) ?_; dsimp only)); refine box_event ?hg (N := 9) ?hd (cs := #[.int .i64 0, .slice none 0 0]) (t := 50) ?hr ?_; (case hd => rfl); (case hg => rfl); (case hr => first | (go_simp; done) | (go_simp; rfl)); intro gb258 hg w18 hbox hb; have n0_ := Aside0.mk (below_step (by repeat (first | (with_reducible first | exact HB.out | apply below_alloc | apply pw_below_drewN | apply below_drew1) | exact HB.out)) hb); have n1_ := Aside0.mk (hbox); have n2_ := Aside0.mk ((by rw [hg]; exact (below_size (by repeat (first | (with_reducible first | exact HB.out | apply below_alloc | apply pw_below_drewN | apply below_drew1) | exact HB.out))) : w.heap.size ≤ gb258)); have n3_ := Aside0.mk ((by rw [hg]; exact (below_size (by repeat (first | (with_reducible first | exact HB.out | apply below_alloc | apply pw_below_drewN | apply below_drew1) | exact HB.out))) : w.heap.size ≤ gb258)); clear HB; have HB := n0_; have BK258 := n1_; have GW258 := n2_; have GE258 := n3_; clear n0_ n1_ n2_ n3_; clear hb hbox hg; have hcz19_0 : w18.cell? ⟨gb258, 0, none⟩ = some (.int .i64 0) := (blk_cell BK258.out 0).trans rfl; have hcz19_1 : w18.cell? ⟨gb258, 1, none⟩ = some (.slice none 0 0) := (blk_cell BK258.out 1).trans rfl; have hfz19_0 := blk_frozen BK258.out 0; have hfz19_1 := blk_frozen BK258.out 1))
                                go_ret
                                exact ⟨by first | rfl | (simp [errW_none, errW_some] <;> rfl) | (simp [*, errW_none, errW_some] <;> rfl), by repeat (first | (with_reducible first | exact HB.out | apply below_alloc | apply pw_below_drewN | apply below_drew1 | refine below_set ?_ GE258.out) | exact HB.out)⟩
                              · rw [if_neg c17] at H
                                have c17b0 : decide (1073741824 < ((rd_T50 (rd_L4 l1 x35_2) x43_3).f0)) = false := decide_eq_false c17
                                clear c17
                                replace H := Option.bind_eq_some_iff.mp H
                                obtain ⟨t259, A200, H⟩ := H
                                replace H : (if t259 = true then (partsyncref21_Check.l1 k3 a0 l1 x35_2 ((rd_T50 (rd_L4 l1 x35_2) x43_3).f0) l1 (l1.length : Int) x35_2 (rd_L4 l1 x35_2) ((rd_L4 l1 x35_2).length : Int) (wrap64 (x43_3 + 1))) else (some 210)) = some r := H
                                have A20 := Aside0.mk A200
                                clear A200
                                by_cases c21 : t259 = true
                                · subst c21
                                  have H1 : (partsyncref21_Check.l1 k3 a0 l1 x35_2 ((rd_T50 (rd_L4 l1 x35_2) x43_3).f0) l1 (l1.length : Int) x35_2 (rd_L4 l1 x35_2) ((rd_L4 l1 x35_2).length : Int) (wrap64 (x43_3 + 1))) = some r := by rw [if_pos rfl] at H; exact H
                                  clear H
                                  have H := H1
                                  clear H1
                                  have H' := Aside0.mk H
                                  clear H
                                  have p257 : 0 ≤ (x43_3 : Int) := of_decide_eq_true (by first | (with_reducible assumption) | assumption)
                                  have q257 : x43_3 < ((rd_L4 l1 x35_2).length : Int) := of_decide_eq_true (by first | (with_reducible assumption) | assumption)
                                  obtain ⟨ad257, A257_1, c257_1, e257, hx257_0, hx257_1, hl257_1, hi257_1⟩ := at_T50 HR256_0.out x43_3 p257 q257
                                  cases e257
                                  replace hx257_0 := (HB.out.cell (World.block_lt_of_cell? w _ hx257_0)).trans hx257_0
                                  replace hx257_1 := (HB.out.cell (World.block_lt_of_cell? w _ hx257_1)).trans hx257_1
                                  have HR257_1 := Aside0.mk hi257_1
                                  have HC257_1 := Aside0.mk hl257_1
                                  clear hi257_1 hl257_1
                                  replace p257 := eq_true p257
                                  replace q257 := eq_true q257
                                  go_wp2_with (first | ((with_reducible refine gate_dst (N := 9) rfl ?_); (try (refine gate_guard (by rfl) ?_; dsimp only)); refine box_event ?hg (N := 9) ?hd (cs := #[.int .i64 0, .slice none 0 0]) (t := 50) ?hr ?_; (case hd => rfl); (case hg => rfl); (case hr => first | (go_simp; done) | (go_simp; rfl)); intro gb258 hg w22 hbox hb; have n0_ := Aside0.mk (below_step (by repeat (first | (with_reducible first | exact HB.out | apply below_alloc | apply pw_below_drewN | apply below_drew1) | exact HB.out)) hb); have n1_ := Aside0.mk (hbox); have n2_ := Aside0.mk ((by rw [hg]; exact (below_size (by repeat (first | (with_reducible first | exact HB.out | apply below_alloc | apply pw_below_drewN | apply below_drew1) | exact HB.out))) : w.heap.size ≤ gb258)); have n3_ := Aside0.mk ((by rw [hg]; exact (below_size (by repeat (first | (with_reducible first | exact HB.out | apply below_alloc | apply pw_below_drewN | apply below_drew1) | exact HB.out))) : w.heap.size ≤ gb258)); clear HB; have HB := n0_; have BK258 := n1_; have GW258 := n2_; have GE258 := n3_; clear n0_ n1_ n2_ n3_; clear hb hbox hg; have hcz23_0 : w22.cell? ⟨gb258, 0, none⟩ = some (.int .i64 0) := (blk_cell BK258.out 0).trans rfl; have hcz23_1 : w22.cell? ⟨gb258, 1, none⟩ = some (.slice none 0 0) := (blk_cell BK258.out 1).trans rfl; have hfz23_0 := blk_frozen BK258.out 0; have hfz23_1 := blk_frozen BK258.out 1) | (go_at_call 47; (with_reducible refine (partsyncref21_fits.calls k3 _ _ ((rd_T50 (rd_L4 l1 x35_2) x43_3).f1) (l1.length : Int) x35_2 true _ ?side1 ?side2 A20.out).mono ?_); (case side1 => exact Kd.C_below HR257_1.out (by repeat (first | (with_reducible first | exact HB.out | apply below_alloc | apply pw_below_drewN | apply below_drew1 | refine below_set ?_ GE258.out) | exact HB.out))); (case side2 => exact HC257_1.out); rintro e w' ⟨rfl, ⟨nd, rfl⟩⟩; (try first | exact ⟨rfl, _, World.drewN_drewN _ _ _⟩ | exact ⟨rfl, _, Eq.trans (World.drewN_drewN _ _ _) (congrArg (World.drewN _) (Nat.add_assoc _ _ _))⟩)))
                                  go_roundg k3
                                  case measure => have := HJ2.out; have := HK2.out; have := HK3.out; omega
                                  case rel => exact ⟨((rd_T50 (rd_L4 l1 x35_2) x43_3).f0), (wrap64 (x43_3 + 1)), (by first | rfl | (simp; done) | (simp [*]; done)), (by first | rfl | (simp; done) | (simp [*]; done)), H', ⟨by have := HJ2.out; have := HK2.out; have := HK3.out; omega⟩, ⟨by repeat (first | (with_reducible first | exact HB.out | apply below_alloc | apply pw_below_drewN | apply below_drew1 | refine below_set ?_ GE258.out) | exact HB.out)⟩⟩
                                · replace c21 := Bool.eq_false_iff.mpr c21
                                  subst c21
                                  have H1 : (some 210) = some r := by rw [if_neg (show ¬ (false = true) by decide)] at H; exact H
                                  clear H
                                  have H := H1
                                  clear H1
                                  obtain rfl := Option.some.inj H
                                  have p257 : 0 ≤ (x43_3 : Int) := of_decide_eq_true (by first | (with_reducible assumption) | assumption)
                                  have q257 : x43_3 < ((rd_L4 l1 x35_2).length : Int) := of_decide_eq_true (by first | (with_reducible assumption) | assumption)
                                  obtain ⟨ad257, A257_1, c257_1, e257, hx257_0, hx257_1, hl257_1, hi257_1⟩ := at_T50 HR256_0.out x43_3 p257 q257
                                  cases e257
                                  replace hx257_0 := (HB.out.cell (World.block_lt_of_cell? w _ hx257_0)).trans hx257_0
                                  replace hx257_1 := (HB.out.cell (World.block_lt_of_cell? w _ hx257_1)).trans hx257_1
                                  have HR257_1 := Aside0.mk hi257_1
                                  have HC257_1 := Aside0.mk hl257_1
                                  clear hi257_1 hl257_1
                                  replace p257 := eq_true p257
                                  replace q257 := eq_true q257
                                  go_wp2_with (first | ((with_reducible refine gate_dst (N := 9) rfl ?_); (try (refine gate_guard (by rfl) ?_; dsimp only)); refine box_event ?hg (N := 9) ?hd (cs := #[.int .i64 0, .slice none 0 0]) (t := 50) ?hr ?_; (case hd => rfl); (case hg => rfl); (case hr => first | (go_simp; done) | (go_simp; rfl)); intro gb258 hg w24 hbox hb; have n0_ := Aside0.mk (below_step (by repeat (first | (with_reducible first | exact HB.out | apply below_alloc | apply pw_below_drewN | apply below_drew1) | exact HB.out)) hb); have n1_ := Aside0.mk (hbox); have n2_ := Aside0.mk ((by rw [hg]; exact (below_size (by repeat (first | (with_reducible first | exact HB.out | apply below_alloc | apply pw_below_drewN | apply below_drew1) | exact HB.out))) : w.heap.size ≤ gb258)); have n3_ := Aside0.mk ((by rw [hg]; exact (below_size (by repeat (first | (with_reducible first | exact HB.out | apply below_alloc | apply pw_below_drewN | apply below_drew1) | exact HB.out))) : w.heap.size ≤ gb258)); clear HB; have HB := n0_; have BK258 := n1_; have GW258 := n2_; have GE258 := n3_; clear n0_ n1_ n2_ n3_; clear hb hbox hg; have hcz25_0 : w24.cell? ⟨gb258, 0, none⟩ = some (.int .i64 0) := (blk_cell BK258.out 0).trans rfl; have hcz25_1 : w24.cell? ⟨gb258, 1, none⟩ = some (.slice none 0 0) := (blk_cell BK258.out 1).trans rfl; have hfz25_0 := blk_frozen BK258.out 0; have hfz25_1 := blk_frozen BK258.out 1) | (go_at_call 47; (with_reducible refine (partsyncref21_fits.calls k3 _ _ ((rd_T50 (rd_L4 l1 x35_2) x43_3).f1) (l1.length : Int) x35_2 false _ ?side1 ?side2 A20.out).mono ?_); (case side1 => exact Kd.C_below HR257_1.out (by repeat (first | (with_reducible first | exact HB.out | apply below_alloc | apply pw_below_drewN | apply below_drew1 | refine below_set ?_ GE258.out) | exact HB.out))); (case side2 => exact HC257_1.out); rintro e w' ⟨rfl, ⟨nd, rfl⟩⟩; (try first | exact ⟨rfl, _, World.drewN_drewN _ _ _⟩ | exact ⟨rfl, _, Eq.trans (World.drewN_drewN _ _ _) (congrArg (World.drewN _) (Nat.add_assoc _ _ _))⟩)))
                                  go_ret
                                  exact ⟨by first | rfl | (simp [errW_none, errW_some] <;> rfl) | (simp [*, errW_none, errW_some] <;> rfl), by repeat (first | (with_reducible first | exact HB.out | apply below_alloc | apply pw_below_drewN | apply below_drew1 | refine below_set ?_ GE258.out) | exact HB.out)⟩
                          · rw [if_neg c13] at H
                            exact absurd H (by simp)
                        · rw [if_neg c12] at H
                          exact absurd H (by simp)
                      · rw [if_neg c11] at H
                        have c11b0 : decide (x43_3 < ((rd_L4 l1 x35_2).length : Int)) = false := decide_eq_false c11
                        clear c11
                        have H' := Aside0.mk H
                        clear H
                        go_wp2
                        go_roundg k3
                        case measure => have := HJ2.out; have := HK2.out; have := HK3.out; omega
                        case rel => exact ⟨(wrap64 (x35_2 + 1)), (by first | rfl | (simp; done) | (simp [*]; done)), H', ⟨by have := HJ2.out; have := HK2.out; have := HK3.out; omega⟩, ⟨by repeat (first | (with_reducible first | exact HB.out | apply below_alloc | apply pw_below_drewN | apply below_drew1) | exact HB.out)⟩⟩
                · rw [if_neg c10] at H
                  exact absurd H (by simp)
              · rw [if_neg c9] at H
                exact absurd H (by simp)
            · rw [if_neg c8] at H
              have c8b0 : decide (x35_2 < (l1.length : Int)) = false := decide_eq_false c8
              clear c8
              have H' := Aside0.mk H
              clear H
              go_wp2
              go_loopg [71] k2 (fun kq v71 w' => ∃ (x71_3 : Int), v71 = .int .i64 x71_3 ∧ Aside0 (partsyncref21_Check.l2 kq l1 l1 (l1.length : Int) x71_3 = some r) ∧ Aside0 (kq ≤ k2) ∧ Aside0 (Below w.heap.size w w'))
              case atStart => exact ⟨(0), (by first | rfl | (simp; done) | (simp [*]; done)), H', ⟨Nat.le_refl _⟩, ⟨by repeat (first | (with_reducible first | exact HB.out | apply below_alloc | apply pw_below_drewN | apply below_drew1) | exact HB.out)⟩⟩
              case round =>
                clear H'
                try clear c1
                try clear c2
                try clear p2
                try clear q2
                try clear hx2
                try clear c3
                try clear c4
                try clear c4b0
                try clear c5
                try clear c5b0
                try clear c6
                try clear c6b0
                try clear c6b1
                try clear p6
                try clear c7
                try clear c8
                try clear c8b0
                try clear c9
                try clear c9b0
                try clear c10
                try clear c10b0
                try clear c11
                try clear c11b0
                try clear c12
                try clear c12b0
                try clear c13
                try clear c13b0
                try clear c14
                try clear c14b0
                try clear c17
                try clear c17b0
                try clear c21
                try clear c25
                try clear p25
                try clear q25
                try clear hx25
                try clear hcz16_0
                try clear hcz16_1
                try clear hcz19_0
                try clear hcz19_1
                try clear hcz23_0
                try clear hcz23_1
                try clear hcz25_0
                try clear hcz25_1
                try clear hfz16_0
                try clear hfz16_1
                try clear hfz19_0
                try clear hfz19_1
                try clear hfz23_0
                try clear hfz23_1
                try clear hfz25_0
                try clear hfz25_1
                try clear hx256_0
                try clear hx257_0
                try clear hx257_1
                try clear p2
                try clear p256
                try clear p257
                try clear q2
                try clear q256
                try clear q257
                obtain ⟨x71_3, rfl, HA, HK3, HB⟩ := hrel
                cases gk with
                | zero => exact absurd HA.out (by simp [partsyncref21_Check.l2])
                | succ k3 =>
                  have H := HA.out
                  clear HA
                  simp only [partsyncref21_Check.l2] at H
                  by_cases c26 : x71_3 < (l1.length : Int)
                  · rw [if_pos c26] at H
                    have c26b0 : decide (x71_3 < (l1.length : Int)) = true := decide_eq_true c26
                    clear c26
                    by_cases c27 : 0 ≤ x71_3
                    · rw [if_pos c27] at H
                      have c27b0 : decide (0 ≤ x71_3) = true := decide_eq_true c27
                      clear c27
                      by_cases c28 : x71_3 < (l1.length : Int)
                      · rw [if_pos c28] at H
                        have c28b0 : decide (x71_3 < (l1.length : Int)) = true := decide_eq_true c28
                        clear c28
                        have H' := Aside0.mk H
                        clear H
                        have p260 : 0 ≤ (x71_3 : Int) := of_decide_eq_true (by first | (with_reducible assumption) | assumption)
                        have q260 : x71_3 < (l1.length : Int) := of_decide_eq_true (by first | (with_reducible assumption) | assumption)
                        obtain ⟨ad260, A260_0, c260_0, e260, hx260_0, hl260_0, hi260_0⟩ := at_L4 HR1.out x71_3 p260 q260
                        cases e260
                        replace hx260_0 := (HB.out.cell (World.block_lt_of_cell? w _ hx260_0)).trans hx260_0
                        have HR260_0 := Aside0.mk hi260_0
                        have HC260_0 := Aside0.mk hl260_0
                        clear hi260_0 hl260_0
                        replace p260 := eq_true p260
                        replace q260 := eq_true q260
                        go_wp2
                        go_loopg [78] k3 (fun kq v78 w' => ∃ (x78_4 : Int), v78 = .int .i64 x78_4 ∧ Aside0 (partsyncref21_Check.l3 kq l1 x71_3 l1 (l1.length : Int) x71_3 (rd_L4 l1 x71_3) ((rd_L4 l1 x71_3).length : Int) x78_4 = some r) ∧ Aside0 (kq ≤ k3) ∧ Aside0 (Below w.heap.size w w'))
                        case atStart => exact ⟨(0), (by first | rfl | (simp; done) | (simp [*]; done)), H', ⟨Nat.le_refl _⟩, ⟨by repeat (first | (with_reducible first | exact HB.out | apply below_alloc | apply pw_below_drewN | apply below_drew1) | exact HB.out)⟩⟩
                        case round =>
                          clear H'
                          try clear c1
                          try clear c2
                          try clear p2
                          try clear q2
                          try clear hx2
                          try clear c3
                          try clear c4
                          try clear c4b0
                          try clear c5
                          try clear c5b0
                          try clear c6
                          try clear c6b0
                          try clear c6b1
                          try clear p6
                          try clear c7
                          try clear c8
                          try clear c8b0
                          try clear c9
                          try clear c9b0
                          try clear c10
                          try clear c10b0
                          try clear c11
                          try clear c11b0
                          try clear c12
                          try clear c12b0
                          try clear c13
                          try clear c13b0
                          try clear c14
                          try clear c14b0
                          try clear c17
                          try clear c17b0
                          try clear c21
                          try clear c25
                          try clear p25
                          try clear q25
                          try clear hx25
                          try clear c26
                          try clear c26b0
                          try clear p26
                          try clear q26
                          try clear hx26
                          try clear c27
                          try clear c27b0
                          try clear c28
                          try clear c28b0
                          try clear hcz16_0
                          try clear hcz16_1
                          try clear hcz19_0
                          try clear hcz19_1
                          try clear hcz23_0
                          try clear hcz23_1
                          try clear hcz25_0
                          try clear hcz25_1
                          try clear hfz16_0
                          try clear hfz16_1
                          try clear hfz19_0
                          try clear hfz19_1
                          try clear hfz23_0
                          try clear hfz23_1
                          try clear hfz25_0
                          try clear hfz25_1
                          try clear hx256_0
                          try clear hx257_0
                          try clear hx257_1
                          try clear hx260_0
                          try clear p2
                          try clear p25
                          try clear p256
                          try clear p257
                          try clear p260
                          try clear p6
                          try clear q2
                          try clear q25
                          try clear q256
                          try clear q257
                          try clear q260
                          obtain ⟨x78_4, rfl, HA, HK4, HB⟩ := hrel
                          cases gk with
                          | zero => exact absurd HA.out (by simp [partsyncref21_Check.l3])
                          | succ k4 =>
                            have H := HA.out
                            clear HA
                            simp only [partsyncref21_Check.l3] at H
                            by_cases c29 : x78_4 < ((rd_L4 l1 x71_3).length : Int)
                            · rw [if_pos c29] at H
                              have c29b0 : decide (x78_4 < ((rd_L4 l1 x71_3).length : Int)) = true := decide_eq_true c29
                              clear c29
                              by_cases c30 : 0 ≤ x78_4
                              · rw [if_pos c30] at H
                                have c30b0 : decide (0 ≤ x78_4) = true := decide_eq_true c30
                                clear c30
                                by_cases c31 : x78_4 < ((rd_L4 l1 x71_3).length : Int)
                                · rw [if_pos c31] at H
                                  have c31b0 : decide (x78_4 < ((rd_L4 l1 x71_3).length : Int)) = true := decide_eq_true c31
                                  clear c31
                                  obtain ⟨ji32, hji32⟩ : ∃ j_ : Int, (wrap64 (x71_3 + 1)) = j_ := ⟨_, rfl⟩
                                  replace H : (if 0 ≤ (ji32) then (if (ji32) ≤ (l1.length : Int) then ((some (l1.drop ((ji32) : Int).toNat : List (List (S50)))).bind fun y263 => (partsyncref21_Check.l4 k4 l1 x71_3 l1 (l1.length : Int) x71_3 (rd_L4 l1 x71_3) ((rd_L4 l1 x71_3).length : Int) x78_4 y263 (y263.length : Int) 0 ((rd_T50 (rd_L4 l1 x71_3) x78_4).f0) ((rd_T50 (rd_L4 l1 x71_3) x78_4).f1))) else (none)) else (none)) = some r := by first | (rw [hji32] at H; exact H) | (simp only [hji32] at H ⊢; exact H)
                                  have hji32w : (IntKind.i64.wrap (x71_3 + 1)) = ji32 := (i64_w _).trans hji32
                                  by_cases c33 : 0 ≤ (ji32)
                                  · rw [if_pos c33] at H
                                    have c33b0 := eq_true c33
                                    have c33b1 : decide (0 ≤ (ji32)) = true := decide_eq_true c33
                                    clear c33
                                    by_cases c34 : (ji32) ≤ (l1.length : Int)
                                    · rw [if_pos c34] at H
                                      have c34b0 := eq_true c34
                                      have c34b1 : decide ((ji32) ≤ (l1.length : Int)) = true := decide_eq_true c34
                                      clear c34
                                      obtain ⟨y263, hy263⟩ : ∃ y_ : List (List (S50)), y_ = (l1.drop ((ji32) : Int).toNat) := ⟨_, rfl⟩
                                      replace H : (partsyncref21_Check.l4 k4 l1 x71_3 l1 (l1.length : Int) x71_3 (rd_L4 l1 x71_3) ((rd_L4 l1 x71_3).length : Int) x78_4 y263 (y263.length : Int) 0 ((rd_T50 (rd_L4 l1 x71_3) x78_4).f0) ((rd_T50 (rd_L4 l1 x71_3) x78_4).f1)) = some r := by first | (rw [hy263]; with_reducible exact H) | (have H2_ := (Option.bind_some _ _).symm.trans H; rw [hy263]; with_reducible exact H2_) | (have H2_ := (Option.bind_some _ _).symm.trans H; with_reducible exact H2_) | with_reducible exact H | (rw [hy263]; exact H) | exact H
                                      have Ny263 := Aside0.mk hy263
                                      clear hy263
                                      have H' := Aside0.mk H
                                      clear H
                                      have p261 : 0 ≤ (x78_4 : Int) := of_decide_eq_true (by first | (with_reducible assumption) | assumption)
                                      have q261 : x78_4 < ((rd_L4 l1 x71_3).length : Int) := of_decide_eq_true (by first | (with_reducible assumption) | assumption)
                                      obtain ⟨ad261, A261_1, c261_1, e261, hx261_0, hx261_1, hl261_1, hi261_1⟩ := at_T50 HR260_0.out x78_4 p261 q261
                                      cases e261
                                      replace hx261_0 := (HB.out.cell (World.block_lt_of_cell? w _ hx261_0)).trans hx261_0
                                      replace hx261_1 := (HB.out.cell (World.block_lt_of_cell? w _ hx261_1)).trans hx261_1
                                      have HR261_1 := Aside0.mk hi261_1
                                      have HC261_1 := Aside0.mk hl261_1
                                      clear hi261_1 hl261_1
                                      replace p261 := eq_true p261
                                      replace q261 := eq_true q261
                                      go_wp2_with (first | ((with_reducible refine gate_dst (N := 13) rfl ?_); (try (refine gate_guard (by rfl) ?_; dsimp only)); refine box_event ?hg (N := 13) ?hd (cs := #[.int .i64 0, .slice none 0 0]) (t := 50) ?hr ?_; (case hd => rfl); (case hg => rfl); (case hr => first | (go_simp; done) | (go_simp; rfl)); intro gb262 hg w35 hbox hb; have n0_ := Aside0.mk (below_step (by repeat (first | (with_reducible first | exact HB.out | apply below_alloc | apply pw_below_drewN | apply below_drew1) | exact HB.out)) hb); have n1_ := Aside0.mk (hbox); have n2_ := Aside0.mk ((by rw [hg]; exact (below_size (by repeat (first | (with_reducible first | exact HB.out | apply below_alloc | apply pw_below_drewN | apply below_drew1) | exact HB.out))) : w.heap.size ≤ gb262)); have n3_ := Aside0.mk ((by rw [hg]; exact (below_size (by repeat (first | (with_reducible first | exact HB.out | apply below_alloc | apply pw_below_drewN | apply below_drew1) | exact HB.out))) : w.heap.size ≤ gb262)); clear HB; have HB := n0_; have BK262 := n1_; have GW262 := n2_; have GE262 := n3_; clear n0_ n1_ n2_ n3_; clear hb hbox hg; have hcz36_0 : w35.cell? ⟨gb262, 0, none⟩ = some (.int .i64 0) := (blk_cell BK262.out 0).trans rfl; have hcz36_1 : w35.cell? ⟨gb262, 1, none⟩ = some (.slice none 0 0) := (blk_cell BK262.out 1).trans rfl; have hfz36_0 := blk_frozen BK262.out 0; have hfz36_1 := blk_frozen BK262.out 1) | ((with_reducible refine gate_store (t := 50) (p := 13) rfl ?_); (try (rw [drewN_self w35]; generalize hq_ : World.drewN w35 _ = w35; have n0_ := Aside0.mk (blk_at hq_ BK262.out); have n1_ := Aside0.mk (below_at hq_ HB.out); clear hq_ BK262 HB; have BK262 := n0_; have HB := n1_; clear n0_ n1_)); refine store_event (t := 50) (p := 13) (v := ?vo_w37) (w1 := ((w35.setCell ⟨gb262, 0, none⟩ (.int .i64 ((rd_T50 (rd_L4 l1 x71_3) x78_4).f0))).setCell ⟨gb262, 1, none⟩ (.slice A261_1 ((rd_T50 (rd_L4 l1 x71_3) x78_4).f1).length c261_1))) ?hg ?ho ?hn ?hr ?_; (case ho => rfl); (case hg => rfl); (case hn => rfl); (case hr => first | (go_simp; done) | (go_simp; rfl)); intro w37 hw; have n0_ : Aside0 (w37.heap[gb262]? = some (.cells #[.int .i64 ((rd_T50 (rd_L4 l1 x71_3) x78_4).f0), .slice A261_1 ((rd_T50 (rd_L4 l1 x71_3) x78_4).f1).length c261_1] 50 (0, 0))) := ⟨(by rw [hw]; exact (by (with_reducible repeat (first | refine blk_drewN ?_ _ | refine blk_drew ?_ | refine blk_alloc ?_ _)); refine blk_put (cs := #[.int .i64 ((rd_T50 (rd_L4 l1 x71_3) x78_4).f0), .slice none 0 0]) ?_ 1 _ rfl; (with_reducible repeat (first | refine blk_drewN ?_ _ | refine blk_drew ?_ | refine blk_alloc ?_ _)); refine blk_put (cs := #[.int .i64 0, .slice none 0 0]) ?_ 0 _ rfl; (with_reducible repeat (first | refine blk_drewN ?_ _ | refine blk_drew ?_ | refine blk_alloc ?_ _)); exact BK262.out))⟩; have n1_ : Aside0 (Below w.heap.size w w37) := ⟨(by rw [hw]; exact (by repeat (first | (with_reducible first | exact HB.out | apply below_alloc | apply pw_below_drewN | apply below_drew1 | refine below_set ?_ GE262.out) | exact HB.out)))⟩; clear hw; clear BK262; clear HB; have BK262 := n0_; have HB := n1_; clear n0_ n1_; have q38 : ((ji32) : Int) ≤ ((l1.length : Int) : Int) := of_decide_eq_true (by first | (with_reducible assumption) | assumption); obtain ⟨i038, hi038, _, hsz38, _⟩ := info_parts info47; have hroom38 : l1.length ≤ c1 := HC1.out; have hC38 : Kd.C (Kd.slice 50 k50) _ (some ad260) l1.length l1 := HR1.out; have q038 : (0 : Int) ≤ ((ji32) : Int) := of_decide_eq_true (by first | (with_reducible assumption) | assumption); have hcut38 := cut_from (P := Try.prog) 34 47 .i64 Try.underlying34 hi038 1 hsz38 (some ad260) l1.length c1 (ji32) q038 q38; have hr38 := Kd.C_drop (m := ((ji32) : Int).toNat) (c := c1) hC38 (by omega) hroom38; obtain ⟨A38, hA38⟩ : ∃ A_, A_ = (if c1 = ((ji32) : Int).toNat then (some ad260) else ((some ad260) : Option Addr).map (·.add (((ji32) : Int).toNat * 1))) := ⟨_, rfl⟩; obtain ⟨c38, hc38⟩ : ∃ c_, c_ = c1 - ((ji32) : Int).toNat := ⟨_, rfl⟩; have hy38 : y263.length = l1.length - ((ji32) : Int).toNat := (by rw [Ny263.out, List.length_drop] <;> omega); rw [show (l1).drop ((ji32) : Int).toNat = y263 from Ny263.out.symm] at hr38; replace hr38 : Kd.C (Kd.slice 50 k50) _ A38 y263.length y263 := (by rw [hA38]; exact hr38); rw [← hy38, ← hA38, ← hc38] at hcut38; have HR266 := Aside0.mk hr38; have HC266 := Aside0.mk (show y263.length ≤ c38 from by rw [hy38, hc38]; exact Nat.sub_le_sub_right hroom38 _); clear hr38 hC38 hroom38 hi038 hsz38 hc38; have KY38 := Aside0.mk hy38; have KA38 := Aside0.mk hA38; clear hy38 hA38; replace q38 := eq_true q38))
                                      go_loopg [87] k4 (fun kq v87 w' => ∃ (x87_5 : Int), v87 = .int .i64 x87_5 ∧ Aside0 (partsyncref21_Check.l4 kq l1 x71_3 l1 (l1.length : Int) x71_3 (rd_L4 l1 x71_3) ((rd_L4 l1 x71_3).length : Int) x78_4 y263 (y263.length : Int) x87_5 ((rd_T50 (rd_L4 l1 x71_3) x78_4).f0) ((rd_T50 (rd_L4 l1 x71_3) x78_4).f1) = some r) ∧ Aside0 (kq ≤ k4) ∧ Aside0 (w'.heap[gb262]? = some (.cells #[.int .i64 ((rd_T50 (rd_L4 l1 x71_3) x78_4).f0), (.slice A261_1 ((rd_T50 (rd_L4 l1 x71_3) x78_4).f1).length c261_1)] 50 (0, 0))) ∧ Aside0 (Below w.heap.size w w'))
                                      case atStart => exact ⟨(0), (by first | rfl | (simp; done) | (simp [*]; done)), H', ⟨Nat.le_refl _⟩, ⟨by (with_reducible repeat (first | refine blk_drewN ?_ _ | refine blk_drew ?_ | refine blk_alloc ?_ _)); exact BK262.out⟩, ⟨by repeat (first | (with_reducible first | exact HB.out | apply below_alloc | apply pw_below_drewN | apply below_drew1 | refine below_set ?_ GE262.out) | exact HB.out)⟩⟩
                                      case round =>
                                        clear H'
                                        try clear c1
                                        try clear c2
                                        try clear p2
                                        try clear q2
                                        try clear hx2
                                        try clear c3
                                        try clear q3
                                        try clear c4
                                        try clear c4b0
                                        try clear c5
                                        try clear c5b0
                                        try clear c6
                                        try clear c6b0
                                        try clear c6b1
                                        try clear p6
                                        try clear c7
                                        try clear c8
                                        try clear c8b0
                                        try clear c9
                                        try clear c9b0
                                        try clear c10
                                        try clear c10b0
                                        try clear c11
                                        try clear c11b0
                                        try clear c12
                                        try clear c12b0
                                        try clear c13
                                        try clear c13b0
                                        try clear c14
                                        try clear c14b0
                                        try clear c17
                                        try clear c17b0
                                        try clear c21
                                        try clear c25
                                        try clear p25
                                        try clear q25
                                        try clear hx25
                                        try clear c26
                                        try clear c26b0
                                        try clear p26
                                        try clear q26
                                        try clear hx26
                                        try clear c27
                                        try clear c27b0
                                        try clear c28
                                        try clear c28b0
                                        try clear c29
                                        try clear c29b0
                                        try clear c30
                                        try clear c30b0
                                        try clear c31
                                        try clear c31b0
                                        try clear c33
                                        try clear c33b0
                                        try clear c33b1
                                        try clear c34
                                        try clear c34b0
                                        try clear c34b1
                                        try clear c38
                                        try clear q38
                                        try clear hcz16_0
                                        try clear hcz16_1
                                        try clear hcz19_0
                                        try clear hcz19_1
                                        try clear hcz23_0
                                        try clear hcz23_1
                                        try clear hcz25_0
                                        try clear hcz25_1
                                        try clear hcz36_0
                                        try clear hcz36_1
                                        try clear hfz16_0
                                        try clear hfz16_1
                                        try clear hfz19_0
                                        try clear hfz19_1
                                        try clear hfz23_0
                                        try clear hfz23_1
                                        try clear hfz25_0
                                        try clear hfz25_1
                                        try clear hfz36_0
                                        try clear hfz36_1
                                        try clear hx256_0
                                        try clear hx257_0
                                        try clear hx257_1
                                        try clear hx260_0
                                        try clear hx261_0
                                        try clear hx261_1
                                        try clear p2
                                        try clear p25
                                        try clear p256
                                        try clear p257
                                        try clear p26
                                        try clear p260
                                        try clear p261
                                        try clear p6
                                        try clear q038
                                        try clear q2
                                        try clear q25
                                        try clear q256
                                        try clear q257
                                        try clear q26
                                        try clear q260
                                        try clear q261
                                        try clear q38
                                        obtain ⟨x87_5, rfl, HA, HK5, BK262, HB⟩ := hrel
                                        cases gk with
                                        | zero => exact absurd HA.out (by simp [partsyncref21_Check.l4])
                                        | succ k5 =>
                                          have H := HA.out
                                          clear HA
                                          simp only [partsyncref21_Check.l4] at H
                                          by_cases c39 : x87_5 < (y263.length : Int)
                                          · rw [if_pos c39] at H
                                            have c39b0 : decide (x87_5 < (y263.length : Int)) = true := decide_eq_true c39
                                            clear c39
                                            by_cases c40 : 0 ≤ x87_5
                                            · rw [if_pos c40] at H
                                              have c40b0 : decide (0 ≤ x87_5) = true := decide_eq_true c40
                                              clear c40
                                              by_cases c41 : x87_5 < (y263.length : Int)
                                              · rw [if_pos c41] at H
                                                have c41b0 : decide (x87_5 < (y263.length : Int)) = true := decide_eq_true c41
                                                clear c41
                                                replace H := Option.bind_eq_some_iff.mp H
                                                obtain ⟨t268, A420, H⟩ := H
                                                replace H : (if t268 ≥ 0 then (if 0 ≤ t268 then (if t268 < ((rd_L4 y263 x87_5).length : Int) then ((partsyncref21_Same.f k5 ((rd_T50 (rd_L4 l1 x71_3) x78_4).f1) ((rd_T50 (rd_L4 y263 x87_5) t268).f1)).bind fun t270 => (if t270 = true then (partsyncref21_Check.l4 k5 l1 x71_3 l1 (l1.length : Int) x71_3 (rd_L4 l1 x71_3) ((rd_L4 l1 x71_3).length : Int) x78_4 y263 (y263.length : Int) (wrap64 (x87_5 + 1)) ((rd_T50 (rd_L4 l1 x71_3) x78_4).f0) ((rd_T50 (rd_L4 l1 x71_3) x78_4).f1)) else (some 210))) else (none)) else (none)) else (partsyncref21_Check.l4 k5 l1 x71_3 l1 (l1.length : Int) x71_3 (rd_L4 l1 x71_3) ((rd_L4 l1 x71_3).length : Int) x78_4 y263 (y263.length : Int) (wrap64 (x87_5 + 1)) ((rd_T50 (rd_L4 l1 x71_3) x78_4).f0) ((rd_T50 (rd_L4 l1 x71_3) x78_4).f1))) = some r := H
                                                have A42 := Aside0.mk A420
                                                clear A420
                                                by_cases c43 : t268 ≥ 0
                                                · rw [if_pos c43] at H
                                                  have c43b0 : decide (0 ≤ t268) = true := decide_eq_true c43
                                                  clear c43
                                                  by_cases c44 : 0 ≤ t268
                                                  · rw [if_pos c44] at H
                                                    have c44b0 : decide (0 ≤ t268) = true := decide_eq_true c44
                                                    clear c44
                                                    by_cases c45 : t268 < ((rd_L4 y263 x87_5).length : Int)
                                                    · rw [if_pos c45] at H
                                                      have c45b0 : decide (t268 < ((rd_L4 y263 x87_5).length : Int)) = true := decide_eq_true c45
                                                      clear c45
                                                      replace H := Option.bind_eq_some_iff.mp H
                                                      obtain ⟨t270, A460, H⟩ := H
                                                      replace H : (if t270 = true then (partsyncref21_Check.l4 k5 l1 x71_3 l1 (l1.length : Int) x71_3 (rd_L4 l1 x71_3) ((rd_L4 l1 x71_3).length : Int) x78_4 y263 (y263.length : Int) (wrap64 (x87_5 + 1)) ((rd_T50 (rd_L4 l1 x71_3) x78_4).f0) ((rd_T50 (rd_L4 l1 x71_3) x78_4).f1)) else (some 210)) = some r := H
                                                      have A46 := Aside0.mk A460
                                                      clear A460
                                                      by_cases c47 : t270 = true
                                                      · subst c47
                                                        have H1 : (partsyncref21_Check.l4 k5 l1 x71_3 l1 (l1.length : Int) x71_3 (rd_L4 l1 x71_3) ((rd_L4 l1 x71_3).length : Int) x78_4 y263 (y263.length : Int) (wrap64 (x87_5 + 1)) ((rd_T50 (rd_L4 l1 x71_3) x78_4).f0) ((rd_T50 (rd_L4 l1 x71_3) x78_4).f1)) = some r := by rw [if_pos rfl] at H; exact H
                                                        clear H
                                                        have H := H1
                                                        clear H1
                                                        have H' := Aside0.mk H
                                                        clear H
                                                        have p267 : 0 ≤ (x87_5 : Int) := of_decide_eq_true (by first | (with_reducible assumption) | assumption)
                                                        have q267 : x87_5 < (y263.length : Int) := of_decide_eq_true (by first | (with_reducible assumption) | assumption)
                                                        obtain ⟨ad267, A267_0, c267_0, e267, hx267_0, hl267_0, hi267_0⟩ := at_L4 HR266.out x87_5 p267 q267
                                                        cases e267
                                                        replace hx267_0 := (HB.out.cell (World.block_lt_of_cell? w _ hx267_0)).trans hx267_0
                                                        have HR267_0 := Aside0.mk hi267_0
                                                        have HC267_0 := Aside0.mk hl267_0
                                                        clear hi267_0 hl267_0
                                                        replace p267 := eq_true p267
                                                        replace q267 := eq_true q267
                                                        have hcz48_0 : wr.cell? ⟨gb262, 0, none⟩ = some (.int .i64 ((rd_T50 (rd_L4 l1 x71_3) x78_4).f0)) := (blk_cell BK262.out 0).trans rfl
                                                        have hcz48_1 : wr.cell? ⟨gb262, 1, none⟩ = some (.slice A261_1 ((rd_T50 (rd_L4 l1 x71_3) x78_4).f1).length c261_1) := (blk_cell BK262.out 1).trans rfl
                                                        have hfz48_0 := blk_frozen BK262.out 0
                                                        have hfz48_1 := blk_frozen BK262.out 1
                                                        go_wp2_with (first | (go_at_call 48; (with_reducible refine (partsyncref21_find.calls k5 _ _ (rd_L4 y263 x87_5) ((rd_T50 (rd_L4 l1 x71_3) x78_4).f0) t268 _ ?side1 ?side2 A42.out).mono ?_); (case side1 => repeat (first | exact (Kd.C_below HR267_0.out HB.out) | (with_reducible refine Kd.C_alloc ?_ _) | (with_reducible refine Kd.C_drewN ?_ _) | (with_reducible refine Kd.C_drew ?_))); (case side2 => exact HC267_0.out); rintro e w49 ⟨rfl, hb⟩; have n0_ := Aside0.mk (blk_below (g := gb262) (o := .cells #[.int .i64 ((rd_T50 (rd_L4 l1 x71_3) x78_4).f0), .slice A261_1 ((rd_T50 (rd_L4 l1 x71_3) x78_4).f1).length c261_1] 50 (0, 0)) (by (with_reducible repeat (first | refine blk_drewN ?_ _ | refine blk_drew ?_ | refine blk_alloc ?_ _)); exact BK262.out) hb); have n1_ := Aside0.mk (below_step (by repeat (first | (with_reducible first | exact HB.out | apply below_alloc | apply pw_below_drewN | apply below_drew1 | refine below_set ?_ GE262.out) | exact HB.out)) hb); clear BK262; clear HB; have BK262 := n0_; have HB := n1_; clear n0_ n1_; (try clear hb); (try clear hb2); (try clear hk); (try clear hi); have hcz50_0 : w49.cell? ⟨gb262, 0, none⟩ = some (.int .i64 ((rd_T50 (rd_L4 l1 x71_3) x78_4).f0)) := (blk_cell BK262.out 0).trans rfl; have hcz50_1 : w49.cell? ⟨gb262, 1, none⟩ = some (.slice A261_1 ((rd_T50 (rd_L4 l1 x71_3) x78_4).f1).length c261_1) := (blk_cell BK262.out 1).trans rfl; have hfz50_0 := blk_frozen BK262.out 0; have hfz50_1 := blk_frozen BK262.out 1; have p269 : 0 ≤ (t268 : Int) := of_decide_eq_true (by first | (with_reducible assumption) | assumption); have q269 : t268 < ((rd_L4 y263 x87_5).length : Int) := of_decide_eq_true (by first | (with_reducible assumption) | assumption); obtain ⟨ad269, A269_1, c269_1, e269, hx269_0, hx269_1, hl269_1, hi269_1⟩ := at_T50 HR267_0.out t268 p269 q269; cases e269; replace hx269_0 := (HB.out.cell (World.block_lt_of_cell? w _ hx269_0)).trans hx269_0; replace hx269_1 := (HB.out.cell (World.block_lt_of_cell? w _ hx269_1)).trans hx269_1; have HR269_1 := Aside0.mk hi269_1; have HC269_1 := Aside0.mk hl269_1; clear hi269_1 hl269_1; replace p269 := eq_true p269; replace q269 := eq_true q269) | (go_at_call 49; (with_reducible refine (partsyncref21_Same.calls k5 _ _ ((rd_T50 (rd_L4 l1 x71_3) x78_4).f1) _ _ ((rd_T50 (rd_L4 y263 x87_5) t268).f1) true _ ?side1 ?side2 ?side3 ?side4 A46.out).mono ?_); (case side1 => repeat (first | exact (Kd.C_below HR261_1.out HB.out) | (with_reducible refine Kd.C_alloc ?_ _) | (with_reducible refine Kd.C_drewN ?_ _) | (with_reducible refine Kd.C_drew ?_))); (case side2 => exact HC261_1.out); (case side3 => repeat (first | exact (Kd.C_below HR269_1.out HB.out) | (with_reducible refine Kd.C_alloc ?_ _) | (with_reducible refine Kd.C_drewN ?_ _) | (with_reducible refine Kd.C_drew ?_))); (case side4 => exact HC269_1.out); rintro e w' ⟨rfl, ⟨nd, rfl⟩⟩; (try first | exact ⟨rfl, _, World.drewN_drewN _ _ _⟩ | exact ⟨rfl, _, Eq.trans (World.drewN_drewN _ _ _) (congrArg (World.drewN _) (Nat.add_assoc _ _ _))⟩)))
                                                        repeat (go_quiet (first | (go_at_call 48; (with_reducible refine (partsyncref21_find.calls k5 _ _ (rd_L4 y263 x87_5) ((rd_T50 (rd_L4 l1 x71_3) x78_4).f0) t268 _ ?side1 ?side2 A42.out).mono ?_); (case side1 => repeat (first | exact (Kd.C_below HR267_0.out HB.out) | (with_reducible refine Kd.C_alloc ?_ _) | (with_reducible refine Kd.C_drewN ?_ _) | (with_reducible refine Kd.C_drew ?_))); (case side2 => exact HC267_0.out); rintro e w49 ⟨rfl, hb⟩; have n0_ := Aside0.mk (blk_below (g := gb262) (o := .cells #[.int .i64 ((rd_T50 (rd_L4 l1 x71_3) x78_4).f0), .slice A261_1 ((rd_T50 (rd_L4 l1 x71_3) x78_4).f1).length c261_1] 50 (0, 0)) (by (with_reducible repeat (first | refine blk_drewN ?_ _ | refine blk_drew ?_ | refine blk_alloc ?_ _)); exact BK262.out) hb); have n1_ := Aside0.mk (below_step (by repeat (first | (with_reducible first | exact HB.out | apply below_alloc | apply pw_below_drewN | apply below_drew1 | refine below_set ?_ GE262.out) | exact HB.out)) hb); clear BK262; clear HB; have BK262 := n0_; have HB := n1_; clear n0_ n1_; (try clear hb); (try clear hb2); (try clear hk); (try clear hi); have hcz50_0 : w49.cell? ⟨gb262, 0, none⟩ = some (.int .i64 ((rd_T50 (rd_L4 l1 x71_3) x78_4).f0)) := (blk_cell BK262.out 0).trans rfl; have hcz50_1 : w49.cell? ⟨gb262, 1, none⟩ = some (.slice A261_1 ((rd_T50 (rd_L4 l1 x71_3) x78_4).f1).length c261_1) := (blk_cell BK262.out 1).trans rfl; have hfz50_0 := blk_frozen BK262.out 0; have hfz50_1 := blk_frozen BK262.out 1; have p269 : 0 ≤ (t268 : Int) := of_decide_eq_true (by first | (with_reducible assumption) | assumption); have q269 : t268 < ((rd_L4 y263 x87_5).length : Int) := of_decide_eq_true (by first | (with_reducible assumption) | assumption); obtain ⟨ad269, A269_1, c269_1, e269, hx269_0, hx269_1, hl269_1, hi269_1⟩ := at_T50 HR267_0.out t268 p269 q269; cases e269; replace hx269_0 := (HB.out.cell (World.block_lt_of_cell? w _ hx269_0)).trans hx269_0; replace hx269_1 := (HB.out.cell (World.block_lt_of_cell? w _ hx269_1)).trans hx269_1; have HR269_1 := Aside0.mk hi269_1; have HC269_1 := Aside0.mk hl269_1; clear hi269_1 hl269_1; replace p269 := eq_true p269; replace q269 := eq_true q269) | (go_at_call 49; (with_reducible refine (partsyncref21_Same.calls k5 _ _ ((rd_T50 (rd_L4 l1 x71_3) x78_4).f1) _ _ ((rd_T50 (rd_L4 y263 x87_5) t268).f1) true _ ?side1 ?side2 ?side3 ?side4 A46.out).mono ?_); (case side1 => repeat (first | exact (Kd.C_below HR261_1.out HB.out) | (with_reducible refine Kd.C_alloc ?_ _) | (with_reducible refine Kd.C_drewN ?_ _) | (with_reducible refine Kd.C_drew ?_))); (case side2 => exact HC261_1.out); (case side3 => repeat (first | exact (Kd.C_below HR269_1.out HB.out) | (with_reducible refine Kd.C_alloc ?_ _) | (with_reducible refine Kd.C_drewN ?_ _) | (with_reducible refine Kd.C_drew ?_))); (case side4 => exact HC269_1.out); rintro e w' ⟨rfl, ⟨nd, rfl⟩⟩; (try first | exact ⟨rfl, _, World.drewN_drewN _ _ _⟩ | exact ⟨rfl, _, Eq.trans (World.drewN_drewN _ _ _) (congrArg (World.drewN _) (Nat.add_assoc _ _ _))⟩))); try go_wp2_with (first | (go_at_call 48; (with_reducible refine (partsyncref21_find.calls k5 _ _ (rd_L4 y263 x87_5) ((rd_T50 (rd_L4 l1 x71_3) x78_4).f0) t268 _ ?side1 ?side2 A42.out).mono ?_); (case side1 => repeat (first | exact (Kd.C_below HR267_0.out HB.out) | (with_reducible refine Kd.C_alloc ?_ _) | (with_reducible refine Kd.C_drewN ?_ _) | (with_reducible refine Kd.C_drew ?_))); (case side2 => exact HC267_0.out); rintro e w49 ⟨rfl, hb⟩; have n0_ := Aside0.mk (blk_below (g := gb262) (o := .cells #[.int .i64 ((rd_T50 (rd_L4 l1 x71_3) x78_4).f0), .slice A261_1 ((rd_T50 (rd_L4 l1 x71_3) x78_4).f1).length c261_1] 50 (0, 0)) (by (with_reducible repeat (first | refine blk_drewN ?_ _ | refine blk_drew ?_ | refine blk_alloc ?_ _)); exact BK262.out) hb); have n1_ := Aside0.mk (below_step (by repeat (first | (with_reducible first | exact HB.out | apply below_alloc | apply pw_below_drewN | apply below_drew1 | refine below_set ?_ GE262.out) | exact HB.out)) hb); clear BK262; clear HB; have BK262 := n0_; have HB := n1_; clear n0_ n1_; (try clear hb); (try clear hb2); (try clear hk); (try clear hi); have hcz50_0 : w49.cell? ⟨gb262, 0, none⟩ = some (.int .i64 ((rd_T50 (rd_L4 l1 x71_3) x78_4).f0)) := (blk_cell BK262.out 0).trans rfl; have hcz50_1 : w49.cell? ⟨gb262, 1, none⟩ = some (.slice A261_1 ((rd_T50 (rd_L4 l1 x71_3) x78_4).f1).length c261_1) := (blk_cell BK262.out 1).trans rfl; have hfz50_0 := blk_frozen BK262.out 0; have hfz50_1 := blk_frozen BK262.out 1; have p269 : 0 ≤ (t268 : Int) := of_decide_eq_true (by first | (with_reducible assumption) | assumption); have q269 : t268 < ((rd_L4 y263 x87_5).length : Int) := of_decide_eq_true (by first | (with_reducible assumption) | assumption); obtain ⟨ad269, A269_1, c269_1, e269, hx269_0, hx269_1, hl269_1, hi269_1⟩ := at_T50 HR267_0.out t268 p269 q269; cases e269; replace hx269_0 := (HB.out.cell (World.block_lt_of_cell? w _ hx269_0)).trans hx269_0; replace hx269_1 := (HB.out.cell (World.block_lt_of_cell? w _ hx269_1)).trans hx269_1; have HR269_1 := Aside0.mk hi269_1; have HC269_1 := Aside0.mk hl269_1; clear hi269_1 hl269_1; replace p269 := eq_true p269; replace q269 := eq_true q269) | (go_at_call 49; (with_reducible refine (partsyncref21_Same.calls k5 _ _ ((rd_T50 (rd_L4 l1 x71_3) x78_4).f1) _ _ ((rd_T50 (rd_L4 y263 x87_5) t268).f1) true _ ?side1 ?side2 ?side3 ?side4 A46.out).mono ?_); (case side1 => repeat (first | exact (Kd.C_below HR261_1.out HB.out) | (with_reducible refine Kd.C_alloc ?_ _) | (with_reducible refine Kd.C_drewN ?_ _) | (with_reducible refine Kd.C_drew ?_))); (case side2 => exact HC261_1.out); (case side3 => repeat (first | exact (Kd.C_below HR269_1.out HB.out) | (with_reducible refine Kd.C_alloc ?_ _) | (with_reducible refine Kd.C_drewN ?_ _) | (with_reducible refine Kd.C_drew ?_))); (case side4 => exact HC269_1.out); rintro e w' ⟨rfl, ⟨nd, rfl⟩⟩; (try first | exact ⟨rfl, _, World.drewN_drewN _ _ _⟩ | exact ⟨rfl, _, Eq.trans (World.drewN_drewN _ _ _) (congrArg (World.drewN _) (Nat.add_assoc _ _ _))⟩))))
                                                        go_roundg k5
                                                        case measure => have := HJ2.out; have := HK2.out; have := HK3.out; have := HK4.out; have := HK5.out; omega
                                                        case rel => exact ⟨(wrap64 (x87_5 + 1)), (by first | rfl | (simp; done) | (simp [*]; done)), H', ⟨by have := HJ2.out; have := HK2.out; have := HK3.out; have := HK4.out; have := HK5.out; omega⟩, ⟨by (with_reducible repeat (first | refine blk_drewN ?_ _ | refine blk_drew ?_ | refine blk_alloc ?_ _)); exact BK262.out⟩, ⟨by repeat (first | (with_reducible first | exact HB.out | apply below_alloc | apply pw_below_drewN | apply below_drew1 | refine below_set ?_ GE262.out) | exact HB.out)⟩⟩
                                                      · replace c47 := Bool.eq_false_iff.mpr c47
                                                        subst c47
                                                        have H1 : (some 210) = some r := by rw [if_neg (show ¬ (false = true) by decide)] at H; exact H
                                                        clear H
                                                        have H := H1
                                                        clear H1
                                                        obtain rfl := Option.some.inj H
                                                        have p267 : 0 ≤ (x87_5 : Int) := of_decide_eq_true (by first | (with_reducible assumption) | assumption)
                                                        have q267 : x87_5 < (y263.length : Int) := of_decide_eq_true (by first | (with_reducible assumption) | assumption)
                                                        obtain ⟨ad267, A267_0, c267_0, e267, hx267_0, hl267_0, hi267_0⟩ := at_L4 HR266.out x87_5 p267 q267
                                                        cases e267
                                                        replace hx267_0 := (HB.out.cell (World.block_lt_of_cell? w _ hx267_0)).trans hx267_0
                                                        have HR267_0 := Aside0.mk hi267_0
                                                        have HC267_0 := Aside0.mk hl267_0
                                                        clear hi267_0 hl267_0
                                                        replace p267 := eq_true p267
                                                        replace q267 := eq_true q267
                                                        have hcz51_0 : wr.cell? ⟨gb262, 0, none⟩ = some (.int .i64 ((rd_T50 (rd_L4 l1 x71_3) x78_4).f0)) := (blk_cell BK262.out 0).trans rfl
                                                        have hcz51_1 : wr.cell? ⟨gb262, 1, none⟩ = some (.slice A261_1 ((rd_T50 (rd_L4 l1 x71_3) x78_4).f1).length c261_1) := (blk_cell BK262.out 1).trans rfl
                                                        have hfz51_0 := blk_frozen BK262.out 0
                                                        have hfz51_1 := blk_frozen BK262.out 1
                                                        go_wp2_with (first | (go_at_call 48; (with_reducible refine (partsyncref21_find.calls k5 _ _ (rd_L4 y263 x87_5) ((rd_T50 (rd_L4 l1 x71_3) x78_4).f0) t268 _ ?side1 ?side2 A42.out).mono ?_); (case side1 => repeat (first | exact (Kd.C_below HR267_0.out HB.out) | (with_reducible refine Kd.C_alloc ?_ _) | (with_reducible refine Kd.C_drewN ?_ _) | (with_reducible refine Kd.C_drew ?_))); (case side2 => exact HC267_0.out); rintro e w52 ⟨rfl, hb⟩; have n0_ := Aside0.mk (blk_below (g := gb262) (o := .cells #[.int .i64 ((rd_T50 (rd_L4 l1 x71_3) x78_4).f0), .slice A261_1 ((rd_T50 (rd_L4 l1 x71_3) x78_4).f1).length c261_1] 50 (0, 0)) (by (with_reducible repeat (first | refine blk_drewN ?_ _ | refine blk_drew ?_ | refine blk_alloc ?_ _)); exact BK262.out) hb); have n1_ := Aside0.mk (below_step (by repeat (first | (with_reducible first | exact HB.out | apply below_alloc | apply pw_below_drewN | apply below_drew1 | refine below_set ?_ GE262.out) | exact HB.out)) hb); clear BK262; clear HB; have BK262 := n0_; have HB := n1_; clear n0_ n1_; (try clear hb); (try clear hb2); (try clear hk); (try clear hi); have hcz53_0 : w52.cell? ⟨gb262, 0, none⟩ = some (.int .i64 ((rd_T50 (rd_L4 l1 x71_3) x78_4).f0)) := (blk_cell BK262.out 0).trans rfl; have hcz53_1 : w52.cell? ⟨gb262, 1, none⟩ = some (.slice A261_1 ((rd_T50 (rd_L4 l1 x71_3) x78_4).f1).length c261_1) := (blk_cell BK262.out 1).trans rfl; have hfz53_0 := blk_frozen BK262.out 0; have hfz53_1 := blk_frozen BK262.out 1; have p269 : 0 ≤ (t268 : Int) := of_decide_eq_true (by first | (with_reducible assumption) | assumption); have q269 : t268 < ((rd_L4 y263 x87_5).length : Int) := of_decide_eq_true (by first | (with_reducible assumption) | assumption); obtain ⟨ad269, A269_1, c269_1, e269, hx269_0, hx269_1, hl269_1, hi269_1⟩ := at_T50 HR267_0.out t268 p269 q269; cases e269; replace hx269_0 := (HB.out.cell (World.block_lt_of_cell? w _ hx269_0)).trans hx269_0; replace hx269_1 := (HB.out.cell (World.block_lt_of_cell? w _ hx269_1)).trans hx269_1; have HR269_1 := Aside0.mk hi269_1; have HC269_1 := Aside0.mk hl269_1; clear hi269_1 hl269_1; replace p269 := eq_true p269; replace q269 := eq_true q269) | (go_at_call 49; (with_reducible refine (partsyncref21_Same.calls k5 _ _ ((rd_T50 (rd_L4 l1 x71_3) x78_4).f1) _ _ ((rd_T50 (rd_L4 y263 x87_5) t268).f1) false _ ?side1 ?side2 ?side3 ?side4 A46.out).mono ?_); (case side1 => repeat (first | exact (Kd.C_below HR261_1.out HB.out) | (with_reducible refine Kd.C_alloc ?_ _) | (with_reducible refine Kd.C_drewN ?_ _) | (with_reducible refine Kd.C_drew ?_))); (case side2 => exact HC261_1.out); (case side3 => repeat (first | exact (Kd.C_below HR269_1.out HB.out) | (with_reducible refine Kd.C_alloc ?_ _) | (with_reducible refine Kd.C_drewN ?_ _) | (with_reducible refine Kd.C_drew ?_))); (case side4 => exact HC269_1.out); rintro e w' ⟨rfl, ⟨nd, rfl⟩⟩; (try first | exact ⟨rfl, _, World.drewN_drewN _ _ _⟩ | exact ⟨rfl, _, Eq.trans (World.drewN_drewN _ _ _) (congrArg (World.drewN _) (Nat.add_assoc _ _ _))⟩)))
                                                        repeat (go_quiet (first | (go_at_call 48; (with_reducible refine (partsyncref21_find.calls k5 _ _ (rd_L4 y263 x87_5) ((rd_T50 (rd_L4 l1 x71_3) x78_4).f0) t268 _ ?side1 ?side2 A42.out).mono ?_); (case side1 => repeat (first | exact (Kd.C_below HR267_0.out HB.out) | (with_reducible refine Kd.C_alloc ?_ _) | (with_reducible refine Kd.C_drewN ?_ _) | (with_reducible refine Kd.C_drew ?_))); (case side2 => exact HC267_0.out); rintro e w52 ⟨rfl, hb⟩; have n0_ := Aside0.mk (blk_below (g := gb262) (o := .cells #[.int .i64 ((rd_T50 (rd_L4 l1 x71_3) x78_4).f0), .slice A261_1 ((rd_T50 (rd_L4 l1 x71_3) x78_4).f1).length c261_1] 50 (0, 0)) (by (with_reducible repeat (first | refine blk_drewN ?_ _ | refine blk_drew ?_ | refine blk_alloc ?_ _)); exact BK262.out) hb); have n1_ := Aside0.mk (below_step (by repeat (first | (with_reducible first | exact HB.out | apply below_alloc | apply pw_below_drewN | apply below_drew1 | refine below_set ?_ GE262.out) | exact HB.out)) hb); clear BK262; clear HB; have BK262 := n0_; have HB := n1_; clear n0_ n1_; (try clear hb); (try clear hb2); (try clear hk); (try clear hi); have hcz53_0 : w52.cell? ⟨gb262, 0, none⟩ = some (.int .i64 ((rd_T50 (rd_L4 l1 x71_3) x78_4).f0)) := (blk_cell BK262.out 0).trans rfl; have hcz53_1 : w52.cell? ⟨gb262, 1, none⟩ = some (.slice A261_1 ((rd_T50 (rd_L4 l1 x71_3) x78_4).f1).length c261_1) := (blk_cell BK262.out 1).trans rfl; have hfz53_0 := blk_frozen BK262.out 0; have hfz53_1 := blk_frozen BK262.out 1; have p269 : 0 ≤ (t268 : Int) := of_decide_eq_true (by first | (with_reducible assumption) | assumption); have q269 : t268 < ((rd_L4 y263 x87_5).length : Int) := of_decide_eq_true (by first | (with_reducible assumption) | assumption); obtain ⟨ad269, A269_1, c269_1, e269, hx269_0, hx269_1, hl269_1, hi269_1⟩ := at_T50 HR267_0.out t268 p269 q269; cases e269; replace hx269_0 := (HB.out.cell (World.block_lt_of_cell? w _ hx269_0)).trans hx269_0; replace hx269_1 := (HB.out.cell (World.block_lt_of_cell? w _ hx269_1)).trans hx269_1; have HR269_1 := Aside0.mk hi269_1; have HC269_1 := Aside0.mk hl269_1; clear hi269_1 hl269_1; replace p269 := eq_true p269; replace q269 := eq_true q269) | (go_at_call 49; (with_reducible refine (partsyncref21_Same.calls k5 _ _ ((rd_T50 (rd_L4 l1 x71_3) x78_4).f1) _ _ ((rd_T50 (rd_L4 y263 x87_5) t268).f1) false _ ?side1 ?side2 ?side3 ?side4 A46.out).mono ?_); (case side1 => repeat (first | exact (Kd.C_below HR261_1.out HB.out) | (with_reducible refine Kd.C_alloc ?_ _) | (with_reducible refine Kd.C_drewN ?_ _) | (with_reducible refine Kd.C_drew ?_))); (case side2 => exact HC261_1.out); (case side3 => repeat (first | exact (Kd.C_below HR269_1.out HB.out) | (with_reducible refine Kd.C_alloc ?_ _) | (with_reducible refine Kd.C_drewN ?_ _) | (with_reducible refine Kd.C_drew ?_))); (case side4 => exact HC269_1.out); rintro e w' ⟨rfl, ⟨nd, rfl⟩⟩; (try first | exact ⟨rfl, _, World.drewN_drewN _ _ _⟩ | exact ⟨rfl, _, Eq.trans (World.drewN_drewN _ _ _) (congrArg (World.drewN _) (Nat.add_assoc _ _ _))⟩))); try go_wp2_with (first | (go_at_call 48; (with_reducible refine (partsyncref21_find.calls k5 _ _ (rd_L4 y263 x87_5) ((rd_T50 (rd_L4 l1 x71_3) x78_4).f0) t268 _ ?side1 ?side2 A42.out).mono ?_); (case side1 => repeat (first | exact (Kd.C_below HR267_0.out HB.out) | (with_reducible refine Kd.C_alloc ?_ _) | (with_reducible refine Kd.C_drewN ?_ _) | (with_reducible refine Kd.C_drew ?_))); (case side2 => exact HC267_0.out); rintro e w52 ⟨rfl, hb⟩; have n0_ := Aside0.mk (blk_below (g := gb262) (o := .cells #[.int .i64 ((rd_T50 (rd_L4 l1 x71_3) x78_4).f0), .slice A261_1 ((rd_T50 (rd_L4 l1 x71_3) x78_4).f1).length c261_1] 50 (0, 0)) (by (with_reducible repeat (first | refine blk_drewN ?_ _ | refine blk_drew ?_ | refine blk_alloc ?_ _)); exact BK262.out) hb); have n1_ := Aside0.mk (below_step (by repeat (first | (with_reducible first | exact HB.out | apply below_alloc | apply pw_below_drewN | apply below_drew1 | refine below_set ?_ GE262.out) | exact HB.out)) hb); clear BK262; clear HB; have BK262 := n0_; have HB := n1_; clear n0_ n1_; (try clear hb); (try clear hb2); (try clear hk); (try clear hi); have hcz53_0 : w52.cell? ⟨gb262, 0, none⟩ = some (.int .i64 ((rd_T50 (rd_L4 l1 x71_3) x78_4).f0)) := (blk_cell BK262.out 0).trans rfl; have hcz53_1 : w52.cell? ⟨gb262, 1, none⟩ = some (.slice A261_1 ((rd_T50 (rd_L4 l1 x71_3) x78_4).f1).length c261_1) := (blk_cell BK262.out 1).trans rfl; have hfz53_0 := blk_frozen BK262.out 0; have hfz53_1 := blk_frozen BK262.out 1; have p269 : 0 ≤ (t268 : Int) := of_decide_eq_true (by first | (with_reducible assumption) | assumption); have q269 : t268 < ((rd_L4 y263 x87_5).length : Int) := of_decide_eq_true (by first | (with_reducible assumption) | assumption); obtain ⟨ad269, A269_1, c269_1, e269, hx269_0, hx269_1, hl269_1, hi269_1⟩ := at_T50 HR267_0.out t268 p269 q269; cases e269; replace hx269_0 := (HB.out.cell (World.block_lt_of_cell? w _ hx269_0)).trans hx269_0; replace hx269_1 := (HB.out.cell (World.block_lt_of_cell? w _ hx269_1)).trans hx269_1; have HR269_1 := Aside0.mk hi269_1; have HC269_1 := Aside0.mk hl269_1; clear hi269_1 hl269_1; replace p269 := eq_true p269; replace q269 := eq_true q269) | (go_at_call 49; (with_reducible refine (partsyncref21_Same.calls k5 _ _ ((rd_T50 (rd_L4 l1 x71_3) x78_4).f1) _ _ ((rd_T50 (rd_L4 y263 x87_5) t268).f1) false _ ?side1 ?side2 ?side3 ?side4 A46.out).mono ?_); (case side1 => repeat (first | exact (Kd.C_below HR261_1.out HB.out) | (with_reducible refine Kd.C_alloc ?_ _) | (with_reducible refine Kd.C_drewN ?_ _) | (with_reducible refine Kd.C_drew ?_))); (case side2 => exact HC261_1.out); (case side3 => repeat (first | exact (Kd.C_below HR269_1.out HB.out) | (with_reducible refine Kd.C_alloc ?_ _) | (with_reducible refine Kd.C_drewN ?_ _) | (with_reducible refine Kd.C_drew ?_))); (case side4 => exact HC269_1.out); rintro e w' ⟨rfl, ⟨nd, rfl⟩⟩; (try first | exact ⟨rfl, _, World.drewN_drewN _ _ _⟩ | exact ⟨rfl, _, Eq.trans (World.drewN_drewN _ _ _) (congrArg (World.drewN _) (Nat.add_assoc _ _ _))⟩))))
                                                        go_ret
                                                        exact ⟨by first | rfl | (simp [errW_none, errW_some] <;> rfl) | (simp only [← hji32]; first | rfl | (simp [errW_none, errW_some] <;> rfl)) | (simp [*, errW_none, errW_some] <;> rfl), by repeat (first | (with_reducible first | exact HB.out | apply below_alloc | apply pw_below_drewN | apply below_drew1 | refine below_set ?_ GE262.out) | exact HB.out)⟩
                                                    · rw [if_neg c45] at H
                                                      exact absurd H (by simp)
                                                  · rw [if_neg c44] at H
                                                    exact absurd H (by simp)
                                                · rw [if_neg c43] at H
                                                  have c43b0 : decide (0 ≤ t268) = false := decide_eq_false c43
                                                  clear c43
                                                  have H' := Aside0.mk H
                                                  clear H
                                                  have p267 : 0 ≤ (x87_5 : Int) := of_decide_eq_true (by first | (with_reducible assumption) | assumption)
                                                  have q267 : x87_5 < (y263.length : Int) := of_decide_eq_true (by first | (with_reducible assumption) | assumption)
                                                  obtain ⟨ad267, A267_0, c267_0, e267, hx267_0, hl267_0, hi267_0⟩ := at_L4 HR266.out x87_5 p267 q267
                                                  cases e267
                                                  replace hx267_0 := (HB.out.cell (World.block_lt_of_cell? w _ hx267_0)).trans hx267_0
                                                  have HR267_0 := Aside0.mk hi267_0
                                                  have HC267_0 := Aside0.mk hl267_0
                                                  clear hi267_0 hl267_0
                                                  replace p267 := eq_true p267
                                                  replace q267 := eq_true q267
                                                  have hcz54_0 : wr.cell? ⟨gb262, 0, none⟩ = some (.int .i64 ((rd_T50 (rd_L4 l1 x71_3) x78_4).f0)) := (blk_cell BK262.out 0).trans rfl
                                                  have hcz54_1 : wr.cell? ⟨gb262, 1, none⟩ = some (.slice A261_1 ((rd_T50 (rd_L4 l1 x71_3) x78_4).f1).length c261_1) := (blk_cell BK262.out 1).trans rfl
                                                  have hfz54_0 := blk_frozen BK262.out 0
                                                  have hfz54_1 := blk_frozen BK262.out 1
                                                  go_wp2_with (first | (go_at_call 48; (with_reducible refine (partsyncref21_find.calls k5 _ _ (rd_L4 y263 x87_5) ((rd_T50 (rd_L4 l1 x71_3) x78_4).f0) t268 _ ?side1 ?side2 A42.out).mono ?_); (case side1 => repeat (first | exact (Kd.C_below HR267_0.out HB.out) | (with_reducible refine Kd.C_alloc ?_ _) | (with_reducible refine Kd.C_drewN ?_ _) | (with_reducible refine Kd.C_drew ?_))); (case side2 => exact HC267_0.out); rintro e w55 ⟨rfl, hb⟩; have n0_ := Aside0.mk (blk_below (g := gb262) (o := .cells #[.int .i64 ((rd_T50 (rd_L4 l1 x71_3) x78_4).f0), .slice A261_1 ((rd_T50 (rd_L4 l1 x71_3) x78_4).f1).length c261_1] 50 (0, 0)) (by (with_reducible repeat (first | refine blk_drewN ?_ _ | refine blk_drew ?_ | refine blk_alloc ?_ _)); exact BK262.out) hb); have n1_ := Aside0.mk (below_step (by repeat (first | (with_reducible first | exact HB.out | apply below_alloc | apply pw_below_drewN | apply below_drew1 | refine below_set ?_ GE262.out) | exact HB.out)) hb); clear BK262; clear HB; have BK262 := n0_; have HB := n1_; clear n0_ n1_; (try clear hb); (try clear hb2); (try clear hk); (try clear hi)))
                                                  repeat (go_quiet (first | (go_at_call 48; (with_reducible refine (partsyncref21_find.calls k5 _ _ (rd_L4 y263 x87_5) ((rd_T50 (rd_L4 l1 x71_3) x78_4).f0) t268 _ ?side1 ?side2 A42.out).mono ?_); (case side1 => repeat (first | exact (Kd.C_below HR267_0.out HB.out) | (with_reducible refine Kd.C_alloc ?_ _) | (with_reducible refine Kd.C_drewN ?_ _) | (with_reducible refine Kd.C_drew ?_))); (case side2 => exact HC267_0.out); rintro e w55 ⟨rfl, hb⟩; have n0_ := Aside0.mk (blk_below (g := gb262) (o := .cells #[.int .i64 ((rd_T50 (rd_L4 l1 x71_3) x78_4).f0), .slice A261_1 ((rd_T50 (rd_L4 l1 x71_3) x78_4).f1).length c261_1] 50 (0, 0)) (by (with_reducible repeat (first | refine blk_drewN ?_ _ | refine blk_drew ?_ | refine blk_alloc ?_ _)); exact BK262.out) hb); have n1_ := Aside0.mk (below_step (by repeat (first | (with_reducible first | exact HB.out | apply below_alloc | apply pw_below_drewN | apply below_drew1 | refine below_set ?_ GE262.out) | exact HB.out)) hb); clear BK262; clear HB; have BK262 := n0_; have HB := n1_; clear n0_ n1_; (try clear hb); (try clear hb2); (try clear hk); (try clear hi))); try go_wp2_with (first | (go_at_call 48; (with_reducible refine (partsyncref21_find.calls k5 _ _ (rd_L4 y263 x87_5) ((rd_T50 (rd_L4 l1 x71_3) x78_4).f0) t268 _ ?side1 ?side2 A42.out).mono ?_); (case side1 => repeat (first | exact (Kd.C_below HR267_0.out HB.out) | (with_reducible refine Kd.C_alloc ?_ _) | (with_reducible refine Kd.C_drewN ?_ _) | (with_reducible refine Kd.C_drew ?_))); (case side2 => exact HC267_0.out); rintro e w55 ⟨rfl, hb⟩; have n0_ := Aside0.mk (blk_below (g := gb262) (o := .cells #[.int .i64 ((rd_T50 (rd_L4 l1 x71_3) x78_4).f0), .slice A261_1 ((rd_T50 (rd_L4 l1 x71_3) x78_4).f1).length c261_1] 50 (0, 0)) (by (with_reducible repeat (first | refine blk_drewN ?_ _ | refine blk_drew ?_ | refine blk_alloc ?_ _)); exact BK262.out) hb); have n1_ := Aside0.mk (below_step (by repeat (first | (with_reducible first | exact HB.out | apply below_alloc | apply pw_below_drewN | apply below_drew1 | refine below_set ?_ GE262.out) | exact HB.out)) hb); clear BK262; clear HB; have BK262 := n0_; have HB := n1_; clear n0_ n1_; (try clear hb); (try clear hb2); (try clear hk); (try clear hi))))
                                                  go_roundg k5
                                                  case measure => have := HJ2.out; have := HK2.out; have := HK3.out; have := HK4.out; have := HK5.out; omega
                                                  case rel => exact ⟨(wrap64 (x87_5 + 1)), (by first | rfl | (simp; done) | (simp [*]; done)), H', ⟨by have := HJ2.out; have := HK2.out; have := HK3.out; have := HK4.out; have := HK5.out; omega⟩, ⟨by (with_reducible repeat (first | refine blk_drewN ?_ _ | refine blk_drew ?_ | refine blk_alloc ?_ _)); exact BK262.out⟩, ⟨by repeat (first | (with_reducible first | exact HB.out | apply below_alloc | apply pw_below_drewN | apply below_drew1 | refine below_set ?_ GE262.out) | exact HB.out)⟩⟩
                                              · rw [if_neg c41] at H
                                                exact absurd H (by simp)
                                            · rw [if_neg c40] at H
                                              exact absurd H (by simp)
                                          · rw [if_neg c39] at H
                                            have c39b0 : decide (x87_5 < (y263.length : Int)) = false := decide_eq_false c39
                                            clear c39
                                            have H' := Aside0.mk H
                                            clear H
                                            go_wp2
                                            go_roundg k5
                                            case measure => have := HJ2.out; have := HK2.out; have := HK3.out; have := HK4.out; have := HK5.out; omega
                                            case rel => exact ⟨(wrap64 (x78_4 + 1)), (by first | rfl | (simp; done) | (simp [*]; done)), H', ⟨by have := HJ2.out; have := HK2.out; have := HK3.out; have := HK4.out; have := HK5.out; omega⟩, ⟨by repeat (first | (with_reducible first | exact HB.out | apply below_alloc | apply pw_below_drewN | apply below_drew1 | refine below_set ?_ GE262.out) | exact HB.out)⟩⟩
                                    · rw [if_neg c34] at H
                                      exact absurd H (by simp)
                                  · rw [if_neg c33] at H
                                    exact absurd H (by simp)
                                · rw [if_neg c31] at H
                                  exact absurd H (by simp)
                              · rw [if_neg c30] at H
                                exact absurd H (by simp)
                            · rw [if_neg c29] at H
                              have c29b0 : decide (x78_4 < ((rd_L4 l1 x71_3).length : Int)) = false := decide_eq_false c29
                              clear c29
                              have H' := Aside0.mk H
                              clear H
                              go_wp2
                              go_roundg k4
                              case measure => have := HJ2.out; have := HK2.out; have := HK3.out; have := HK4.out; omega
                              case rel => exact ⟨(wrap64 (x71_3 + 1)), (by first | rfl | (simp; done) | (simp [*]; done)), H', ⟨by have := HJ2.out; have := HK2.out; have := HK3.out; have := HK4.out; omega⟩, ⟨by repeat (first | (with_reducible first | exact HB.out | apply below_alloc | apply pw_below_drewN | apply below_drew1) | exact HB.out)⟩⟩
                      · rw [if_neg c28] at H
                        exact absurd H (by simp)
                    · rw [if_neg c27] at H
                      exact absurd H (by simp)
                  · rw [if_neg c26] at H
                    have c26b0 : decide (x71_3 < (l1.length : Int)) = false := decide_eq_false c26
                    clear c26
                    obtain rfl := Option.some.inj H
                    go_wp2
                    go_ret
                    exact ⟨by first | rfl | (simp [errW_none, errW_some] <;> rfl) | (simp [*, errW_none, errW_some] <;> rfl), by repeat (first | (with_reducible first | exact HB.out | apply below_alloc | apply pw_below_drewN | apply below_drew1) | exact HB.out)⟩

end Go.Proofs.Ytkhiglincdognaa.PA
