-- WRITTEN BY A PROGRAM OF THIS SESSION (wip/cut/printx.py). Not trusted: Lean checks it.
import Derived.Test.YtkhiglincdognaaPAx0
import Derived.Test.YtkhiglincdognaaPAx1
import Derived.Test.YtkhiglincdognaaPAx2
import Derived.Test.YtkhiglincdognaaPAx3
import Derived.Test.YtkhiglincdognaaPAx6
import Derived.Test.YtkhiglincdognaaPAx8
import Derived.Test.YtkhiglincdognaaClosed
import Derived.Test.YtkhiglincdognaaHOf
import Derived.Test.YtkhiglincdognaaHLogs
import Derived.Test.YtkhiglincdognaaHNew
namespace Go.Proofs.Ytkhiglincdognaa.PA
open Go.RowKit Go.Proofs.YtkhiglincdognaaW.PrintWords Go.Proofs.YtkhiglincdognaaW.PrintLast Go.Proofs.YtkhiglincdognaaW.PrintMore
attribute [local go_sem] max2_int min2_int max_two min_two max_three min_three max_four min_four   -- for this text's walks alone
set_option linter.unusedVariables false
set_option linter.unusedSimpArgs false

/-! ### partsynclaw21_CutPrefixes: function 4 -/
mutual
def partsynclaw21_CutPrefixes.j0 : Nat → Int → List (List (S50)) → List Int → Int → Int → Bool → List Int → Int → Option (Bool × Int)
  | 0, _, _, _, _, _, _, _, _ => none
  | k + 1, x4, x5, x6, x7, x9, x60, x1000, x1001 => if x60 = true then (some (false, x1001)) else (partsynclaw21_CutPrefixes.l0 k x4 x5 x6 x7 x9 ([] : List Int) x4 x1000 x1001)
def partsynclaw21_CutPrefixes.l0 : Nat → Int → List (List (S50)) → List Int → Int → Int → List Int → Int → List Int → Int → Option (Bool × Int)
  | 0, _, _, _, _, _, _, _, _, _ => none
  | k + 1, x4, x5, x6, x7, x9, x11, x12, x1000, x1001 => if x12 ≤ x7 then ((cut_Of.f k x4 x5 x12).bind fun bt440 => ((cut_Closed.f k x4 x5 bt440.1).bind fun bt444 => ((cut_Floor.f k x4 x5 bt440.1).bind fun bt446 => (if bt440.2 = 0 then (if bt446.2 = 0 then (if bt444.1 = true then (if bt446.1 = x12 then ((partsynclaw21_under.f k bt440.1 x6).bind fun t448 => (partsynclaw21_CutPrefixes.j2 k x4 x5 x6 x7 x9 x11 x12 bt440.1 (t448 != (decide (x12 ≤ x9))) x1000 x1001)) else (partsynclaw21_CutPrefixes.j2 k x4 x5 x6 x7 x9 x11 x12 bt440.1 true x1000 x1001)) else (partsynclaw21_CutPrefixes.j2 k x4 x5 x6 x7 x9 x11 x12 bt440.1 true x1000 x1001)) else (partsynclaw21_CutPrefixes.j2 k x4 x5 x6 x7 x9 x11 x12 bt440.1 true x1000 x1001)) else (partsynclaw21_CutPrefixes.j2 k x4 x5 x6 x7 x9 x11 x12 bt440.1 true x1000 x1001))))) else ((partsynclaw21_begun.f k).bind fun t439 => (some (t439, x1001)))
def partsynclaw21_CutPrefixes.j2 : Nat → Int → List (List (S50)) → List Int → Int → Int → List Int → Int → List Int → Bool → List Int → Int → Option (Bool × Int)
  | 0, _, _, _, _, _, _, _, _, _, _, _ => none
  | k + 1, x4, x5, x6, x7, x9, x11, x12, x13, x111, x1000, x1001 => if x111 = true then (some (false, x1001)) else (if x12 > x4 then ((cut_Compare.f k x11 x13).bind fun bt449 => (if bt449.1 = 1 then (partsynclaw21_CutPrefixes.l0 k x4 x5 x6 x7 x9 x13 (wrap64 (x12 + 1)) x1000 x1001) else (some (false, x1001)))) else (partsynclaw21_CutPrefixes.l0 k x4 x5 x6 x7 x9 x13 (wrap64 (x12 + 1)) x1000 x1001))
end
def partsynclaw21_CutPrefixes.f (k : Nat) (s0_0 : List Int) (s0_1 : Int) : Option (Bool × Int) := (partsynccase_Case_Logs.f s0_0 s0_1).bind fun bt426 => ((partsynccase_Case_Cut.f k s0_0 bt426.2.2 bt426.2.1).bind fun bt431 => ((cut_Whole.f k bt426.1 bt426.2.1).bind fun bt435 => ((cut_Floor.f k bt426.1 bt426.2.1 bt431.1).bind fun bt437 => (if bt435.2 = 0 then (if bt437.2 = 0 then (if bt435.1 < bt426.1 then (partsynclaw21_CutPrefixes.j0 k bt426.1 bt426.2.1 bt431.1 bt435.1 bt437.1 true s0_0 bt431.2) else (partsynclaw21_CutPrefixes.j0 k bt426.1 bt426.2.1 bt431.1 bt435.1 bt437.1 (decide (bt435.1 > (wrap64 (bt426.1 + 60)))) s0_0 bt431.2)) else (partsynclaw21_CutPrefixes.j0 k bt426.1 bt426.2.1 bt431.1 bt435.1 bt437.1 true s0_0 bt431.2)) else (partsynclaw21_CutPrefixes.j0 k bt426.1 bt426.2.1 bt431.1 bt435.1 bt437.1 true s0_0 bt431.2)))))
theorem partsynclaw21_CutPrefixes.mono_l : ∀ k, (∀ y0 y1 y2 y3 y4 y5 y6 y7, LeO (partsynclaw21_CutPrefixes.j0 k y0 y1 y2 y3 y4 y5 y6 y7) (partsynclaw21_CutPrefixes.j0 (k + 1) y0 y1 y2 y3 y4 y5 y6 y7)) ∧ (∀ y0 y1 y2 y3 y4 y5 y6 y7 y8, LeO (partsynclaw21_CutPrefixes.l0 k y0 y1 y2 y3 y4 y5 y6 y7 y8) (partsynclaw21_CutPrefixes.l0 (k + 1) y0 y1 y2 y3 y4 y5 y6 y7 y8)) ∧ (∀ y0 y1 y2 y3 y4 y5 y6 y7 y8 y9 y10, LeO (partsynclaw21_CutPrefixes.j2 k y0 y1 y2 y3 y4 y5 y6 y7 y8 y9 y10) (partsynclaw21_CutPrefixes.j2 (k + 1) y0 y1 y2 y3 y4 y5 y6 y7 y8 y9 y10))
  | 0 => ⟨fun _ _ _ _ _ _ _ _ r h => by simp [partsynclaw21_CutPrefixes.j0] at h, fun _ _ _ _ _ _ _ _ _ r h => by simp [partsynclaw21_CutPrefixes.l0] at h, fun _ _ _ _ _ _ _ _ _ _ _ r h => by simp [partsynclaw21_CutPrefixes.j2] at h⟩
  | k + 1 => by
    obtain ⟨ih0, ih1, ih2⟩ := partsynclaw21_CutPrefixes.mono_l k
    refine ⟨?_, ?_, ?_⟩
    · intro y0 y1 y2 y3 y4 y5 y6 y7
      unfold partsynclaw21_CutPrefixes.j0
      repeat' first
      | (with_reducible exact ih0 _ _ _ _ _ _ _ _)
      | (with_reducible exact ih1 _ _ _ _ _ _ _ _ _)
      | (with_reducible exact ih2 _ _ _ _ _ _ _ _ _ _ _)
      | (with_reducible exact cut_Closed.mono _ _ _ _)
      | (with_reducible exact cut_Compare.mono _ _ _)
      | (with_reducible exact cut_Floor.mono _ _ _ _)
      | (with_reducible exact cut_Of.mono _ _ _ _)
      | (with_reducible exact cut_Whole.mono _ _ _)
      | (with_reducible exact partsynccase_Case_Cut.mono _ _ _ _)
      | (with_reducible exact partsynclaw21_begun.mono _)
      | (with_reducible exact partsynclaw21_under.mono _ _ _)
      | (with_reducible exact LeO.refl _)
      | (with_reducible exact LeO.none _)
      | (with_reducible refine LeO.ite ?_ ?_)
      | (with_reducible refine LeO.bind ?_ (fun _ => ?_))
      | exact ih0 _ _ _ _ _ _ _ _
      | exact ih1 _ _ _ _ _ _ _ _ _
      | exact ih2 _ _ _ _ _ _ _ _ _ _ _
      | exact cut_Closed.mono _ _ _ _
      | exact cut_Compare.mono _ _ _
      | exact cut_Floor.mono _ _ _ _
      | exact cut_Of.mono _ _ _ _
      | exact cut_Whole.mono _ _ _
      | exact partsynccase_Case_Cut.mono _ _ _ _
      | exact partsynclaw21_begun.mono _
      | exact partsynclaw21_under.mono _ _ _
      | exact LeO.none _
      | refine LeO.ite ?_ ?_
      | refine LeO.bind ?_ (fun _ => ?_)
    · intro y0 y1 y2 y3 y4 y5 y6 y7 y8
      unfold partsynclaw21_CutPrefixes.l0
      repeat' first
      | (with_reducible exact ih0 _ _ _ _ _ _ _ _)
      | (with_reducible exact ih1 _ _ _ _ _ _ _ _ _)
      | (with_reducible exact ih2 _ _ _ _ _ _ _ _ _ _ _)
      | (with_reducible exact cut_Closed.mono _ _ _ _)
      | (with_reducible exact cut_Compare.mono _ _ _)
      | (with_reducible exact cut_Floor.mono _ _ _ _)
      | (with_reducible exact cut_Of.mono _ _ _ _)
      | (with_reducible exact cut_Whole.mono _ _ _)
      | (with_reducible exact partsynccase_Case_Cut.mono _ _ _ _)
      | (with_reducible exact partsynclaw21_begun.mono _)
      | (with_reducible exact partsynclaw21_under.mono _ _ _)
      | (with_reducible exact LeO.refl _)
      | (with_reducible exact LeO.none _)
      | (with_reducible refine LeO.ite ?_ ?_)
      | (with_reducible refine LeO.bind ?_ (fun _ => ?_))
      | exact ih0 _ _ _ _ _ _ _ _
      | exact ih1 _ _ _ _ _ _ _ _ _
      | exact ih2 _ _ _ _ _ _ _ _ _ _ _
      | exact cut_Closed.mono _ _ _ _
      | exact cut_Compare.mono _ _ _
      | exact cut_Floor.mono _ _ _ _
      | exact cut_Of.mono _ _ _ _
      | exact cut_Whole.mono _ _ _
      | exact partsynccase_Case_Cut.mono _ _ _ _
      | exact partsynclaw21_begun.mono _
      | exact partsynclaw21_under.mono _ _ _
      | exact LeO.none _
      | refine LeO.ite ?_ ?_
      | refine LeO.bind ?_ (fun _ => ?_)
    · intro y0 y1 y2 y3 y4 y5 y6 y7 y8 y9 y10
      unfold partsynclaw21_CutPrefixes.j2
      repeat' first
      | (with_reducible exact ih0 _ _ _ _ _ _ _ _)
      | (with_reducible exact ih1 _ _ _ _ _ _ _ _ _)
      | (with_reducible exact ih2 _ _ _ _ _ _ _ _ _ _ _)
      | (with_reducible exact cut_Closed.mono _ _ _ _)
      | (with_reducible exact cut_Compare.mono _ _ _)
      | (with_reducible exact cut_Floor.mono _ _ _ _)
      | (with_reducible exact cut_Of.mono _ _ _ _)
      | (with_reducible exact cut_Whole.mono _ _ _)
      | (with_reducible exact partsynccase_Case_Cut.mono _ _ _ _)
      | (with_reducible exact partsynclaw21_begun.mono _)
      | (with_reducible exact partsynclaw21_under.mono _ _ _)
      | (with_reducible exact LeO.refl _)
      | (with_reducible exact LeO.none _)
      | (with_reducible refine LeO.ite ?_ ?_)
      | (with_reducible refine LeO.bind ?_ (fun _ => ?_))
      | exact ih0 _ _ _ _ _ _ _ _
      | exact ih1 _ _ _ _ _ _ _ _ _
      | exact ih2 _ _ _ _ _ _ _ _ _ _ _
      | exact cut_Closed.mono _ _ _ _
      | exact cut_Compare.mono _ _ _
      | exact cut_Floor.mono _ _ _ _
      | exact cut_Of.mono _ _ _ _
      | exact cut_Whole.mono _ _ _
      | exact partsynccase_Case_Cut.mono _ _ _ _
      | exact partsynclaw21_begun.mono _
      | exact partsynclaw21_under.mono _ _ _
      | exact LeO.none _
      | refine LeO.ite ?_ ?_
      | refine LeO.bind ?_ (fun _ => ?_)
theorem partsynclaw21_CutPrefixes.mono : ∀ a0 a1 k, LeO (partsynclaw21_CutPrefixes.f k a0 a1) (partsynclaw21_CutPrefixes.f (k + 1) a0 a1) := by
  intro a0 a1 k
  obtain ⟨ih0, ih1, ih2⟩ := partsynclaw21_CutPrefixes.mono_l k
  unfold partsynclaw21_CutPrefixes.f
  repeat' first
      | (with_reducible exact ih0 _ _ _ _ _ _ _ _)
      | (with_reducible exact ih1 _ _ _ _ _ _ _ _ _)
      | (with_reducible exact ih2 _ _ _ _ _ _ _ _ _ _ _)
      | (with_reducible exact cut_Closed.mono _ _ _ _)
      | (with_reducible exact cut_Compare.mono _ _ _)
      | (with_reducible exact cut_Floor.mono _ _ _ _)
      | (with_reducible exact cut_Of.mono _ _ _ _)
      | (with_reducible exact cut_Whole.mono _ _ _)
      | (with_reducible exact partsynccase_Case_Cut.mono _ _ _ _)
      | (with_reducible exact partsynclaw21_begun.mono _)
      | (with_reducible exact partsynclaw21_under.mono _ _ _)
      | (with_reducible exact LeO.refl _)
      | (with_reducible exact LeO.none _)
      | (with_reducible refine LeO.ite ?_ ?_)
      | (with_reducible refine LeO.bind ?_ (fun _ => ?_))
      | exact ih0 _ _ _ _ _ _ _ _
      | exact ih1 _ _ _ _ _ _ _ _ _
      | exact ih2 _ _ _ _ _ _ _ _ _ _ _
      | exact cut_Closed.mono _ _ _ _
      | exact cut_Compare.mono _ _ _
      | exact cut_Floor.mono _ _ _ _
      | exact cut_Of.mono _ _ _ _
      | exact cut_Whole.mono _ _ _
      | exact partsynccase_Case_Cut.mono _ _ _ _
      | exact partsynclaw21_begun.mono _
      | exact partsynclaw21_under.mono _ _ _
      | exact LeO.none _
      | refine LeO.ite ?_ ?_
      | refine LeO.bind ?_ (fun _ => ?_)
theorem partsynclaw21_CutPrefixes.lf {r : Bool} {a b : Int} (hr : r = true) (h : some (false, a) = some (r, b)) : False := by subst hr; simp at h
set_option maxHeartbeats 8000000 in
set_option maxRecDepth 100000 in
theorem partsynclaw21_CutPrefixes.calls (k : Nat) (AA : Option Addr) (cc : Nat) (l0 : List Int) (r1 : Bool) (r2 : Int) (ww : World) (hC : (Kd.int .u8).C ww AA l0.length l0) (hc : l0.length ≤ cc) (h : partsynclaw21_CutPrefixes.f k (l0.take 90) 0 = some (r1, r2)) (hr : r1 = true) :
    Calls Try.prog 4 #[.slice AA l0.length cc] ww fun e w' => ∃ w w0 g, Below ww.heap.size ww w0 ∧ (e = .returned (.bool r1) ∧ IsS61 w0 w' g (l0.take 90) r2 ∧ Below w0.heap.size w0 w' ∧ KeepBut w w' g none) := by
  have HRT := Aside0.mk hr
  clear hr
  have Z_hC := Aside0.mk hC
  have Z_hc := Aside0.mk hc
  clear hC hc
  obtain ⟨s0_0, hs0_⟩ : ∃ s, s = l0.take 90 := ⟨_, rfl⟩
  obtain ⟨s0_1, hs1_⟩ : ∃ s : Int, s = 0 := ⟨_, rfl⟩
  replace h := (show _ = _ from h)
  rw [← hs0_, ← hs1_] at h
  rw [← hs0_]
  go_enter Try.func4, Try.ntmps4
  go_upto_region 2 with (first | (go_at_call 13; refine (new_any l0 AA cc 90 _ (Kd.C_below Z_hC.out (by repeat (first | exact Below.refl _ _ | apply Below.drew | apply pw_below_drewN))) Z_hc.out (by omega)).mono ?_; rintro e w ⟨w0, g, rfl, hb0, hI, hB⟩; have HN0 := Aside0.mk (show Below ww.heap.size ww w0 from Below.trans (by repeat (first | exact Below.refl _ _ | apply Below.drew | apply pw_below_drewN)) hb0); have HBW := Aside0.mk (show Below ww.heap.size ww w from below_step HN0.out hB); have HGE := Aside0.mk (show ww.heap.size ≤ g from Nat.le_trans HN0.out.size hI.ge); clear hb0; replace hI := (show IsS61 w0 w g s0_0 s0_1 from by rw [hs0_, hs1_]; exact hI); clear hs0_ hs1_))
  have HI0 := Aside0.mk hI
  have HK := Aside0.mk (KeepBut.refl w g none)
  have HL := Aside0.mk hB.size
  clear hI
  have HW0 := Aside0.mk hB.size
  have HB := Aside0.mk hB
  clear hB
  have H : ((partsynccase_Case_Logs.f s0_0 s0_1).bind fun bt426 => ((partsynccase_Case_Cut.f k s0_0 bt426.2.2 bt426.2.1).bind fun bt431 => ((cut_Whole.f k bt426.1 bt426.2.1).bind fun bt435 => ((cut_Floor.f k bt426.1 bt426.2.1 bt431.1).bind fun bt437 => (if bt435.2 = 0 then (if bt437.2 = 0 then (if bt435.1 < bt426.1 then (partsynclaw21_CutPrefixes.j0 k bt426.1 bt426.2.1 bt431.1 bt435.1 bt437.1 true s0_0 bt431.2) else (partsynclaw21_CutPrefixes.j0 k bt426.1 bt426.2.1 bt431.1 bt435.1 bt437.1 (decide (bt435.1 > (wrap64 (bt426.1 + 60)))) s0_0 bt431.2)) else (partsynclaw21_CutPrefixes.j0 k bt426.1 bt426.2.1 bt431.1 bt435.1 bt437.1 true s0_0 bt431.2)) else (partsynclaw21_CutPrefixes.j0 k bt426.1 bt426.2.1 bt431.1 bt435.1 bt437.1 true s0_0 bt431.2)))))) = some (r1, r2) := h
  clear h
  replace H := Option.bind_eq_some_iff.mp H
  obtain ⟨⟨t426, t427, t430⟩, A20, H⟩ := H
  replace H : ((partsynccase_Case_Cut.f k s0_0 t430 t427).bind fun bt431 => ((cut_Whole.f k t426 t427).bind fun bt435 => ((cut_Floor.f k t426 t427 bt431.1).bind fun bt437 => (if bt435.2 = 0 then (if bt437.2 = 0 then (if bt435.1 < t426 then (partsynclaw21_CutPrefixes.j0 k t426 t427 bt431.1 bt435.1 bt437.1 true s0_0 bt431.2) else (partsynclaw21_CutPrefixes.j0 k t426 t427 bt431.1 bt435.1 bt437.1 (decide (bt435.1 > (wrap64 (t426 + 60)))) s0_0 bt431.2)) else (partsynclaw21_CutPrefixes.j0 k t426 t427 bt431.1 bt435.1 bt437.1 true s0_0 bt431.2)) else (partsynclaw21_CutPrefixes.j0 k t426 t427 bt431.1 bt435.1 bt437.1 true s0_0 bt431.2))))) = some (r1, r2) := H
  have A2 := Aside0.mk A20
  clear A20
  replace H := Option.bind_eq_some_iff.mp H
  obtain ⟨⟨t431, t434⟩, A30, H⟩ := H
  replace H : ((cut_Whole.f k t426 t427).bind fun bt435 => ((cut_Floor.f k t426 t427 t431).bind fun bt437 => (if bt435.2 = 0 then (if bt437.2 = 0 then (if bt435.1 < t426 then (partsynclaw21_CutPrefixes.j0 k t426 t427 t431 bt435.1 bt437.1 true s0_0 t434) else (partsynclaw21_CutPrefixes.j0 k t426 t427 t431 bt435.1 bt437.1 (decide (bt435.1 > (wrap64 (t426 + 60)))) s0_0 t434)) else (partsynclaw21_CutPrefixes.j0 k t426 t427 t431 bt435.1 bt437.1 true s0_0 t434)) else (partsynclaw21_CutPrefixes.j0 k t426 t427 t431 bt435.1 bt437.1 true s0_0 t434)))) = some (r1, r2) := H
  have A3 := Aside0.mk A30
  clear A30
  replace H := Option.bind_eq_some_iff.mp H
  obtain ⟨⟨t435, t436⟩, A40, H⟩ := H
  replace H : ((cut_Floor.f k t426 t427 t431).bind fun bt437 => (if t436 = 0 then (if bt437.2 = 0 then (if t435 < t426 then (partsynclaw21_CutPrefixes.j0 k t426 t427 t431 t435 bt437.1 true s0_0 t434) else (partsynclaw21_CutPrefixes.j0 k t426 t427 t431 t435 bt437.1 (decide (t435 > (wrap64 (t426 + 60)))) s0_0 t434)) else (partsynclaw21_CutPrefixes.j0 k t426 t427 t431 t435 bt437.1 true s0_0 t434)) else (partsynclaw21_CutPrefixes.j0 k t426 t427 t431 t435 bt437.1 true s0_0 t434))) = some (r1, r2) := H
  have A4 := Aside0.mk A40
  clear A40
  replace H := Option.bind_eq_some_iff.mp H
  obtain ⟨⟨t437, t438⟩, A50, H⟩ := H
  replace H : (if t436 = 0 then (if t438 = 0 then (if t435 < t426 then (partsynclaw21_CutPrefixes.j0 k t426 t427 t431 t435 t437 true s0_0 t434) else (partsynclaw21_CutPrefixes.j0 k t426 t427 t431 t435 t437 (decide (t435 > (wrap64 (t426 + 60)))) s0_0 t434)) else (partsynclaw21_CutPrefixes.j0 k t426 t427 t431 t435 t437 true s0_0 t434)) else (partsynclaw21_CutPrefixes.j0 k t426 t427 t431 t435 t437 true s0_0 t434)) = some (r1, r2) := H
  have A5 := Aside0.mk A50
  clear A50
  have HC6 := Aside0.mk H
  clear H
  go_upto_region 6 with (first | ((with_reducible refine gate_callee (f := 21) rfl ?_); refine goesL_ (some 25) rfl rfl Try.func21 (by kernel_rfl) rfl #[.pointer (some ⟨g, 0, none⟩)] rfl (by (try simp only [List.map_toArray, List.map_cons, List.map_nil]); first | done | rfl | (simp only [List.length_drop, List.length_take]; rfl)) ?_; (with_reducible refine (partsynccase_Case_Logs.calls g s0_0 s0_1 t426 t427 t430 w0 _ ?side1 ?side2 A2.out).mono ?_); (case side1 => repeat (first | (with_reducible first | exact HI0.out | apply IsS61.alloc | apply IsS61.drewN | apply IsS61.drew | apply IsS61.set_1) | exact HI0.out)); (case side2 => repeat (first | (with_reducible first | exact HB.out | apply below_alloc | apply pw_below_drewN | apply below_drew1 | refine below_set ?_ (IsS61.ge HI0.out)) | exact HB.out)); rintro e w7 ⟨v428, rfl, ho0, hi, hb, hk⟩; refine ⟨_, rfl, ?_⟩; have n0_ := Aside0.mk (Kd.R_lower ho0 (keep_size (w := w) (g := g) (row := none) (by repeat (first | (with_reducible first | exact HK.out | apply KeepBut.set_ | apply keep_drewN | apply keep_drew | apply keep_alloc) | exact HK.out)))); have n1_ := Aside0.mk (KeepBut.trans (by repeat (first | (with_reducible first | exact HK.out | apply KeepBut.set_ | apply keep_drewN | apply keep_drew | apply keep_alloc) | exact HK.out)) hk (.inl rfl)); have n2_ := Aside0.mk (hb); have n3_ := Aside0.mk (hi); clear HK; clear HB; clear HI0; have HO429 := n0_; have HK := n1_; have HB := n2_; have HI0 := n3_; clear n0_ n1_ n2_ n3_; (try clear hb); (try clear hb2); (try clear hk); (try clear hi); (try clear ho0); obtain ⟨Ao8, co8, eo8⟩ := Kd.R_slice HO429.out; subst eo8) | ((with_reducible refine gate_callee (f := 22) rfl ?_); refine goesL_ (some 30) rfl rfl Try.func22 (by kernel_rfl) rfl #[.pointer (some ⟨g, 0, none⟩), .slice Ao8 t427.length co8] rfl (by (try simp only [List.map_toArray, List.map_cons, List.map_nil]); first | done | rfl | (simp only [List.length_drop, List.length_take]; rfl)) ?_; (with_reducible refine (partsynccase_Case_Cut.calls k g s0_0 t430 _ _ t427 t431 t434 w0 _ ?side1 ?side2 ?side3 ?side4 A3.out).mono ?_); (case side1 => repeat (first | (with_reducible first | exact HI0.out | apply IsS61.alloc | apply IsS61.drewN | apply IsS61.drew | apply IsS61.set_1) | exact HI0.out)); (case side2 => repeat (first | (with_reducible first | exact HB.out | apply below_alloc | apply pw_below_drewN | apply below_drew1 | refine below_set ?_ (IsS61.ge HI0.out)) | exact HB.out)); (case side3 => exact Kd.C_foot_own (IsS61.apart (show IsS61 w0 _ g s0_0 t430 from by repeat (first | (with_reducible first | exact HI0.out | apply IsS61.alloc | apply IsS61.drewN | apply IsS61.drew | apply IsS61.set_1) | exact HI0.out)) (by (with_reducible repeat (first | apply Kd.R_alloc | apply Kd.R_drewN | apply Kd.R_drew)); exact HO429.out) (by decide)) (fun _ h_ => h_.2)); (case side4 => exact (Kd.R_reads' HO429.out).2.1); rintro e w9 ⟨v432, rfl, ho0, hi, hb, hk⟩; refine ⟨_, rfl, ?_⟩; have n0_ := Aside0.mk (Kd.R_mono (Kd.R_told (Kd.R_oldK (IsS61.apart (show IsS61 w0 _ g s0_0 t430 from by repeat (first | (with_reducible first | exact HI0.out | apply IsS61.alloc | apply IsS61.drewN | apply IsS61.drew | apply IsS61.set_1) | exact HI0.out)) (by (with_reducible repeat (first | apply Kd.R_alloc | apply Kd.R_drewN | apply Kd.R_drew)); exact HO429.out) (by decide)) hk) (Kd.R_base ho0)) (fun _ h_ => h_.1)); have n1_ := Aside0.mk (Kd.R_lower ho0 (keep_size (w := w) (g := g) (row := none) (by repeat (first | (with_reducible first | exact HK.out | apply KeepBut.set_ | apply keep_drewN | apply keep_drew | apply keep_alloc) | exact HK.out)))); have n2_ := Aside0.mk (KeepBut.trans (by repeat (first | (with_reducible first | exact HK.out | apply KeepBut.set_ | apply keep_drewN | apply keep_drew | apply keep_alloc) | exact HK.out)) hk (.inl rfl)); have n3_ := Aside0.mk (hb); have n4_ := Aside0.mk (hi); clear HO429; clear HK; clear HB; clear HI0; have HO429 := n0_; have HO433 := n1_; have HK := n2_; have HB := n3_; have HI0 := n4_; clear n0_ n1_ n2_ n3_ n4_; (try clear hb); (try clear hb2); (try clear hk); (try clear hi); (try clear ho0)) | ((with_reducible refine gate_callee (f := 23) rfl ?_); refine goesL_ (some 34) rfl rfl Try.func23 (by kernel_rfl) rfl #[.int .i64 t426, .slice Ao8 t427.length co8] rfl (by (try simp only [List.map_toArray, List.map_cons, List.map_nil]); first | done | rfl | (simp only [List.length_drop, List.length_take]; rfl)) ?_; (with_reducible refine (cut_Whole.calls k t426 _ _ t427 t435 t436 _ ?side1 ?side2 A4.out).mono ?_); (case side1 => repeat (first | exact (Kd.R_reads' HO429.out).2.2 | (with_reducible refine Kd.C_alloc ?_ _) | (with_reducible refine Kd.C_drewN ?_ _) | (with_reducible refine Kd.C_drew ?_))); (case side2 => exact (Kd.R_reads' HO429.out).2.1); rintro e w10 ⟨rfl, hb⟩; refine ⟨_, rfl, ?_⟩; have n0_ := Aside0.mk (Kd.R_below (by (with_reducible repeat (first | apply Kd.R_alloc | apply Kd.R_drewN | apply Kd.R_drew)); exact HO429.out) hb); have n1_ := Aside0.mk (Kd.R_below (by (with_reducible repeat (first | apply Kd.R_alloc | apply Kd.R_drewN | apply Kd.R_drew)); exact HO433.out) hb); have n2_ := Aside0.mk (IsS61.below (by repeat (first | (with_reducible first | exact HI0.out | apply IsS61.alloc | apply IsS61.drewN | apply IsS61.drew | apply IsS61.set_1) | exact HI0.out)) hb); have n3_ := Aside0.mk (KeepBut.trans (by repeat (first | (with_reducible first | exact HK.out | apply KeepBut.set_ | apply keep_drewN | apply keep_drew | apply keep_alloc) | exact HK.out)) (KeepBut.of_below hb g none) (.inl rfl)); have n4_ := Aside0.mk (below_step (by repeat (first | (with_reducible first | exact HB.out | apply below_alloc | apply pw_below_drewN | apply below_drew1 | refine below_set ?_ (IsS61.ge HI0.out)) | exact HB.out)) hb); clear HO429; clear HO433; clear HI0; clear HK; clear HB; have HO429 := n0_; have HO433 := n1_; have HI0 := n2_; have HK := n3_; have HB := n4_; clear n0_ n1_ n2_ n3_ n4_; (try clear hb); (try clear hb2); (try clear hk); (try clear hi); obtain ⟨Ao11, co11, eo11⟩ := Kd.R_slice HO433.out; subst eo11) | ((with_reducible refine gate_callee (f := 24) rfl ?_); refine goesL_ (some 41) rfl rfl Try.func24 (by kernel_rfl) rfl #[.int .i64 t426, .slice Ao8 t427.length co8, .slice Ao11 t431.length co11] rfl (by (try simp only [List.map_toArray, List.map_cons, List.map_nil]); first | done | rfl | (simp only [List.length_drop, List.length_take]; rfl)) ?_; (with_reducible refine (cut_Floor.calls k t426 _ _ t427 _ _ t431 t437 t438 _ ?side1 ?side2 ?side3 ?side4 A5.out).mono ?_); (case side1 => repeat (first | exact (Kd.R_reads' HO429.out).2.2 | (with_reducible refine Kd.C_alloc ?_ _) | (with_reducible refine Kd.C_drewN ?_ _) | (with_reducible refine Kd.C_drew ?_))); (case side2 => exact (Kd.R_reads' HO429.out).2.1); (case side3 => repeat (first | exact (Kd.R_reads' HO433.out).2.2 | (with_reducible refine Kd.C_alloc ?_ _) | (with_reducible refine Kd.C_drewN ?_ _) | (with_reducible refine Kd.C_drew ?_))); (case side4 => exact (Kd.R_reads' HO433.out).2.1); rintro e w12 ⟨rfl, hb⟩; refine ⟨_, rfl, ?_⟩; have n0_ := Aside0.mk (Kd.R_below (by (with_reducible repeat (first | apply Kd.R_alloc | apply Kd.R_drewN | apply Kd.R_drew)); exact HO429.out) hb); have n1_ := Aside0.mk (Kd.R_below (by (with_reducible repeat (first | apply Kd.R_alloc | apply Kd.R_drewN | apply Kd.R_drew)); exact HO433.out) hb); have n2_ := Aside0.mk (IsS61.below (by repeat (first | (with_reducible first | exact HI0.out | apply IsS61.alloc | apply IsS61.drewN | apply IsS61.drew | apply IsS61.set_1) | exact HI0.out)) hb); have n3_ := Aside0.mk (KeepBut.trans (by repeat (first | (with_reducible first | exact HK.out | apply KeepBut.set_ | apply keep_drewN | apply keep_drew | apply keep_alloc) | exact HK.out)) (KeepBut.of_below hb g none) (.inl rfl)); have n4_ := Aside0.mk (below_step (by repeat (first | (with_reducible first | exact HB.out | apply below_alloc | apply pw_below_drewN | apply below_drew1 | refine below_set ?_ (IsS61.ge HI0.out)) | exact HB.out)) hb); clear HO429; clear HO433; clear HI0; clear HK; clear HB; have HO429 := n0_; have HO433 := n1_; have HI0 := n2_; have HK := n3_; have HB := n4_; clear n0_ n1_ n2_ n3_ n4_; (try clear hb); (try clear hb2); (try clear hk); (try clear hi)))
  (try simp only [Act.put, List.setIfInBounds_toArray, List.set_cons_zero, List.set_cons_succ])
  go_cut [60] (fun v60 wc => ∃ (kq : Nat) (x60_5 : Bool), v60 = .bool x60_5 ∧ Aside0 (partsynclaw21_CutPrefixes.j0 kq t426 t427 t431 t435 t437 x60_5 s0_0 t434 = some (r1, r2)) ∧ Aside0 (kq ≤ k) ∧ Aside0 (Kd.R (Kd.slice 50 k50) 47 wc w.heap.size (fun k_ => some k_ ≠ ((.slice Ao11 t431.length co11) : Value).ownBlock) (.slice Ao8 t427.length co8) t427) ∧ Aside0 (Kd.R (Kd.int .i64) 3 wc w.heap.size (fun _ => True) (.slice Ao11 t431.length co11) t431) ∧ Aside0 (IsS61 w0 wc g s0_0 t434) ∧ Aside0 (KeepBut w wc g none) ∧ Aside0 (Below w0.heap.size w0 wc))
  case first =>
    have H := HC6.out
    clear HC6
    by_cases c13 : t436 = 0
    · rw [if_pos c13] at H
      have c13b0 : (t436 == 0) = true := beq_iff_eq.mpr c13
      have c13b1 : (t436 != 0) = false := bne_eq_false_iff_eq.mpr c13
      clear c13
      (first | rw [c13b0] | (simp only [i64_w, i32_w]; rw [c13b0]) | skip)
      by_cases c14 : t438 = 0
      · rw [if_pos c14] at H
        have c14b0 : (t438 == 0) = true := beq_iff_eq.mpr c14
        have c14b1 : (t438 != 0) = false := bne_eq_false_iff_eq.mpr c14
        clear c14
        by_cases c15 : t435 < t426
        · rw [if_pos c15] at H
          have c15b0 : decide (t435 < t426) = true := decide_eq_true c15
          clear c15
          have H' := Aside0.mk H
          clear H
          go_wp2
          go_meet
          case rel => exact ⟨_, (true), (by first | rfl | (simp; done) | (simp [*]; done)), H', ⟨by first | omega | exact Nat.le_refl _⟩, ⟨by (with_reducible repeat (first | apply Kd.R_alloc | apply Kd.R_drewN | apply Kd.R_drew)); exact Kd.R_mono HO429.out (fun _ hk => hk.2)⟩, ⟨by (with_reducible repeat (first | apply Kd.R_alloc | apply Kd.R_drewN | apply Kd.R_drew)); exact HO433.out⟩, ⟨by repeat (first | (with_reducible first | exact HI0.out | apply IsS61.alloc | apply IsS61.drewN | apply IsS61.drew | apply IsS61.set_1) | exact HI0.out)⟩, ⟨by repeat (first | (with_reducible first | exact HK.out | apply KeepBut.set_ | apply keep_drewN | apply keep_drew | apply keep_alloc) | exact HK.out)⟩, ⟨by repeat (first | (with_reducible first | exact HB.out | apply below_alloc | apply pw_below_drewN | apply below_drew1 | refine below_set ?_ (IsS61.ge HI0.out)) | exact HB.out)⟩⟩
        · rw [if_neg c15] at H
          have c15b0 : decide (t435 < t426) = false := decide_eq_false c15
          clear c15
          have H' := Aside0.mk H
          clear H
          go_wp2
          go_meet
          case rel => exact ⟨_, (decide (t435 > (wrap64 (t426 + 60)))), (by first | rfl | (simp; done) | (simp [*]; done)), H', ⟨by first | omega | exact Nat.le_refl _⟩, ⟨by (with_reducible repeat (first | apply Kd.R_alloc | apply Kd.R_drewN | apply Kd.R_drew)); exact Kd.R_mono HO429.out (fun _ hk => hk.2)⟩, ⟨by (with_reducible repeat (first | apply Kd.R_alloc | apply Kd.R_drewN | apply Kd.R_drew)); exact HO433.out⟩, ⟨by repeat (first | (with_reducible first | exact HI0.out | apply IsS61.alloc | apply IsS61.drewN | apply IsS61.drew | apply IsS61.set_1) | exact HI0.out)⟩, ⟨by repeat (first | (with_reducible first | exact HK.out | apply KeepBut.set_ | apply keep_drewN | apply keep_drew | apply keep_alloc) | exact HK.out)⟩, ⟨by repeat (first | (with_reducible first | exact HB.out | apply below_alloc | apply pw_below_drewN | apply below_drew1 | refine below_set ?_ (IsS61.ge HI0.out)) | exact HB.out)⟩⟩
      · rw [if_neg c14] at H
        have c14b0 : (t438 == 0) = false := beq_eq_false_iff_ne.mpr c14
        have c14b1 : (t438 != 0) = true := bne_iff_ne.mpr c14
        have H' := Aside0.mk H
        clear H
        go_wp2
        go_meet
        case rel => exact ⟨_, (true), (by first | rfl | (simp; done) | (simp [*]; done)), H', ⟨by first | omega | exact Nat.le_refl _⟩, ⟨by (with_reducible repeat (first | apply Kd.R_alloc | apply Kd.R_drewN | apply Kd.R_drew)); exact Kd.R_mono HO429.out (fun _ hk => hk.2)⟩, ⟨by (with_reducible repeat (first | apply Kd.R_alloc | apply Kd.R_drewN | apply Kd.R_drew)); exact HO433.out⟩, ⟨by repeat (first | (with_reducible first | exact HI0.out | apply IsS61.alloc | apply IsS61.drewN | apply IsS61.drew | apply IsS61.set_1) | exact HI0.out)⟩, ⟨by repeat (first | (with_reducible first | exact HK.out | apply KeepBut.set_ | apply keep_drewN | apply keep_drew | apply keep_alloc) | exact HK.out)⟩, ⟨by repeat (first | (with_reducible first | exact HB.out | apply below_alloc | apply pw_below_drewN | apply below_drew1 | refine below_set ?_ (IsS61.ge HI0.out)) | exact HB.out)⟩⟩
    · rw [if_neg c13] at H
      have c13b0 : (t436 == 0) = false := beq_eq_false_iff_ne.mpr c13
      have c13b1 : (t436 != 0) = true := bne_iff_ne.mpr c13
      (first | rw [c13b0] | (simp only [i64_w, i32_w]; rw [c13b0]) | skip)
      have H' := Aside0.mk H
      clear H
      go_wp2
      go_meet
      case rel => exact ⟨_, (true), (by first | rfl | (simp; done) | (simp [*]; done)), H', ⟨by first | omega | exact Nat.le_refl _⟩, ⟨by (with_reducible repeat (first | apply Kd.R_alloc | apply Kd.R_drewN | apply Kd.R_drew)); exact Kd.R_mono HO429.out (fun _ hk => hk.2)⟩, ⟨by (with_reducible repeat (first | apply Kd.R_alloc | apply Kd.R_drewN | apply Kd.R_drew)); exact HO433.out⟩, ⟨by repeat (first | (with_reducible first | exact HI0.out | apply IsS61.alloc | apply IsS61.drewN | apply IsS61.drew | apply IsS61.set_1) | exact HI0.out)⟩, ⟨by repeat (first | (with_reducible first | exact HK.out | apply KeepBut.set_ | apply keep_drewN | apply keep_drew | apply keep_alloc) | exact HK.out)⟩, ⟨by repeat (first | (with_reducible first | exact HB.out | apply below_alloc | apply pw_below_drewN | apply below_drew1 | refine below_set ?_ (IsS61.ge HI0.out)) | exact HB.out)⟩⟩
  case rest =>
    clear HC6
    try clear c1
    try clear c2
    try clear p2
    try clear c4
    try clear p6
    try clear c13
    try clear c13b0
    try clear c13b1
    try clear c14
    try clear c14b0
    try clear c14b1
    try clear c15
    try clear c15b0
    obtain ⟨kq, x60_5, rfl, HA, HJ5, HO_5, HO_6, HI0, HK, HB⟩ := hcut
    cases kq with
    | zero => exact absurd HA.out (by simp [partsynclaw21_CutPrefixes.j0])
    | succ kj5 =>
      have H := HA.out
      clear HA
      simp only [partsynclaw21_CutPrefixes.j0] at H
      by_cases c16 : x60_5 = true
      · subst c16
        have H1 : (some (false, t434)) = some (r1, r2) := by rw [if_pos rfl] at H; exact H
        clear H
        have H := H1
        clear H1
        exact (partsynclaw21_CutPrefixes.lf HRT.out H).elim
      · replace c16 := Bool.eq_false_iff.mpr c16
        subst c16
        have H1 : (partsynclaw21_CutPrefixes.l0 kj5 t426 t427 t431 t435 t437 ([] : List Int) t426 s0_0 t434) = some (r1, r2) := by rw [if_neg (show ¬ (false = true) by decide)] at H; exact H
        clear H
        have H := H1
        clear H1
        have H' := Aside0.mk H
        clear H
        go_wp2
        go_loopg [11, 12] kj5 (fun kq v11 v12 w' => ∃ (x11_2 : List Int) (x12_2 : Int), v12 = .int .i64 x12_2 ∧ Aside0 (partsynclaw21_CutPrefixes.l0 kq t426 t427 t431 t435 t437 x11_2 x12_2 s0_0 t434 = some (r1, r2)) ∧ Aside0 (kq ≤ kj5) ∧ Aside0 (Kd.R (Kd.slice 50 k50) 47 w' w.heap.size (fun k_ => some k_ ≠ ((.slice Ao11 t431.length co11) : Value).ownBlock ∧ some k_ ≠ (v11 : Value).ownBlock) (.slice Ao8 t427.length co8) t427) ∧ Aside0 (Kd.R (Kd.int .i64) 3 w' w.heap.size (fun k_ => some k_ ≠ (v11 : Value).ownBlock) (.slice Ao11 t431.length co11) t431) ∧ Aside0 (Kd.R (Kd.int .i64) 3 w' w.heap.size (fun k_ => some k_ ≠ ((.slice Ao11 t431.length co11) : Value).ownBlock) v11 x11_2) ∧ Aside0 (IsS61 w0 w' g s0_0 t434) ∧ Aside0 (KeepBut w w' g none) ∧ Aside0 (Below w0.heap.size w0 w'))
        case atStart => exact ⟨(([] : List Int)), (t426), (by first | rfl | (simp; done) | (simp [*]; done)), H', ⟨Nat.le_refl _⟩, ⟨by (with_reducible repeat (first | apply Kd.R_alloc | apply Kd.R_drewN | apply Kd.R_drew)); exact Kd.R_mono HO_5.out (fun _ hk => ⟨hk, (by simp [Value.ownBlock])⟩)⟩, ⟨by (with_reducible repeat (first | apply Kd.R_alloc | apply Kd.R_drewN | apply Kd.R_drew)); exact Kd.R_mono HO_6.out (fun _ hk => (by simp [Value.ownBlock]))⟩, ⟨by first | exact Kd.R_nil _ _ _ _ _ | exact Kd.N_nil _ _ _ _ _ | exact Kd.V_nil _ _ _ _ _ | exact Kd.Q_nil _ _ _ _ _ | exact Kd.S_nil _ _ _ _ _⟩, ⟨by repeat (first | (with_reducible first | exact HI0.out | apply IsS61.alloc | apply IsS61.drewN | apply IsS61.drew | apply IsS61.set_1) | exact HI0.out)⟩, ⟨by repeat (first | (with_reducible first | exact HK.out | apply KeepBut.set_ | apply keep_drewN | apply keep_drew | apply keep_alloc) | exact HK.out)⟩, ⟨by repeat (first | (with_reducible first | exact HB.out | apply below_alloc | apply pw_below_drewN | apply below_drew1 | refine below_set ?_ (IsS61.ge HI0.out)) | exact HB.out)⟩⟩
        case round =>
          clear H'
          try clear c1
          try clear c2
          try clear p2
          try clear c4
          try clear p6
          try clear c13
          try clear c13b0
          try clear c13b1
          try clear c14
          try clear c14b0
          try clear c14b1
          try clear c15
          try clear c15b0
          try clear c16
          try clear p2
          try clear p6
          obtain ⟨x11_2, x12_2, rfl, HA, HK2, HO_5, HO_6, HO_11, HI0, HK, HB⟩ := hrel
          cases gk with
          | zero => exact absurd HA.out (by simp [partsynclaw21_CutPrefixes.l0])
          | succ k2 =>
            have H := HA.out
            clear HA
            simp only [partsynclaw21_CutPrefixes.l0] at H
            by_cases c17 : x12_2 ≤ t435
            · rw [if_pos c17] at H
              have c17b0 : decide (x12_2 ≤ t435) = true := decide_eq_true c17
              clear c17
              replace H := Option.bind_eq_some_iff.mp H
              obtain ⟨⟨t440, t441⟩, A180, H⟩ := H
              replace H : ((cut_Closed.f k2 t426 t427 t440).bind fun bt444 => ((cut_Floor.f k2 t426 t427 t440).bind fun bt446 => (if t441 = 0 then (if bt446.2 = 0 then (if bt444.1 = true then (if bt446.1 = x12_2 then ((partsynclaw21_under.f k2 t440 t431).bind fun t448 => (partsynclaw21_CutPrefixes.j2 k2 t426 t427 t431 t435 t437 x11_2 x12_2 t440 (t448 != (decide (x12_2 ≤ t437))) s0_0 t434)) else (partsynclaw21_CutPrefixes.j2 k2 t426 t427 t431 t435 t437 x11_2 x12_2 t440 true s0_0 t434)) else (partsynclaw21_CutPrefixes.j2 k2 t426 t427 t431 t435 t437 x11_2 x12_2 t440 true s0_0 t434)) else (partsynclaw21_CutPrefixes.j2 k2 t426 t427 t431 t435 t437 x11_2 x12_2 t440 true s0_0 t434)) else (partsynclaw21_CutPrefixes.j2 k2 t426 t427 t431 t435 t437 x11_2 x12_2 t440 true s0_0 t434)))) = some (r1, r2) := H
              have A18 := Aside0.mk A180
              clear A180
              replace H := Option.bind_eq_some_iff.mp H
              obtain ⟨⟨t444, t445⟩, A190, H⟩ := H
              replace H : ((cut_Floor.f k2 t426 t427 t440).bind fun bt446 => (if t441 = 0 then (if bt446.2 = 0 then (if t444 = true then (if bt446.1 = x12_2 then ((partsynclaw21_under.f k2 t440 t431).bind fun t448 => (partsynclaw21_CutPrefixes.j2 k2 t426 t427 t431 t435 t437 x11_2 x12_2 t440 (t448 != (decide (x12_2 ≤ t437))) s0_0 t434)) else (partsynclaw21_CutPrefixes.j2 k2 t426 t427 t431 t435 t437 x11_2 x12_2 t440 true s0_0 t434)) else (partsynclaw21_CutPrefixes.j2 k2 t426 t427 t431 t435 t437 x11_2 x12_2 t440 true s0_0 t434)) else (partsynclaw21_CutPrefixes.j2 k2 t426 t427 t431 t435 t437 x11_2 x12_2 t440 true s0_0 t434)) else (partsynclaw21_CutPrefixes.j2 k2 t426 t427 t431 t435 t437 x11_2 x12_2 t440 true s0_0 t434))) = some (r1, r2) := H
              have A19 := Aside0.mk A190
              clear A190
              replace H := Option.bind_eq_some_iff.mp H
              obtain ⟨⟨t446, t447⟩, A200, H⟩ := H
              replace H : (if t441 = 0 then (if t447 = 0 then (if t444 = true then (if t446 = x12_2 then ((partsynclaw21_under.f k2 t440 t431).bind fun t448 => (partsynclaw21_CutPrefixes.j2 k2 t426 t427 t431 t435 t437 x11_2 x12_2 t440 (t448 != (decide (x12_2 ≤ t437))) s0_0 t434)) else (partsynclaw21_CutPrefixes.j2 k2 t426 t427 t431 t435 t437 x11_2 x12_2 t440 true s0_0 t434)) else (partsynclaw21_CutPrefixes.j2 k2 t426 t427 t431 t435 t437 x11_2 x12_2 t440 true s0_0 t434)) else (partsynclaw21_CutPrefixes.j2 k2 t426 t427 t431 t435 t437 x11_2 x12_2 t440 true s0_0 t434)) else (partsynclaw21_CutPrefixes.j2 k2 t426 t427 t431 t435 t437 x11_2 x12_2 t440 true s0_0 t434)) = some (r1, r2) := H
              have A20 := Aside0.mk A200
              clear A200
              have HC21 := Aside0.mk H
              clear H
              go_upto_region 15 with (first | ((with_reducible refine gate_callee (f := 25) rfl ?_); refine goesL_ (some 71) rfl rfl Try.func25 (by kernel_rfl) rfl #[.int .i64 t426, .slice Ao8 t427.length co8, .int .i64 x12_2] rfl (by (try simp only [List.map_toArray, List.map_cons, List.map_nil]); first | done | rfl | (simp only [List.length_drop, List.length_take]; rfl)) ?_; (with_reducible refine (cut_Of.calls k2 t426 _ _ t427 x12_2 t440 t441 _ ?side1 ?side2 A18.out).mono ?_); (case side1 => repeat (first | exact (Kd.R_reads' HO_5.out).2.2 | (with_reducible refine Kd.C_alloc ?_ _) | (with_reducible refine Kd.C_drewN ?_ _) | (with_reducible refine Kd.C_drew ?_))); (case side2 => exact (Kd.R_reads' HO_5.out).2.1); rintro e w22 ⟨v442, rfl, ho0, hb⟩; refine ⟨_, rfl, ?_⟩; have n0_ := Aside0.mk (Kd.R_elder' (by (with_reducible repeat (first | apply Kd.R_alloc | apply Kd.R_drewN | apply Kd.R_drew)); exact HO_5.out) (Kd.R_base ho0) hb); have n1_ := Aside0.mk (Kd.R_elder' (by (with_reducible repeat (first | apply Kd.R_alloc | apply Kd.R_drewN | apply Kd.R_drew)); exact HO_6.out) (Kd.R_base ho0) hb); have n2_ := Aside0.mk (Kd.R_elder' (by (with_reducible repeat (first | apply Kd.R_alloc | apply Kd.R_drewN | apply Kd.R_drew)); exact HO_11.out) (Kd.R_base ho0) hb); have n3_ := Aside0.mk (Kd.R_lower (Kd.R_new' (Kd.R_new' ho0 (Kd.R_lt (by (with_reducible repeat (first | apply Kd.R_alloc | apply Kd.R_drewN | apply Kd.R_drew)); exact HO_6.out))) (Kd.R_lt (by (with_reducible repeat (first | apply Kd.R_alloc | apply Kd.R_drewN | apply Kd.R_drew)); exact HO_11.out))) (keep_size (w := w) (g := g) (row := none) (by repeat (first | (with_reducible first | exact HK.out | apply KeepBut.set_ | apply keep_drewN | apply keep_drew | apply keep_alloc) | exact HK.out)))); have n4_ := Aside0.mk (IsS61.below (by repeat (first | (with_reducible first | exact HI0.out | apply IsS61.alloc | apply IsS61.drewN | apply IsS61.drew | apply IsS61.set_1) | exact HI0.out)) hb); have n5_ := Aside0.mk (KeepBut.trans (by repeat (first | (with_reducible first | exact HK.out | apply KeepBut.set_ | apply keep_drewN | apply keep_drew | apply keep_alloc) | exact HK.out)) (KeepBut.of_below hb g none) (.inl rfl)); have n6_ := Aside0.mk (below_step (by repeat (first | (with_reducible first | exact HB.out | apply below_alloc | apply pw_below_drewN | apply below_drew1 | refine below_set ?_ (IsS61.ge HI0.out)) | exact HB.out)) hb); clear HO_5; clear HO_6; clear HO_11; clear HI0; clear HK; clear HB; have HO_5 := n0_; have HO_6 := n1_; have HO_11 := n2_; have HO443 := n3_; have HI0 := n4_; have HK := n5_; have HB := n6_; clear n0_ n1_ n2_ n3_ n4_ n5_ n6_; (try clear hb); (try clear hb2); (try clear hk); (try clear hi); (try clear ho0); obtain ⟨Ao23, co23, eo23⟩ := Kd.R_slice HO443.out; subst eo23) | ((with_reducible refine gate_callee (f := 26) rfl ?_); refine goesL_ (some 78) rfl rfl Try.func26 (by kernel_rfl) rfl #[.int .i64 t426, .slice Ao8 t427.length co8, .slice Ao23 t440.length co23] rfl (by (try simp only [List.map_toArray, List.map_cons, List.map_nil]); first | done | rfl | (simp only [List.length_drop, List.length_take]; rfl)) ?_; (with_reducible refine (cut_Closed.calls k2 t426 _ _ t427 _ _ t440 t444 t445 _ ?side1 ?side2 ?side3 ?side4 A19.out).mono ?_); (case side1 => repeat (first | exact (Kd.R_reads' HO_5.out).2.2 | (with_reducible refine Kd.C_alloc ?_ _) | (with_reducible refine Kd.C_drewN ?_ _) | (with_reducible refine Kd.C_drew ?_))); (case side2 => exact (Kd.R_reads' HO_5.out).2.1); (case side3 => repeat (first | exact (Kd.R_reads' HO443.out).2.2 | (with_reducible refine Kd.C_alloc ?_ _) | (with_reducible refine Kd.C_drewN ?_ _) | (with_reducible refine Kd.C_drew ?_))); (case side4 => exact (Kd.R_reads' HO443.out).2.1); rintro e w24 ⟨rfl, hb⟩; refine ⟨_, rfl, ?_⟩; have n0_ := Aside0.mk (Kd.R_below (by (with_reducible repeat (first | apply Kd.R_alloc | apply Kd.R_drewN | apply Kd.R_drew)); exact HO_5.out) hb); have n1_ := Aside0.mk (Kd.R_below (by (with_reducible repeat (first | apply Kd.R_alloc | apply Kd.R_drewN | apply Kd.R_drew)); exact HO_6.out) hb); have n2_ := Aside0.mk (Kd.R_below (by (with_reducible repeat (first | apply Kd.R_alloc | apply Kd.R_drewN | apply Kd.R_drew)); exact HO_11.out) hb); have n3_ := Aside0.mk (Kd.R_below (by (with_reducible repeat (first | apply Kd.R_alloc | apply Kd.R_drewN | apply Kd.R_drew)); exact HO443.out) hb); have n4_ := Aside0.mk (IsS61.below (by repeat (first | (with_reducible first | exact HI0.out | apply IsS61.alloc | apply IsS61.drewN | apply IsS61.drew | apply IsS61.set_1) | exact HI0.out)) hb); have n5_ := Aside0.mk (KeepBut.trans (by repeat (first | (with_reducible first | exact HK.out | apply KeepBut.set_ | apply keep_drewN | apply keep_drew | apply keep_alloc) | exact HK.out)) (KeepBut.of_below hb g none) (.inl rfl)); have n6_ := Aside0.mk (below_step (by repeat (first | (with_reducible first | exact HB.out | apply below_alloc | apply pw_below_drewN | apply below_drew1 | refine below_set ?_ (IsS61.ge HI0.out)) | exact HB.out)) hb); clear HO_5; clear HO_6; clear HO_11; clear HO443; clear HI0; clear HK; clear HB; have HO_5 := n0_; have HO_6 := n1_; have HO_11 := n2_; have HO443 := n3_; have HI0 := n4_; have HK := n5_; have HB := n6_; clear n0_ n1_ n2_ n3_ n4_ n5_ n6_; (try clear hb); (try clear hb2); (try clear hk); (try clear hi)) | ((with_reducible refine gate_callee (f := 24) rfl ?_); refine goesL_ (some 85) rfl rfl Try.func24 (by kernel_rfl) rfl #[.int .i64 t426, .slice Ao8 t427.length co8, .slice Ao23 t440.length co23] rfl (by (try simp only [List.map_toArray, List.map_cons, List.map_nil]); first | done | rfl | (simp only [List.length_drop, List.length_take]; rfl)) ?_; (with_reducible refine (cut_Floor.calls k2 t426 _ _ t427 _ _ t440 t446 t447 _ ?side1 ?side2 ?side3 ?side4 A20.out).mono ?_); (case side1 => repeat (first | exact (Kd.R_reads' HO_5.out).2.2 | (with_reducible refine Kd.C_alloc ?_ _) | (with_reducible refine Kd.C_drewN ?_ _) | (with_reducible refine Kd.C_drew ?_))); (case side2 => exact (Kd.R_reads' HO_5.out).2.1); (case side3 => repeat (first | exact (Kd.R_reads' HO443.out).2.2 | (with_reducible refine Kd.C_alloc ?_ _) | (with_reducible refine Kd.C_drewN ?_ _) | (with_reducible refine Kd.C_drew ?_))); (case side4 => exact (Kd.R_reads' HO443.out).2.1); rintro e w25 ⟨rfl, hb⟩; refine ⟨_, rfl, ?_⟩; have n0_ := Aside0.mk (Kd.R_below (by (with_reducible repeat (first | apply Kd.R_alloc | apply Kd.R_drewN | apply Kd.R_drew)); exact HO_5.out) hb); have n1_ := Aside0.mk (Kd.R_below (by (with_reducible repeat (first | apply Kd.R_alloc | apply Kd.R_drewN | apply Kd.R_drew)); exact HO_6.out) hb); have n2_ := Aside0.mk (Kd.R_below (by (with_reducible repeat (first | apply Kd.R_alloc | apply Kd.R_drewN | apply Kd.R_drew)); exact HO_11.out) hb); have n3_ := Aside0.mk (Kd.R_below (by (with_reducible repeat (first | apply Kd.R_alloc | apply Kd.R_drewN | apply Kd.R_drew)); exact HO443.out) hb); have n4_ := Aside0.mk (IsS61.below (by repeat (first | (with_reducible first | exact HI0.out | apply IsS61.alloc | apply IsS61.drewN | apply IsS61.drew | apply IsS61.set_1) | exact HI0.out)) hb); have n5_ := Aside0.mk (KeepBut.trans (by repeat (first | (with_reducible first | exact HK.out | apply KeepBut.set_ | apply keep_drewN | apply keep_drew | apply keep_alloc) | exact HK.out)) (KeepBut.of_below hb g none) (.inl rfl)); have n6_ := Aside0.mk (below_step (by repeat (first | (with_reducible first | exact HB.out | apply below_alloc | apply pw_below_drewN | apply below_drew1 | refine below_set ?_ (IsS61.ge HI0.out)) | exact HB.out)) hb); clear HO_5; clear HO_6; clear HO_11; clear HO443; clear HI0; clear HK; clear HB; have HO_5 := n0_; have HO_6 := n1_; have HO_11 := n2_; have HO443 := n3_; have HI0 := n4_; have HK := n5_; have HB := n6_; clear n0_ n1_ n2_ n3_ n4_ n5_ n6_; (try clear hb); (try clear hb2); (try clear hk); (try clear hi)))
              (try simp only [Act.put, List.setIfInBounds_toArray, List.set_cons_zero, List.set_cons_succ])
              go_cut [111] (fun v111 wc => ∃ (kq : Nat) (x111_20 : Bool), v111 = .bool x111_20 ∧ Aside0 (partsynclaw21_CutPrefixes.j2 kq t426 t427 t431 t435 t437 x11_2 x12_2 t440 x111_20 s0_0 t434 = some (r1, r2)) ∧ Aside0 (kq ≤ k2) ∧ Aside0 (Kd.R (Kd.slice 50 k50) 47 wc w.heap.size (fun k_ => some k_ ≠ ((.slice Ao11 t431.length co11) : Value).ownBlock ∧ some k_ ≠ (u11 : Value).ownBlock ∧ some k_ ≠ ((.slice Ao23 t440.length co23) : Value).ownBlock) (.slice Ao8 t427.length co8) t427) ∧ Aside0 (Kd.R (Kd.int .i64) 3 wc w.heap.size (fun k_ => some k_ ≠ (u11 : Value).ownBlock ∧ some k_ ≠ ((.slice Ao23 t440.length co23) : Value).ownBlock) (.slice Ao11 t431.length co11) t431) ∧ Aside0 (Kd.R (Kd.int .i64) 3 wc w.heap.size (fun k_ => some k_ ≠ ((.slice Ao11 t431.length co11) : Value).ownBlock ∧ some k_ ≠ ((.slice Ao23 t440.length co23) : Value).ownBlock) u11 x11_2) ∧ Aside0 (Kd.R (Kd.int .i64) 3 wc w.heap.size (fun k_ => some k_ ≠ ((.slice Ao11 t431.length co11) : Value).ownBlock ∧ some k_ ≠ (u11 : Value).ownBlock) (.slice Ao23 t440.length co23) t440) ∧ Aside0 (IsS61 w0 wc g s0_0 t434) ∧ Aside0 (KeepBut w wc g none) ∧ Aside0 (Below w0.heap.size w0 wc))
              case first =>
                have H := HC21.out
                clear HC21
                by_cases c26 : t441 = 0
                · rw [if_pos c26] at H
                  have c26b0 : (t441 == 0) = true := beq_iff_eq.mpr c26
                  have c26b1 : (t441 != 0) = false := bne_eq_false_iff_eq.mpr c26
                  clear c26
                  (first | rw [c26b0] | (simp only [i64_w, i32_w]; rw [c26b0]) | skip)
                  by_cases c27 : t447 = 0
                  · rw [if_pos c27] at H
                    have c27b0 : (t447 == 0) = true := beq_iff_eq.mpr c27
                    have c27b1 : (t447 != 0) = false := bne_eq_false_iff_eq.mpr c27
                    clear c27
                    by_cases c28 : t444 = true
                    · subst c28
                      have H1 : (if t446 = x12_2 then ((partsynclaw21_under.f k2 t440 t431).bind fun t448 => (partsynclaw21_CutPrefixes.j2 k2 t426 t427 t431 t435 t437 x11_2 x12_2 t440 (t448 != (decide (x12_2 ≤ t437))) s0_0 t434)) else (partsynclaw21_CutPrefixes.j2 k2 t426 t427 t431 t435 t437 x11_2 x12_2 t440 true s0_0 t434)) = some (r1, r2) := by rw [if_pos rfl] at H; exact H
                      clear H
                      have H := H1
                      clear H1
                      by_cases c29 : t446 = x12_2
                      · rw [if_pos c29] at H
                        have c29b0 : (t446 == x12_2) = true := beq_iff_eq.mpr c29
                        have c29b1 : (t446 != x12_2) = false := bne_eq_false_iff_eq.mpr c29
                        clear c29
                        replace H := Option.bind_eq_some_iff.mp H
                        obtain ⟨t448, A300, H⟩ := H
                        replace H : (partsynclaw21_CutPrefixes.j2 k2 t426 t427 t431 t435 t437 x11_2 x12_2 t440 (t448 != (decide (x12_2 ≤ t437))) s0_0 t434) = some (r1, r2) := H
                        have A30 := Aside0.mk A300
                        clear A300
                        have H' := Aside0.mk H
                        clear H
                        go_wp2_with (first | (go_at_call 19; (with_reducible refine (partsynclaw21_under.calls k2 _ _ t440 _ _ t431 t448 _ ?side1 ?side2 ?side3 ?side4 A30.out).mono ?_); (case side1 => repeat (first | exact (Kd.R_reads' HO443.out).2.2 | (with_reducible refine Kd.C_alloc ?_ _) | (with_reducible refine Kd.C_drewN ?_ _) | (with_reducible refine Kd.C_drew ?_))); (case side2 => exact (Kd.R_reads' HO443.out).2.1); (case side3 => repeat (first | exact (Kd.R_reads' HO_6.out).2.2 | (with_reducible refine Kd.C_alloc ?_ _) | (with_reducible refine Kd.C_drewN ?_ _) | (with_reducible refine Kd.C_drew ?_))); (case side4 => exact (Kd.R_reads' HO_6.out).2.1); rintro e w' ⟨rfl, ⟨nd, rfl⟩⟩))
                        go_meet
                        case rel => exact ⟨_, ((t448 != (decide (x12_2 ≤ t437)))), (by first | rfl | (simp; done) | (simp [*]; done)), H', ⟨by have := HJ5.out; have := HK2.out; first | omega | exact Nat.le_refl _⟩, ⟨by (with_reducible repeat (first | apply Kd.R_alloc | apply Kd.R_drewN | apply Kd.R_drew)); exact Kd.R_mono HO_5.out (fun _ hk => ⟨hk.1.1, ⟨hk.1.2, hk.2⟩⟩)⟩, ⟨by (with_reducible repeat (first | apply Kd.R_alloc | apply Kd.R_drewN | apply Kd.R_drew)); exact HO_6.out⟩, ⟨by (with_reducible repeat (first | apply Kd.R_alloc | apply Kd.R_drewN | apply Kd.R_drew)); exact HO_11.out⟩, ⟨by (with_reducible repeat (first | apply Kd.R_alloc | apply Kd.R_drewN | apply Kd.R_drew)); exact Kd.R_mono HO443.out (fun _ hk => ⟨hk.1.2, hk.2⟩)⟩, ⟨by repeat (first | (with_reducible first | exact HI0.out | apply IsS61.alloc | apply IsS61.drewN | apply IsS61.drew | apply IsS61.set_1) | exact HI0.out)⟩, ⟨by repeat (first | (with_reducible first | exact HK.out | apply KeepBut.set_ | apply keep_drewN | apply keep_drew | apply keep_alloc) | exact HK.out)⟩, ⟨by repeat (first | (with_reducible first | exact HB.out | apply below_alloc | apply pw_below_drewN | apply below_drew1 | refine below_set ?_ (IsS61.ge HI0.out)) | exact HB.out)⟩⟩
                      · rw [if_neg c29] at H
                        have c29b0 : (t446 == x12_2) = false := beq_eq_false_iff_ne.mpr c29
                        have c29b1 : (t446 != x12_2) = true := bne_iff_ne.mpr c29
                        have H' := Aside0.mk H
                        clear H
                        go_wp2
                        go_meet
                        case rel => exact ⟨_, (true), (by first | rfl | (simp; done) | (simp [*]; done)), H', ⟨by have := HJ5.out; have := HK2.out; first | omega | exact Nat.le_refl _⟩, ⟨by (with_reducible repeat (first | apply Kd.R_alloc | apply Kd.R_drewN | apply Kd.R_drew)); exact Kd.R_mono HO_5.out (fun _ hk => ⟨hk.1.1, ⟨hk.1.2, hk.2⟩⟩)⟩, ⟨by (with_reducible repeat (first | apply Kd.R_alloc | apply Kd.R_drewN | apply Kd.R_drew)); exact HO_6.out⟩, ⟨by (with_reducible repeat (first | apply Kd.R_alloc | apply Kd.R_drewN | apply Kd.R_drew)); exact HO_11.out⟩, ⟨by (with_reducible repeat (first | apply Kd.R_alloc | apply Kd.R_drewN | apply Kd.R_drew)); exact Kd.R_mono HO443.out (fun _ hk => ⟨hk.1.2, hk.2⟩)⟩, ⟨by repeat (first | (with_reducible first | exact HI0.out | apply IsS61.alloc | apply IsS61.drewN | apply IsS61.drew | apply IsS61.set_1) | exact HI0.out)⟩, ⟨by repeat (first | (with_reducible first | exact HK.out | apply KeepBut.set_ | apply keep_drewN | apply keep_drew | apply keep_alloc) | exact HK.out)⟩, ⟨by repeat (first | (with_reducible first | exact HB.out | apply below_alloc | apply pw_below_drewN | apply below_drew1 | refine below_set ?_ (IsS61.ge HI0.out)) | exact HB.out)⟩⟩
                    · replace c28 := Bool.eq_false_iff.mpr c28
                      subst c28
                      have H1 : (partsynclaw21_CutPrefixes.j2 k2 t426 t427 t431 t435 t437 x11_2 x12_2 t440 true s0_0 t434) = some (r1, r2) := by rw [if_neg (show ¬ (false = true) by decide)] at H; exact H
                      clear H
                      have H := H1
                      clear H1
                      have H' := Aside0.mk H
                      clear H
                      go_wp2
                      go_meet
                      case rel => exact ⟨_, (true), (by first | rfl | (simp; done) | (simp [*]; done)), H', ⟨by have := HJ5.out; have := HK2.out; first | omega | exact Nat.le_refl _⟩, ⟨by (with_reducible repeat (first | apply Kd.R_alloc | apply Kd.R_drewN | apply Kd.R_drew)); exact Kd.R_mono HO_5.out (fun _ hk => ⟨hk.1.1, ⟨hk.1.2, hk.2⟩⟩)⟩, ⟨by (with_reducible repeat (first | apply Kd.R_alloc | apply Kd.R_drewN | apply Kd.R_drew)); exact HO_6.out⟩, ⟨by (with_reducible repeat (first | apply Kd.R_alloc | apply Kd.R_drewN | apply Kd.R_drew)); exact HO_11.out⟩, ⟨by (with_reducible repeat (first | apply Kd.R_alloc | apply Kd.R_drewN | apply Kd.R_drew)); exact Kd.R_mono HO443.out (fun _ hk => ⟨hk.1.2, hk.2⟩)⟩, ⟨by repeat (first | (with_reducible first | exact HI0.out | apply IsS61.alloc | apply IsS61.drewN | apply IsS61.drew | apply IsS61.set_1) | exact HI0.out)⟩, ⟨by repeat (first | (with_reducible first | exact HK.out | apply KeepBut.set_ | apply keep_drewN | apply keep_drew | apply keep_alloc) | exact HK.out)⟩, ⟨by repeat (first | (with_reducible first | exact HB.out | apply below_alloc | apply pw_below_drewN | apply below_drew1 | refine below_set ?_ (IsS61.ge HI0.out)) | exact HB.out)⟩⟩
                  · rw [if_neg c27] at H
                    have c27b0 : (t447 == 0) = false := beq_eq_false_iff_ne.mpr c27
                    have c27b1 : (t447 != 0) = true := bne_iff_ne.mpr c27
                    have H' := Aside0.mk H
                    clear H
                    go_wp2
                    go_meet
                    case rel => exact ⟨_, (true), (by first | rfl | (simp; done) | (simp [*]; done)), H', ⟨by have := HJ5.out; have := HK2.out; first | omega | exact Nat.le_refl _⟩, ⟨by (with_reducible repeat (first | apply Kd.R_alloc | apply Kd.R_drewN | apply Kd.R_drew)); exact Kd.R_mono HO_5.out (fun _ hk => ⟨hk.1.1, ⟨hk.1.2, hk.2⟩⟩)⟩, ⟨by (with_reducible repeat (first | apply Kd.R_alloc | apply Kd.R_drewN | apply Kd.R_drew)); exact HO_6.out⟩, ⟨by (with_reducible repeat (first | apply Kd.R_alloc | apply Kd.R_drewN | apply Kd.R_drew)); exact HO_11.out⟩, ⟨by (with_reducible repeat (first | apply Kd.R_alloc | apply Kd.R_drewN | apply Kd.R_drew)); exact Kd.R_mono HO443.out (fun _ hk => ⟨hk.1.2, hk.2⟩)⟩, ⟨by repeat (first | (with_reducible first | exact HI0.out | apply IsS61.alloc | apply IsS61.drewN | apply IsS61.drew | apply IsS61.set_1) | exact HI0.out)⟩, ⟨by repeat (first | (with_reducible first | exact HK.out | apply KeepBut.set_ | apply keep_drewN | apply keep_drew | apply keep_alloc) | exact HK.out)⟩, ⟨by repeat (first | (with_reducible first | exact HB.out | apply below_alloc | apply pw_below_drewN | apply below_drew1 | refine below_set ?_ (IsS61.ge HI0.out)) | exact HB.out)⟩⟩
                · rw [if_neg c26] at H
                  have c26b0 : (t441 == 0) = false := beq_eq_false_iff_ne.mpr c26
                  have c26b1 : (t441 != 0) = true := bne_iff_ne.mpr c26
                  (first | rw [c26b0] | (simp only [i64_w, i32_w]; rw [c26b0]) | skip)
                  have H' := Aside0.mk H
                  clear H
                  go_wp2
                  go_meet
                  case rel => exact ⟨_, (true), (by first | rfl | (simp; done) | (simp [*]; done)), H', ⟨by have := HJ5.out; have := HK2.out; first | omega | exact Nat.le_refl _⟩, ⟨by (with_reducible repeat (first | apply Kd.R_alloc | apply Kd.R_drewN | apply Kd.R_drew)); exact Kd.R_mono HO_5.out (fun _ hk => ⟨hk.1.1, ⟨hk.1.2, hk.2⟩⟩)⟩, ⟨by (with_reducible repeat (first | apply Kd.R_alloc | apply Kd.R_drewN | apply Kd.R_drew)); exact HO_6.out⟩, ⟨by (with_reducible repeat (first | apply Kd.R_alloc | apply Kd.R_drewN | apply Kd.R_drew)); exact HO_11.out⟩, ⟨by (with_reducible repeat (first | apply Kd.R_alloc | apply Kd.R_drewN | apply Kd.R_drew)); exact Kd.R_mono HO443.out (fun _ hk => ⟨hk.1.2, hk.2⟩)⟩, ⟨by repeat (first | (with_reducible first | exact HI0.out | apply IsS61.alloc | apply IsS61.drewN | apply IsS61.drew | apply IsS61.set_1) | exact HI0.out)⟩, ⟨by repeat (first | (with_reducible first | exact HK.out | apply KeepBut.set_ | apply keep_drewN | apply keep_drew | apply keep_alloc) | exact HK.out)⟩, ⟨by repeat (first | (with_reducible first | exact HB.out | apply below_alloc | apply pw_below_drewN | apply below_drew1 | refine below_set ?_ (IsS61.ge HI0.out)) | exact HB.out)⟩⟩
              case rest =>
                clear HC21
                try clear c1
                try clear c2
                try clear p2
                try clear c4
                try clear p6
                try clear c13
                try clear c13b0
                try clear c13b1
                try clear c14
                try clear c14b0
                try clear c14b1
                try clear c15
                try clear c15b0
                try clear c16
                try clear c17
                try clear c17b0
                try clear c21
                try clear c22
                try clear c23
                try clear c24
                try clear c25
                try clear c26
                try clear c26b0
                try clear c26b1
                try clear c27
                try clear c27b0
                try clear c27b1
                try clear c28
                try clear c29
                try clear c29b0
                try clear c29b1
                try clear p2
                try clear p6
                obtain ⟨kq, x111_20, rfl, HA, HJ20, HO_5, HO_6, HO_11, HO_13, HI0, HK, HB⟩ := hcut
                cases kq with
                | zero => exact absurd HA.out (by simp [partsynclaw21_CutPrefixes.j2])
                | succ kj20 =>
                  have H := HA.out
                  clear HA
                  simp only [partsynclaw21_CutPrefixes.j2] at H
                  by_cases c31 : x111_20 = true
                  · subst c31
                    have H1 : (some (false, t434)) = some (r1, r2) := by rw [if_pos rfl] at H; exact H
                    clear H
                    have H := H1
                    clear H1
                    exact (partsynclaw21_CutPrefixes.lf HRT.out H).elim
                  · replace c31 := Bool.eq_false_iff.mpr c31
                    subst c31
                    have H1 : (if x12_2 > t426 then ((cut_Compare.f kj20 x11_2 t440).bind fun bt449 => (if bt449.1 = 1 then (partsynclaw21_CutPrefixes.l0 kj20 t426 t427 t431 t435 t437 t440 (wrap64 (x12_2 + 1)) s0_0 t434) else (some (false, t434)))) else (partsynclaw21_CutPrefixes.l0 kj20 t426 t427 t431 t435 t437 t440 (wrap64 (x12_2 + 1)) s0_0 t434)) = some (r1, r2) := by rw [if_neg (show ¬ (false = true) by decide)] at H; exact H
                    clear H
                    have H := H1
                    clear H1
                    by_cases c32 : x12_2 > t426
                    · rw [if_pos c32] at H
                      have c32b0 : decide (t426 < x12_2) = true := decide_eq_true c32
                      clear c32
                      replace H := Option.bind_eq_some_iff.mp H
                      obtain ⟨⟨t449, t450⟩, A330, H⟩ := H
                      replace H : (if t449 = 1 then (partsynclaw21_CutPrefixes.l0 kj20 t426 t427 t431 t435 t437 t440 (wrap64 (x12_2 + 1)) s0_0 t434) else (some (false, t434))) = some (r1, r2) := H
                      have A33 := Aside0.mk A330
                      clear A330
                      by_cases c34 : t449 = 1
                      · rw [if_pos c34] at H
                        have c34b0 : (t449 == 1) = true := beq_iff_eq.mpr c34
                        have c34b1 : (t449 != 1) = false := bne_eq_false_iff_eq.mpr c34
                        clear c34
                        have H' := Aside0.mk H
                        clear H
                        obtain ⟨Ao35, co35, eo35⟩ := Kd.R_slice HO_11.out
                        subst eo35
                        go_wp2_with (first | ((with_reducible refine gate_callee (f := 27) rfl ?_); refine goesL_ (some 118) rfl rfl Try.func27 (by kernel_rfl) rfl #[.slice Ao35 x11_2.length co35, .slice Ao23 t440.length co23] rfl (by (try simp only [List.map_toArray, List.map_cons, List.map_nil]); first | done | rfl | (simp only [List.length_drop, List.length_take]; rfl)) ?_; (with_reducible refine (cut_Compare.calls kj20 _ _ x11_2 _ _ t440 t449 t450 _ ?side1 ?side2 ?side3 ?side4 A33.out).mono ?_); (case side1 => repeat (first | exact (Kd.R_reads' HO_11.out).2.2 | (with_reducible refine Kd.C_alloc ?_ _) | (with_reducible refine Kd.C_drewN ?_ _) | (with_reducible refine Kd.C_drew ?_))); (case side2 => exact (Kd.R_reads' HO_11.out).2.1); (case side3 => repeat (first | exact (Kd.R_reads' HO_13.out).2.2 | (with_reducible refine Kd.C_alloc ?_ _) | (with_reducible refine Kd.C_drewN ?_ _) | (with_reducible refine Kd.C_drew ?_))); (case side4 => exact (Kd.R_reads' HO_13.out).2.1); rintro e w' ⟨rfl, ⟨nd, rfl⟩⟩; refine ⟨_, rfl, ?_⟩))
                        go_roundg kj20
                        case measure => have := HJ5.out; have := HK2.out; have := HJ20.out; omega
                        case rel => exact ⟨(t440), (wrap64 (x12_2 + 1)), (by first | rfl | (simp; done) | (simp [*]; done)), H', ⟨by have := HJ5.out; have := HK2.out; have := HJ20.out; omega⟩, ⟨by (with_reducible repeat (first | apply Kd.R_alloc | apply Kd.R_drewN | apply Kd.R_drew)); exact Kd.R_mono HO_5.out (fun _ hk => ⟨hk.1, hk.2.2⟩)⟩, ⟨by (with_reducible repeat (first | apply Kd.R_alloc | apply Kd.R_drewN | apply Kd.R_drew)); exact Kd.R_mono HO_6.out (fun _ hk => hk.2)⟩, ⟨by (with_reducible repeat (first | apply Kd.R_alloc | apply Kd.R_drewN | apply Kd.R_drew)); exact Kd.R_mono HO_13.out (fun _ hk => hk.1)⟩, ⟨by repeat (first | (with_reducible first | exact HI0.out | apply IsS61.alloc | apply IsS61.drewN | apply IsS61.drew | apply IsS61.set_1) | exact HI0.out)⟩, ⟨by repeat (first | (with_reducible first | exact HK.out | apply KeepBut.set_ | apply keep_drewN | apply keep_drew | apply keep_alloc) | exact HK.out)⟩, ⟨by repeat (first | (with_reducible first | exact HB.out | apply below_alloc | apply pw_below_drewN | apply below_drew1 | refine below_set ?_ (IsS61.ge HI0.out)) | exact HB.out)⟩⟩
                      · rw [if_neg c34] at H
                        have c34b0 : (t449 == 1) = false := beq_eq_false_iff_ne.mpr c34
                        have c34b1 : (t449 != 1) = true := bne_iff_ne.mpr c34
                        exact (partsynclaw21_CutPrefixes.lf HRT.out H).elim
                    · rw [if_neg c32] at H
                      have c32b0 : decide (t426 < x12_2) = false := decide_eq_false c32
                      clear c32
                      have H' := Aside0.mk H
                      clear H
                      go_wp2
                      go_roundg kj20
                      case measure => have := HJ5.out; have := HK2.out; have := HJ20.out; omega
                      case rel => exact ⟨(t440), (wrap64 (x12_2 + 1)), (by first | rfl | (simp; done) | (simp [*]; done)), H', ⟨by have := HJ5.out; have := HK2.out; have := HJ20.out; omega⟩, ⟨by (with_reducible repeat (first | apply Kd.R_alloc | apply Kd.R_drewN | apply Kd.R_drew)); exact Kd.R_mono HO_5.out (fun _ hk => ⟨hk.1, hk.2.2⟩)⟩, ⟨by (with_reducible repeat (first | apply Kd.R_alloc | apply Kd.R_drewN | apply Kd.R_drew)); exact Kd.R_mono HO_6.out (fun _ hk => hk.2)⟩, ⟨by (with_reducible repeat (first | apply Kd.R_alloc | apply Kd.R_drewN | apply Kd.R_drew)); exact Kd.R_mono HO_13.out (fun _ hk => hk.1)⟩, ⟨by repeat (first | (with_reducible first | exact HI0.out | apply IsS61.alloc | apply IsS61.drewN | apply IsS61.drew | apply IsS61.set_1) | exact HI0.out)⟩, ⟨by repeat (first | (with_reducible first | exact HK.out | apply KeepBut.set_ | apply keep_drewN | apply keep_drew | apply keep_alloc) | exact HK.out)⟩, ⟨by repeat (first | (with_reducible first | exact HB.out | apply below_alloc | apply pw_below_drewN | apply below_drew1 | refine below_set ?_ (IsS61.ge HI0.out)) | exact HB.out)⟩⟩
            · rw [if_neg c17] at H
              have c17b0 : decide (x12_2 ≤ t435) = false := decide_eq_false c17
              clear c17
              replace H := Option.bind_eq_some_iff.mp H
              obtain ⟨t439, A370, H⟩ := H
              replace H : (some (t439, t434)) = some (r1, r2) := H
              have A37 := Aside0.mk A370
              clear A370
              simp only [Option.some.injEq, Prod.mk.injEq] at H
              obtain ⟨rfl, rfl⟩ := H
              go_wp2_with (first | ((with_reducible refine gate_callee (f := 20) rfl ?_); refine goesL_ (some 124) rfl rfl Try.func20 (by kernel_rfl) rfl #[] rfl (by (try simp only [List.map_toArray, List.map_cons, List.map_nil]); first | done | rfl | (simp only [List.length_drop, List.length_take]; rfl)) ?_; (with_reducible refine (partsynclaw21_begun.calls k2  t439 _ A37.out).mono ?_); rintro e w38 ⟨rfl, hb⟩; refine ⟨_, rfl, ?_⟩; have n0_ := Aside0.mk (Kd.R_below (by (with_reducible repeat (first | apply Kd.R_alloc | apply Kd.R_drewN | apply Kd.R_drew)); exact HO_5.out) hb); have n1_ := Aside0.mk (Kd.R_below (by (with_reducible repeat (first | apply Kd.R_alloc | apply Kd.R_drewN | apply Kd.R_drew)); exact HO_6.out) hb); have n2_ := Aside0.mk (Kd.R_below (by (with_reducible repeat (first | apply Kd.R_alloc | apply Kd.R_drewN | apply Kd.R_drew)); exact HO_11.out) hb); have n3_ := Aside0.mk (IsS61.below (by repeat (first | (with_reducible first | exact HI0.out | apply IsS61.alloc | apply IsS61.drewN | apply IsS61.drew | apply IsS61.set_1) | exact HI0.out)) hb); have n4_ := Aside0.mk (KeepBut.trans (by repeat (first | (with_reducible first | exact HK.out | apply KeepBut.set_ | apply keep_drewN | apply keep_drew | apply keep_alloc) | exact HK.out)) (KeepBut.of_below hb g none) (.inl rfl)); have n5_ := Aside0.mk (below_step (by repeat (first | (with_reducible first | exact HB.out | apply below_alloc | apply pw_below_drewN | apply below_drew1 | refine below_set ?_ (IsS61.ge HI0.out)) | exact HB.out)) hb); clear HO_5; clear HO_6; clear HO_11; clear HI0; clear HK; clear HB; have HO_5 := n0_; have HO_6 := n1_; have HO_11 := n2_; have HI0 := n3_; have HK := n4_; have HB := n5_; clear n0_ n1_ n2_ n3_ n4_ n5_; (try clear hb); (try clear hb2); (try clear hk); (try clear hi)))
              go_ret
              exact ⟨w, w0, g, HN0.out, by first | rfl | (simp [errW_none, errW_some] <;> rfl) | (simp [*, errW_none, errW_some] <;> rfl), by repeat (first | (with_reducible first | exact HI0.out | apply IsS61.alloc | apply IsS61.drewN | apply IsS61.drew | apply IsS61.set_1) | exact HI0.out), by repeat (first | (with_reducible first | exact HB.out | apply below_alloc | apply pw_below_drewN | apply below_drew1 | refine below_set ?_ (IsS61.ge HI0.out)) | exact HB.out), by repeat (first | (with_reducible first | exact HK.out | apply KeepBut.set_ | apply keep_drewN | apply keep_drew | apply keep_alloc) | exact HK.out)⟩

end Go.Proofs.Ytkhiglincdognaa.PA
