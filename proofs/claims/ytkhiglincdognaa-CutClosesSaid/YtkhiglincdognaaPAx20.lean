-- WRITTEN BY A PROGRAM OF THIS SESSION (wip/cut/printx.py). Not trusted: Lean checks it.
import Derived.Test.YtkhiglincdognaaPAx0
import Derived.Test.YtkhiglincdognaaPAx1
import Derived.Test.YtkhiglincdognaaPAx2
import Derived.Test.YtkhiglincdognaaPAx8
import Derived.Test.YtkhiglincdognaaClosed
import Derived.Test.YtkhiglincdognaaPAx13
import Derived.Test.YtkhiglincdognaaRClose
import Derived.Test.YtkhiglincdognaaHLogs
import Derived.Test.YtkhiglincdognaaHNew
namespace Go.Proofs.Ytkhiglincdognaa.PA
open Go.RowKit Go.Proofs.YtkhiglincdognaaW.PrintWords Go.Proofs.YtkhiglincdognaaW.PrintLast Go.Proofs.YtkhiglincdognaaW.PrintMore
attribute [local go_sem] max2_int min2_int max_two min_two max_three min_three max_four min_four   -- for this text's walks alone
set_option linter.unusedVariables false
set_option linter.unusedSimpArgs false

theorem partsynclaw21_CutCloses.heap50 : Kd.Heap k50 := Kd.heap_iso _ (Kd.heap_pair (Kd.heap_int .i64) (Kd.heap_slice 3 (Kd.heap_int .i64)))
/-! ### partsynclaw21_CutCloses: function 8 -/
def partsynclaw21_CutCloses.l0 : Nat → Int → List (List (S50)) → List Int → Int → List (List (S50)) → List (List Int) → Int → Int → List Int → Int → Option (Bool × Int)
  | 0, _, _, _, _, _, _, _, _, _, _ => none
  | k + 1, x0, x1, x2, x10, x11, x47, x48, x49, x4000, x4001 => if x49 < x48 then (if 0 ≤ x49 then (if x49 < (x47.length : Int) then ((cut_Closed.f k x10 x11 (rd_L2 x47 x49)).bind fun bt530 => ((partsyncref21_Closed.f k x10 x11 (rd_L2 x47 x49)).bind fun bt532 => ((cut_Close.f k x10 x11 (rd_L2 x47 x49)).bind fun bt534 => ((partsyncref21_Close.f k x10 x11 (rd_L2 x47 x49)).bind fun bt538 => (if (bt530.1 != bt532.1) = true then (some (false, x4001)) else (if bt530.2 = bt532.2 then ((slices_Equal_int_int.f k bt534.1 bt538.1).bind fun t542 => (if t542 = true then (if bt534.2 = bt538.2 then (partsynclaw21_CutCloses.l0 k x0 x1 x2 x10 x11 x47 x48 (wrap64 (x49 + 1)) x4000 x4001) else (some (false, x4001))) else (some (false, x4001)))) else (some (false, x4001)))))))) else (none)) else (none)) else ((cut_Closed.f k x0 x1 x2).bind fun bt543 => ((partsyncref21_Closed.f k x0 x1 x2).bind fun bt545 => ((cut_Close.f k x0 x1 x2).bind fun bt547 => ((partsyncref21_Close.f k x0 x1 x2).bind fun bt551 => (if (bt543.1 == bt545.1) = true then (if bt543.2 = bt545.2 then ((slices_Equal_int_int.f k bt547.1 bt551.1).bind fun t555 => (if t555 = true then (if bt547.2 = bt551.2 then ((partsynclaw21_begun.f k).bind fun t556 => (some (t556, x4001))) else (some (false, x4001))) else (some (false, x4001)))) else (some (false, x4001))) else (some (false, x4001)))))))
def partsynclaw21_CutCloses.f (k : Nat) (a0 : Int) (l1 : List (List (S50))) (l2 : List Int) (s3_0 : List Int) (s3_1 : Int) : Option (Bool × Int) := (partsynccase_Case_Logs.f s3_0 s3_1).bind fun bt510 => ((partsynccase_Case_Cut.f k s3_0 bt510.2.2 bt510.2.1).bind fun bt515 => ((partsynccase_Case_Cut.f k s3_0 bt515.2 bt510.2.1).bind fun bt519 => (if 0 ≤ (bt510.2.1.length : Int) then (if ((bt510.2.1.length : Int) : Int).toNat ≤ 35184372088832 then ((some (([bt515.1, bt519.1, l2, (List.replicate ((bt510.2.1.length : Int) : Int).toNat 0)] : List (List Int)) : List (List Int))).bind fun y526 => (partsynclaw21_CutCloses.l0 k a0 l1 l2 bt510.1 bt510.2.1 y526 (y526.length : Int) 0 s3_0 bt519.2)) else (none)) else (none))))
theorem partsynclaw21_CutCloses.mono_l : ∀ k, (∀ y0 y1 y2 y3 y4 y5 y6 y7 y8 y9, LeO (partsynclaw21_CutCloses.l0 k y0 y1 y2 y3 y4 y5 y6 y7 y8 y9) (partsynclaw21_CutCloses.l0 (k + 1) y0 y1 y2 y3 y4 y5 y6 y7 y8 y9))
  | 0 => fun _ _ _ _ _ _ _ _ _ _ r h => by simp [partsynclaw21_CutCloses.l0] at h
  | k + 1 => by
    have ih0 := partsynclaw21_CutCloses.mono_l k
    · intro y0 y1 y2 y3 y4 y5 y6 y7 y8 y9
      unfold partsynclaw21_CutCloses.l0
      repeat' first
      | (with_reducible exact ih0 _ _ _ _ _ _ _ _ _ _)
      | (with_reducible exact cut_Close.mono _ _ _ _)
      | (with_reducible exact cut_Closed.mono _ _ _ _)
      | (with_reducible exact partsynccase_Case_Cut.mono _ _ _ _)
      | (with_reducible exact partsynclaw21_begun.mono _)
      | (with_reducible exact partsyncref21_Close.mono _ _ _ _)
      | (with_reducible exact partsyncref21_Closed.mono _ _ _ _)
      | (with_reducible exact slices_Equal_int_int.mono _ _ _)
      | (with_reducible exact LeO.refl _)
      | (with_reducible exact LeO.none _)
      | (with_reducible refine LeO.ite ?_ ?_)
      | (with_reducible refine LeO.bind ?_ (fun _ => ?_))
      | exact ih0 _ _ _ _ _ _ _ _ _ _
      | exact cut_Close.mono _ _ _ _
      | exact cut_Closed.mono _ _ _ _
      | exact partsynccase_Case_Cut.mono _ _ _ _
      | exact partsynclaw21_begun.mono _
      | exact partsyncref21_Close.mono _ _ _ _
      | exact partsyncref21_Closed.mono _ _ _ _
      | exact slices_Equal_int_int.mono _ _ _
      | exact LeO.none _
      | refine LeO.ite ?_ ?_
      | refine LeO.bind ?_ (fun _ => ?_)
theorem partsynclaw21_CutCloses.mono : ∀ a0 a1 a2 a3 a4 k, LeO (partsynclaw21_CutCloses.f k a0 a1 a2 a3 a4) (partsynclaw21_CutCloses.f (k + 1) a0 a1 a2 a3 a4) := by
  intro a0 a1 a2 a3 a4 k
  have ih0 := partsynclaw21_CutCloses.mono_l k
  unfold partsynclaw21_CutCloses.f
  repeat' first
      | (with_reducible exact ih0 _ _ _ _ _ _ _ _ _ _)
      | (with_reducible exact cut_Close.mono _ _ _ _)
      | (with_reducible exact cut_Closed.mono _ _ _ _)
      | (with_reducible exact partsynccase_Case_Cut.mono _ _ _ _)
      | (with_reducible exact partsynclaw21_begun.mono _)
      | (with_reducible exact partsyncref21_Close.mono _ _ _ _)
      | (with_reducible exact partsyncref21_Closed.mono _ _ _ _)
      | (with_reducible exact slices_Equal_int_int.mono _ _ _)
      | (with_reducible exact LeO.refl _)
      | (with_reducible exact LeO.none _)
      | (with_reducible refine LeO.ite ?_ ?_)
      | (with_reducible refine LeO.bind ?_ (fun _ => ?_))
      | exact ih0 _ _ _ _ _ _ _ _ _ _
      | exact cut_Close.mono _ _ _ _
      | exact cut_Closed.mono _ _ _ _
      | exact partsynccase_Case_Cut.mono _ _ _ _
      | exact partsynclaw21_begun.mono _
      | exact partsyncref21_Close.mono _ _ _ _
      | exact partsyncref21_Closed.mono _ _ _ _
      | exact slices_Equal_int_int.mono _ _ _
      | exact LeO.none _
      | refine LeO.ite ?_ ?_
      | refine LeO.bind ?_ (fun _ => ?_)
def partsynclaw21_CutCloses.T3 : Bool × List (List Nat × List Nat) := (true, [([], []), ([], []), ([0, 1], [0, 1]), ([], []), ([], []), ([3, 4, 2], [3, 4]), ([], []), ([], []), ([7], [7]), ([8, 8], [8]), ([2, 5, 6, 9], [2, 5, 6, 9]), ([10], [10]), ([], [])])
def partsynclaw21_CutCloses.B3 : List Nat := [0, 0, 3, 0, 0, 31, 0, 0, 128, 384, 1023, 2047, 0]
theorem partsynclaw21_CutCloses.tab3 : rtab .any (opsOf Try.f8 3) = partsynclaw21_CutCloses.T3 := by kernel_rfl
theorem partsynclaw21_CutCloses.bits3 : waitsOk partsynclaw21_CutCloses.T3.2 partsynclaw21_CutCloses.B3 = true := by kernel_rfl
theorem partsynclaw21_CutCloses.lf {r : Bool} {a b : Int} (hr : r = true) (h : some (false, a) = some (r, b)) : False := by subst hr; simp at h
set_option maxHeartbeats 8000000 in
set_option maxRecDepth 100000 in
theorem partsynclaw21_CutCloses.calls (k : Nat) (a0 : Int) (A1 : Option Addr) (c1 : Nat) (l1 : List (List (S50))) (A2 : Option Addr) (c2 : Nat) (l2 : List Int) (AA : Option Addr) (cc : Nat) (l0 : List Int) (r1 : Bool) (r2 : Int) (ww : World) (hr1 : Kd.C (Kd.slice 50 k50) ww A1 l1.length l1) (hc1 : l1.length ≤ c1) (hs2 : (Kd.int .i64).C ww A2 l2.length l2) (hs2c : l2.length ≤ c2) (hC : (Kd.int .u8).C ww AA l0.length l0) (hc : l0.length ≤ cc) (h : partsynclaw21_CutCloses.f k a0 l1 l2 (l0.take 90) 0 = some (r1, r2)) (hr : r1 = true) :
    Calls Try.prog 8 #[.int .i64 a0, .slice A1 l1.length c1, .slice A2 l2.length c2, .slice AA l0.length cc] ww fun e w' => ∃ w w0 g, Below ww.heap.size ww w0 ∧ (e = .returned (.bool r1) ∧ IsS61 w0 w' g (l0.take 90) r2 ∧ Below w0.heap.size w0 w' ∧ KeepBut w w' g none) := by
  have HRT := Aside0.mk hr
  clear hr
  have Z_hC := Aside0.mk hC
  have Z_hc := Aside0.mk hc
  have Z_hr1 := Aside0.mk hr1
  have Z_hc1 := Aside0.mk hc1
  have Z_hs2 := Aside0.mk hs2
  have Z_hs2c := Aside0.mk hs2c
  clear hC hc hr1 hc1 hs2 hs2c
  obtain ⟨s3_0, hs0_⟩ : ∃ s, s = l0.take 90 := ⟨_, rfl⟩
  obtain ⟨s3_1, hs1_⟩ : ∃ s : Int, s = 0 := ⟨_, rfl⟩
  replace h := (show _ = _ from h)
  rw [← hs0_, ← hs1_] at h
  rw [← hs0_]
  go_enter Try.func8, Try.ntmps8
  go_upto_region 2 with (first | (go_at_call 13; refine (new_any l0 AA cc 90 _ (Kd.C_below Z_hC.out (by repeat (first | exact Below.refl _ _ | apply Below.drew | apply pw_below_drewN))) Z_hc.out (by omega)).mono ?_; rintro e w ⟨w0, g, rfl, hb0, hI, hB⟩; have HN0 := Aside0.mk (show Below ww.heap.size ww w0 from Below.trans (by repeat (first | exact Below.refl _ _ | apply Below.drew | apply pw_below_drewN)) hb0); have HBW := Aside0.mk (show Below ww.heap.size ww w from below_step HN0.out hB); have HGE := Aside0.mk (show ww.heap.size ≤ g from Nat.le_trans HN0.out.size hI.ge); clear hb0; replace hI := (show IsS61 w0 w g s3_0 s3_1 from by rw [hs0_, hs1_]; exact hI); clear hs0_ hs1_))
  have hr1 := Kd.C_foot_came (g := g) (Kd.heap_slice 50 partsynclaw21_CutCloses.heap50) Z_hr1.out HBW.out HGE.out
  have hc1 := Z_hc1.out
  have hs2 := Kd.V_mk (e := 3) (base := w.heap.size) (c := c2) Z_hs2c.out (Kd.F_mono (Kd.F_below (Kd.C_F (Kd.heap_int .i64) Z_hs2.out) HBW.out) (ok' := fun k_ => k_ < ww.heap.size ∧ k_ ≠ g) (fun k_ hk_ => ⟨hk_, fun e => by have := HGE.out; omega⟩))
  obtain ⟨P2_, hP2_⟩ : ∃ P : Nat → Prop, P = fun k_ => k_ < ww.heap.size := ⟨_, rfl⟩; replace hs2 := (show Kd.V (Kd.int .i64) 3 w w.heap.size (fun k_ => P2_ k_ ∧ k_ ≠ g) (.slice A2 l2.length c2) l2 from by rw [hP2_]; exact hs2)
  have HR1 := Aside0.mk hr1
  have HC1 := Aside0.mk hc1
  clear hr1 hc1
  have HO2 := Aside0.mk (show Kd.V (Kd.int .i64) 3 w w.heap.size (fun k_ => (P2_ k_ ∨ w.heap.size ≤ k_) ∧ k_ ≠ g) (.slice A2 l2.length c2) l2 from Kd.V_mono hs2 (fun k_ hk => ⟨.inl hk.1, hk.2⟩))
  have HI3 := Aside0.mk hI
  have HK := Aside0.mk (KeepBut.refl w g none)
  have HL := Aside0.mk hB.size
  clear hI
  have HW0 := Aside0.mk hB.size
  have HB := Aside0.mk hB
  clear hB
  have H : ((partsynccase_Case_Logs.f s3_0 s3_1).bind fun bt510 => ((partsynccase_Case_Cut.f k s3_0 bt510.2.2 bt510.2.1).bind fun bt515 => ((partsynccase_Case_Cut.f k s3_0 bt515.2 bt510.2.1).bind fun bt519 => (if 0 ≤ (bt510.2.1.length : Int) then (if ((bt510.2.1.length : Int) : Int).toNat ≤ 35184372088832 then ((some (([bt515.1, bt519.1, l2, (List.replicate ((bt510.2.1.length : Int) : Int).toNat 0)] : List (List Int)) : List (List Int))).bind fun y526 => (partsynclaw21_CutCloses.l0 k a0 l1 l2 bt510.1 bt510.2.1 y526 (y526.length : Int) 0 s3_0 bt519.2)) else (none)) else (none))))) = some (r1, r2) := h
  clear h
  replace H := Option.bind_eq_some_iff.mp H
  obtain ⟨⟨t510, t511, t514⟩, A50, H⟩ := H
  replace H : ((partsynccase_Case_Cut.f k s3_0 t514 t511).bind fun bt515 => ((partsynccase_Case_Cut.f k s3_0 bt515.2 t511).bind fun bt519 => (if 0 ≤ (t511.length : Int) then (if ((t511.length : Int) : Int).toNat ≤ 35184372088832 then ((some (([bt515.1, bt519.1, l2, (List.replicate ((t511.length : Int) : Int).toNat 0)] : List (List Int)) : List (List Int))).bind fun y526 => (partsynclaw21_CutCloses.l0 k a0 l1 l2 t510 t511 y526 (y526.length : Int) 0 s3_0 bt519.2)) else (none)) else (none)))) = some (r1, r2) := H
  have A5 := Aside0.mk A50
  clear A50
  replace H := Option.bind_eq_some_iff.mp H
  obtain ⟨⟨t515, t518⟩, A60, H⟩ := H
  replace H : ((partsynccase_Case_Cut.f k s3_0 t518 t511).bind fun bt519 => (if 0 ≤ (t511.length : Int) then (if ((t511.length : Int) : Int).toNat ≤ 35184372088832 then ((some (([t515, bt519.1, l2, (List.replicate ((t511.length : Int) : Int).toNat 0)] : List (List Int)) : List (List Int))).bind fun y526 => (partsynclaw21_CutCloses.l0 k a0 l1 l2 t510 t511 y526 (y526.length : Int) 0 s3_0 bt519.2)) else (none)) else (none))) = some (r1, r2) := H
  have A6 := Aside0.mk A60
  clear A60
  replace H := Option.bind_eq_some_iff.mp H
  obtain ⟨⟨t519, t522⟩, A70, H⟩ := H
  replace H : (if 0 ≤ (t511.length : Int) then (if ((t511.length : Int) : Int).toNat ≤ 35184372088832 then ((some (([t515, t519, l2, (List.replicate ((t511.length : Int) : Int).toNat 0)] : List (List Int)) : List (List Int))).bind fun y526 => (partsynclaw21_CutCloses.l0 k a0 l1 l2 t510 t511 y526 (y526.length : Int) 0 s3_0 t522)) else (none)) else (none)) = some (r1, r2) := H
  have A7 := Aside0.mk A70
  clear A70
  by_cases c8 : 0 ≤ (t511.length : Int)
  · rw [if_pos c8] at H
    have c8b0 := eq_true c8
    have c8b1 : decide (0 ≤ (t511.length : Int)) = true := decide_eq_true c8
    clear c8
    by_cases c9 : ((t511.length : Int) : Int).toNat ≤ 35184372088832
    · rw [if_pos c9] at H
      have c9b0 := eq_true c9
      have c9b1 : decide (((t511.length : Int) : Int).toNat ≤ 35184372088832) = true := decide_eq_true c9
      clear c9
      obtain ⟨y523, hy523⟩ : ∃ y_ : List Int, y_ = (List.replicate ((t511.length : Int) : Int).toNat 0) := ⟨_, rfl⟩
      replace H : ((some (([t515, t519, l2, y523] : List (List Int)) : List (List Int))).bind fun y526 => (partsynclaw21_CutCloses.l0 k a0 l1 l2 t510 t511 y526 (y526.length : Int) 0 s3_0 t522)) = some (r1, r2) := by first | (rw [hy523]; with_reducible exact H) | (have H2_ := (Option.bind_some _ _).symm.trans H; rw [hy523]; with_reducible exact H2_) | (have H2_ := (Option.bind_some _ _).symm.trans H; with_reducible exact H2_) | with_reducible exact H | (rw [hy523]; exact H) | exact H
      have Ny523 := Aside0.mk hy523
      clear hy523
      obtain ⟨y526, hy526⟩ : ∃ y_ : List (List Int), y_ = (([t515, t519, l2, y523] : List (List Int))) := ⟨_, rfl⟩
      replace H : (partsynclaw21_CutCloses.l0 k a0 l1 l2 t510 t511 y526 (y526.length : Int) 0 s3_0 t522) = some (r1, r2) := by first | (rw [hy526]; with_reducible exact H) | (have H2_ := (Option.bind_some _ _).symm.trans H; rw [hy526]; with_reducible exact H2_) | (have H2_ := (Option.bind_some _ _).symm.trans H; with_reducible exact H2_) | with_reducible exact H | (rw [hy526]; exact H) | exact H
      have Ny526 := Aside0.mk hy526
      clear hy526
      have H' := Aside0.mk H
      clear H
      try go_wp2_with (first | ((with_reducible refine gate_callee (f := 21) rfl ?_); refine goesL_ (some 34) rfl rfl Try.func21 (by kernel_rfl) rfl #[.pointer (some ⟨g, 0, none⟩)] rfl (by (try simp only [List.map_toArray, List.map_cons, List.map_nil]); first | done | rfl | (simp only [List.length_drop, List.length_take]; rfl)) ?_; (with_reducible refine (partsynccase_Case_Logs.calls g s3_0 s3_1 t510 t511 t514 w0 _ ?side1 ?side2 A5.out).mono ?_); (case side1 => repeat (first | (with_reducible first | exact HI3.out | apply IsS61.alloc | apply IsS61.drewN | apply IsS61.drew | apply IsS61.set_1) | exact HI3.out)); (case side2 => repeat (first | (with_reducible first | exact HB.out | apply below_alloc | apply pw_below_drewN | apply below_drew1 | refine below_set ?_ (IsS61.ge HI3.out)) | exact HB.out)); rintro e w10 ⟨v512, rfl, ho0, hi, hb, hk⟩; refine ⟨_, rfl, ?_⟩; have n0_ := Aside0.mk (Kd.V_mono (Kd.V_told (Kd.V_oldK (Kd.V_mono (ok := fun k_ => (((P2_ k_ ∨ w.heap.size ≤ k_)) ∧ k_ ≠ g)) (by (with_reducible repeat (first | apply Kd.V_alloc | apply Kd.V_drewN | apply Kd.V_drew)); exact HO2.out) (fun k_ hk_ => (⟨hk_, hk_.2⟩ : _ ∧ k_ ≠ g))) hk) (Kd.R_base ho0)) (fun _ h_ => h_.1)); have n1_ := Aside0.mk (Kd.N_lower (Kd.N_mono (ok' := fun k_ => (P2_ k_ ∨ w.heap.size ≤ k_) ∧ k_ ≠ g) (Kd.R_N (Kd.R_bound ho0)) (fun k_ hk_ => ⟨(.inr (Nat.le_trans (keep_size (w := w) (g := g) (row := none) (by repeat (first | (with_reducible first | exact HK.out | apply KeepBut.set_ | apply keep_drewN | apply keep_drew | apply keep_alloc) | exact HK.out))) hk_.2.1)), (IsS61.fresh (by repeat (first | (with_reducible first | exact HI3.out | apply IsS61.alloc | apply IsS61.drewN | apply IsS61.drew | apply IsS61.set_1) | exact HI3.out)) k_ hk_.2.1)⟩)) (keep_size (w := w) (g := g) (row := none) (by repeat (first | (with_reducible first | exact HK.out | apply KeepBut.set_ | apply keep_drewN | apply keep_drew | apply keep_alloc) | exact HK.out)))); have n2_ := Aside0.mk (KeepBut.trans (by repeat (first | (with_reducible first | exact HK.out | apply KeepBut.set_ | apply keep_drewN | apply keep_drew | apply keep_alloc) | exact HK.out)) hk (.inl rfl)); have n3_ := Aside0.mk (hb); have n4_ := Aside0.mk (hi); clear HO2; clear HK; clear HB; clear HI3; have HO2 := n0_; have HO513 := n1_; have HK := n2_; have HB := n3_; have HI3 := n4_; clear n0_ n1_ n2_ n3_ n4_; (try clear hb); (try clear hb2); (try clear hk); (try clear hi); (try clear ho0); obtain ⟨Ao11, co11, eo11⟩ := Kd.N_slice HO513.out; subst eo11))
      have n0_ := Aside0.mk (Kd.V_drew HO2.out)
      have n1_ := Aside0.mk (Kd.N_drew HO513.out)
      have n2_ := Aside0.mk (IsS61.drew HI3.out)
      have n3_ := Aside0.mk (keep_drew HK.out)
      have n4_ := Aside0.mk (below_drew1 HB.out)
      clear HO2
      clear HO513
      clear HI3
      clear HK
      clear HB
      have HO2 := n0_
      have HO513 := n1_
      have HI3 := n2_
      have HK := n3_
      have HB := n4_
      clear n0_ n1_ n2_ n3_ n4_
      refine start_ (n := 13) (S := fun w' => True) (ds := []) #[false, false, false, false, false, false, false, false, false, false, false, false, false] (by kernel_rfl) rfl rfl trivial (fun hHeld => ?_); refine with_tabW partsynclaw21_CutCloses.tab3 partsynclaw21_CutCloses.bits3 (fun HT_ HW_ => ?_)
      generalize w10.drew = w12 at HO2 HO513 HI3 HK HB hHeld ⊢
      refine pure_ (i := 0) (N := some 37) (v := ?_) (a' := ?_) #[true, false, false, false, false, false, false, false, false, false, false, false, false] rfl rfl (any_of HT_.out (by kernel_rfl)) (fun _ _ _ h => h) (Or.inl ⟨by rfl, ?_⟩) ?_ ?_
      rotate_left
      · intro w'
        go_simp
        with_reducible rfl
      rotate_left
      · simp only [Act.put, List.setIfInBounds_toArray, List.set_cons_zero, List.set_cons_succ, i64_w, i32_w]
        rfl
      refine pure_ (i := 1) (N := some 38) (v := ?_) (a' := ?_) #[true, true, false, false, false, false, false, false, false, false, false, false, false] rfl rfl (any_of HT_.out (by kernel_rfl)) (fun _ _ _ h => h) (Or.inl ⟨by rfl, ?_⟩) ?_ ?_
      rotate_left
      · intro w'
        go_simp
        with_reducible rfl
      rotate_left
      · simp only [Act.put, List.setIfInBounds_toArray, List.set_cons_zero, List.set_cons_succ, i64_w, i32_w]
        rfl
      refine pure_ (i := 3) (N := some 40) (v := ?_) (a' := ?_) #[true, true, false, true, false, false, false, false, false, false, false, false, false] rfl rfl (any_of HT_.out (by kernel_rfl)) (fun _ _ _ h => h) (Or.inl ⟨by rfl, ?_⟩) ?_ ?_
      rotate_left
      · intro w'
        go_simp
        with_reducible rfl
      rotate_left
      · simp only [Act.put, List.setIfInBounds_toArray, List.set_cons_zero, List.set_cons_succ, i64_w, i32_w]
        rfl
      refine pure_ (i := 4) (N := some 41) (v := ?_) (a' := ?_) #[true, true, false, true, true, false, false, false, false, false, false, false, false] rfl rfl (any_of HT_.out (by kernel_rfl)) (fun _ _ _ h => h) (Or.inl ⟨by rfl, ?_⟩) ?_ ?_
      rotate_left
      · intro w'
        go_simp
        with_reducible rfl
      rotate_left
      · simp only [Act.put, List.setIfInBounds_toArray, List.set_cons_zero, List.set_cons_succ, i64_w, i32_w]
        rfl
      refine pure_ (i := 6) (N := some 43) (v := ?_) (a' := ?_) #[true, true, false, true, true, false, true, false, false, false, false, false, false] rfl rfl (any_of HT_.out (by kernel_rfl)) (fun _ _ _ h => h) (Or.inl ⟨by rfl, ?_⟩) ?_ ?_
      rotate_left
      · intro w'
        go_simp
        with_reducible rfl
      rotate_left
      · simp only [Act.put, List.setIfInBounds_toArray, List.set_cons_zero, List.set_cons_succ, i64_w, i32_w]
        rfl
      refine pure_ (i := 7) (N := some 44) (v := ?_) (a' := ?_) #[true, true, false, true, true, false, true, true, false, false, false, false, false] rfl rfl (any_of HT_.out (by kernel_rfl)) (fun _ _ _ h => h) (Or.inl ⟨by rfl, ?_⟩) ?_ ?_
      rotate_left
      · intro w'
        go_simp
        with_reducible rfl
      rotate_left
      · simp only [Act.put, List.setIfInBounds_toArray, List.set_cons_zero, List.set_cons_succ, i64_w, i32_w]
        rfl
      refine pure_ (i := 8) (N := some 45) (v := ?_) (a' := ?_) #[true, true, false, true, true, false, true, true, true, false, false, false, false] rfl rfl (any_of HT_.out (by kernel_rfl)) (fun _ _ _ h => h) (Or.inl ⟨by rfl, ?_⟩) ?_ ?_
      rotate_left
      · intro w'
        go_simp
        with_reducible rfl
      rotate_left
      · simp only [Act.put, List.setIfInBounds_toArray, List.set_cons_zero, List.set_cons_succ, i64_w, i32_w]
        rfl
      refine pure_ (i := 12) (N := some 49) (v := ?_) (a' := ?_) #[true, true, false, true, true, false, true, true, true, false, false, false, true] rfl rfl (any_of HT_.out (by kernel_rfl)) (fun _ _ _ h => h) (Or.inl ⟨by rfl, ?_⟩) ?_ ?_
      rotate_left
      · intro w'
        go_simp
        with_reducible rfl
      rotate_left
      · simp only [Act.put, List.setIfInBounds_toArray, List.set_cons_zero, List.set_cons_succ, i64_w, i32_w]
        rfl
      refine join_ (σ := Value × Value × Value) 2 #[true, true, true, true, true, true, true, true, true, true, false, false, true] (fun s_ => [(39, s_.1), (42, s_.2.1), (46, s_.2.2)]) (fun s_ w' => (Kd.V (Kd.int .i64) 3 w' w.heap.size (fun k_ => (P2_ k_ ∨ w.heap.size ≤ k_) ∧ some k_ ≠ (.slice Ao11 t511.length co11 : Value).ownBlock ∧ some k_ ≠ (s_.1 : Value).ownBlock ∧ some k_ ≠ (s_.2.1 : Value).ownBlock ∧ some k_ ≠ (s_.2.2 : Value).ownBlock ∧ k_ ≠ g) (.slice A2 l2.length c2) l2) ∧ (Kd.N (Kd.slice 50 k50) 47 w' w.heap.size (fun k_ => (P2_ k_ ∨ w.heap.size ≤ k_) ∧ some k_ ≠ (s_.1 : Value).ownBlock ∧ some k_ ≠ (s_.2.1 : Value).ownBlock ∧ some k_ ≠ (s_.2.2 : Value).ownBlock ∧ k_ ≠ g) (.slice Ao11 t511.length co11) t511) ∧ (Kd.R (Kd.int .i64) 3 w' w.heap.size (fun k_ => (w.heap.size ≤ k_) ∧ some k_ ≠ (s_.2.1 : Value).ownBlock ∧ some k_ ≠ (s_.2.2 : Value).ownBlock) s_.1 t515) ∧ (Kd.R (Kd.int .i64) 3 w' w.heap.size (fun k_ => (w.heap.size ≤ k_) ∧ some k_ ≠ (s_.1 : Value).ownBlock ∧ some k_ ≠ (s_.2.2 : Value).ownBlock) s_.2.1 t519) ∧ (Kd.R (Kd.int .i64) 3 w' w.heap.size (fun k_ => (w.heap.size ≤ k_) ∧ some k_ ≠ (s_.1 : Value).ownBlock ∧ some k_ ≠ (s_.2.1 : Value).ownBlock) s_.2.2 y523) ∧ (IsS61 w0 w' g s3_0 t522) ∧ (KeepBut w w' g none) ∧ (Below w0.heap.size w0 w')) ?_ ?_
      rotate_left
      · intro hCont
        refine two_ (i := 2) (j := 9) (Ni := some 39) (Nj := some 46) #[true, true, true, true, true, false, true, true, true, false, false, false, true] #[true, true, false, true, true, false, true, true, true, true, false, false, true] rfl rfl rfl rfl (two_of HT_.out (by kernel_rfl)) (by decide) (by decide) (fun K hK => ?_) (fun K hK => ?_)
        · skip
          refine goes_ Try.func22 (by kernel_rfl) rfl #[.pointer (some ⟨g, 0, none⟩), .slice Ao11 t511.length co11] (by rfl) rfl rfl (by (try simp only [List.map_toArray, List.map_cons, List.map_nil]); first | done | rfl | (simp only [List.length_drop, List.length_take]; rfl)) ?_
          with_reducible refine (partsynccase_Case_Cut.calls k g s3_0 t514 _ _ t511 t515 t518 w0 _ ?side1 ?side2 ?side3 ?side4 A6.out).mono ?_
          (case side1 => repeat (first | (with_reducible first | exact HI3.out | apply IsS61.alloc | apply IsS61.drewN | apply IsS61.drew | apply IsS61.set_1) | exact HI3.out))
          (case side2 => repeat (first | (with_reducible first | exact HB.out | apply below_alloc | apply pw_below_drewN | apply below_drew1 | refine below_set ?_ (IsS61.ge HI3.out)) | exact HB.out))
          (case side3 => exact Kd.C_foot_ownV (base := 0) (Kd.N_V (Kd.N_mono (ok := fun k_ => (((P2_ k_ ∨ w.heap.size ≤ k_)) ∧ k_ ≠ g)) (by (with_reducible repeat (first | apply Kd.N_alloc | apply Kd.N_drewN | apply Kd.N_drew)); exact HO513.out) (fun k_ hk_ => (⟨hk_, hk_.2⟩ : _ ∧ k_ ≠ g)))) (fun _ h_ => h_.2))
          (case side4 => exact (Kd.N_reads' HO513.out).2.1)
          rintro e w13 ⟨v516, rfl, ho0, hi, hb, hk⟩
          refine ⟨_, rfl, ?_⟩
          have n0_ := Aside0.mk (Kd.V_mono (Kd.V_told (Kd.V_oldK (Kd.V_mono (ok := fun k_ => ((((P2_ k_ ∨ w.heap.size ≤ k_)) ∧ k_ ≠ g) ∧ some k_ ≠ (.slice Ao11 t511.length co11 : Value).ownBlock)) (by (with_reducible repeat (first | apply Kd.V_alloc | apply Kd.V_drewN | apply Kd.V_drew)); exact HO2.out) (fun k_ hk_ => (⟨hk_, hk_.1.2⟩ : _ ∧ k_ ≠ g))) hk) (Kd.R_base ho0)) (fun _ h_ => h_.1))
          have n1_ := Aside0.mk (Kd.N_mono (Kd.N_told (Kd.N_oldK (Kd.N_mono (ok := fun k_ => (((P2_ k_ ∨ w.heap.size ≤ k_)) ∧ k_ ≠ g)) (by (with_reducible repeat (first | apply Kd.N_alloc | apply Kd.N_drewN | apply Kd.N_drew)); exact HO513.out) (fun k_ hk_ => (⟨hk_, hk_.2⟩ : _ ∧ k_ ≠ g))) hk) (Kd.R_base ho0)) (fun _ h_ => h_.1))
          have n2_ := Aside0.mk (Kd.R_lower (Kd.R_newM (M := fun k_ => (w.heap.size ≤ k_)) ho0 (keep_size (w := w) (g := g) (row := none) (by repeat (first | (with_reducible first | exact HK.out | apply KeepBut.set_ | apply keep_drewN | apply keep_drew | apply keep_alloc) | exact HK.out))) (fun k_ h_ => h_)) (keep_size (w := w) (g := g) (row := none) (by repeat (first | (with_reducible first | exact HK.out | apply KeepBut.set_ | apply keep_drewN | apply keep_drew | apply keep_alloc) | exact HK.out))))
          have n3_ := Aside0.mk (KeepBut.trans (by repeat (first | (with_reducible first | exact HK.out | apply KeepBut.set_ | apply keep_drewN | apply keep_drew | apply keep_alloc) | exact HK.out)) hk (.inl rfl))
          have n4_ := Aside0.mk (hb)
          have n5_ := Aside0.mk (hi)
          clear HO2
          clear HO513
          clear HK
          clear HB
          clear HI3
          have HO2 := n0_
          have HO513 := n1_
          have HO517 := n2_
          have HK := n3_
          have HB := n4_
          have HI3 := n5_
          clear n0_ n1_ n2_ n3_ n4_ n5_
          (try clear hb)
          (try clear hb2)
          (try clear hk)
          (try clear hi)
          (try clear ho0)
          refine hK.out _ _ trivial (fun hHeld => ?_)
          clear hK K
          refine norm_ (a' := ?_) ?_ ?_
          rotate_left
          · show Act.put _ (some 39) _ = _
            simp only [Act.put, List.setIfInBounds_toArray, List.set_cons_zero, List.set_cons_succ, i64_w, i32_w]
            rfl
          refine two_ (i := 5) (j := 9) (Ni := some 42) (Nj := some 46) #[true, true, true, true, true, true, true, true, true, false, false, false, true] #[true, true, true, true, true, false, true, true, true, true, false, false, true] rfl rfl rfl rfl (two_of HT_.out (by kernel_rfl)) (by decide) (by decide) (fun K hK => ?_) (fun K hK => ?_)
          · skip
            refine goes_ Try.func22 (by kernel_rfl) rfl #[.pointer (some ⟨g, 0, none⟩), .slice Ao11 t511.length co11] (by rfl) rfl rfl (by (try simp only [List.map_toArray, List.map_cons, List.map_nil]); first | done | rfl | (simp only [List.length_drop, List.length_take]; rfl)) ?_
            with_reducible refine (partsynccase_Case_Cut.calls k g s3_0 t518 _ _ t511 t519 t522 w0 _ ?side1 ?side2 ?side3 ?side4 A7.out).mono ?_
            (case side1 => repeat (first | (with_reducible first | exact HI3.out | apply IsS61.alloc | apply IsS61.drewN | apply IsS61.drew | apply IsS61.set_1) | exact HI3.out))
            (case side2 => repeat (first | (with_reducible first | exact HB.out | apply below_alloc | apply pw_below_drewN | apply below_drew1 | refine below_set ?_ (IsS61.ge HI3.out)) | exact HB.out))
            (case side3 => exact Kd.C_foot_ownV (base := 0) (Kd.N_V (Kd.N_mono (ok := fun k_ => ((((P2_ k_ ∨ w.heap.size ≤ k_)) ∧ k_ ≠ g) ∧ some k_ ≠ (v516 : Value).ownBlock)) (by (with_reducible repeat (first | apply Kd.N_alloc | apply Kd.N_drewN | apply Kd.N_drew)); exact HO513.out) (fun k_ hk_ => (⟨hk_, hk_.1.2⟩ : _ ∧ k_ ≠ g)))) (fun _ h_ => h_.2))
            (case side4 => exact (Kd.N_reads' HO513.out).2.1)
            rintro e w14 ⟨v520, rfl, ho0, hi, hb, hk⟩
            refine ⟨_, rfl, ?_⟩
            have n0_ := Aside0.mk (Kd.V_mono (Kd.V_told (Kd.V_oldK (Kd.V_mono (ok := fun k_ => (((((P2_ k_ ∨ w.heap.size ≤ k_)) ∧ k_ ≠ g) ∧ some k_ ≠ (.slice Ao11 t511.length co11 : Value).ownBlock) ∧ some k_ ≠ (v516 : Value).ownBlock)) (by (with_reducible repeat (first | apply Kd.V_alloc | apply Kd.V_drewN | apply Kd.V_drew)); exact HO2.out) (fun k_ hk_ => (⟨hk_, hk_.1.1.2⟩ : _ ∧ k_ ≠ g))) hk) (Kd.R_base ho0)) (fun _ h_ => h_.1))
            have n1_ := Aside0.mk (Kd.N_mono (Kd.N_told (Kd.N_oldK (Kd.N_mono (ok := fun k_ => ((((P2_ k_ ∨ w.heap.size ≤ k_)) ∧ k_ ≠ g) ∧ some k_ ≠ (v516 : Value).ownBlock)) (by (with_reducible repeat (first | apply Kd.N_alloc | apply Kd.N_drewN | apply Kd.N_drew)); exact HO513.out) (fun k_ hk_ => (⟨hk_, hk_.1.2⟩ : _ ∧ k_ ≠ g))) hk) (Kd.R_base ho0)) (fun _ h_ => h_.1))
            have n2_ := Aside0.mk (Kd.R_mono (Kd.R_told (Kd.R_oldK (IsS61.apart (show IsS61 w0 _ g s3_0 t518 from by repeat (first | (with_reducible first | exact HI3.out | apply IsS61.alloc | apply IsS61.drewN | apply IsS61.drew | apply IsS61.set_1) | exact HI3.out)) (by (with_reducible repeat (first | apply Kd.R_alloc | apply Kd.R_drewN | apply Kd.R_drew)); exact HO517.out) (by decide)) hk) (Kd.R_base ho0)) (fun _ h_ => h_.1))
            have n3_ := Aside0.mk (Kd.R_lower (Kd.R_new' (Kd.R_newM (M := fun k_ => (w.heap.size ≤ k_)) ho0 (keep_size (w := w) (g := g) (row := none) (by repeat (first | (with_reducible first | exact HK.out | apply KeepBut.set_ | apply keep_drewN | apply keep_drew | apply keep_alloc) | exact HK.out))) (fun k_ h_ => h_)) (Kd.R_lt (by (with_reducible repeat (first | apply Kd.R_alloc | apply Kd.R_drewN | apply Kd.R_drew)); exact HO517.out))) (keep_size (w := w) (g := g) (row := none) (by repeat (first | (with_reducible first | exact HK.out | apply KeepBut.set_ | apply keep_drewN | apply keep_drew | apply keep_alloc) | exact HK.out))))
            have n4_ := Aside0.mk (KeepBut.trans (by repeat (first | (with_reducible first | exact HK.out | apply KeepBut.set_ | apply keep_drewN | apply keep_drew | apply keep_alloc) | exact HK.out)) hk (.inl rfl))
            have n5_ := Aside0.mk (hb)
            have n6_ := Aside0.mk (hi)
            clear HO2
            clear HO513
            clear HO517
            clear HK
            clear HB
            clear HI3
            have HO2 := n0_
            have HO513 := n1_
            have HO517 := n2_
            have HO521 := n3_
            have HK := n4_
            have HB := n5_
            have HI3 := n6_
            clear n0_ n1_ n2_ n3_ n4_ n5_ n6_
            (try clear hb)
            (try clear hb2)
            (try clear hk)
            (try clear hi)
            (try clear ho0)
            refine hK.out _ _ trivial (fun hHeld => ?_)
            clear hK K
            refine norm_ (a' := ?_) ?_ ?_
            rotate_left
            · show Act.put _ (some 42) _ = _
              simp only [Act.put, List.setIfInBounds_toArray, List.set_cons_zero, List.set_cons_succ, i64_w, i32_w]
              rfl
            refine one_ (i := 9) (N := some 46) #[true, true, true, true, true, true, true, true, true, true, false, false, true] rfl rfl (one_of HT_.out (by kernel_rfl)) (by decide) (fun K hK => ?_)
            refine Kd.R_make_step (Kd.int .i64) _ 3 (by rfl) (N := 46) rfl 26 _ _ rfl (t511.length : Int) rfl rfl Try.underlying26 (.int .i64 0) 8 info3 rfl (by decide) (by omega) 0 (ok := fun _ => True) (okp := fun _ => True) rfl (fun _ hk => hk) trivial (of_decide_eq_true (by first | (with_reducible assumption) | assumption)) (Nat.le_trans (Nat.mul_le_mul_right _ (of_decide_eq_true (by first | (with_reducible assumption) | assumption) : (t511.length : Int).toNat ≤ 35184372088832)) (by omega)) (Below.refl _ _) (Nat.le_refl _) ?_
            intro v524 w15 ho16 hb hg_ hnew_
            clear hg_ hnew_
            (first | rw [← Ny523.out] at ho16 | (simp only [Int.reduceToNat] at ho16; rw [← Ny523.out] at ho16))
            have n0_ := Aside0.mk (Kd.V_elder' (by (with_reducible repeat (first | apply Kd.V_alloc | apply Kd.V_drewN | apply Kd.V_drew)); exact HO2.out) (Kd.R_base ho16) hb)
            have n1_ := Aside0.mk (Kd.N_elder' (by (with_reducible repeat (first | apply Kd.N_alloc | apply Kd.N_drewN | apply Kd.N_drew)); exact HO513.out) (Kd.R_base ho16) hb)
            have n2_ := Aside0.mk (Kd.R_elder' (by (with_reducible repeat (first | apply Kd.R_alloc | apply Kd.R_drewN | apply Kd.R_drew)); exact HO517.out) (Kd.R_base ho16) hb)
            have n3_ := Aside0.mk (Kd.R_elder' (by (with_reducible repeat (first | apply Kd.R_alloc | apply Kd.R_drewN | apply Kd.R_drew)); exact HO521.out) (Kd.R_base ho16) hb)
            have n4_ := Aside0.mk (Kd.R_lower (Kd.R_new' (Kd.R_new' (Kd.R_newM (M := fun k_ => (w.heap.size ≤ k_)) ho16 (keep_size (w := w) (g := g) (row := none) (by repeat (first | (with_reducible first | exact HK.out | apply KeepBut.set_ | apply keep_drewN | apply keep_drew | apply keep_alloc) | exact HK.out))) (fun k_ h_ => h_)) (Kd.R_lt (by (with_reducible repeat (first | apply Kd.R_alloc | apply Kd.R_drewN | apply Kd.R_drew)); exact HO517.out))) (Kd.R_lt (by (with_reducible repeat (first | apply Kd.R_alloc | apply Kd.R_drewN | apply Kd.R_drew)); exact HO521.out))) (keep_size (w := w) (g := g) (row := none) (by repeat (first | (with_reducible first | exact HK.out | apply KeepBut.set_ | apply keep_drewN | apply keep_drew | apply keep_alloc) | exact HK.out))))
            have n5_ := Aside0.mk (IsS61.below (by repeat (first | (with_reducible first | exact HI3.out | apply IsS61.alloc | apply IsS61.drewN | apply IsS61.drew | apply IsS61.set_1) | exact HI3.out)) hb)
            have n6_ := Aside0.mk (KeepBut.trans (by repeat (first | (with_reducible first | exact HK.out | apply KeepBut.set_ | apply keep_drewN | apply keep_drew | apply keep_alloc) | exact HK.out)) (KeepBut.of_below hb g none) (.inl rfl))
            have n7_ := Aside0.mk (below_step (by repeat (first | (with_reducible first | exact HB.out | apply below_alloc | apply pw_below_drewN | apply below_drew1 | refine below_set ?_ (IsS61.ge HI3.out)) | exact HB.out)) hb)
            clear HO2
            clear HO513
            clear HO517
            clear HO521
            clear HI3
            clear HK
            clear HB
            have HO2 := n0_
            have HO513 := n1_
            have HO517 := n2_
            have HO521 := n3_
            have HO525 := n4_
            have HI3 := n5_
            have HK := n6_
            have HB := n7_
            clear n0_ n1_ n2_ n3_ n4_ n5_ n6_ n7_
            clear hb ho16
            refine hK.out _ _ trivial (fun hHeld => ?_)
            clear hK K
            refine norm_ (a' := ?_) ?_ ?_
            rotate_left
            · show Act.put _ (some 46) _ = _
              simp only [Act.put, List.setIfInBounds_toArray, List.set_cons_zero, List.set_cons_succ, i64_w, i32_w]
              rfl
            exact norm_ (by simp only [putAll, Act.put, List.setIfInBounds_toArray, List.set_cons_zero, List.set_cons_succ]) (hCont (v516, v520, v524) _ ⟨(by (with_reducible repeat (first | apply Kd.V_alloc | apply Kd.V_drewN | apply Kd.V_drew)); exact Kd.V_mono HO2.out (fun _ hk => ⟨hk.1.1.1.1.1, ⟨hk.1.1.1.2, ⟨hk.1.1.2, ⟨hk.1.2, ⟨hk.2, hk.1.1.1.1.2⟩⟩⟩⟩⟩)), (by (with_reducible repeat (first | apply Kd.N_alloc | apply Kd.N_drewN | apply Kd.N_drew)); exact Kd.N_mono HO513.out (fun _ hk => ⟨hk.1.1.1.1, ⟨hk.1.1.2, ⟨hk.1.2, ⟨hk.2, hk.1.1.1.2⟩⟩⟩⟩)), (by (with_reducible repeat (first | apply Kd.R_alloc | apply Kd.R_drewN | apply Kd.R_drew)); exact Kd.R_mono HO517.out (fun _ hk => ⟨hk.1.1.1, ⟨hk.1.2, hk.2⟩⟩)), (by (with_reducible repeat (first | apply Kd.R_alloc | apply Kd.R_drewN | apply Kd.R_drew)); exact Kd.R_mono HO521.out (fun _ hk => ⟨hk.1.1.1, ⟨hk.1.2, hk.2⟩⟩)), (by (with_reducible repeat (first | apply Kd.R_alloc | apply Kd.R_drewN | apply Kd.R_drew)); exact Kd.R_mono HO525.out (fun _ hk => ⟨hk.1.1.1, ⟨hk.1.2, hk.2⟩⟩)), (by repeat (first | (with_reducible first | exact HI3.out | apply IsS61.alloc | apply IsS61.drewN | apply IsS61.drew | apply IsS61.set_1) | exact HI3.out)), (by repeat (first | (with_reducible first | exact HK.out | apply KeepBut.set_ | apply keep_drewN | apply keep_drew | apply keep_alloc) | exact HK.out)), (by repeat (first | (with_reducible first | exact HB.out | apply below_alloc | apply pw_below_drewN | apply below_drew1 | refine below_set ?_ (IsS61.ge HI3.out)) | exact HB.out))⟩)
          · skip
            refine Kd.R_make_step (Kd.int .i64) _ 3 (by rfl) (N := 46) rfl 26 _ _ rfl (t511.length : Int) rfl rfl Try.underlying26 (.int .i64 0) 8 info3 rfl (by decide) (by omega) 0 (ok := fun _ => True) (okp := fun _ => True) rfl (fun _ hk => hk) trivial (of_decide_eq_true (by first | (with_reducible assumption) | assumption)) (Nat.le_trans (Nat.mul_le_mul_right _ (of_decide_eq_true (by first | (with_reducible assumption) | assumption) : (t511.length : Int).toNat ≤ 35184372088832)) (by omega)) (Below.refl _ _) (Nat.le_refl _) ?_
            intro v524 w14 ho15 hb hg_ hnew_
            clear hg_ hnew_
            (first | rw [← Ny523.out] at ho15 | (simp only [Int.reduceToNat] at ho15; rw [← Ny523.out] at ho15))
            have n0_ := Aside0.mk (Kd.V_elder' (by (with_reducible repeat (first | apply Kd.V_alloc | apply Kd.V_drewN | apply Kd.V_drew)); exact HO2.out) (Kd.R_base ho15) hb)
            have n1_ := Aside0.mk (Kd.N_elder' (by (with_reducible repeat (first | apply Kd.N_alloc | apply Kd.N_drewN | apply Kd.N_drew)); exact HO513.out) (Kd.R_base ho15) hb)
            have n2_ := Aside0.mk (Kd.R_elder' (by (with_reducible repeat (first | apply Kd.R_alloc | apply Kd.R_drewN | apply Kd.R_drew)); exact HO517.out) (Kd.R_base ho15) hb)
            have n3_ := Aside0.mk (Kd.R_lower (Kd.R_new' (Kd.R_newM (M := fun k_ => (w.heap.size ≤ k_)) ho15 (keep_size (w := w) (g := g) (row := none) (by repeat (first | (with_reducible first | exact HK.out | apply KeepBut.set_ | apply keep_drewN | apply keep_drew | apply keep_alloc) | exact HK.out))) (fun k_ h_ => h_)) (Kd.R_lt (by (with_reducible repeat (first | apply Kd.R_alloc | apply Kd.R_drewN | apply Kd.R_drew)); exact HO517.out))) (keep_size (w := w) (g := g) (row := none) (by repeat (first | (with_reducible first | exact HK.out | apply KeepBut.set_ | apply keep_drewN | apply keep_drew | apply keep_alloc) | exact HK.out))))
            have n4_ := Aside0.mk (IsS61.below (by repeat (first | (with_reducible first | exact HI3.out | apply IsS61.alloc | apply IsS61.drewN | apply IsS61.drew | apply IsS61.set_1) | exact HI3.out)) hb)
            have n5_ := Aside0.mk (KeepBut.trans (by repeat (first | (with_reducible first | exact HK.out | apply KeepBut.set_ | apply keep_drewN | apply keep_drew | apply keep_alloc) | exact HK.out)) (KeepBut.of_below hb g none) (.inl rfl))
            have n6_ := Aside0.mk (below_step (by repeat (first | (with_reducible first | exact HB.out | apply below_alloc | apply pw_below_drewN | apply below_drew1 | refine below_set ?_ (IsS61.ge HI3.out)) | exact HB.out)) hb)
            clear HO2
            clear HO513
            clear HO517
            clear HI3
            clear HK
            clear HB
            have HO2 := n0_
            have HO513 := n1_
            have HO517 := n2_
            have HO525 := n3_
            have HI3 := n4_
            have HK := n5_
            have HB := n6_
            clear n0_ n1_ n2_ n3_ n4_ n5_ n6_
            clear hb ho15
            refine hK.out _ _ trivial (fun hHeld => ?_)
            clear hK K
            refine norm_ (a' := ?_) ?_ ?_
            rotate_left
            · show Act.put _ (some 46) _ = _
              simp only [Act.put, List.setIfInBounds_toArray, List.set_cons_zero, List.set_cons_succ, i64_w, i32_w]
              rfl
            refine one_ (i := 5) (N := some 42) #[true, true, true, true, true, true, true, true, true, true, false, false, true] rfl rfl (one_of HT_.out (by kernel_rfl)) (by decide) (fun K hK => ?_)
            refine goes_ Try.func22 (by kernel_rfl) rfl #[.pointer (some ⟨g, 0, none⟩), .slice Ao11 t511.length co11] (by rfl) rfl rfl (by (try simp only [List.map_toArray, List.map_cons, List.map_nil]); first | done | rfl | (simp only [List.length_drop, List.length_take]; rfl)) ?_
            with_reducible refine (partsynccase_Case_Cut.calls k g s3_0 t518 _ _ t511 t519 t522 w0 _ ?side1 ?side2 ?side3 ?side4 A7.out).mono ?_
            (case side1 => repeat (first | (with_reducible first | exact HI3.out | apply IsS61.alloc | apply IsS61.drewN | apply IsS61.drew | apply IsS61.set_1) | exact HI3.out))
            (case side2 => repeat (first | (with_reducible first | exact HB.out | apply below_alloc | apply pw_below_drewN | apply below_drew1 | refine below_set ?_ (IsS61.ge HI3.out)) | exact HB.out))
            (case side3 => exact Kd.C_foot_ownV (base := 0) (Kd.N_V (Kd.N_mono (ok := fun k_ => (((((P2_ k_ ∨ w.heap.size ≤ k_)) ∧ k_ ≠ g) ∧ some k_ ≠ (v516 : Value).ownBlock) ∧ some k_ ≠ (v524 : Value).ownBlock)) (by (with_reducible repeat (first | apply Kd.N_alloc | apply Kd.N_drewN | apply Kd.N_drew)); exact HO513.out) (fun k_ hk_ => (⟨hk_, hk_.1.1.2⟩ : _ ∧ k_ ≠ g)))) (fun _ h_ => h_.2))
            (case side4 => exact (Kd.N_reads' HO513.out).2.1)
            rintro e w16 ⟨v520, rfl, ho0, hi, hb, hk⟩
            refine ⟨_, rfl, ?_⟩
            have n0_ := Aside0.mk (Kd.V_mono (Kd.V_told (Kd.V_oldK (Kd.V_mono (ok := fun k_ => ((((((P2_ k_ ∨ w.heap.size ≤ k_)) ∧ k_ ≠ g) ∧ some k_ ≠ (.slice Ao11 t511.length co11 : Value).ownBlock) ∧ some k_ ≠ (v516 : Value).ownBlock) ∧ some k_ ≠ (v524 : Value).ownBlock)) (by (with_reducible repeat (first | apply Kd.V_alloc | apply Kd.V_drewN | apply Kd.V_drew)); exact HO2.out) (fun k_ hk_ => (⟨hk_, hk_.1.1.1.2⟩ : _ ∧ k_ ≠ g))) hk) (Kd.R_base ho0)) (fun _ h_ => h_.1))
            have n1_ := Aside0.mk (Kd.N_mono (Kd.N_told (Kd.N_oldK (Kd.N_mono (ok := fun k_ => (((((P2_ k_ ∨ w.heap.size ≤ k_)) ∧ k_ ≠ g) ∧ some k_ ≠ (v516 : Value).ownBlock) ∧ some k_ ≠ (v524 : Value).ownBlock)) (by (with_reducible repeat (first | apply Kd.N_alloc | apply Kd.N_drewN | apply Kd.N_drew)); exact HO513.out) (fun k_ hk_ => (⟨hk_, hk_.1.1.2⟩ : _ ∧ k_ ≠ g))) hk) (Kd.R_base ho0)) (fun _ h_ => h_.1))
            have n2_ := Aside0.mk (Kd.R_mono (Kd.R_told (Kd.R_oldK (IsS61.apart (show IsS61 w0 _ g s3_0 t518 from by repeat (first | (with_reducible first | exact HI3.out | apply IsS61.alloc | apply IsS61.drewN | apply IsS61.drew | apply IsS61.set_1) | exact HI3.out)) (by (with_reducible repeat (first | apply Kd.R_alloc | apply Kd.R_drewN | apply Kd.R_drew)); exact HO517.out) (by decide)) hk) (Kd.R_base ho0)) (fun _ h_ => h_.1))
            have n3_ := Aside0.mk (Kd.R_mono (Kd.R_told (Kd.R_oldK (IsS61.apart (show IsS61 w0 _ g s3_0 t518 from by repeat (first | (with_reducible first | exact HI3.out | apply IsS61.alloc | apply IsS61.drewN | apply IsS61.drew | apply IsS61.set_1) | exact HI3.out)) (by (with_reducible repeat (first | apply Kd.R_alloc | apply Kd.R_drewN | apply Kd.R_drew)); exact HO525.out) (by decide)) hk) (Kd.R_base ho0)) (fun _ h_ => h_.1))
            have n4_ := Aside0.mk (Kd.R_lower (Kd.R_new' (Kd.R_new' (Kd.R_newM (M := fun k_ => (w.heap.size ≤ k_)) ho0 (keep_size (w := w) (g := g) (row := none) (by repeat (first | (with_reducible first | exact HK.out | apply KeepBut.set_ | apply keep_drewN | apply keep_drew | apply keep_alloc) | exact HK.out))) (fun k_ h_ => h_)) (Kd.R_lt (by (with_reducible repeat (first | apply Kd.R_alloc | apply Kd.R_drewN | apply Kd.R_drew)); exact HO517.out))) (Kd.R_lt (by (with_reducible repeat (first | apply Kd.R_alloc | apply Kd.R_drewN | apply Kd.R_drew)); exact HO525.out))) (keep_size (w := w) (g := g) (row := none) (by repeat (first | (with_reducible first | exact HK.out | apply KeepBut.set_ | apply keep_drewN | apply keep_drew | apply keep_alloc) | exact HK.out))))
            have n5_ := Aside0.mk (KeepBut.trans (by repeat (first | (with_reducible first | exact HK.out | apply KeepBut.set_ | apply keep_drewN | apply keep_drew | apply keep_alloc) | exact HK.out)) hk (.inl rfl))
            have n6_ := Aside0.mk (hb)
            have n7_ := Aside0.mk (hi)
            clear HO2
            clear HO513
            clear HO517
            clear HO525
            clear HK
            clear HB
            clear HI3
            have HO2 := n0_
            have HO513 := n1_
            have HO517 := n2_
            have HO525 := n3_
            have HO521 := n4_
            have HK := n5_
            have HB := n6_
            have HI3 := n7_
            clear n0_ n1_ n2_ n3_ n4_ n5_ n6_ n7_
            (try clear hb)
            (try clear hb2)
            (try clear hk)
            (try clear hi)
            (try clear ho0)
            refine hK.out _ _ trivial (fun hHeld => ?_)
            clear hK K
            refine norm_ (a' := ?_) ?_ ?_
            rotate_left
            · show Act.put _ (some 42) _ = _
              simp only [Act.put, List.setIfInBounds_toArray, List.set_cons_zero, List.set_cons_succ, i64_w, i32_w]
              rfl
            exact norm_ (by simp only [putAll, Act.put, List.setIfInBounds_toArray, List.set_cons_zero, List.set_cons_succ]) (hCont (v516, v520, v524) _ ⟨(by (with_reducible repeat (first | apply Kd.V_alloc | apply Kd.V_drewN | apply Kd.V_drew)); exact Kd.V_mono HO2.out (fun _ hk => ⟨hk.1.1.1.1.1, ⟨hk.1.1.1.2, ⟨hk.1.1.2, ⟨hk.2, ⟨hk.1.2, hk.1.1.1.1.2⟩⟩⟩⟩⟩)), (by (with_reducible repeat (first | apply Kd.N_alloc | apply Kd.N_drewN | apply Kd.N_drew)); exact Kd.N_mono HO513.out (fun _ hk => ⟨hk.1.1.1.1, ⟨hk.1.1.2, ⟨hk.2, ⟨hk.1.2, hk.1.1.1.2⟩⟩⟩⟩)), (by (with_reducible repeat (first | apply Kd.R_alloc | apply Kd.R_drewN | apply Kd.R_drew)); exact Kd.R_mono HO517.out (fun _ hk => ⟨hk.1.1.1, ⟨hk.2, hk.1.2⟩⟩)), (by (with_reducible repeat (first | apply Kd.R_alloc | apply Kd.R_drewN | apply Kd.R_drew)); exact Kd.R_mono HO521.out (fun _ hk => ⟨hk.1.1.1, ⟨hk.1.2, hk.2⟩⟩)), (by (with_reducible repeat (first | apply Kd.R_alloc | apply Kd.R_drewN | apply Kd.R_drew)); exact Kd.R_mono HO525.out (fun _ hk => ⟨hk.1.1.1, ⟨hk.1.2, hk.2⟩⟩)), (by repeat (first | (with_reducible first | exact HI3.out | apply IsS61.alloc | apply IsS61.drewN | apply IsS61.drew | apply IsS61.set_1) | exact HI3.out)), (by repeat (first | (with_reducible first | exact HK.out | apply KeepBut.set_ | apply keep_drewN | apply keep_drew | apply keep_alloc) | exact HK.out)), (by repeat (first | (with_reducible first | exact HB.out | apply below_alloc | apply pw_below_drewN | apply below_drew1 | refine below_set ?_ (IsS61.ge HI3.out)) | exact HB.out))⟩)
        · skip
          refine Kd.R_make_step (Kd.int .i64) _ 3 (by rfl) (N := 46) rfl 26 _ _ rfl (t511.length : Int) rfl rfl Try.underlying26 (.int .i64 0) 8 info3 rfl (by decide) (by omega) 0 (ok := fun _ => True) (okp := fun _ => True) rfl (fun _ hk => hk) trivial (of_decide_eq_true (by first | (with_reducible assumption) | assumption)) (Nat.le_trans (Nat.mul_le_mul_right _ (of_decide_eq_true (by first | (with_reducible assumption) | assumption) : (t511.length : Int).toNat ≤ 35184372088832)) (by omega)) (Below.refl _ _) (Nat.le_refl _) ?_
          intro v524 w13 ho14 hb hg_ hnew_
          clear hg_ hnew_
          (first | rw [← Ny523.out] at ho14 | (simp only [Int.reduceToNat] at ho14; rw [← Ny523.out] at ho14))
          have n0_ := Aside0.mk (Kd.V_elder' (by (with_reducible repeat (first | apply Kd.V_alloc | apply Kd.V_drewN | apply Kd.V_drew)); exact HO2.out) (Kd.R_base ho14) hb)
          have n1_ := Aside0.mk (Kd.N_elder' (by (with_reducible repeat (first | apply Kd.N_alloc | apply Kd.N_drewN | apply Kd.N_drew)); exact HO513.out) (Kd.R_base ho14) hb)
          have n2_ := Aside0.mk (Kd.R_lower (Kd.R_newM (M := fun k_ => (w.heap.size ≤ k_)) ho14 (keep_size (w := w) (g := g) (row := none) (by repeat (first | (with_reducible first | exact HK.out | apply KeepBut.set_ | apply keep_drewN | apply keep_drew | apply keep_alloc) | exact HK.out))) (fun k_ h_ => h_)) (keep_size (w := w) (g := g) (row := none) (by repeat (first | (with_reducible first | exact HK.out | apply KeepBut.set_ | apply keep_drewN | apply keep_drew | apply keep_alloc) | exact HK.out))))
          have n3_ := Aside0.mk (IsS61.below (by repeat (first | (with_reducible first | exact HI3.out | apply IsS61.alloc | apply IsS61.drewN | apply IsS61.drew | apply IsS61.set_1) | exact HI3.out)) hb)
          have n4_ := Aside0.mk (KeepBut.trans (by repeat (first | (with_reducible first | exact HK.out | apply KeepBut.set_ | apply keep_drewN | apply keep_drew | apply keep_alloc) | exact HK.out)) (KeepBut.of_below hb g none) (.inl rfl))
          have n5_ := Aside0.mk (below_step (by repeat (first | (with_reducible first | exact HB.out | apply below_alloc | apply pw_below_drewN | apply below_drew1 | refine below_set ?_ (IsS61.ge HI3.out)) | exact HB.out)) hb)
          clear HO2
          clear HO513
          clear HI3
          clear HK
          clear HB
          have HO2 := n0_
          have HO513 := n1_
          have HO525 := n2_
          have HI3 := n3_
          have HK := n4_
          have HB := n5_
          clear n0_ n1_ n2_ n3_ n4_ n5_
          clear hb ho14
          refine hK.out _ _ trivial (fun hHeld => ?_)
          clear hK K
          refine norm_ (a' := ?_) ?_ ?_
          rotate_left
          · show Act.put _ (some 46) _ = _
            simp only [Act.put, List.setIfInBounds_toArray, List.set_cons_zero, List.set_cons_succ, i64_w, i32_w]
            rfl
          refine one_ (i := 2) (N := some 39) #[true, true, true, true, true, false, true, true, true, true, false, false, true] rfl rfl (one_of HT_.out (by kernel_rfl)) (by decide) (fun K hK => ?_)
          refine goes_ Try.func22 (by kernel_rfl) rfl #[.pointer (some ⟨g, 0, none⟩), .slice Ao11 t511.length co11] (by rfl) rfl rfl (by (try simp only [List.map_toArray, List.map_cons, List.map_nil]); first | done | rfl | (simp only [List.length_drop, List.length_take]; rfl)) ?_
          with_reducible refine (partsynccase_Case_Cut.calls k g s3_0 t514 _ _ t511 t515 t518 w0 _ ?side1 ?side2 ?side3 ?side4 A6.out).mono ?_
          (case side1 => repeat (first | (with_reducible first | exact HI3.out | apply IsS61.alloc | apply IsS61.drewN | apply IsS61.drew | apply IsS61.set_1) | exact HI3.out))
          (case side2 => repeat (first | (with_reducible first | exact HB.out | apply below_alloc | apply pw_below_drewN | apply below_drew1 | refine below_set ?_ (IsS61.ge HI3.out)) | exact HB.out))
          (case side3 => exact Kd.C_foot_ownV (base := 0) (Kd.N_V (Kd.N_mono (ok := fun k_ => ((((P2_ k_ ∨ w.heap.size ≤ k_)) ∧ k_ ≠ g) ∧ some k_ ≠ (v524 : Value).ownBlock)) (by (with_reducible repeat (first | apply Kd.N_alloc | apply Kd.N_drewN | apply Kd.N_drew)); exact HO513.out) (fun k_ hk_ => (⟨hk_, hk_.1.2⟩ : _ ∧ k_ ≠ g)))) (fun _ h_ => h_.2))
          (case side4 => exact (Kd.N_reads' HO513.out).2.1)
          rintro e w15 ⟨v516, rfl, ho0, hi, hb, hk⟩
          refine ⟨_, rfl, ?_⟩
          have n0_ := Aside0.mk (Kd.V_mono (Kd.V_told (Kd.V_oldK (Kd.V_mono (ok := fun k_ => (((((P2_ k_ ∨ w.heap.size ≤ k_)) ∧ k_ ≠ g) ∧ some k_ ≠ (.slice Ao11 t511.length co11 : Value).ownBlock) ∧ some k_ ≠ (v524 : Value).ownBlock)) (by (with_reducible repeat (first | apply Kd.V_alloc | apply Kd.V_drewN | apply Kd.V_drew)); exact HO2.out) (fun k_ hk_ => (⟨hk_, hk_.1.1.2⟩ : _ ∧ k_ ≠ g))) hk) (Kd.R_base ho0)) (fun _ h_ => h_.1))
          have n1_ := Aside0.mk (Kd.N_mono (Kd.N_told (Kd.N_oldK (Kd.N_mono (ok := fun k_ => ((((P2_ k_ ∨ w.heap.size ≤ k_)) ∧ k_ ≠ g) ∧ some k_ ≠ (v524 : Value).ownBlock)) (by (with_reducible repeat (first | apply Kd.N_alloc | apply Kd.N_drewN | apply Kd.N_drew)); exact HO513.out) (fun k_ hk_ => (⟨hk_, hk_.1.2⟩ : _ ∧ k_ ≠ g))) hk) (Kd.R_base ho0)) (fun _ h_ => h_.1))
          have n2_ := Aside0.mk (Kd.R_mono (Kd.R_told (Kd.R_oldK (IsS61.apart (show IsS61 w0 _ g s3_0 t514 from by repeat (first | (with_reducible first | exact HI3.out | apply IsS61.alloc | apply IsS61.drewN | apply IsS61.drew | apply IsS61.set_1) | exact HI3.out)) (by (with_reducible repeat (first | apply Kd.R_alloc | apply Kd.R_drewN | apply Kd.R_drew)); exact HO525.out) (by decide)) hk) (Kd.R_base ho0)) (fun _ h_ => h_.1))
          have n3_ := Aside0.mk (Kd.R_lower (Kd.R_new' (Kd.R_newM (M := fun k_ => (w.heap.size ≤ k_)) ho0 (keep_size (w := w) (g := g) (row := none) (by repeat (first | (with_reducible first | exact HK.out | apply KeepBut.set_ | apply keep_drewN | apply keep_drew | apply keep_alloc) | exact HK.out))) (fun k_ h_ => h_)) (Kd.R_lt (by (with_reducible repeat (first | apply Kd.R_alloc | apply Kd.R_drewN | apply Kd.R_drew)); exact HO525.out))) (keep_size (w := w) (g := g) (row := none) (by repeat (first | (with_reducible first | exact HK.out | apply KeepBut.set_ | apply keep_drewN | apply keep_drew | apply keep_alloc) | exact HK.out))))
          have n4_ := Aside0.mk (KeepBut.trans (by repeat (first | (with_reducible first | exact HK.out | apply KeepBut.set_ | apply keep_drewN | apply keep_drew | apply keep_alloc) | exact HK.out)) hk (.inl rfl))
          have n5_ := Aside0.mk (hb)
          have n6_ := Aside0.mk (hi)
          clear HO2
          clear HO513
          clear HO525
          clear HK
          clear HB
          clear HI3
          have HO2 := n0_
          have HO513 := n1_
          have HO525 := n2_
          have HO517 := n3_
          have HK := n4_
          have HB := n5_
          have HI3 := n6_
          clear n0_ n1_ n2_ n3_ n4_ n5_ n6_
          (try clear hb)
          (try clear hb2)
          (try clear hk)
          (try clear hi)
          (try clear ho0)
          refine hK.out _ _ trivial (fun hHeld => ?_)
          clear hK K
          refine norm_ (a' := ?_) ?_ ?_
          rotate_left
          · show Act.put _ (some 39) _ = _
            simp only [Act.put, List.setIfInBounds_toArray, List.set_cons_zero, List.set_cons_succ, i64_w, i32_w]
            rfl
          refine one_ (i := 5) (N := some 42) #[true, true, true, true, true, true, true, true, true, true, false, false, true] rfl rfl (one_of HT_.out (by kernel_rfl)) (by decide) (fun K hK => ?_)
          refine goes_ Try.func22 (by kernel_rfl) rfl #[.pointer (some ⟨g, 0, none⟩), .slice Ao11 t511.length co11] (by rfl) rfl rfl (by (try simp only [List.map_toArray, List.map_cons, List.map_nil]); first | done | rfl | (simp only [List.length_drop, List.length_take]; rfl)) ?_
          with_reducible refine (partsynccase_Case_Cut.calls k g s3_0 t518 _ _ t511 t519 t522 w0 _ ?side1 ?side2 ?side3 ?side4 A7.out).mono ?_
          (case side1 => repeat (first | (with_reducible first | exact HI3.out | apply IsS61.alloc | apply IsS61.drewN | apply IsS61.drew | apply IsS61.set_1) | exact HI3.out))
          (case side2 => repeat (first | (with_reducible first | exact HB.out | apply below_alloc | apply pw_below_drewN | apply below_drew1 | refine below_set ?_ (IsS61.ge HI3.out)) | exact HB.out))
          (case side3 => exact Kd.C_foot_ownV (base := 0) (Kd.N_V (Kd.N_mono (ok := fun k_ => (((((P2_ k_ ∨ w.heap.size ≤ k_)) ∧ k_ ≠ g) ∧ some k_ ≠ (v524 : Value).ownBlock) ∧ some k_ ≠ (v516 : Value).ownBlock)) (by (with_reducible repeat (first | apply Kd.N_alloc | apply Kd.N_drewN | apply Kd.N_drew)); exact HO513.out) (fun k_ hk_ => (⟨hk_, hk_.1.1.2⟩ : _ ∧ k_ ≠ g)))) (fun _ h_ => h_.2))
          (case side4 => exact (Kd.N_reads' HO513.out).2.1)
          rintro e w16 ⟨v520, rfl, ho0, hi, hb, hk⟩
          refine ⟨_, rfl, ?_⟩
          have n0_ := Aside0.mk (Kd.V_mono (Kd.V_told (Kd.V_oldK (Kd.V_mono (ok := fun k_ => ((((((P2_ k_ ∨ w.heap.size ≤ k_)) ∧ k_ ≠ g) ∧ some k_ ≠ (.slice Ao11 t511.length co11 : Value).ownBlock) ∧ some k_ ≠ (v524 : Value).ownBlock) ∧ some k_ ≠ (v516 : Value).ownBlock)) (by (with_reducible repeat (first | apply Kd.V_alloc | apply Kd.V_drewN | apply Kd.V_drew)); exact HO2.out) (fun k_ hk_ => (⟨hk_, hk_.1.1.1.2⟩ : _ ∧ k_ ≠ g))) hk) (Kd.R_base ho0)) (fun _ h_ => h_.1))
          have n1_ := Aside0.mk (Kd.N_mono (Kd.N_told (Kd.N_oldK (Kd.N_mono (ok := fun k_ => (((((P2_ k_ ∨ w.heap.size ≤ k_)) ∧ k_ ≠ g) ∧ some k_ ≠ (v524 : Value).ownBlock) ∧ some k_ ≠ (v516 : Value).ownBlock)) (by (with_reducible repeat (first | apply Kd.N_alloc | apply Kd.N_drewN | apply Kd.N_drew)); exact HO513.out) (fun k_ hk_ => (⟨hk_, hk_.1.1.2⟩ : _ ∧ k_ ≠ g))) hk) (Kd.R_base ho0)) (fun _ h_ => h_.1))
          have n2_ := Aside0.mk (Kd.R_mono (Kd.R_told (Kd.R_oldK (IsS61.apart (show IsS61 w0 _ g s3_0 t518 from by repeat (first | (with_reducible first | exact HI3.out | apply IsS61.alloc | apply IsS61.drewN | apply IsS61.drew | apply IsS61.set_1) | exact HI3.out)) (by (with_reducible repeat (first | apply Kd.R_alloc | apply Kd.R_drewN | apply Kd.R_drew)); exact HO525.out) (by decide)) hk) (Kd.R_base ho0)) (fun _ h_ => h_.1))
          have n3_ := Aside0.mk (Kd.R_mono (Kd.R_told (Kd.R_oldK (IsS61.apart (show IsS61 w0 _ g s3_0 t518 from by repeat (first | (with_reducible first | exact HI3.out | apply IsS61.alloc | apply IsS61.drewN | apply IsS61.drew | apply IsS61.set_1) | exact HI3.out)) (by (with_reducible repeat (first | apply Kd.R_alloc | apply Kd.R_drewN | apply Kd.R_drew)); exact HO517.out) (by decide)) hk) (Kd.R_base ho0)) (fun _ h_ => h_.1))
          have n4_ := Aside0.mk (Kd.R_lower (Kd.R_new' (Kd.R_new' (Kd.R_newM (M := fun k_ => (w.heap.size ≤ k_)) ho0 (keep_size (w := w) (g := g) (row := none) (by repeat (first | (with_reducible first | exact HK.out | apply KeepBut.set_ | apply keep_drewN | apply keep_drew | apply keep_alloc) | exact HK.out))) (fun k_ h_ => h_)) (Kd.R_lt (by (with_reducible repeat (first | apply Kd.R_alloc | apply Kd.R_drewN | apply Kd.R_drew)); exact HO525.out))) (Kd.R_lt (by (with_reducible repeat (first | apply Kd.R_alloc | apply Kd.R_drewN | apply Kd.R_drew)); exact HO517.out))) (keep_size (w := w) (g := g) (row := none) (by repeat (first | (with_reducible first | exact HK.out | apply KeepBut.set_ | apply keep_drewN | apply keep_drew | apply keep_alloc) | exact HK.out))))
          have n5_ := Aside0.mk (KeepBut.trans (by repeat (first | (with_reducible first | exact HK.out | apply KeepBut.set_ | apply keep_drewN | apply keep_drew | apply keep_alloc) | exact HK.out)) hk (.inl rfl))
          have n6_ := Aside0.mk (hb)
          have n7_ := Aside0.mk (hi)
          clear HO2
          clear HO513
          clear HO525
          clear HO517
          clear HK
          clear HB
          clear HI3
          have HO2 := n0_
          have HO513 := n1_
          have HO525 := n2_
          have HO517 := n3_
          have HO521 := n4_
          have HK := n5_
          have HB := n6_
          have HI3 := n7_
          clear n0_ n1_ n2_ n3_ n4_ n5_ n6_ n7_
          (try clear hb)
          (try clear hb2)
          (try clear hk)
          (try clear hi)
          (try clear ho0)
          refine hK.out _ _ trivial (fun hHeld => ?_)
          clear hK K
          refine norm_ (a' := ?_) ?_ ?_
          rotate_left
          · show Act.put _ (some 42) _ = _
            simp only [Act.put, List.setIfInBounds_toArray, List.set_cons_zero, List.set_cons_succ, i64_w, i32_w]
            rfl
          exact norm_ (by simp only [putAll, Act.put, List.setIfInBounds_toArray, List.set_cons_zero, List.set_cons_succ]) (hCont (v516, v520, v524) _ ⟨(by (with_reducible repeat (first | apply Kd.V_alloc | apply Kd.V_drewN | apply Kd.V_drew)); exact Kd.V_mono HO2.out (fun _ hk => ⟨hk.1.1.1.1.1, ⟨hk.1.1.1.2, ⟨hk.1.2, ⟨hk.2, ⟨hk.1.1.2, hk.1.1.1.1.2⟩⟩⟩⟩⟩)), (by (with_reducible repeat (first | apply Kd.N_alloc | apply Kd.N_drewN | apply Kd.N_drew)); exact Kd.N_mono HO513.out (fun _ hk => ⟨hk.1.1.1.1, ⟨hk.1.2, ⟨hk.2, ⟨hk.1.1.2, hk.1.1.1.2⟩⟩⟩⟩)), (by (with_reducible repeat (first | apply Kd.R_alloc | apply Kd.R_drewN | apply Kd.R_drew)); exact Kd.R_mono HO517.out (fun _ hk => ⟨hk.1.1.1, ⟨hk.2, hk.1.2⟩⟩)), (by (with_reducible repeat (first | apply Kd.R_alloc | apply Kd.R_drewN | apply Kd.R_drew)); exact Kd.R_mono HO521.out (fun _ hk => ⟨hk.1.1.1, ⟨hk.2, hk.1.2⟩⟩)), (by (with_reducible repeat (first | apply Kd.R_alloc | apply Kd.R_drewN | apply Kd.R_drew)); exact Kd.R_mono HO525.out (fun _ hk => ⟨hk.1.1.1, ⟨hk.1.2, hk.2⟩⟩)), (by repeat (first | (with_reducible first | exact HI3.out | apply IsS61.alloc | apply IsS61.drewN | apply IsS61.drew | apply IsS61.set_1) | exact HI3.out)), (by repeat (first | (with_reducible first | exact HK.out | apply KeepBut.set_ | apply keep_drewN | apply keep_drew | apply keep_alloc) | exact HK.out)), (by repeat (first | (with_reducible first | exact HB.out | apply below_alloc | apply pw_below_drewN | apply below_drew1 | refine below_set ?_ (IsS61.ge HI3.out)) | exact HB.out))⟩)
      rintro ⟨v516, v520, v524⟩ w17 ⟨h0_, h1_, h2_, h3_, h4_, h5_, h6_, h7_⟩
      have n0_ : Aside0 (Kd.V (Kd.int .i64) 3 w17 w.heap.size (fun k_ => (P2_ k_ ∨ w.heap.size ≤ k_) ∧ some k_ ≠ (.slice Ao11 t511.length co11 : Value).ownBlock ∧ some k_ ≠ (v516 : Value).ownBlock ∧ some k_ ≠ (v520 : Value).ownBlock ∧ some k_ ≠ (v524 : Value).ownBlock ∧ k_ ≠ g) (.slice A2 l2.length c2) l2) := ⟨h0_⟩
      have n1_ : Aside0 (Kd.N (Kd.slice 50 k50) 47 w17 w.heap.size (fun k_ => (P2_ k_ ∨ w.heap.size ≤ k_) ∧ some k_ ≠ (v516 : Value).ownBlock ∧ some k_ ≠ (v520 : Value).ownBlock ∧ some k_ ≠ (v524 : Value).ownBlock ∧ k_ ≠ g) (.slice Ao11 t511.length co11) t511) := ⟨h1_⟩
      have n2_ : Aside0 (Kd.R (Kd.int .i64) 3 w17 w.heap.size (fun k_ => (w.heap.size ≤ k_) ∧ some k_ ≠ (v520 : Value).ownBlock ∧ some k_ ≠ (v524 : Value).ownBlock) v516 t515) := ⟨h2_⟩
      have n3_ : Aside0 (Kd.R (Kd.int .i64) 3 w17 w.heap.size (fun k_ => (w.heap.size ≤ k_) ∧ some k_ ≠ (v516 : Value).ownBlock ∧ some k_ ≠ (v524 : Value).ownBlock) v520 t519) := ⟨h3_⟩
      have n4_ : Aside0 (Kd.R (Kd.int .i64) 3 w17 w.heap.size (fun k_ => (w.heap.size ≤ k_) ∧ some k_ ≠ (v516 : Value).ownBlock ∧ some k_ ≠ (v520 : Value).ownBlock) v524 y523) := ⟨h4_⟩
      have n5_ : Aside0 (IsS61 w0 w17 g s3_0 t522) := ⟨h5_⟩
      have n6_ : Aside0 (KeepBut w w17 g none) := ⟨h6_⟩
      have n7_ : Aside0 (Below w0.heap.size w0 w17) := ⟨h7_⟩
      clear HO2
      clear HO513
      clear HI3
      clear HK
      clear HB
      clear h0_ h1_ h2_ h3_ h4_ h5_ h6_ h7_
      have HO2 := n0_
      have HO513 := n1_
      have HO517 := n2_
      have HO521 := n3_
      have HO525 := n4_
      have HI3 := n5_
      have HK := n6_
      have HB := n7_
      clear n0_ n1_ n2_ n3_ n4_ n5_ n6_ n7_
      have hHeld := trivial
      obtain ⟨Ao18, co18, eo18⟩ := Kd.R_slice HO517.out
      (first | subst eo18 | (injection eo18 with f1_ f2_ f3_; have f4_ := f1_.symm; have f5_ := f3_.symm; clear f1_ f2_ f3_; subst f4_; subst f5_))
      obtain ⟨Ao19, co19, eo19⟩ := Kd.R_slice HO521.out
      (first | subst eo19 | (injection eo19 with f1_ f2_ f3_; have f4_ := f1_.symm; have f5_ := f3_.symm; clear f1_ f2_ f3_; subst f4_; subst f5_))
      obtain ⟨Ao20, co20, eo20⟩ := Kd.R_slice HO525.out
      (first | subst eo20 | (injection eo20 with f1_ f2_ f3_; have f4_ := f1_.symm; have f5_ := f3_.symm; clear f1_ f2_ f3_; subst f4_; subst f5_))
      refine norm_ (a' := ?_) ?_ ?_
      rotate_left
      · simp only [putAll, Act.put, List.setIfInBounds_toArray, List.set_cons_zero, List.set_cons_succ]
        rfl
      refine one_ (i := 10) (N := some 47) #[true, true, true, true, true, true, true, true, true, true, true, false, true] rfl rfl (one_of HT_.out (by kernel_rfl)) (by decide) (fun K hK => ?_)
      refine Kd.N_lit_step (Kd.slice 3 (Kd.int .i64)) _ 26 ?hg (N' := 47) ?hd (xs := ([t515, t519, l2, y523] : List (List Int))) (inner := [.slice Ao18 t515.length co18, .slice Ao19 t519.length co19, .slice A2 l2.length c2, .slice Ao20 y523.length co20]) (ok := (fun k_ => (P2_ k_ ∨ w.heap.size ≤ k_) ∧ some k_ ≠ (.slice Ao11 t511.length co11 : Value).ownBlock ∧ k_ ≠ g)) (okp := (fun k_ => (P2_ k_ ∨ w.heap.size ≤ k_) ∧ some k_ ≠ (.slice Ao11 t511.length co11 : Value).ownBlock ∧ k_ ≠ g)) ?hr ?hp (fun _ hk => hk) ((show ∀ k_, w17.heap.size ≤ k_ → (fun k_ => (P2_ k_ ∨ w.heap.size ≤ k_) ∧ some k_ ≠ (.slice Ao11 t511.length co11 : Value).ownBlock ∧ k_ ≠ g) k_ from fun k_ hk => ⟨(.inr (Nat.le_trans (keep_size (w := w) (g := g) (row := none) (by repeat (first | (with_reducible first | exact HK.out | apply KeepBut.set_ | apply keep_drewN | apply keep_drew | apply keep_alloc) | exact HK.out))) hk)), Kd.fresh' (Kd.N_lt (by (with_reducible repeat (first | apply Kd.N_alloc | apply Kd.N_drewN | apply Kd.N_drew)); exact HO513.out)) k_ hk, IsS61.fresh (by repeat (first | (with_reducible first | exact HI3.out | apply IsS61.alloc | apply IsS61.drewN | apply IsS61.drew | apply IsS61.set_1) | exact HI3.out)) k_ hk⟩) _ (Nat.le_refl _)) (Below.refl _ _) (Nat.le_refl _) (by simp) ?_; (case hd => rfl); (case hg => rfl); (case hr => first | (go_simp; done) | (go_simp; rfl)); (case hp => exact (Reps.one (show Kd.FK (Kd.slice 3 (Kd.int .i64)) _ _ t515 [.slice Ao18 t515.length co18] from (Kd.FK_slice_mk (Kd.R_reads' (Kd.R_mono (ok' := (fun k_ => (P2_ k_ ∨ w.heap.size ≤ k_) ∧ some k_ ≠ (.slice Ao11 t511.length co11 : Value).ownBlock ∧ k_ ≠ g)) (IsS61.apart HI3.out (Kd.R_apart' (HO517.out) (Kd.N_typed HO513.out) (by decide)) (by decide)) (fun k_ hk => ⟨(.inr (hk.1.1.1)), ⟨hk.1.2, hk.2⟩⟩))).2.1 (Kd.R_F (Kd.R_mono (ok' := (fun k_ => (P2_ k_ ∨ w.heap.size ≤ k_) ∧ some k_ ≠ (.slice Ao11 t511.length co11 : Value).ownBlock ∧ k_ ≠ g)) (IsS61.apart HI3.out (Kd.R_apart' (HO517.out) (Kd.N_typed HO513.out) (by decide)) (by decide)) (fun k_ hk => ⟨(.inr (hk.1.1.1)), ⟨hk.1.2, hk.2⟩⟩))))) (Reps.one (show Kd.FK (Kd.slice 3 (Kd.int .i64)) _ _ t519 [.slice Ao19 t519.length co19] from (Kd.FK_slice_mk (Kd.R_reads' (Kd.R_mono (ok' := (fun k_ => (P2_ k_ ∨ w.heap.size ≤ k_) ∧ some k_ ≠ (.slice Ao11 t511.length co11 : Value).ownBlock ∧ k_ ≠ g)) (IsS61.apart HI3.out (Kd.R_apart' (HO521.out) (Kd.N_typed HO513.out) (by decide)) (by decide)) (fun k_ hk => ⟨(.inr (hk.1.1.1)), ⟨hk.1.2, hk.2⟩⟩))).2.1 (Kd.R_F (Kd.R_mono (ok' := (fun k_ => (P2_ k_ ∨ w.heap.size ≤ k_) ∧ some k_ ≠ (.slice Ao11 t511.length co11 : Value).ownBlock ∧ k_ ≠ g)) (IsS61.apart HI3.out (Kd.R_apart' (HO521.out) (Kd.N_typed HO513.out) (by decide)) (by decide)) (fun k_ hk => ⟨(.inr (hk.1.1.1)), ⟨hk.1.2, hk.2⟩⟩))))) (Reps.one (show Kd.FK (Kd.slice 3 (Kd.int .i64)) _ _ l2 [.slice A2 l2.length c2] from (Kd.FK_slice_mk (Kd.V_reads' (Kd.V_mono (ok' := (fun k_ => (P2_ k_ ∨ w.heap.size ≤ k_) ∧ some k_ ≠ (.slice Ao11 t511.length co11 : Value).ownBlock ∧ k_ ≠ g)) (HO2.out) (fun k_ hk => ⟨hk.1, ⟨hk.2.1, hk.2.2.2.2.2⟩⟩))).2.1 (Kd.V_F (Kd.V_mono (ok' := (fun k_ => (P2_ k_ ∨ w.heap.size ≤ k_) ∧ some k_ ≠ (.slice Ao11 t511.length co11 : Value).ownBlock ∧ k_ ≠ g)) (HO2.out) (fun k_ hk => ⟨hk.1, ⟨hk.2.1, hk.2.2.2.2.2⟩⟩))))) (Reps.one (show Kd.FK (Kd.slice 3 (Kd.int .i64)) _ _ y523 [.slice Ao20 y523.length co20] from (Kd.FK_slice_mk (Kd.R_reads' (Kd.R_mono (ok' := (fun k_ => (P2_ k_ ∨ w.heap.size ≤ k_) ∧ some k_ ≠ (.slice Ao11 t511.length co11 : Value).ownBlock ∧ k_ ≠ g)) (IsS61.apart HI3.out (Kd.R_apart' (HO525.out) (Kd.N_typed HO513.out) (by decide)) (by decide)) (fun k_ hk => ⟨(.inr (hk.1.1.1)), ⟨hk.1.2, hk.2⟩⟩))).2.1 (Kd.R_F (Kd.R_mono (ok' := (fun k_ => (P2_ k_ ∨ w.heap.size ≤ k_) ∧ some k_ ≠ (.slice Ao11 t511.length co11 : Value).ownBlock ∧ k_ ≠ g)) (IsS61.apart HI3.out (Kd.R_apart' (HO525.out) (Kd.N_typed HO513.out) (by decide)) (by decide)) (fun k_ hk => ⟨(.inr (hk.1.1.1)), ⟨hk.1.2, hk.2⟩⟩))))) (Reps.none _ _))))))
      intro v527 w21 ho22 hb hg_ hnew_
      clear hg_ hnew_
      (first | rw [← Ny526.out] at ho22 | (simp only [Int.reduceToNat] at ho22; rw [← Ny526.out] at ho22))
      have n0_ := Aside0.mk (Kd.V_elder' (by (with_reducible repeat (first | apply Kd.V_alloc | apply Kd.V_drewN | apply Kd.V_drew)); exact HO2.out) (Kd.N_base ho22) hb)
      have n1_ := Aside0.mk (Kd.N_elder' (by (with_reducible repeat (first | apply Kd.N_alloc | apply Kd.N_drewN | apply Kd.N_drew)); exact HO513.out) (Kd.N_base ho22) hb)
      have n2_ := Aside0.mk (Kd.N_lower ho22 (keep_size (w := w) (g := g) (row := none) (by repeat (first | (with_reducible first | exact HK.out | apply KeepBut.set_ | apply keep_drewN | apply keep_drew | apply keep_alloc) | exact HK.out))))
      have n3_ := Aside0.mk (IsS61.below (by repeat (first | (with_reducible first | exact HI3.out | apply IsS61.alloc | apply IsS61.drewN | apply IsS61.drew | apply IsS61.set_1) | exact HI3.out)) hb)
      have n4_ := Aside0.mk (KeepBut.trans (by repeat (first | (with_reducible first | exact HK.out | apply KeepBut.set_ | apply keep_drewN | apply keep_drew | apply keep_alloc) | exact HK.out)) (KeepBut.of_below hb g none) (.inl rfl))
      have n5_ := Aside0.mk (below_step (by repeat (first | (with_reducible first | exact HB.out | apply below_alloc | apply pw_below_drewN | apply below_drew1 | refine below_set ?_ (IsS61.ge HI3.out)) | exact HB.out)) hb)
      clear HO2
      clear HO513
      clear HI3
      clear HK
      clear HB
      clear HO517
      clear HO521
      clear HO525
      have HO2 := n0_
      have HO513 := n1_
      have HO528 := n2_
      have HI3 := n3_
      have HK := n4_
      have HB := n5_
      clear n0_ n1_ n2_ n3_ n4_ n5_
      clear hb ho22
      obtain ⟨Ao23, co23, eo23⟩ := Kd.N_slice HO528.out
      (first | subst eo23 | (injection eo23 with f1_ f2_ f3_; have f4_ := f1_.symm; have f5_ := f3_.symm; clear f1_ f2_ f3_; subst f4_; subst f5_))
      refine hK.out _ _ trivial (fun hHeld => ?_)
      clear hK K
      refine norm_ (a' := ?_) ?_ ?_
      rotate_left
      · show Act.put _ (some 47) _ = _
        simp only [Act.put, List.setIfInBounds_toArray, List.set_cons_zero, List.set_cons_succ, i64_w, i32_w]
        rfl
      refine pure_ (i := 11) (N := some 48) (v := ?_) (a' := ?_) #[true, true, true, true, true, true, true, true, true, true, true, true, true] rfl rfl (any_of HT_.out (by kernel_rfl)) (fun _ _ _ h => h) (Or.inl ⟨by rfl, ?_⟩) ?_ ?_
      rotate_left
      · intro w'
        go_simp
        with_reducible rfl
      rotate_left
      · simp only [Act.put, List.setIfInBounds_toArray, List.set_cons_zero, List.set_cons_succ, i64_w, i32_w]
        rfl
      refine done_ (done_of HT_.out (by kernel_rfl)) ?_
      try go_wp2
      go_loopg [49] k (fun kq v49 w' => ∃ (x49_1 : Int), v49 = .int .i64 x49_1 ∧ Aside0 (partsynclaw21_CutCloses.l0 kq a0 l1 l2 t510 t511 y526 (y526.length : Int) x49_1 s3_0 t522 = some (r1, r2)) ∧ Aside0 (kq ≤ k) ∧ Aside0 (Kd.V (Kd.int .i64) 3 w' w.heap.size (fun k_ => (P2_ k_ ∨ w.heap.size ≤ k_) ∧ some k_ ≠ ((.slice Ao11 t511.length co11) : Value).ownBlock ∧ some k_ ≠ ((.slice Ao23 y526.length co23) : Value).ownBlock ∧ k_ ≠ g) (.slice A2 l2.length c2) l2) ∧ Aside0 (Kd.N (Kd.slice 50 k50) 47 w' w.heap.size (fun k_ => (P2_ k_ ∨ w.heap.size ≤ k_) ∧ some k_ ≠ ((.slice Ao23 y526.length co23) : Value).ownBlock ∧ k_ ≠ g) (.slice Ao11 t511.length co11) t511) ∧ Aside0 (Kd.N (Kd.slice 3 (Kd.int .i64)) 26 w' w.heap.size (fun k_ => (P2_ k_ ∨ w.heap.size ≤ k_) ∧ some k_ ≠ ((.slice Ao11 t511.length co11) : Value).ownBlock ∧ k_ ≠ g) (.slice Ao23 y526.length co23) y526) ∧ Aside0 (IsS61 w0 w' g s3_0 t522) ∧ Aside0 (KeepBut w w' g none) ∧ Aside0 (Below w0.heap.size w0 w'))
      case atStart => exact ⟨(0), (by first | rfl | (simp; done) | (simp [*]; done)), H', ⟨Nat.le_refl _⟩, ⟨by (with_reducible repeat (first | apply Kd.V_alloc | apply Kd.V_drewN | apply Kd.V_drew)); exact Kd.V_mono HO2.out (fun _ hk => ⟨hk.1.1, ⟨hk.1.2.1, ⟨hk.2, hk.1.2.2.2.2.2⟩⟩⟩)⟩, ⟨by (with_reducible repeat (first | apply Kd.N_alloc | apply Kd.N_drewN | apply Kd.N_drew)); exact Kd.N_mono HO513.out (fun _ hk => ⟨hk.1.1, ⟨hk.2, hk.1.2.2.2.2⟩⟩)⟩, ⟨by (with_reducible repeat (first | apply Kd.N_alloc | apply Kd.N_drewN | apply Kd.N_drew)); exact HO528.out⟩, ⟨by repeat (first | (with_reducible first | exact HI3.out | apply IsS61.alloc | apply IsS61.drewN | apply IsS61.drew | apply IsS61.set_1) | exact HI3.out)⟩, ⟨by repeat (first | (with_reducible first | exact HK.out | apply KeepBut.set_ | apply keep_drewN | apply keep_drew | apply keep_alloc) | exact HK.out)⟩, ⟨by repeat (first | (with_reducible first | exact HB.out | apply below_alloc | apply pw_below_drewN | apply below_drew1 | refine below_set ?_ (IsS61.ge HI3.out)) | exact HB.out)⟩⟩
      case round =>
        clear H'
        try clear c1
        try clear c2
        try clear p2
        try clear c8
        try clear c8b0
        try clear c8b1
        try clear c9
        try clear c9b0
        try clear c9b1
        try clear c21
        try clear c22
        obtain ⟨x49_1, rfl, HA, HK1, HO_2, HO_11, HO_47, HI3, HK, HB⟩ := hrel
        cases gk with
        | zero => exact absurd HA.out (by simp [partsynclaw21_CutCloses.l0])
        | succ k1 =>
          have H := HA.out
          clear HA
          simp only [partsynclaw21_CutCloses.l0] at H
          by_cases c24 : x49_1 < (y526.length : Int)
          · rw [if_pos c24] at H
            have c24b0 : decide (x49_1 < (y526.length : Int)) = true := decide_eq_true c24
            clear c24
            by_cases c25 : 0 ≤ x49_1
            · rw [if_pos c25] at H
              have c25b0 : decide (0 ≤ x49_1) = true := decide_eq_true c25
              clear c25
              by_cases c26 : x49_1 < (y526.length : Int)
              · rw [if_pos c26] at H
                have c26b0 : decide (x49_1 < (y526.length : Int)) = true := decide_eq_true c26
                clear c26
                replace H := Option.bind_eq_some_iff.mp H
                obtain ⟨⟨t530, t531⟩, A270, H⟩ := H
                replace H : ((partsyncref21_Closed.f k1 t510 t511 (rd_L2 y526 x49_1)).bind fun bt532 => ((cut_Close.f k1 t510 t511 (rd_L2 y526 x49_1)).bind fun bt534 => ((partsyncref21_Close.f k1 t510 t511 (rd_L2 y526 x49_1)).bind fun bt538 => (if (t530 != bt532.1) = true then (some (false, t522)) else (if t531 = bt532.2 then ((slices_Equal_int_int.f k1 bt534.1 bt538.1).bind fun t542 => (if t542 = true then (if bt534.2 = bt538.2 then (partsynclaw21_CutCloses.l0 k1 a0 l1 l2 t510 t511 y526 (y526.length : Int) (wrap64 (x49_1 + 1)) s3_0 t522) else (some (false, t522))) else (some (false, t522)))) else (some (false, t522))))))) = some (r1, r2) := H
                have A27 := Aside0.mk A270
                clear A270
                replace H := Option.bind_eq_some_iff.mp H
                obtain ⟨⟨t532, t533⟩, A280, H⟩ := H
                replace H : ((cut_Close.f k1 t510 t511 (rd_L2 y526 x49_1)).bind fun bt534 => ((partsyncref21_Close.f k1 t510 t511 (rd_L2 y526 x49_1)).bind fun bt538 => (if (t530 != t532) = true then (some (false, t522)) else (if t531 = t533 then ((slices_Equal_int_int.f k1 bt534.1 bt538.1).bind fun t542 => (if t542 = true then (if bt534.2 = bt538.2 then (partsynclaw21_CutCloses.l0 k1 a0 l1 l2 t510 t511 y526 (y526.length : Int) (wrap64 (x49_1 + 1)) s3_0 t522) else (some (false, t522))) else (some (false, t522)))) else (some (false, t522)))))) = some (r1, r2) := H
                have A28 := Aside0.mk A280
                clear A280
                replace H := Option.bind_eq_some_iff.mp H
                obtain ⟨⟨t534, t535⟩, A290, H⟩ := H
                replace H : ((partsyncref21_Close.f k1 t510 t511 (rd_L2 y526 x49_1)).bind fun bt538 => (if (t530 != t532) = true then (some (false, t522)) else (if t531 = t533 then ((slices_Equal_int_int.f k1 t534 bt538.1).bind fun t542 => (if t542 = true then (if t535 = bt538.2 then (partsynclaw21_CutCloses.l0 k1 a0 l1 l2 t510 t511 y526 (y526.length : Int) (wrap64 (x49_1 + 1)) s3_0 t522) else (some (false, t522))) else (some (false, t522)))) else (some (false, t522))))) = some (r1, r2) := H
                have A29 := Aside0.mk A290
                clear A290
                replace H := Option.bind_eq_some_iff.mp H
                obtain ⟨⟨t538, t539⟩, A300, H⟩ := H
                replace H : (if (t530 != t532) = true then (some (false, t522)) else (if t531 = t533 then ((slices_Equal_int_int.f k1 t534 t538).bind fun t542 => (if t542 = true then (if t535 = t539 then (partsynclaw21_CutCloses.l0 k1 a0 l1 l2 t510 t511 y526 (y526.length : Int) (wrap64 (x49_1 + 1)) s3_0 t522) else (some (false, t522))) else (some (false, t522)))) else (some (false, t522)))) = some (r1, r2) := H
                have A30 := Aside0.mk A300
                clear A300
                by_cases c31 : (t530 != t532) = true
                · rw [if_pos c31] at H
                  have c31b0 : (t530 != t532) = true := c31
                  (try (have c31b1 : decide (t530 = t532) = false := by simpa using c31))
                  (try (have c31b2 : (t530 == t532) = false := by simpa using c31))
                  (try (have c31b3 : ¬ (t530 = t532) := by simpa using c31))
                  clear c31
                  exact (partsynclaw21_CutCloses.lf HRT.out H).elim
                · rw [if_neg c31] at H
                  have c31b0 : (t530 != t532) = false := by simpa using c31
                  (try (have c31b1 : decide (t530 = t532) = true := by simpa using c31))
                  (try (have c31b2 : (t530 == t532) = true := by simpa using c31))
                  clear c31
                  by_cases c36 : t531 = t533
                  · rw [if_pos c36] at H
                    have c36b0 : (t531 == t533) = true := beq_iff_eq.mpr c36
                    have c36b1 : (t531 != t533) = false := bne_eq_false_iff_eq.mpr c36
                    clear c36
                    replace H := Option.bind_eq_some_iff.mp H
                    obtain ⟨t542, A370, H⟩ := H
                    replace H : (if t542 = true then (if t535 = t539 then (partsynclaw21_CutCloses.l0 k1 a0 l1 l2 t510 t511 y526 (y526.length : Int) (wrap64 (x49_1 + 1)) s3_0 t522) else (some (false, t522))) else (some (false, t522))) = some (r1, r2) := H
                    have A37 := Aside0.mk A370
                    clear A370
                    by_cases c38 : t542 = true
                    · subst c38
                      have H1 : (if t535 = t539 then (partsynclaw21_CutCloses.l0 k1 a0 l1 l2 t510 t511 y526 (y526.length : Int) (wrap64 (x49_1 + 1)) s3_0 t522) else (some (false, t522))) = some (r1, r2) := by rw [if_pos rfl] at H; exact H
                      clear H
                      have H := H1
                      clear H1
                      by_cases c39 : t535 = t539
                      · rw [if_pos c39] at H
                        have c39b0 : (t535 == t539) = true := beq_iff_eq.mpr c39
                        have c39b1 : (t535 != t539) = false := bne_eq_false_iff_eq.mpr c39
                        clear c39
                        have H' := Aside0.mk H
                        clear H
                        have p529 : 0 ≤ (x49_1 : Int) := of_decide_eq_true (by first | (with_reducible assumption) | assumption)
                        have q529 : x49_1 < (y526.length : Int) := of_decide_eq_true (by first | (with_reducible assumption) | assumption)
                        obtain ⟨ad529, A529_0, c529_0, e529, hx529_0, hl529_0, hi529_0⟩ := at_L2 (Kd.N_reads' HO_47.out).2.2 x49_1 p529 q529
                        cases e529
                        obtain ⟨ce529, hce529, hMe529, hcc529⟩ := Kd.N_get HO_47.out [] x49_1 p529 (by first | exact q529 | exact of_decide_eq_true (by first | (with_reducible assumption) | assumption) | (have e_ := (Kd.N_reads' HO_47.out).1; omega))
                        obtain ⟨ua529_0, uc529_0, rfl, ul529_0, ge529_0⟩ := Kd.FK_slice_open hMe529
                        have hv529_0 := hcc529 0 _ rfl
                        rw [Nat.add_zero, show ((Kd.slice 3 (Kd.int .i64))).sz = 1 from rfl, Nat.mul_one] at hv529_0
                        replace hv529_0 := Option.some.inj (hv529_0.symm.trans hx529_0)
                        injection hv529_0 with hva_ hvn_ hvc_
                        rw [hva_] at ge529_0
                        rw [hvc_] at ul529_0
                        have HL529_0 := Aside0.mk (show Kd.V (Kd.int .i64) 3 _ w.heap.size _ _ (rd_L2 y526 x49_1) from Kd.V_mk ul529_0 ge529_0)
                        clear hva_ hvn_ hvc_ ge529_0 ul529_0
                        clear hcc529 hce529
                        have HR529_0 := Aside0.mk hi529_0
                        have HC529_0 := Aside0.mk hl529_0
                        clear hi529_0 hl529_0
                        replace p529 := eq_true p529
                        replace q529 := eq_true q529
                        go_wp2_with (first | ((with_reducible refine gate_callee (f := 26) rfl ?_); refine goesL_ (some 57) rfl rfl Try.func26 (by kernel_rfl) rfl #[.int .i64 t510, .slice Ao11 t511.length co11, .slice A529_0 (rd_L2 y526 x49_1).length c529_0] rfl (by (try simp only [List.map_toArray, List.map_cons, List.map_nil]); first | done | rfl | (simp only [List.length_drop, List.length_take]; rfl)) ?_; (with_reducible refine (cut_Closed.calls k1 t510 _ _ t511 _ _ (rd_L2 y526 x49_1) t530 t531 _ ?side1 ?side2 ?side3 ?side4 A27.out).mono ?_); (case side1 => repeat (first | exact (Kd.N_reads' HO_11.out).2.2 | (with_reducible refine Kd.C_alloc ?_ _) | (with_reducible refine Kd.C_drewN ?_ _) | (with_reducible refine Kd.C_drew ?_))); (case side2 => exact (Kd.N_reads' HO_11.out).2.1); (case side3 => repeat (first | exact (by repeat (first | (with_reducible exact HR529_0.out) | (with_reducible refine Kd.C_alloc ?_ _) | (with_reducible refine Kd.C_drewN ?_ _) | (with_reducible refine Kd.C_drew ?_) | exact HR529_0.out)) | (with_reducible refine Kd.C_alloc ?_ _) | (with_reducible refine Kd.C_drewN ?_ _) | (with_reducible refine Kd.C_drew ?_))); (case side4 => exact HC529_0.out); rintro e w40 ⟨rfl, hb⟩; refine ⟨_, rfl, ?_⟩; have n0_ := Aside0.mk (Kd.V_below (by (with_reducible repeat (first | apply Kd.V_alloc | apply Kd.V_drewN | apply Kd.V_drew)); exact HO_2.out) hb); have n1_ := Aside0.mk (Kd.N_below (by (with_reducible repeat (first | apply Kd.N_alloc | apply Kd.N_drewN | apply Kd.N_drew)); exact HO_11.out) hb); have n2_ := Aside0.mk (Kd.N_below (by (with_reducible repeat (first | apply Kd.N_alloc | apply Kd.N_drewN | apply Kd.N_drew)); exact HO_47.out) hb); have n3_ := Aside0.mk (Kd.V_below (by (with_reducible repeat (first | apply Kd.V_alloc | apply Kd.V_drewN | apply Kd.V_drew)); exact HL529_0.out) hb); have n4_ := Aside0.mk (IsS61.below (by repeat (first | (with_reducible first | exact HI3.out | apply IsS61.alloc | apply IsS61.drewN | apply IsS61.drew | apply IsS61.set_1) | exact HI3.out)) hb); have n5_ := Aside0.mk (Kd.C_below (by repeat (first | (with_reducible exact HR529_0.out) | (with_reducible refine Kd.C_alloc ?_ _) | (with_reducible refine Kd.C_drewN ?_ _) | (with_reducible refine Kd.C_drew ?_) | exact HR529_0.out)) hb); have n6_ := Aside0.mk (KeepBut.trans (by repeat (first | (with_reducible first | exact HK.out | apply KeepBut.set_ | apply keep_drewN | apply keep_drew | apply keep_alloc) | exact HK.out)) (KeepBut.of_below hb g none) (.inl rfl)); have n7_ := Aside0.mk (below_step (by repeat (first | (with_reducible first | exact HB.out | apply below_alloc | apply pw_below_drewN | apply below_drew1 | refine below_set ?_ (IsS61.ge HI3.out)) | exact HB.out)) hb); clear HO_2; clear HO_11; clear HO_47; clear HL529_0; clear HI3; clear HR529_0; clear HK; clear HB; have HO_2 := n0_; have HO_11 := n1_; have HO_47 := n2_; have HL529_0 := n3_; have HI3 := n4_; have HR529_0 := n5_; have HK := n6_; have HB := n7_; clear n0_ n1_ n2_ n3_ n4_ n5_ n6_ n7_; (try clear hb); (try clear hb2); (try clear hk); (try clear hi)) | ((with_reducible refine gate_callee (f := 33) rfl ?_); refine goesL_ (some 64) rfl rfl Try.func33 (by kernel_rfl) rfl #[.int .i64 t510, .slice Ao11 t511.length co11, .slice A529_0 (rd_L2 y526 x49_1).length c529_0] rfl (by (try simp only [List.map_toArray, List.map_cons, List.map_nil]); first | done | rfl | (simp only [List.length_drop, List.length_take]; rfl)) ?_; (with_reducible refine (partsyncref21_Closed.calls k1 t510 _ _ t511 _ _ (rd_L2 y526 x49_1) t532 t533 _ ?side1 ?side2 ?side3 ?side4 A28.out).mono ?_); (case side1 => repeat (first | exact (Kd.N_reads' HO_11.out).2.2 | (with_reducible refine Kd.C_alloc ?_ _) | (with_reducible refine Kd.C_drewN ?_ _) | (with_reducible refine Kd.C_drew ?_))); (case side2 => exact (Kd.N_reads' HO_11.out).2.1); (case side3 => repeat (first | exact (by repeat (first | (with_reducible exact HR529_0.out) | (with_reducible refine Kd.C_alloc ?_ _) | (with_reducible refine Kd.C_drewN ?_ _) | (with_reducible refine Kd.C_drew ?_) | exact HR529_0.out)) | (with_reducible refine Kd.C_alloc ?_ _) | (with_reducible refine Kd.C_drewN ?_ _) | (with_reducible refine Kd.C_drew ?_))); (case side4 => exact HC529_0.out); rintro e w41 ⟨rfl, hb⟩; refine ⟨_, rfl, ?_⟩; have n0_ := Aside0.mk (Kd.V_below (by (with_reducible repeat (first | apply Kd.V_alloc | apply Kd.V_drewN | apply Kd.V_drew)); exact HO_2.out) hb); have n1_ := Aside0.mk (Kd.N_below (by (with_reducible repeat (first | apply Kd.N_alloc | apply Kd.N_drewN | apply Kd.N_drew)); exact HO_11.out) hb); have n2_ := Aside0.mk (Kd.N_below (by (with_reducible repeat (first | apply Kd.N_alloc | apply Kd.N_drewN | apply Kd.N_drew)); exact HO_47.out) hb); have n3_ := Aside0.mk (Kd.V_below (by (with_reducible repeat (first | apply Kd.V_alloc | apply Kd.V_drewN | apply Kd.V_drew)); exact HL529_0.out) hb); have n4_ := Aside0.mk (IsS61.below (by repeat (first | (with_reducible first | exact HI3.out | apply IsS61.alloc | apply IsS61.drewN | apply IsS61.drew | apply IsS61.set_1) | exact HI3.out)) hb); have n5_ := Aside0.mk (Kd.C_below (by repeat (first | (with_reducible exact HR529_0.out) | (with_reducible refine Kd.C_alloc ?_ _) | (with_reducible refine Kd.C_drewN ?_ _) | (with_reducible refine Kd.C_drew ?_) | exact HR529_0.out)) hb); have n6_ := Aside0.mk (KeepBut.trans (by repeat (first | (with_reducible first | exact HK.out | apply KeepBut.set_ | apply keep_drewN | apply keep_drew | apply keep_alloc) | exact HK.out)) (KeepBut.of_below hb g none) (.inl rfl)); have n7_ := Aside0.mk (below_step (by repeat (first | (with_reducible first | exact HB.out | apply below_alloc | apply pw_below_drewN | apply below_drew1 | refine below_set ?_ (IsS61.ge HI3.out)) | exact HB.out)) hb); clear HO_2; clear HO_11; clear HO_47; clear HL529_0; clear HI3; clear HR529_0; clear HK; clear HB; have HO_2 := n0_; have HO_11 := n1_; have HO_47 := n2_; have HL529_0 := n3_; have HI3 := n4_; have HR529_0 := n5_; have HK := n6_; have HB := n7_; clear n0_ n1_ n2_ n3_ n4_ n5_ n6_ n7_; (try clear hb); (try clear hb2); (try clear hk); (try clear hi)) | ((with_reducible refine gate_callee (f := 34) rfl ?_); refine goesL_ (some 71) rfl rfl Try.func34 (by kernel_rfl) rfl #[.int .i64 t510, .slice Ao11 t511.length co11, .slice A529_0 (rd_L2 y526 x49_1).length c529_0] rfl (by (try simp only [List.map_toArray, List.map_cons, List.map_nil]); first | done | rfl | (simp only [List.length_drop, List.length_take]; rfl)) ?_; (with_reducible refine (cut_Close.calls k1 t510 _ _ t511 _ _ (rd_L2 y526 x49_1) t534 t535 _ ?side1 ?side2 ?side3 ?side4 A29.out).mono ?_); (case side1 => repeat (first | exact (Kd.N_reads' HO_11.out).2.2 | (with_reducible refine Kd.C_alloc ?_ _) | (with_reducible refine Kd.C_drewN ?_ _) | (with_reducible refine Kd.C_drew ?_))); (case side2 => exact (Kd.N_reads' HO_11.out).2.1); (case side3 => repeat (first | exact (by repeat (first | (with_reducible exact HR529_0.out) | (with_reducible refine Kd.C_alloc ?_ _) | (with_reducible refine Kd.C_drewN ?_ _) | (with_reducible refine Kd.C_drew ?_) | exact HR529_0.out)) | (with_reducible refine Kd.C_alloc ?_ _) | (with_reducible refine Kd.C_drewN ?_ _) | (with_reducible refine Kd.C_drew ?_))); (case side4 => exact HC529_0.out); rintro e w42 ⟨v536, rfl, ho0, hb⟩; refine ⟨_, rfl, ?_⟩; have n0_ := Aside0.mk (Kd.V_elder' (by (with_reducible repeat (first | apply Kd.V_alloc | apply Kd.V_drewN | apply Kd.V_drew)); exact HO_2.out) (Kd.R_base ho0) hb); have n1_ := Aside0.mk (Kd.N_elder' (by (with_reducible repeat (first | apply Kd.N_alloc | apply Kd.N_drewN | apply Kd.N_drew)); exact HO_11.out) (Kd.R_base ho0) hb); have n2_ := Aside0.mk (Kd.N_elder' (by (with_reducible repeat (first | apply Kd.N_alloc | apply Kd.N_drewN | apply Kd.N_drew)); exact HO_47.out) (Kd.R_base ho0) hb); have n3_ := Aside0.mk (Kd.V_elder' (by (with_reducible repeat (first | apply Kd.V_alloc | apply Kd.V_drewN | apply Kd.V_drew)); exact HL529_0.out) (Kd.R_base ho0) hb); have n4_ := Aside0.mk (Kd.R_lower (Kd.R_newM (M := fun k_ => (w.heap.size ≤ k_)) ho0 (keep_size (w := w) (g := g) (row := none) (by repeat (first | (with_reducible first | exact HK.out | apply KeepBut.set_ | apply keep_drewN | apply keep_drew | apply keep_alloc) | exact HK.out))) (fun k_ h_ => h_)) (keep_size (w := w) (g := g) (row := none) (by repeat (first | (with_reducible first | exact HK.out | apply KeepBut.set_ | apply keep_drewN | apply keep_drew | apply keep_alloc) | exact HK.out)))); have n5_ := Aside0.mk (IsS61.below (by repeat (first | (with_reducible first | exact HI3.out | apply IsS61.alloc | apply IsS61.drewN | apply IsS61.drew | apply IsS61.set_1) | exact HI3.out)) hb); have n6_ := Aside0.mk (Kd.C_below (by repeat (first | (with_reducible exact HR529_0.out) | (with_reducible refine Kd.C_alloc ?_ _) | (with_reducible refine Kd.C_drewN ?_ _) | (with_reducible refine Kd.C_drew ?_) | exact HR529_0.out)) hb); have n7_ := Aside0.mk (KeepBut.trans (by repeat (first | (with_reducible first | exact HK.out | apply KeepBut.set_ | apply keep_drewN | apply keep_drew | apply keep_alloc) | exact HK.out)) (KeepBut.of_below hb g none) (.inl rfl)); have n8_ := Aside0.mk (below_step (by repeat (first | (with_reducible first | exact HB.out | apply below_alloc | apply pw_below_drewN | apply below_drew1 | refine below_set ?_ (IsS61.ge HI3.out)) | exact HB.out)) hb); clear HO_2; clear HO_11; clear HO_47; clear HL529_0; clear HI3; clear HR529_0; clear HK; clear HB; have HO_2 := n0_; have HO_11 := n1_; have HO_47 := n2_; have HL529_0 := n3_; have HO537 := n4_; have HI3 := n5_; have HR529_0 := n6_; have HK := n7_; have HB := n8_; clear n0_ n1_ n2_ n3_ n4_ n5_ n6_ n7_ n8_; (try clear hb); (try clear hb2); (try clear hk); (try clear hi); (try clear ho0)) | ((with_reducible refine gate_callee (f := 35) rfl ?_); refine goesL_ (some 78) rfl rfl Try.func35 (by kernel_rfl) rfl #[.int .i64 t510, .slice Ao11 t511.length co11, .slice A529_0 (rd_L2 y526 x49_1).length c529_0] rfl (by (try simp only [List.map_toArray, List.map_cons, List.map_nil]); first | done | rfl | (simp only [List.length_drop, List.length_take]; rfl)) ?_; (with_reducible refine (partsyncref21_Close.calls k1 t510 _ _ t511 _ _ (rd_L2 y526 x49_1) t538 t539 _ ?side1 ?side2 ?side3 ?side4 A30.out).mono ?_); (case side1 => repeat (first | exact (Kd.N_reads' HO_11.out).2.2 | (with_reducible refine Kd.C_alloc ?_ _) | (with_reducible refine Kd.C_drewN ?_ _) | (with_reducible refine Kd.C_drew ?_))); (case side2 => exact (Kd.N_reads' HO_11.out).2.1); (case side3 => repeat (first | exact (by repeat (first | (with_reducible exact HR529_0.out) | (with_reducible refine Kd.C_alloc ?_ _) | (with_reducible refine Kd.C_drewN ?_ _) | (with_reducible refine Kd.C_drew ?_) | exact HR529_0.out)) | (with_reducible refine Kd.C_alloc ?_ _) | (with_reducible refine Kd.C_drewN ?_ _) | (with_reducible refine Kd.C_drew ?_))); (case side4 => exact HC529_0.out); rintro e w43 ⟨v540, rfl, ho0, hb⟩; refine ⟨_, rfl, ?_⟩; have n0_ := Aside0.mk (Kd.V_elder' (by (with_reducible repeat (first | apply Kd.V_alloc | apply Kd.V_drewN | apply Kd.V_drew)); exact HO_2.out) (Kd.R_base ho0) hb); have n1_ := Aside0.mk (Kd.N_elder' (by (with_reducible repeat (first | apply Kd.N_alloc | apply Kd.N_drewN | apply Kd.N_drew)); exact HO_11.out) (Kd.R_base ho0) hb); have n2_ := Aside0.mk (Kd.N_elder' (by (with_reducible repeat (first | apply Kd.N_alloc | apply Kd.N_drewN | apply Kd.N_drew)); exact HO_47.out) (Kd.R_base ho0) hb); have n3_ := Aside0.mk (Kd.V_elder' (by (with_reducible repeat (first | apply Kd.V_alloc | apply Kd.V_drewN | apply Kd.V_drew)); exact HL529_0.out) (Kd.R_base ho0) hb); have n4_ := Aside0.mk (Kd.R_elder' (by (with_reducible repeat (first | apply Kd.R_alloc | apply Kd.R_drewN | apply Kd.R_drew)); exact HO537.out) (Kd.R_base ho0) hb); have n5_ := Aside0.mk (Kd.R_lower (Kd.R_new' (Kd.R_newM (M := fun k_ => (w.heap.size ≤ k_)) ho0 (keep_size (w := w) (g := g) (row := none) (by repeat (first | (with_reducible first | exact HK.out | apply KeepBut.set_ | apply keep_drewN | apply keep_drew | apply keep_alloc) | exact HK.out))) (fun k_ h_ => h_)) (Kd.R_lt (by (with_reducible repeat (first | apply Kd.R_alloc | apply Kd.R_drewN | apply Kd.R_drew)); exact HO537.out))) (keep_size (w := w) (g := g) (row := none) (by repeat (first | (with_reducible first | exact HK.out | apply KeepBut.set_ | apply keep_drewN | apply keep_drew | apply keep_alloc) | exact HK.out)))); have n6_ := Aside0.mk (IsS61.below (by repeat (first | (with_reducible first | exact HI3.out | apply IsS61.alloc | apply IsS61.drewN | apply IsS61.drew | apply IsS61.set_1) | exact HI3.out)) hb); have n7_ := Aside0.mk (Kd.C_below (by repeat (first | (with_reducible exact HR529_0.out) | (with_reducible refine Kd.C_alloc ?_ _) | (with_reducible refine Kd.C_drewN ?_ _) | (with_reducible refine Kd.C_drew ?_) | exact HR529_0.out)) hb); have n8_ := Aside0.mk (KeepBut.trans (by repeat (first | (with_reducible first | exact HK.out | apply KeepBut.set_ | apply keep_drewN | apply keep_drew | apply keep_alloc) | exact HK.out)) (KeepBut.of_below hb g none) (.inl rfl)); have n9_ := Aside0.mk (below_step (by repeat (first | (with_reducible first | exact HB.out | apply below_alloc | apply pw_below_drewN | apply below_drew1 | refine below_set ?_ (IsS61.ge HI3.out)) | exact HB.out)) hb); clear HO_2; clear HO_11; clear HO_47; clear HL529_0; clear HO537; clear HI3; clear HR529_0; clear HK; clear HB; have HO_2 := n0_; have HO_11 := n1_; have HO_47 := n2_; have HL529_0 := n3_; have HO537 := n4_; have HO541 := n5_; have HI3 := n6_; have HR529_0 := n7_; have HK := n8_; have HB := n9_; clear n0_ n1_ n2_ n3_ n4_ n5_ n6_ n7_ n8_ n9_; (try clear hb); (try clear hb2); (try clear hk); (try clear hi); (try clear ho0); obtain ⟨Ao44, co44, eo44⟩ := Kd.R_slice HO537.out; subst eo44; obtain ⟨Ao45, co45, eo45⟩ := Kd.R_slice HO541.out; subst eo45) | (go_at_call 18; (with_reducible refine (slices_Equal_int_int.calls k1 _ _ t534 _ _ t538 true _ ?side1 ?side2 ?side3 ?side4 A37.out).mono ?_); (case side1 => repeat (first | exact (Kd.R_reads' HO537.out).2.2 | (with_reducible refine Kd.C_alloc ?_ _) | (with_reducible refine Kd.C_drewN ?_ _) | (with_reducible refine Kd.C_drew ?_))); (case side2 => exact (Kd.R_reads' HO537.out).2.1); (case side3 => repeat (first | exact (Kd.R_reads' HO541.out).2.2 | (with_reducible refine Kd.C_alloc ?_ _) | (with_reducible refine Kd.C_drewN ?_ _) | (with_reducible refine Kd.C_drew ?_))); (case side4 => exact (Kd.R_reads' HO541.out).2.1); rintro e w' ⟨rfl, ⟨nd, rfl⟩⟩))
                        go_roundg k1
                        case measure => have := HK1.out; omega
                        case rel => exact ⟨(wrap64 (x49_1 + 1)), (by first | rfl | (simp; done) | (simp [*]; done)), H', ⟨by have := HK1.out; omega⟩, ⟨by (with_reducible repeat (first | apply Kd.V_alloc | apply Kd.V_drewN | apply Kd.V_drew)); exact Kd.V_mono HO_2.out (fun _ hk => ⟨hk.1.1.1, ⟨hk.1.1.2.1, ⟨hk.1.1.2.2.1, hk.1.1.2.2.2⟩⟩⟩)⟩, ⟨by (with_reducible repeat (first | apply Kd.N_alloc | apply Kd.N_drewN | apply Kd.N_drew)); exact Kd.N_mono HO_11.out (fun _ hk => ⟨hk.1.1.1, ⟨hk.1.1.2.1, hk.1.1.2.2⟩⟩)⟩, ⟨by (with_reducible repeat (first | apply Kd.N_alloc | apply Kd.N_drewN | apply Kd.N_drew)); exact Kd.N_mono HO_47.out (fun _ hk => ⟨hk.1.1.1, ⟨hk.1.1.2.1, hk.1.1.2.2⟩⟩)⟩, ⟨by repeat (first | (with_reducible first | exact HI3.out | apply IsS61.alloc | apply IsS61.drewN | apply IsS61.drew | apply IsS61.set_1) | exact HI3.out)⟩, ⟨by repeat (first | (with_reducible first | exact HK.out | apply KeepBut.set_ | apply keep_drewN | apply keep_drew | apply keep_alloc) | exact HK.out)⟩, ⟨by repeat (first | (with_reducible first | exact HB.out | apply below_alloc | apply pw_below_drewN | apply below_drew1 | refine below_set ?_ (IsS61.ge HI3.out)) | exact HB.out)⟩⟩
                      · rw [if_neg c39] at H
                        have c39b0 : (t535 == t539) = false := beq_eq_false_iff_ne.mpr c39
                        have c39b1 : (t535 != t539) = true := bne_iff_ne.mpr c39
                        exact (partsynclaw21_CutCloses.lf HRT.out H).elim
                    · replace c38 := Bool.eq_false_iff.mpr c38
                      subst c38
                      have H1 : (some (false, t522)) = some (r1, r2) := by rw [if_neg (show ¬ (false = true) by decide)] at H; exact H
                      clear H
                      have H := H1
                      clear H1
                      exact (partsynclaw21_CutCloses.lf HRT.out H).elim
                  · rw [if_neg c36] at H
                    have c36b0 : (t531 == t533) = false := beq_eq_false_iff_ne.mpr c36
                    have c36b1 : (t531 != t533) = true := bne_iff_ne.mpr c36
                    exact (partsynclaw21_CutCloses.lf HRT.out H).elim
              · rw [if_neg c26] at H
                exact absurd H (by simp)
            · rw [if_neg c25] at H
              exact absurd H (by simp)
          · rw [if_neg c24] at H
            have c24b0 : decide (x49_1 < (y526.length : Int)) = false := decide_eq_false c24
            clear c24
            replace H := Option.bind_eq_some_iff.mp H
            obtain ⟨⟨t543, t544⟩, A620, H⟩ := H
            replace H : ((partsyncref21_Closed.f k1 a0 l1 l2).bind fun bt545 => ((cut_Close.f k1 a0 l1 l2).bind fun bt547 => ((partsyncref21_Close.f k1 a0 l1 l2).bind fun bt551 => (if (t543 == bt545.1) = true then (if t544 = bt545.2 then ((slices_Equal_int_int.f k1 bt547.1 bt551.1).bind fun t555 => (if t555 = true then (if bt547.2 = bt551.2 then ((partsynclaw21_begun.f k1).bind fun t556 => (some (t556, t522))) else (some (false, t522))) else (some (false, t522)))) else (some (false, t522))) else (some (false, t522)))))) = some (r1, r2) := H
            have A62 := Aside0.mk A620
            clear A620
            replace H := Option.bind_eq_some_iff.mp H
            obtain ⟨⟨t545, t546⟩, A630, H⟩ := H
            replace H : ((cut_Close.f k1 a0 l1 l2).bind fun bt547 => ((partsyncref21_Close.f k1 a0 l1 l2).bind fun bt551 => (if (t543 == t545) = true then (if t544 = t546 then ((slices_Equal_int_int.f k1 bt547.1 bt551.1).bind fun t555 => (if t555 = true then (if bt547.2 = bt551.2 then ((partsynclaw21_begun.f k1).bind fun t556 => (some (t556, t522))) else (some (false, t522))) else (some (false, t522)))) else (some (false, t522))) else (some (false, t522))))) = some (r1, r2) := H
            have A63 := Aside0.mk A630
            clear A630
            replace H := Option.bind_eq_some_iff.mp H
            obtain ⟨⟨t547, t548⟩, A640, H⟩ := H
            replace H : ((partsyncref21_Close.f k1 a0 l1 l2).bind fun bt551 => (if (t543 == t545) = true then (if t544 = t546 then ((slices_Equal_int_int.f k1 t547 bt551.1).bind fun t555 => (if t555 = true then (if t548 = bt551.2 then ((partsynclaw21_begun.f k1).bind fun t556 => (some (t556, t522))) else (some (false, t522))) else (some (false, t522)))) else (some (false, t522))) else (some (false, t522)))) = some (r1, r2) := H
            have A64 := Aside0.mk A640
            clear A640
            replace H := Option.bind_eq_some_iff.mp H
            obtain ⟨⟨t551, t552⟩, A650, H⟩ := H
            replace H : (if (t543 == t545) = true then (if t544 = t546 then ((slices_Equal_int_int.f k1 t547 t551).bind fun t555 => (if t555 = true then (if t548 = t552 then ((partsynclaw21_begun.f k1).bind fun t556 => (some (t556, t522))) else (some (false, t522))) else (some (false, t522)))) else (some (false, t522))) else (some (false, t522))) = some (r1, r2) := H
            have A65 := Aside0.mk A650
            clear A650
            by_cases c66 : (t543 == t545) = true
            · rw [if_pos c66] at H
              have c66b0 : (t543 == t545) = true := c66
              (try (have c66b1 : decide (t543 = t545) = true := by simpa using c66))
              (try (have c66b2 : (t543 == t545) = true := by simpa using c66))
              clear c66
              by_cases c67 : t544 = t546
              · rw [if_pos c67] at H
                have c67b0 : (t544 == t546) = true := beq_iff_eq.mpr c67
                have c67b1 : (t544 != t546) = false := bne_eq_false_iff_eq.mpr c67
                clear c67
                replace H := Option.bind_eq_some_iff.mp H
                obtain ⟨t555, A680, H⟩ := H
                replace H : (if t555 = true then (if t548 = t552 then ((partsynclaw21_begun.f k1).bind fun t556 => (some (t556, t522))) else (some (false, t522))) else (some (false, t522))) = some (r1, r2) := H
                have A68 := Aside0.mk A680
                clear A680
                by_cases c69 : t555 = true
                · subst c69
                  have H1 : (if t548 = t552 then ((partsynclaw21_begun.f k1).bind fun t556 => (some (t556, t522))) else (some (false, t522))) = some (r1, r2) := by rw [if_pos rfl] at H; exact H
                  clear H
                  have H := H1
                  clear H1
                  by_cases c70 : t548 = t552
                  · rw [if_pos c70] at H
                    have c70b0 : (t548 == t552) = true := beq_iff_eq.mpr c70
                    have c70b1 : (t548 != t552) = false := bne_eq_false_iff_eq.mpr c70
                    clear c70
                    replace H := Option.bind_eq_some_iff.mp H
                    obtain ⟨t556, A710, H⟩ := H
                    replace H : (some (t556, t522)) = some (r1, r2) := H
                    have A71 := Aside0.mk A710
                    clear A710
                    simp only [Option.some.injEq, Prod.mk.injEq] at H
                    obtain ⟨rfl, rfl⟩ := H
                    go_wp2_with (first | ((with_reducible refine gate_callee (f := 26) rfl ?_); refine goesL_ (some 105) rfl rfl Try.func26 (by kernel_rfl) rfl #[.int .i64 a0, .slice A1 l1.length c1, .slice A2 l2.length c2] rfl (by (try simp only [List.map_toArray, List.map_cons, List.map_nil]); first | done | rfl | (simp only [List.length_drop, List.length_take]; rfl)) ?_; (with_reducible refine (cut_Closed.calls k1 a0 _ _ l1 _ _ l2 t543 t544 _ ?side1 ?side2 ?side3 ?side4 A62.out).mono ?_); (case side1 => exact Kd.C_foot_now HR1.out (by repeat (first | (with_reducible first | exact HK.out | apply KeepBut.set_ | apply keep_drewN | apply keep_drew | apply keep_alloc) | exact HK.out))); (case side2 => exact HC1.out); (case side3 => repeat (first | exact (Kd.V_reads' HO_2.out).2.2 | (with_reducible refine Kd.C_alloc ?_ _) | (with_reducible refine Kd.C_drewN ?_ _) | (with_reducible refine Kd.C_drew ?_))); (case side4 => exact (Kd.V_reads' HO_2.out).2.1); rintro e w72 ⟨rfl, hb⟩; refine ⟨_, rfl, ?_⟩; have n0_ := Aside0.mk (Kd.V_below (by (with_reducible repeat (first | apply Kd.V_alloc | apply Kd.V_drewN | apply Kd.V_drew)); exact HO_2.out) hb); have n1_ := Aside0.mk (Kd.N_below (by (with_reducible repeat (first | apply Kd.N_alloc | apply Kd.N_drewN | apply Kd.N_drew)); exact HO_11.out) hb); have n2_ := Aside0.mk (Kd.N_below (by (with_reducible repeat (first | apply Kd.N_alloc | apply Kd.N_drewN | apply Kd.N_drew)); exact HO_47.out) hb); have n3_ := Aside0.mk (IsS61.below (by repeat (first | (with_reducible first | exact HI3.out | apply IsS61.alloc | apply IsS61.drewN | apply IsS61.drew | apply IsS61.set_1) | exact HI3.out)) hb); have n4_ := Aside0.mk (KeepBut.trans (by repeat (first | (with_reducible first | exact HK.out | apply KeepBut.set_ | apply keep_drewN | apply keep_drew | apply keep_alloc) | exact HK.out)) (KeepBut.of_below hb g none) (.inl rfl)); have n5_ := Aside0.mk (below_step (by repeat (first | (with_reducible first | exact HB.out | apply below_alloc | apply pw_below_drewN | apply below_drew1 | refine below_set ?_ (IsS61.ge HI3.out)) | exact HB.out)) hb); clear HO_2; clear HO_11; clear HO_47; clear HI3; clear HK; clear HB; have HO_2 := n0_; have HO_11 := n1_; have HO_47 := n2_; have HI3 := n3_; have HK := n4_; have HB := n5_; clear n0_ n1_ n2_ n3_ n4_ n5_; (try clear hb); (try clear hb2); (try clear hk); (try clear hi)) | ((with_reducible refine gate_callee (f := 33) rfl ?_); refine goesL_ (some 112) rfl rfl Try.func33 (by kernel_rfl) rfl #[.int .i64 a0, .slice A1 l1.length c1, .slice A2 l2.length c2] rfl (by (try simp only [List.map_toArray, List.map_cons, List.map_nil]); first | done | rfl | (simp only [List.length_drop, List.length_take]; rfl)) ?_; (with_reducible refine (partsyncref21_Closed.calls k1 a0 _ _ l1 _ _ l2 t545 t546 _ ?side1 ?side2 ?side3 ?side4 A63.out).mono ?_); (case side1 => exact Kd.C_foot_now HR1.out (by repeat (first | (with_reducible first | exact HK.out | apply KeepBut.set_ | apply keep_drewN | apply keep_drew | apply keep_alloc) | exact HK.out))); (case side2 => exact HC1.out); (case side3 => repeat (first | exact (Kd.V_reads' HO_2.out).2.2 | (with_reducible refine Kd.C_alloc ?_ _) | (with_reducible refine Kd.C_drewN ?_ _) | (with_reducible refine Kd.C_drew ?_))); (case side4 => exact (Kd.V_reads' HO_2.out).2.1); rintro e w73 ⟨rfl, hb⟩; refine ⟨_, rfl, ?_⟩; have n0_ := Aside0.mk (Kd.V_below (by (with_reducible repeat (first | apply Kd.V_alloc | apply Kd.V_drewN | apply Kd.V_drew)); exact HO_2.out) hb); have n1_ := Aside0.mk (Kd.N_below (by (with_reducible repeat (first | apply Kd.N_alloc | apply Kd.N_drewN | apply Kd.N_drew)); exact HO_11.out) hb); have n2_ := Aside0.mk (Kd.N_below (by (with_reducible repeat (first | apply Kd.N_alloc | apply Kd.N_drewN | apply Kd.N_drew)); exact HO_47.out) hb); have n3_ := Aside0.mk (IsS61.below (by repeat (first | (with_reducible first | exact HI3.out | apply IsS61.alloc | apply IsS61.drewN | apply IsS61.drew | apply IsS61.set_1) | exact HI3.out)) hb); have n4_ := Aside0.mk (KeepBut.trans (by repeat (first | (with_reducible first | exact HK.out | apply KeepBut.set_ | apply keep_drewN | apply keep_drew | apply keep_alloc) | exact HK.out)) (KeepBut.of_below hb g none) (.inl rfl)); have n5_ := Aside0.mk (below_step (by repeat (first | (with_reducible first | exact HB.out | apply below_alloc | apply pw_below_drewN | apply below_drew1 | refine below_set ?_ (IsS61.ge HI3.out)) | exact HB.out)) hb); clear HO_2; clear HO_11; clear HO_47; clear HI3; clear HK; clear HB; have HO_2 := n0_; have HO_11 := n1_; have HO_47 := n2_; have HI3 := n3_; have HK := n4_; have HB := n5_; clear n0_ n1_ n2_ n3_ n4_ n5_; (try clear hb); (try clear hb2); (try clear hk); (try clear hi)) | ((with_reducible refine gate_callee (f := 34) rfl ?_); refine goesL_ (some 119) rfl rfl Try.func34 (by kernel_rfl) rfl #[.int .i64 a0, .slice A1 l1.length c1, .slice A2 l2.length c2] rfl (by (try simp only [List.map_toArray, List.map_cons, List.map_nil]); first | done | rfl | (simp only [List.length_drop, List.length_take]; rfl)) ?_; (with_reducible refine (cut_Close.calls k1 a0 _ _ l1 _ _ l2 t547 t548 _ ?side1 ?side2 ?side3 ?side4 A64.out).mono ?_); (case side1 => exact Kd.C_foot_now HR1.out (by repeat (first | (with_reducible first | exact HK.out | apply KeepBut.set_ | apply keep_drewN | apply keep_drew | apply keep_alloc) | exact HK.out))); (case side2 => exact HC1.out); (case side3 => repeat (first | exact (Kd.V_reads' HO_2.out).2.2 | (with_reducible refine Kd.C_alloc ?_ _) | (with_reducible refine Kd.C_drewN ?_ _) | (with_reducible refine Kd.C_drew ?_))); (case side4 => exact (Kd.V_reads' HO_2.out).2.1); rintro e w74 ⟨v549, rfl, ho0, hb⟩; refine ⟨_, rfl, ?_⟩; have n0_ := Aside0.mk (Kd.V_elder' (by (with_reducible repeat (first | apply Kd.V_alloc | apply Kd.V_drewN | apply Kd.V_drew)); exact HO_2.out) (Kd.R_base ho0) hb); have n1_ := Aside0.mk (Kd.N_elder' (by (with_reducible repeat (first | apply Kd.N_alloc | apply Kd.N_drewN | apply Kd.N_drew)); exact HO_11.out) (Kd.R_base ho0) hb); have n2_ := Aside0.mk (Kd.N_elder' (by (with_reducible repeat (first | apply Kd.N_alloc | apply Kd.N_drewN | apply Kd.N_drew)); exact HO_47.out) (Kd.R_base ho0) hb); have n3_ := Aside0.mk (Kd.R_lower (Kd.R_newM (M := fun k_ => (w.heap.size ≤ k_)) ho0 (keep_size (w := w) (g := g) (row := none) (by repeat (first | (with_reducible first | exact HK.out | apply KeepBut.set_ | apply keep_drewN | apply keep_drew | apply keep_alloc) | exact HK.out))) (fun k_ h_ => h_)) (keep_size (w := w) (g := g) (row := none) (by repeat (first | (with_reducible first | exact HK.out | apply KeepBut.set_ | apply keep_drewN | apply keep_drew | apply keep_alloc) | exact HK.out)))); have n4_ := Aside0.mk (IsS61.below (by repeat (first | (with_reducible first | exact HI3.out | apply IsS61.alloc | apply IsS61.drewN | apply IsS61.drew | apply IsS61.set_1) | exact HI3.out)) hb); have n5_ := Aside0.mk (KeepBut.trans (by repeat (first | (with_reducible first | exact HK.out | apply KeepBut.set_ | apply keep_drewN | apply keep_drew | apply keep_alloc) | exact HK.out)) (KeepBut.of_below hb g none) (.inl rfl)); have n6_ := Aside0.mk (below_step (by repeat (first | (with_reducible first | exact HB.out | apply below_alloc | apply pw_below_drewN | apply below_drew1 | refine below_set ?_ (IsS61.ge HI3.out)) | exact HB.out)) hb); clear HO_2; clear HO_11; clear HO_47; clear HI3; clear HK; clear HB; have HO_2 := n0_; have HO_11 := n1_; have HO_47 := n2_; have HO550 := n3_; have HI3 := n4_; have HK := n5_; have HB := n6_; clear n0_ n1_ n2_ n3_ n4_ n5_ n6_; (try clear hb); (try clear hb2); (try clear hk); (try clear hi); (try clear ho0)) | ((with_reducible refine gate_callee (f := 35) rfl ?_); refine goesL_ (some 126) rfl rfl Try.func35 (by kernel_rfl) rfl #[.int .i64 a0, .slice A1 l1.length c1, .slice A2 l2.length c2] rfl (by (try simp only [List.map_toArray, List.map_cons, List.map_nil]); first | done | rfl | (simp only [List.length_drop, List.length_take]; rfl)) ?_; (with_reducible refine (partsyncref21_Close.calls k1 a0 _ _ l1 _ _ l2 t551 t552 _ ?side1 ?side2 ?side3 ?side4 A65.out).mono ?_); (case side1 => exact Kd.C_foot_now HR1.out (by repeat (first | (with_reducible first | exact HK.out | apply KeepBut.set_ | apply keep_drewN | apply keep_drew | apply keep_alloc) | exact HK.out))); (case side2 => exact HC1.out); (case side3 => repeat (first | exact (Kd.V_reads' HO_2.out).2.2 | (with_reducible refine Kd.C_alloc ?_ _) | (with_reducible refine Kd.C_drewN ?_ _) | (with_reducible refine Kd.C_drew ?_))); (case side4 => exact (Kd.V_reads' HO_2.out).2.1); rintro e w75 ⟨v553, rfl, ho0, hb⟩; refine ⟨_, rfl, ?_⟩; have n0_ := Aside0.mk (Kd.V_elder' (by (with_reducible repeat (first | apply Kd.V_alloc | apply Kd.V_drewN | apply Kd.V_drew)); exact HO_2.out) (Kd.R_base ho0) hb); have n1_ := Aside0.mk (Kd.N_elder' (by (with_reducible repeat (first | apply Kd.N_alloc | apply Kd.N_drewN | apply Kd.N_drew)); exact HO_11.out) (Kd.R_base ho0) hb); have n2_ := Aside0.mk (Kd.N_elder' (by (with_reducible repeat (first | apply Kd.N_alloc | apply Kd.N_drewN | apply Kd.N_drew)); exact HO_47.out) (Kd.R_base ho0) hb); have n3_ := Aside0.mk (Kd.R_elder' (by (with_reducible repeat (first | apply Kd.R_alloc | apply Kd.R_drewN | apply Kd.R_drew)); exact HO550.out) (Kd.R_base ho0) hb); have n4_ := Aside0.mk (Kd.R_lower (Kd.R_new' (Kd.R_newM (M := fun k_ => (w.heap.size ≤ k_)) ho0 (keep_size (w := w) (g := g) (row := none) (by repeat (first | (with_reducible first | exact HK.out | apply KeepBut.set_ | apply keep_drewN | apply keep_drew | apply keep_alloc) | exact HK.out))) (fun k_ h_ => h_)) (Kd.R_lt (by (with_reducible repeat (first | apply Kd.R_alloc | apply Kd.R_drewN | apply Kd.R_drew)); exact HO550.out))) (keep_size (w := w) (g := g) (row := none) (by repeat (first | (with_reducible first | exact HK.out | apply KeepBut.set_ | apply keep_drewN | apply keep_drew | apply keep_alloc) | exact HK.out)))); have n5_ := Aside0.mk (IsS61.below (by repeat (first | (with_reducible first | exact HI3.out | apply IsS61.alloc | apply IsS61.drewN | apply IsS61.drew | apply IsS61.set_1) | exact HI3.out)) hb); have n6_ := Aside0.mk (KeepBut.trans (by repeat (first | (with_reducible first | exact HK.out | apply KeepBut.set_ | apply keep_drewN | apply keep_drew | apply keep_alloc) | exact HK.out)) (KeepBut.of_below hb g none) (.inl rfl)); have n7_ := Aside0.mk (below_step (by repeat (first | (with_reducible first | exact HB.out | apply below_alloc | apply pw_below_drewN | apply below_drew1 | refine below_set ?_ (IsS61.ge HI3.out)) | exact HB.out)) hb); clear HO_2; clear HO_11; clear HO_47; clear HO550; clear HI3; clear HK; clear HB; have HO_2 := n0_; have HO_11 := n1_; have HO_47 := n2_; have HO550 := n3_; have HO554 := n4_; have HI3 := n5_; have HK := n6_; have HB := n7_; clear n0_ n1_ n2_ n3_ n4_ n5_ n6_ n7_; (try clear hb); (try clear hb2); (try clear hk); (try clear hi); (try clear ho0); obtain ⟨Ao76, co76, eo76⟩ := Kd.R_slice HO550.out; subst eo76; obtain ⟨Ao77, co77, eo77⟩ := Kd.R_slice HO554.out; subst eo77) | (go_at_call 18; (with_reducible refine (slices_Equal_int_int.calls k1 _ _ t547 _ _ t551 true _ ?side1 ?side2 ?side3 ?side4 A68.out).mono ?_); (case side1 => repeat (first | exact (Kd.R_reads' HO550.out).2.2 | (with_reducible refine Kd.C_alloc ?_ _) | (with_reducible refine Kd.C_drewN ?_ _) | (with_reducible refine Kd.C_drew ?_))); (case side2 => exact (Kd.R_reads' HO550.out).2.1); (case side3 => repeat (first | exact (Kd.R_reads' HO554.out).2.2 | (with_reducible refine Kd.C_alloc ?_ _) | (with_reducible refine Kd.C_drewN ?_ _) | (with_reducible refine Kd.C_drew ?_))); (case side4 => exact (Kd.R_reads' HO554.out).2.1); rintro e w' ⟨rfl, ⟨nd, rfl⟩⟩) | (go_at_call 20; (with_reducible refine (partsynclaw21_begun.calls k1  t556 _ A71.out).mono ?_); rintro e w78 ⟨rfl, hb⟩; have n0_ := Aside0.mk (Kd.V_below (by (with_reducible repeat (first | apply Kd.V_alloc | apply Kd.V_drewN | apply Kd.V_drew)); exact HO_2.out) hb); have n1_ := Aside0.mk (Kd.N_below (by (with_reducible repeat (first | apply Kd.N_alloc | apply Kd.N_drewN | apply Kd.N_drew)); exact HO_11.out) hb); have n2_ := Aside0.mk (Kd.N_below (by (with_reducible repeat (first | apply Kd.N_alloc | apply Kd.N_drewN | apply Kd.N_drew)); exact HO_47.out) hb); have n3_ := Aside0.mk (Kd.R_below (by (with_reducible repeat (first | apply Kd.R_alloc | apply Kd.R_drewN | apply Kd.R_drew)); exact HO550.out) hb); have n4_ := Aside0.mk (Kd.R_below (by (with_reducible repeat (first | apply Kd.R_alloc | apply Kd.R_drewN | apply Kd.R_drew)); exact HO554.out) hb); have n5_ := Aside0.mk (IsS61.below (by repeat (first | (with_reducible first | exact HI3.out | apply IsS61.alloc | apply IsS61.drewN | apply IsS61.drew | apply IsS61.set_1) | exact HI3.out)) hb); have n6_ := Aside0.mk (KeepBut.trans (by repeat (first | (with_reducible first | exact HK.out | apply KeepBut.set_ | apply keep_drewN | apply keep_drew | apply keep_alloc) | exact HK.out)) (KeepBut.of_below hb g none) (.inl rfl)); have n7_ := Aside0.mk (below_step (by repeat (first | (with_reducible first | exact HB.out | apply below_alloc | apply pw_below_drewN | apply below_drew1 | refine below_set ?_ (IsS61.ge HI3.out)) | exact HB.out)) hb); clear HO_2; clear HO_11; clear HO_47; clear HO550; clear HO554; clear HI3; clear HK; clear HB; have HO_2 := n0_; have HO_11 := n1_; have HO_47 := n2_; have HO550 := n3_; have HO554 := n4_; have HI3 := n5_; have HK := n6_; have HB := n7_; clear n0_ n1_ n2_ n3_ n4_ n5_ n6_ n7_; (try clear hb); (try clear hb2); (try clear hk); (try clear hi)))
                    go_ret
                    exact ⟨w, w0, g, HN0.out, by first | rfl | (simp [errW_none, errW_some] <;> rfl) | (simp [*, errW_none, errW_some] <;> rfl), by repeat (first | (with_reducible first | exact HI3.out | apply IsS61.alloc | apply IsS61.drewN | apply IsS61.drew | apply IsS61.set_1) | exact HI3.out), by repeat (first | (with_reducible first | exact HB.out | apply below_alloc | apply pw_below_drewN | apply below_drew1 | refine below_set ?_ (IsS61.ge HI3.out)) | exact HB.out), by repeat (first | (with_reducible first | exact HK.out | apply KeepBut.set_ | apply keep_drewN | apply keep_drew | apply keep_alloc) | exact HK.out)⟩
                  · rw [if_neg c70] at H
                    have c70b0 : (t548 == t552) = false := beq_eq_false_iff_ne.mpr c70
                    have c70b1 : (t548 != t552) = true := bne_iff_ne.mpr c70
                    exact (partsynclaw21_CutCloses.lf HRT.out H).elim
                · replace c69 := Bool.eq_false_iff.mpr c69
                  subst c69
                  have H1 : (some (false, t522)) = some (r1, r2) := by rw [if_neg (show ¬ (false = true) by decide)] at H; exact H
                  clear H
                  have H := H1
                  clear H1
                  exact (partsynclaw21_CutCloses.lf HRT.out H).elim
              · rw [if_neg c67] at H
                have c67b0 : (t544 == t546) = false := beq_eq_false_iff_ne.mpr c67
                have c67b1 : (t544 != t546) = true := bne_iff_ne.mpr c67
                exact (partsynclaw21_CutCloses.lf HRT.out H).elim
            · rw [if_neg c66] at H
              have c66b0 : (t543 == t545) = false := by simpa using c66
              (try (have c66b1 : decide (t543 = t545) = false := by simpa using c66))
              (try (have c66b2 : (t543 == t545) = false := by simpa using c66))
              (try (have c66b3 : ¬ (t543 = t545) := by simpa using c66))
              clear c66
              exact (partsynclaw21_CutCloses.lf HRT.out H).elim
    · rw [if_neg c9] at H
      exact absurd H (by simp)
  · rw [if_neg c8] at H
    exact absurd H (by simp)

end Go.Proofs.Ytkhiglincdognaa.PA
