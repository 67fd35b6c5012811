-- WRITTEN BY A PROGRAM OF THIS SESSION (wip/cut/printx.py). Not trusted: Lean checks it.
import Derived.Test.YtkhiglincdognaaPAx0
import Derived.Test.YtkhiglincdognaaPAx1
import Derived.Test.YtkhiglincdognaaPAx6
import Derived.Test.YtkhiglincdognaaPAx8
import Derived.Test.YtkhiglincdognaaPAx12
import Derived.Test.YtkhiglincdognaaHLogs
import Derived.Test.YtkhiglincdognaaHNew
namespace Go.Proofs.Ytkhiglincdognaa.PA
open Go.RowKit Go.Proofs.YtkhiglincdognaaW.PrintWords Go.Proofs.YtkhiglincdognaaW.PrintLast Go.Proofs.YtkhiglincdognaaW.PrintMore
attribute [local go_sem] max2_int min2_int max_two min_two max_three min_three max_four min_four   -- for this text's walks alone
set_option linter.unusedVariables false
set_option linter.unusedSimpArgs false

theorem partsynclaw21_CutWholes.heap50 : Kd.Heap k50 := Kd.heap_iso _ (Kd.heap_pair (Kd.heap_int .i64) (Kd.heap_slice 3 (Kd.heap_int .i64)))
/-! ### partsynclaw21_CutWholes: function 6 -/
def partsynclaw21_CutWholes.l0 : Nat → Int → List (List (S50)) → List Int → Int → List (List (S50)) → List (List Int) → Int → Int → List Int → Int → Option (Bool × Int)
  | 0, _, _, _, _, _, _, _, _, _, _ => none
  | k + 1, x0, x1, x2, x10, x11, x44, x45, x46, x4000, x4001 => if x46 < x45 then (if 0 ≤ x46 then (if x46 < (x44.length : Int) then ((cut_Floor.f k x10 x11 (rd_L2 x44 x46)).bind fun bt468 => ((partsyncref21_Floor.f k x10 x11 (rd_L2 x44 x46)).bind fun bt470 => (if bt468.1 = bt470.1 then (if bt468.2 = bt470.2 then (partsynclaw21_CutWholes.l0 k x0 x1 x2 x10 x11 x44 x45 (wrap64 (x46 + 1)) x4000 x4001) else (some (false, x4001))) else (some (false, x4001))))) else (none)) else (none)) else ((cut_Whole.f k x10 x11).bind fun bt472 => ((partsyncref21_Whole.f k x10 x11).bind fun bt474 => ((cut_Floor.f k x0 x1 x2).bind fun bt476 => ((partsyncref21_Floor.f k x0 x1 x2).bind fun bt478 => ((cut_Whole.f k x0 x1).bind fun bt480 => ((partsyncref21_Whole.f k x0 x1).bind fun bt482 => (if bt472.1 = bt474.1 then (if bt472.2 = bt474.2 then (if bt476.1 = bt478.1 then (if bt476.2 = bt478.2 then (if bt480.1 = bt482.1 then (if bt480.2 = bt482.2 then ((partsynclaw21_begun.f k).bind fun t484 => (some (t484, x4001))) else (some (false, x4001))) else (some (false, x4001))) else (some (false, x4001))) else (some (false, x4001))) else (some (false, x4001))) else (some (false, x4001)))))))))
def partsynclaw21_CutWholes.f (k : Nat) (a0 : Int) (l1 : List (List (S50))) (l2 : List Int) (s3_0 : List Int) (s3_1 : Int) : Option (Bool × Int) := (partsynccase_Case_Logs.f s3_0 s3_1).bind fun bt451 => ((partsynccase_Case_Cut.f k s3_0 bt451.2.2 bt451.2.1).bind fun bt456 => ((partsynccase_Case_Cut.f k s3_0 bt456.2 bt451.2.1).bind fun bt460 => ((some (([bt456.1, bt460.1, l2] : List (List Int)) : List (List Int))).bind fun y464 => (partsynclaw21_CutWholes.l0 k a0 l1 l2 bt451.1 bt451.2.1 y464 (y464.length : Int) 0 s3_0 bt460.2))))
theorem partsynclaw21_CutWholes.mono_l : ∀ k, (∀ y0 y1 y2 y3 y4 y5 y6 y7 y8 y9, LeO (partsynclaw21_CutWholes.l0 k y0 y1 y2 y3 y4 y5 y6 y7 y8 y9) (partsynclaw21_CutWholes.l0 (k + 1) y0 y1 y2 y3 y4 y5 y6 y7 y8 y9))
  | 0 => fun _ _ _ _ _ _ _ _ _ _ r h => by simp [partsynclaw21_CutWholes.l0] at h
  | k + 1 => by
    have ih0 := partsynclaw21_CutWholes.mono_l k
    · intro y0 y1 y2 y3 y4 y5 y6 y7 y8 y9
      unfold partsynclaw21_CutWholes.l0
      repeat' first
      | (with_reducible exact ih0 _ _ _ _ _ _ _ _ _ _)
      | (with_reducible exact cut_Floor.mono _ _ _ _)
      | (with_reducible exact cut_Whole.mono _ _ _)
      | (with_reducible exact partsynccase_Case_Cut.mono _ _ _ _)
      | (with_reducible exact partsynclaw21_begun.mono _)
      | (with_reducible exact partsyncref21_Floor.mono _ _ _ _)
      | (with_reducible exact partsyncref21_Whole.mono _ _ _)
      | (with_reducible exact LeO.refl _)
      | (with_reducible exact LeO.none _)
      | (with_reducible refine LeO.ite ?_ ?_)
      | (with_reducible refine LeO.bind ?_ (fun _ => ?_))
      | exact ih0 _ _ _ _ _ _ _ _ _ _
      | exact cut_Floor.mono _ _ _ _
      | exact cut_Whole.mono _ _ _
      | exact partsynccase_Case_Cut.mono _ _ _ _
      | exact partsynclaw21_begun.mono _
      | exact partsyncref21_Floor.mono _ _ _ _
      | exact partsyncref21_Whole.mono _ _ _
      | exact LeO.none _
      | refine LeO.ite ?_ ?_
      | refine LeO.bind ?_ (fun _ => ?_)
theorem partsynclaw21_CutWholes.mono : ∀ a0 a1 a2 a3 a4 k, LeO (partsynclaw21_CutWholes.f k a0 a1 a2 a3 a4) (partsynclaw21_CutWholes.f (k + 1) a0 a1 a2 a3 a4) := by
  intro a0 a1 a2 a3 a4 k
  have ih0 := partsynclaw21_CutWholes.mono_l k
  unfold partsynclaw21_CutWholes.f
  repeat' first
      | (with_reducible exact ih0 _ _ _ _ _ _ _ _ _ _)
      | (with_reducible exact cut_Floor.mono _ _ _ _)
      | (with_reducible exact cut_Whole.mono _ _ _)
      | (with_reducible exact partsynccase_Case_Cut.mono _ _ _ _)
      | (with_reducible exact partsynclaw21_begun.mono _)
      | (with_reducible exact partsyncref21_Floor.mono _ _ _ _)
      | (with_reducible exact partsyncref21_Whole.mono _ _ _)
      | (with_reducible exact LeO.refl _)
      | (with_reducible exact LeO.none _)
      | (with_reducible refine LeO.ite ?_ ?_)
      | (with_reducible refine LeO.bind ?_ (fun _ => ?_))
      | exact ih0 _ _ _ _ _ _ _ _ _ _
      | exact cut_Floor.mono _ _ _ _
      | exact cut_Whole.mono _ _ _
      | exact partsynccase_Case_Cut.mono _ _ _ _
      | exact partsynclaw21_begun.mono _
      | exact partsyncref21_Floor.mono _ _ _ _
      | exact partsyncref21_Whole.mono _ _ _
      | exact LeO.none _
      | refine LeO.ite ?_ ?_
      | refine LeO.bind ?_ (fun _ => ?_)
theorem partsynclaw21_CutWholes.lf {r : Bool} {a b : Int} (hr : r = true) (h : some (false, a) = some (r, b)) : False := by subst hr; simp at h
set_option maxHeartbeats 8000000 in
set_option maxRecDepth 100000 in
theorem partsynclaw21_CutWholes.calls (k : Nat) (a0 : Int) (A1 : Option Addr) (c1 : Nat) (l1 : List (List (S50))) (A2 : Option Addr) (c2 : Nat) (l2 : List Int) (AA : Option Addr) (cc : Nat) (l0 : List Int) (r1 : Bool) (r2 : Int) (ww : World) (hr1 : Kd.C (Kd.slice 50 k50) ww A1 l1.length l1) (hc1 : l1.length ≤ c1) (hs2 : (Kd.int .i64).C ww A2 l2.length l2) (hs2c : l2.length ≤ c2) (hC : (Kd.int .u8).C ww AA l0.length l0) (hc : l0.length ≤ cc) (h : partsynclaw21_CutWholes.f k a0 l1 l2 (l0.take 90) 0 = some (r1, r2)) (hr : r1 = true) :
    Calls Try.prog 6 #[.int .i64 a0, .slice A1 l1.length c1, .slice A2 l2.length c2, .slice AA l0.length cc] ww fun e w' => ∃ w w0 g, Below ww.heap.size ww w0 ∧ (e = .returned (.bool r1) ∧ IsS61 w0 w' g (l0.take 90) r2 ∧ Below w0.heap.size w0 w' ∧ KeepBut w w' g none) := by
  have HRT := Aside0.mk hr
  clear hr
  have Z_hC := Aside0.mk hC
  have Z_hc := Aside0.mk hc
  have Z_hr1 := Aside0.mk hr1
  have Z_hc1 := Aside0.mk hc1
  have Z_hs2 := Aside0.mk hs2
  have Z_hs2c := Aside0.mk hs2c
  clear hC hc hr1 hc1 hs2 hs2c
  obtain ⟨s3_0, hs0_⟩ : ∃ s, s = l0.take 90 := ⟨_, rfl⟩
  obtain ⟨s3_1, hs1_⟩ : ∃ s : Int, s = 0 := ⟨_, rfl⟩
  replace h := (show _ = _ from h)
  rw [← hs0_, ← hs1_] at h
  rw [← hs0_]
  go_enter Try.func6, Try.ntmps6
  go_upto_region 2 with (first | (go_at_call 13; refine (new_any l0 AA cc 90 _ (Kd.C_below Z_hC.out (by repeat (first | exact Below.refl _ _ | apply Below.drew | apply pw_below_drewN))) Z_hc.out (by omega)).mono ?_; rintro e w ⟨w0, g, rfl, hb0, hI, hB⟩; have HN0 := Aside0.mk (show Below ww.heap.size ww w0 from Below.trans (by repeat (first | exact Below.refl _ _ | apply Below.drew | apply pw_below_drewN)) hb0); have HBW := Aside0.mk (show Below ww.heap.size ww w from below_step HN0.out hB); have HGE := Aside0.mk (show ww.heap.size ≤ g from Nat.le_trans HN0.out.size hI.ge); clear hb0; replace hI := (show IsS61 w0 w g s3_0 s3_1 from by rw [hs0_, hs1_]; exact hI); clear hs0_ hs1_))
  have hr1 := Kd.C_foot_came (g := g) (Kd.heap_slice 50 partsynclaw21_CutWholes.heap50) Z_hr1.out HBW.out HGE.out
  have hc1 := Z_hc1.out
  have hs2 := Kd.V_mk (e := 3) (base := w.heap.size) (c := c2) Z_hs2c.out (Kd.F_mono (Kd.F_below (Kd.C_F (Kd.heap_int .i64) Z_hs2.out) HBW.out) (ok' := fun k_ => k_ < ww.heap.size ∧ k_ ≠ g) (fun k_ hk_ => ⟨hk_, fun e => by have := HGE.out; omega⟩))
  obtain ⟨P2_, hP2_⟩ : ∃ P : Nat → Prop, P = fun k_ => k_ < ww.heap.size := ⟨_, rfl⟩; replace hs2 := (show Kd.V (Kd.int .i64) 3 w w.heap.size (fun k_ => P2_ k_ ∧ k_ ≠ g) (.slice A2 l2.length c2) l2 from by rw [hP2_]; exact hs2)
  have HR1 := Aside0.mk hr1
  have HC1 := Aside0.mk hc1
  clear hr1 hc1
  have HO2 := Aside0.mk (show Kd.V (Kd.int .i64) 3 w w.heap.size (fun k_ => (P2_ k_ ∨ w.heap.size ≤ k_) ∧ k_ ≠ g) (.slice A2 l2.length c2) l2 from Kd.V_mono hs2 (fun k_ hk => ⟨.inl hk.1, hk.2⟩))
  have HI3 := Aside0.mk hI
  have HK := Aside0.mk (KeepBut.refl w g none)
  have HL := Aside0.mk hB.size
  clear hI
  have HW0 := Aside0.mk hB.size
  have HB := Aside0.mk hB
  clear hB
  have H : ((partsynccase_Case_Logs.f s3_0 s3_1).bind fun bt451 => ((partsynccase_Case_Cut.f k s3_0 bt451.2.2 bt451.2.1).bind fun bt456 => ((partsynccase_Case_Cut.f k s3_0 bt456.2 bt451.2.1).bind fun bt460 => ((some (([bt456.1, bt460.1, l2] : List (List Int)) : List (List Int))).bind fun y464 => (partsynclaw21_CutWholes.l0 k a0 l1 l2 bt451.1 bt451.2.1 y464 (y464.length : Int) 0 s3_0 bt460.2))))) = some (r1, r2) := h
  clear h
  replace H := Option.bind_eq_some_iff.mp H
  obtain ⟨⟨t451, t452, t455⟩, A50, H⟩ := H
  replace H : ((partsynccase_Case_Cut.f k s3_0 t455 t452).bind fun bt456 => ((partsynccase_Case_Cut.f k s3_0 bt456.2 t452).bind fun bt460 => ((some (([bt456.1, bt460.1, l2] : List (List Int)) : List (List Int))).bind fun y464 => (partsynclaw21_CutWholes.l0 k a0 l1 l2 t451 t452 y464 (y464.length : Int) 0 s3_0 bt460.2)))) = some (r1, r2) := H
  have A5 := Aside0.mk A50
  clear A50
  replace H := Option.bind_eq_some_iff.mp H
  obtain ⟨⟨t456, t459⟩, A60, H⟩ := H
  replace H : ((partsynccase_Case_Cut.f k s3_0 t459 t452).bind fun bt460 => ((some (([t456, bt460.1, l2] : List (List Int)) : List (List Int))).bind fun y464 => (partsynclaw21_CutWholes.l0 k a0 l1 l2 t451 t452 y464 (y464.length : Int) 0 s3_0 bt460.2))) = some (r1, r2) := H
  have A6 := Aside0.mk A60
  clear A60
  replace H := Option.bind_eq_some_iff.mp H
  obtain ⟨⟨t460, t463⟩, A70, H⟩ := H
  replace H : ((some (([t456, t460, l2] : List (List Int)) : List (List Int))).bind fun y464 => (partsynclaw21_CutWholes.l0 k a0 l1 l2 t451 t452 y464 (y464.length : Int) 0 s3_0 t463)) = some (r1, r2) := H
  have A7 := Aside0.mk A70
  clear A70
  obtain ⟨y464, hy464⟩ : ∃ y_ : List (List Int), y_ = (([t456, t460, l2] : List (List Int))) := ⟨_, rfl⟩
  replace H : (partsynclaw21_CutWholes.l0 k a0 l1 l2 t451 t452 y464 (y464.length : Int) 0 s3_0 t463) = some (r1, r2) := by first | (rw [hy464]; with_reducible exact H) | (have H2_ := (Option.bind_some _ _).symm.trans H; rw [hy464]; with_reducible exact H2_) | (have H2_ := (Option.bind_some _ _).symm.trans H; with_reducible exact H2_) | with_reducible exact H | (rw [hy464]; exact H) | exact H
  have Ny464 := Aside0.mk hy464
  clear hy464
  have H' := Aside0.mk H
  clear H
  go_wp2_with (first | ((with_reducible refine gate_callee (f := 21) rfl ?_); refine goesL_ (some 34) rfl rfl Try.func21 (by kernel_rfl) rfl #[.pointer (some ⟨g, 0, none⟩)] rfl (by (try simp only [List.map_toArray, List.map_cons, List.map_nil]); first | done | rfl | (simp only [List.length_drop, List.length_take]; rfl)) ?_; (with_reducible refine (partsynccase_Case_Logs.calls g s3_0 s3_1 t451 t452 t455 w0 _ ?side1 ?side2 A5.out).mono ?_); (case side1 => repeat (first | (with_reducible first | exact HI3.out | apply IsS61.alloc | apply IsS61.drewN | apply IsS61.drew | apply IsS61.set_1) | exact HI3.out)); (case side2 => repeat (first | (with_reducible first | exact HB.out | apply below_alloc | apply pw_below_drewN | apply below_drew1 | refine below_set ?_ (IsS61.ge HI3.out)) | exact HB.out)); rintro e w8 ⟨v453, rfl, ho0, hi, hb, hk⟩; refine ⟨_, rfl, ?_⟩; have n0_ := Aside0.mk (Kd.V_mono (Kd.V_told (Kd.V_oldK (Kd.V_mono (ok := fun k_ => (((P2_ k_ ∨ w.heap.size ≤ k_)) ∧ k_ ≠ g)) (by (with_reducible repeat (first | apply Kd.V_alloc | apply Kd.V_drewN | apply Kd.V_drew)); exact HO2.out) (fun k_ hk_ => (⟨hk_, hk_.2⟩ : _ ∧ k_ ≠ g))) hk) (Kd.R_base ho0)) (fun _ h_ => h_.1)); have n1_ := Aside0.mk (Kd.N_lower (Kd.N_mono (ok' := fun k_ => (P2_ k_ ∨ w.heap.size ≤ k_) ∧ k_ ≠ g) (Kd.R_N (Kd.R_bound ho0)) (fun k_ hk_ => ⟨(.inr (Nat.le_trans (keep_size (w := w) (g := g) (row := none) (by repeat (first | (with_reducible first | exact HK.out | apply KeepBut.set_ | apply keep_drewN | apply keep_drew | apply keep_alloc) | exact HK.out))) hk_.2.1)), (IsS61.fresh (by repeat (first | (with_reducible first | exact HI3.out | apply IsS61.alloc | apply IsS61.drewN | apply IsS61.drew | apply IsS61.set_1) | exact HI3.out)) k_ hk_.2.1)⟩)) (keep_size (w := w) (g := g) (row := none) (by repeat (first | (with_reducible first | exact HK.out | apply KeepBut.set_ | apply keep_drewN | apply keep_drew | apply keep_alloc) | exact HK.out)))); have n2_ := Aside0.mk (KeepBut.trans (by repeat (first | (with_reducible first | exact HK.out | apply KeepBut.set_ | apply keep_drewN | apply keep_drew | apply keep_alloc) | exact HK.out)) hk (.inl rfl)); have n3_ := Aside0.mk (hb); have n4_ := Aside0.mk (hi); clear HO2; clear HK; clear HB; clear HI3; have HO2 := n0_; have HO454 := n1_; have HK := n2_; have HB := n3_; have HI3 := n4_; clear n0_ n1_ n2_ n3_ n4_; (try clear hb); (try clear hb2); (try clear hk); (try clear hi); (try clear ho0); obtain ⟨Ao9, co9, eo9⟩ := Kd.N_slice HO454.out; subst eo9) | ((with_reducible refine gate_callee (f := 22) rfl ?_); refine goesL_ (some 39) rfl rfl Try.func22 (by kernel_rfl) rfl #[.pointer (some ⟨g, 0, none⟩), .slice Ao9 t452.length co9] rfl (by (try simp only [List.map_toArray, List.map_cons, List.map_nil]); first | done | rfl | (simp only [List.length_drop, List.length_take]; rfl)) ?_; (with_reducible refine (partsynccase_Case_Cut.calls k g s3_0 t455 _ _ t452 t456 t459 w0 _ ?side1 ?side2 ?side3 ?side4 A6.out).mono ?_); (case side1 => repeat (first | (with_reducible first | exact HI3.out | apply IsS61.alloc | apply IsS61.drewN | apply IsS61.drew | apply IsS61.set_1) | exact HI3.out)); (case side2 => repeat (first | (with_reducible first | exact HB.out | apply below_alloc | apply pw_below_drewN | apply below_drew1 | refine below_set ?_ (IsS61.ge HI3.out)) | exact HB.out)); (case side3 => exact Kd.C_foot_ownV (base := 0) (Kd.N_V (Kd.N_mono (ok := fun k_ => (((P2_ k_ ∨ w.heap.size ≤ k_)) ∧ k_ ≠ g)) (by (with_reducible repeat (first | apply Kd.N_alloc | apply Kd.N_drewN | apply Kd.N_drew)); exact HO454.out) (fun k_ hk_ => (⟨hk_, hk_.2⟩ : _ ∧ k_ ≠ g)))) (fun _ h_ => h_.2)); (case side4 => exact (Kd.N_reads' HO454.out).2.1); rintro e w10 ⟨v457, rfl, ho0, hi, hb, hk⟩; refine ⟨_, rfl, ?_⟩; have n0_ := Aside0.mk (Kd.V_mono (Kd.V_told (Kd.V_oldK (Kd.V_mono (ok := fun k_ => ((((P2_ k_ ∨ w.heap.size ≤ k_)) ∧ k_ ≠ g) ∧ some k_ ≠ (.slice Ao9 t452.length co9 : Value).ownBlock)) (by (with_reducible repeat (first | apply Kd.V_alloc | apply Kd.V_drewN | apply Kd.V_drew)); exact HO2.out) (fun k_ hk_ => (⟨hk_, hk_.1.2⟩ : _ ∧ k_ ≠ g))) hk) (Kd.R_base ho0)) (fun _ h_ => h_.1)); have n1_ := Aside0.mk (Kd.N_mono (Kd.N_told (Kd.N_oldK (Kd.N_mono (ok := fun k_ => (((P2_ k_ ∨ w.heap.size ≤ k_)) ∧ k_ ≠ g)) (by (with_reducible repeat (first | apply Kd.N_alloc | apply Kd.N_drewN | apply Kd.N_drew)); exact HO454.out) (fun k_ hk_ => (⟨hk_, hk_.2⟩ : _ ∧ k_ ≠ g))) hk) (Kd.R_base ho0)) (fun _ h_ => h_.1)); have n2_ := Aside0.mk (Kd.R_lower (Kd.R_newM (M := fun k_ => (w.heap.size ≤ k_)) ho0 (keep_size (w := w) (g := g) (row := none) (by repeat (first | (with_reducible first | exact HK.out | apply KeepBut.set_ | apply keep_drewN | apply keep_drew | apply keep_alloc) | exact HK.out))) (fun k_ h_ => h_)) (keep_size (w := w) (g := g) (row := none) (by repeat (first | (with_reducible first | exact HK.out | apply KeepBut.set_ | apply keep_drewN | apply keep_drew | apply keep_alloc) | exact HK.out)))); have n3_ := Aside0.mk (KeepBut.trans (by repeat (first | (with_reducible first | exact HK.out | apply KeepBut.set_ | apply keep_drewN | apply keep_drew | apply keep_alloc) | exact HK.out)) hk (.inl rfl)); have n4_ := Aside0.mk (hb); have n5_ := Aside0.mk (hi); clear HO2; clear HO454; clear HK; clear HB; clear HI3; have HO2 := n0_; have HO454 := n1_; have HO458 := n2_; have HK := n3_; have HB := n4_; have HI3 := n5_; clear n0_ n1_ n2_ n3_ n4_ n5_; (try clear hb); (try clear hb2); (try clear hk); (try clear hi); (try clear ho0)) | ((with_reducible refine gate_callee (f := 22) rfl ?_); refine goesL_ (some 42) rfl rfl Try.func22 (by kernel_rfl) rfl #[.pointer (some ⟨g, 0, none⟩), .slice Ao9 t452.length co9] rfl (by (try simp only [List.map_toArray, List.map_cons, List.map_nil]); first | done | rfl | (simp only [List.length_drop, List.length_take]; rfl)) ?_; (with_reducible refine (partsynccase_Case_Cut.calls k g s3_0 t459 _ _ t452 t460 t463 w0 _ ?side1 ?side2 ?side3 ?side4 A7.out).mono ?_); (case side1 => repeat (first | (with_reducible first | exact HI3.out | apply IsS61.alloc | apply IsS61.drewN | apply IsS61.drew | apply IsS61.set_1) | exact HI3.out)); (case side2 => repeat (first | (with_reducible first | exact HB.out | apply below_alloc | apply pw_below_drewN | apply below_drew1 | refine below_set ?_ (IsS61.ge HI3.out)) | exact HB.out)); (case side3 => exact Kd.C_foot_ownV (base := 0) (Kd.N_V (Kd.N_mono (ok := fun k_ => ((((P2_ k_ ∨ w.heap.size ≤ k_)) ∧ k_ ≠ g) ∧ some k_ ≠ (v457 : Value).ownBlock)) (by (with_reducible repeat (first | apply Kd.N_alloc | apply Kd.N_drewN | apply Kd.N_drew)); exact HO454.out) (fun k_ hk_ => (⟨hk_, hk_.1.2⟩ : _ ∧ k_ ≠ g)))) (fun _ h_ => h_.2)); (case side4 => exact (Kd.N_reads' HO454.out).2.1); rintro e w11 ⟨v461, rfl, ho0, hi, hb, hk⟩; refine ⟨_, rfl, ?_⟩; have n0_ := Aside0.mk (Kd.V_mono (Kd.V_told (Kd.V_oldK (Kd.V_mono (ok := fun k_ => (((((P2_ k_ ∨ w.heap.size ≤ k_)) ∧ k_ ≠ g) ∧ some k_ ≠ (.slice Ao9 t452.length co9 : Value).ownBlock) ∧ some k_ ≠ (v457 : Value).ownBlock)) (by (with_reducible repeat (first | apply Kd.V_alloc | apply Kd.V_drewN | apply Kd.V_drew)); exact HO2.out) (fun k_ hk_ => (⟨hk_, hk_.1.1.2⟩ : _ ∧ k_ ≠ g))) hk) (Kd.R_base ho0)) (fun _ h_ => h_.1)); have n1_ := Aside0.mk (Kd.N_mono (Kd.N_told (Kd.N_oldK (Kd.N_mono (ok := fun k_ => ((((P2_ k_ ∨ w.heap.size ≤ k_)) ∧ k_ ≠ g) ∧ some k_ ≠ (v457 : Value).ownBlock)) (by (with_reducible repeat (first | apply Kd.N_alloc | apply Kd.N_drewN | apply Kd.N_drew)); exact HO454.out) (fun k_ hk_ => (⟨hk_, hk_.1.2⟩ : _ ∧ k_ ≠ g))) hk) (Kd.R_base ho0)) (fun _ h_ => h_.1)); have n2_ := Aside0.mk (Kd.R_mono (Kd.R_told (Kd.R_oldK (IsS61.apart (show IsS61 w0 _ g s3_0 t459 from by repeat (first | (with_reducible first | exact HI3.out | apply IsS61.alloc | apply IsS61.drewN | apply IsS61.drew | apply IsS61.set_1) | exact HI3.out)) (by (with_reducible repeat (first | apply Kd.R_alloc | apply Kd.R_drewN | apply Kd.R_drew)); exact HO458.out) (by decide)) hk) (Kd.R_base ho0)) (fun _ h_ => h_.1)); have n3_ := Aside0.mk (Kd.R_lower (Kd.R_new' (Kd.R_newM (M := fun k_ => (w.heap.size ≤ k_)) ho0 (keep_size (w := w) (g := g) (row := none) (by repeat (first | (with_reducible first | exact HK.out | apply KeepBut.set_ | apply keep_drewN | apply keep_drew | apply keep_alloc) | exact HK.out))) (fun k_ h_ => h_)) (Kd.R_lt (by (with_reducible repeat (first | apply Kd.R_alloc | apply Kd.R_drewN | apply Kd.R_drew)); exact HO458.out))) (keep_size (w := w) (g := g) (row := none) (by repeat (first | (with_reducible first | exact HK.out | apply KeepBut.set_ | apply keep_drewN | apply keep_drew | apply keep_alloc) | exact HK.out)))); have n4_ := Aside0.mk (KeepBut.trans (by repeat (first | (with_reducible first | exact HK.out | apply KeepBut.set_ | apply keep_drewN | apply keep_drew | apply keep_alloc) | exact HK.out)) hk (.inl rfl)); have n5_ := Aside0.mk (hb); have n6_ := Aside0.mk (hi); clear HO2; clear HO454; clear HO458; clear HK; clear HB; clear HI3; have HO2 := n0_; have HO454 := n1_; have HO458 := n2_; have HO462 := n3_; have HK := n4_; have HB := n5_; have HI3 := n6_; clear n0_ n1_ n2_ n3_ n4_ n5_ n6_; (try clear hb); (try clear hb2); (try clear hk); (try clear hi); (try clear ho0); obtain ⟨Ao12, co12, eo12⟩ := Kd.R_slice HO458.out; subst eo12; obtain ⟨Ao13, co13, eo13⟩ := Kd.R_slice HO462.out; subst eo13) | ((with_reducible refine gate_dst (N := 44) rfl ?_); refine Kd.N_lit (Kd.slice 3 (Kd.int .i64)) _ 26 ?hg (N' := 44) ?hd (xs := ([t456, t460, l2] : List (List Int))) (inner := [.slice Ao12 t456.length co12, .slice Ao13 t460.length co13, .slice A2 l2.length c2]) (ok := (fun k_ => (P2_ k_ ∨ w.heap.size ≤ k_) ∧ some k_ ≠ (.slice Ao9 t452.length co9 : Value).ownBlock ∧ k_ ≠ g)) (okp := (fun k_ => (P2_ k_ ∨ w.heap.size ≤ k_) ∧ some k_ ≠ (.slice Ao9 t452.length co9 : Value).ownBlock ∧ k_ ≠ g)) ?hr ?hp (fun _ hk => hk) ((show ∀ k_, w11.heap.size ≤ k_ → (fun k_ => (P2_ k_ ∨ w.heap.size ≤ k_) ∧ some k_ ≠ (.slice Ao9 t452.length co9 : Value).ownBlock ∧ k_ ≠ g) k_ from fun k_ hk => ⟨(.inr (Nat.le_trans (keep_size (w := w) (g := g) (row := none) (by repeat (first | (with_reducible first | exact HK.out | apply KeepBut.set_ | apply keep_drewN | apply keep_drew | apply keep_alloc) | exact HK.out))) hk)), Kd.fresh' (Kd.N_lt (by (with_reducible repeat (first | apply Kd.N_alloc | apply Kd.N_drewN | apply Kd.N_drew)); exact HO454.out)) k_ hk, IsS61.fresh (by repeat (first | (with_reducible first | exact HI3.out | apply IsS61.alloc | apply IsS61.drewN | apply IsS61.drew | apply IsS61.set_1) | exact HI3.out)) k_ hk⟩) _ (Nat.le_refl _)) (Below.refl _ _) (Nat.le_refl _) (by simp) ?_; (case hd => rfl); (case hg => rfl); (case hr => first | (go_simp; done) | (go_simp; rfl)); (case hp => exact (Reps.one (show Kd.FK (Kd.slice 3 (Kd.int .i64)) _ _ t456 [.slice Ao12 t456.length co12] from (Kd.FK_slice_mk (Kd.R_reads' (Kd.R_mono (ok' := (fun k_ => (P2_ k_ ∨ w.heap.size ≤ k_) ∧ some k_ ≠ (.slice Ao9 t452.length co9 : Value).ownBlock ∧ k_ ≠ g)) (IsS61.apart HI3.out (Kd.R_apart' (HO458.out) (Kd.N_typed HO454.out) (by decide)) (by decide)) (fun k_ hk => ⟨(.inr (hk.1.1.1.1)), ⟨hk.1.2, hk.2⟩⟩))).2.1 (Kd.R_F (Kd.R_mono (ok' := (fun k_ => (P2_ k_ ∨ w.heap.size ≤ k_) ∧ some k_ ≠ (.slice Ao9 t452.length co9 : Value).ownBlock ∧ k_ ≠ g)) (IsS61.apart HI3.out (Kd.R_apart' (HO458.out) (Kd.N_typed HO454.out) (by decide)) (by decide)) (fun k_ hk => ⟨(.inr (hk.1.1.1.1)), ⟨hk.1.2, hk.2⟩⟩))))) (Reps.one (show Kd.FK (Kd.slice 3 (Kd.int .i64)) _ _ t460 [.slice Ao13 t460.length co13] from (Kd.FK_slice_mk (Kd.R_reads' (Kd.R_mono (ok' := (fun k_ => (P2_ k_ ∨ w.heap.size ≤ k_) ∧ some k_ ≠ (.slice Ao9 t452.length co9 : Value).ownBlock ∧ k_ ≠ g)) (IsS61.apart HI3.out (Kd.R_apart' (HO462.out) (Kd.N_typed HO454.out) (by decide)) (by decide)) (fun k_ hk => ⟨(.inr (hk.1.1.1.1)), ⟨hk.1.2, hk.2⟩⟩))).2.1 (Kd.R_F (Kd.R_mono (ok' := (fun k_ => (P2_ k_ ∨ w.heap.size ≤ k_) ∧ some k_ ≠ (.slice Ao9 t452.length co9 : Value).ownBlock ∧ k_ ≠ g)) (IsS61.apart HI3.out (Kd.R_apart' (HO462.out) (Kd.N_typed HO454.out) (by decide)) (by decide)) (fun k_ hk => ⟨(.inr (hk.1.1.1.1)), ⟨hk.1.2, hk.2⟩⟩))))) (Reps.one (show Kd.FK (Kd.slice 3 (Kd.int .i64)) _ _ l2 [.slice A2 l2.length c2] from (Kd.FK_slice_mk (Kd.V_reads' (Kd.V_mono (ok' := (fun k_ => (P2_ k_ ∨ w.heap.size ≤ k_) ∧ some k_ ≠ (.slice Ao9 t452.length co9 : Value).ownBlock ∧ k_ ≠ g)) (HO2.out) (fun k_ hk => ⟨hk.1.1.1.1, ⟨hk.1.1.2, hk.1.1.1.2⟩⟩))).2.1 (Kd.V_F (Kd.V_mono (ok' := (fun k_ => (P2_ k_ ∨ w.heap.size ≤ k_) ∧ some k_ ≠ (.slice Ao9 t452.length co9 : Value).ownBlock ∧ k_ ≠ g)) (HO2.out) (fun k_ hk => ⟨hk.1.1.1.1, ⟨hk.1.1.2, hk.1.1.1.2⟩⟩))))) (Reps.none _ _))))); intro v465 w14 ho15 hb hg_ hnew_; clear hg_ hnew_; (first | rw [← Ny464.out] at ho15 | (simp only [Int.reduceToNat] at ho15; rw [← Ny464.out] at ho15)); have n0_ := Aside0.mk (Kd.V_elder' (by (with_reducible repeat (first | apply Kd.V_alloc | apply Kd.V_drewN | apply Kd.V_drew)); exact HO2.out) (Kd.N_base ho15) hb); have n1_ := Aside0.mk (Kd.N_elder' (by (with_reducible repeat (first | apply Kd.N_alloc | apply Kd.N_drewN | apply Kd.N_drew)); exact HO454.out) (Kd.N_base ho15) hb); have n2_ := Aside0.mk (Kd.N_lower ho15 (keep_size (w := w) (g := g) (row := none) (by repeat (first | (with_reducible first | exact HK.out | apply KeepBut.set_ | apply keep_drewN | apply keep_drew | apply keep_alloc) | exact HK.out)))); have n3_ := Aside0.mk (IsS61.below (by repeat (first | (with_reducible first | exact HI3.out | apply IsS61.alloc | apply IsS61.drewN | apply IsS61.drew | apply IsS61.set_1) | exact HI3.out)) hb); have n4_ := Aside0.mk (KeepBut.trans (by repeat (first | (with_reducible first | exact HK.out | apply KeepBut.set_ | apply keep_drewN | apply keep_drew | apply keep_alloc) | exact HK.out)) (KeepBut.of_below hb g none) (.inl rfl)); have n5_ := Aside0.mk (below_step (by repeat (first | (with_reducible first | exact HB.out | apply below_alloc | apply pw_below_drewN | apply below_drew1 | refine below_set ?_ (IsS61.ge HI3.out)) | exact HB.out)) hb); clear HO2; clear HO454; clear HI3; clear HK; clear HB; clear HO458; clear HO462; have HO2 := n0_; have HO454 := n1_; have HO466 := n2_; have HI3 := n3_; have HK := n4_; have HB := n5_; clear n0_ n1_ n2_ n3_ n4_ n5_; clear hb ho15; obtain ⟨Ao16, co16, eo16⟩ := Kd.N_slice HO466.out; subst eo16))
  go_loopg [46] k (fun kq v46 w' => ∃ (x46_1 : Int), v46 = .int .i64 x46_1 ∧ Aside0 (partsynclaw21_CutWholes.l0 kq a0 l1 l2 t451 t452 y464 (y464.length : Int) x46_1 s3_0 t463 = some (r1, r2)) ∧ Aside0 (kq ≤ k) ∧ Aside0 (Kd.V (Kd.int .i64) 3 w' w.heap.size (fun k_ => (P2_ k_ ∨ w.heap.size ≤ k_) ∧ some k_ ≠ ((.slice Ao9 t452.length co9) : Value).ownBlock ∧ some k_ ≠ ((.slice Ao16 y464.length co16) : Value).ownBlock ∧ k_ ≠ g) (.slice A2 l2.length c2) l2) ∧ Aside0 (Kd.N (Kd.slice 50 k50) 47 w' w.heap.size (fun k_ => (P2_ k_ ∨ w.heap.size ≤ k_) ∧ some k_ ≠ ((.slice Ao16 y464.length co16) : Value).ownBlock ∧ k_ ≠ g) (.slice Ao9 t452.length co9) t452) ∧ Aside0 (Kd.N (Kd.slice 3 (Kd.int .i64)) 26 w' w.heap.size (fun k_ => (P2_ k_ ∨ w.heap.size ≤ k_) ∧ some k_ ≠ ((.slice Ao9 t452.length co9) : Value).ownBlock ∧ k_ ≠ g) (.slice Ao16 y464.length co16) y464) ∧ Aside0 (IsS61 w0 w' g s3_0 t463) ∧ Aside0 (KeepBut w w' g none) ∧ Aside0 (Below w0.heap.size w0 w'))
  case atStart => exact ⟨(0), (by first | rfl | (simp; done) | (simp [*]; done)), H', ⟨Nat.le_refl _⟩, ⟨by (with_reducible repeat (first | apply Kd.V_alloc | apply Kd.V_drewN | apply Kd.V_drew)); exact Kd.V_mono HO2.out (fun _ hk => ⟨hk.1.1.1.1.1, ⟨hk.1.1.1.2, ⟨hk.2, hk.1.1.1.1.2⟩⟩⟩)⟩, ⟨by (with_reducible repeat (first | apply Kd.N_alloc | apply Kd.N_drewN | apply Kd.N_drew)); exact Kd.N_mono HO454.out (fun _ hk => ⟨hk.1.1.1.1, ⟨hk.2, hk.1.1.1.2⟩⟩)⟩, ⟨by (with_reducible repeat (first | apply Kd.N_alloc | apply Kd.N_drewN | apply Kd.N_drew)); exact HO466.out⟩, ⟨by repeat (first | (with_reducible first | exact HI3.out | apply IsS61.alloc | apply IsS61.drewN | apply IsS61.drew | apply IsS61.set_1) | exact HI3.out)⟩, ⟨by repeat (first | (with_reducible first | exact HK.out | apply KeepBut.set_ | apply keep_drewN | apply keep_drew | apply keep_alloc) | exact HK.out)⟩, ⟨by repeat (first | (with_reducible first | exact HB.out | apply below_alloc | apply pw_below_drewN | apply below_drew1 | refine below_set ?_ (IsS61.ge HI3.out)) | exact HB.out)⟩⟩
  case round =>
    clear H'
    try clear c1
    try clear c2
    try clear p2
    try clear c6
    obtain ⟨x46_1, rfl, HA, HK1, HO_2, HO_11, HO_44, HI3, HK, HB⟩ := hrel
    cases gk with
    | zero => exact absurd HA.out (by simp [partsynclaw21_CutWholes.l0])
    | succ k1 =>
      have H := HA.out
      clear HA
      simp only [partsynclaw21_CutWholes.l0] at H
      by_cases c17 : x46_1 < (y464.length : Int)
      · rw [if_pos c17] at H
        have c17b0 : decide (x46_1 < (y464.length : Int)) = true := decide_eq_true c17
        clear c17
        by_cases c18 : 0 ≤ x46_1
        · rw [if_pos c18] at H
          have c18b0 : decide (0 ≤ x46_1) = true := decide_eq_true c18
          clear c18
          by_cases c19 : x46_1 < (y464.length : Int)
          · rw [if_pos c19] at H
            have c19b0 : decide (x46_1 < (y464.length : Int)) = true := decide_eq_true c19
            clear c19
            replace H := Option.bind_eq_some_iff.mp H
            obtain ⟨⟨t468, t469⟩, A200, H⟩ := H
            replace H : ((partsyncref21_Floor.f k1 t451 t452 (rd_L2 y464 x46_1)).bind fun bt470 => (if t468 = bt470.1 then (if t469 = bt470.2 then (partsynclaw21_CutWholes.l0 k1 a0 l1 l2 t451 t452 y464 (y464.length : Int) (wrap64 (x46_1 + 1)) s3_0 t463) else (some (false, t463))) else (some (false, t463)))) = some (r1, r2) := H
            have A20 := Aside0.mk A200
            clear A200
            replace H := Option.bind_eq_some_iff.mp H
            obtain ⟨⟨t470, t471⟩, A210, H⟩ := H
            replace H : (if t468 = t470 then (if t469 = t471 then (partsynclaw21_CutWholes.l0 k1 a0 l1 l2 t451 t452 y464 (y464.length : Int) (wrap64 (x46_1 + 1)) s3_0 t463) else (some (false, t463))) else (some (false, t463))) = some (r1, r2) := H
            have A21 := Aside0.mk A210
            clear A210
            by_cases c22 : t468 = t470
            · rw [if_pos c22] at H
              have c22b0 : (t468 == t470) = true := beq_iff_eq.mpr c22
              have c22b1 : (t468 != t470) = false := bne_eq_false_iff_eq.mpr c22
              clear c22
              by_cases c23 : t469 = t471
              · rw [if_pos c23] at H
                have c23b0 : (t469 == t471) = true := beq_iff_eq.mpr c23
                have c23b1 : (t469 != t471) = false := bne_eq_false_iff_eq.mpr c23
                clear c23
                have H' := Aside0.mk H
                clear H
                have p467 : 0 ≤ (x46_1 : Int) := of_decide_eq_true (by first | (with_reducible assumption) | assumption)
                have q467 : x46_1 < (y464.length : Int) := of_decide_eq_true (by first | (with_reducible assumption) | assumption)
                obtain ⟨ad467, A467_0, c467_0, e467, hx467_0, hl467_0, hi467_0⟩ := at_L2 (Kd.N_reads' HO_44.out).2.2 x46_1 p467 q467
                cases e467
                obtain ⟨ce467, hce467, hMe467, hcc467⟩ := Kd.N_get HO_44.out [] x46_1 p467 (by first | exact q467 | exact of_decide_eq_true (by first | (with_reducible assumption) | assumption) | (have e_ := (Kd.N_reads' HO_44.out).1; omega))
                obtain ⟨ua467_0, uc467_0, rfl, ul467_0, ge467_0⟩ := Kd.FK_slice_open hMe467
                have hv467_0 := hcc467 0 _ rfl
                rw [Nat.add_zero, show ((Kd.slice 3 (Kd.int .i64))).sz = 1 from rfl, Nat.mul_one] at hv467_0
                replace hv467_0 := Option.some.inj (hv467_0.symm.trans hx467_0)
                injection hv467_0 with hva_ hvn_ hvc_
                rw [hva_] at ge467_0
                rw [hvc_] at ul467_0
                have HL467_0 := Aside0.mk (show Kd.V (Kd.int .i64) 3 _ w.heap.size _ _ (rd_L2 y464 x46_1) from Kd.V_mk ul467_0 ge467_0)
                clear hva_ hvn_ hvc_ ge467_0 ul467_0
                clear hcc467 hce467
                have HR467_0 := Aside0.mk hi467_0
                have HC467_0 := Aside0.mk hl467_0
                clear hi467_0 hl467_0
                replace p467 := eq_true p467
                replace q467 := eq_true q467
                go_wp2_with (first | ((with_reducible refine gate_callee (f := 24) rfl ?_); refine goesL_ (some 54) rfl rfl Try.func24 (by kernel_rfl) rfl #[.int .i64 t451, .slice Ao9 t452.length co9, .slice A467_0 (rd_L2 y464 x46_1).length c467_0] rfl (by (try simp only [List.map_toArray, List.map_cons, List.map_nil]); first | done | rfl | (simp only [List.length_drop, List.length_take]; rfl)) ?_; (with_reducible refine (cut_Floor.calls k1 t451 _ _ t452 _ _ (rd_L2 y464 x46_1) t468 t469 _ ?side1 ?side2 ?side3 ?side4 A20.out).mono ?_); (case side1 => repeat (first | exact (Kd.N_reads' HO_11.out).2.2 | (with_reducible refine Kd.C_alloc ?_ _) | (with_reducible refine Kd.C_drewN ?_ _) | (with_reducible refine Kd.C_drew ?_))); (case side2 => exact (Kd.N_reads' HO_11.out).2.1); (case side3 => repeat (first | exact (by repeat (first | (with_reducible exact HR467_0.out) | (with_reducible refine Kd.C_alloc ?_ _) | (with_reducible refine Kd.C_drewN ?_ _) | (with_reducible refine Kd.C_drew ?_) | exact HR467_0.out)) | (with_reducible refine Kd.C_alloc ?_ _) | (with_reducible refine Kd.C_drewN ?_ _) | (with_reducible refine Kd.C_drew ?_))); (case side4 => exact HC467_0.out); rintro e w24 ⟨rfl, hb⟩; refine ⟨_, rfl, ?_⟩; have n0_ := Aside0.mk (Kd.V_below (by (with_reducible repeat (first | apply Kd.V_alloc | apply Kd.V_drewN | apply Kd.V_drew)); exact HO_2.out) hb); have n1_ := Aside0.mk (Kd.N_below (by (with_reducible repeat (first | apply Kd.N_alloc | apply Kd.N_drewN | apply Kd.N_drew)); exact HO_11.out) hb); have n2_ := Aside0.mk (Kd.N_below (by (with_reducible repeat (first | apply Kd.N_alloc | apply Kd.N_drewN | apply Kd.N_drew)); exact HO_44.out) hb); have n3_ := Aside0.mk (Kd.V_below (by (with_reducible repeat (first | apply Kd.V_alloc | apply Kd.V_drewN | apply Kd.V_drew)); exact HL467_0.out) hb); have n4_ := Aside0.mk (IsS61.below (by repeat (first | (with_reducible first | exact HI3.out | apply IsS61.alloc | apply IsS61.drewN | apply IsS61.drew | apply IsS61.set_1) | exact HI3.out)) hb); have n5_ := Aside0.mk (Kd.C_below (by repeat (first | (with_reducible exact HR467_0.out) | (with_reducible refine Kd.C_alloc ?_ _) | (with_reducible refine Kd.C_drewN ?_ _) | (with_reducible refine Kd.C_drew ?_) | exact HR467_0.out)) hb); have n6_ := Aside0.mk (KeepBut.trans (by repeat (first | (with_reducible first | exact HK.out | apply KeepBut.set_ | apply keep_drewN | apply keep_drew | apply keep_alloc) | exact HK.out)) (KeepBut.of_below hb g none) (.inl rfl)); have n7_ := Aside0.mk (below_step (by repeat (first | (with_reducible first | exact HB.out | apply below_alloc | apply pw_below_drewN | apply below_drew1 | refine below_set ?_ (IsS61.ge HI3.out)) | exact HB.out)) hb); clear HO_2; clear HO_11; clear HO_44; clear HL467_0; clear HI3; clear HR467_0; clear HK; clear HB; have HO_2 := n0_; have HO_11 := n1_; have HO_44 := n2_; have HL467_0 := n3_; have HI3 := n4_; have HR467_0 := n5_; have HK := n6_; have HB := n7_; clear n0_ n1_ n2_ n3_ n4_ n5_ n6_ n7_; (try clear hb); (try clear hb2); (try clear hk); (try clear hi)) | ((with_reducible refine gate_callee (f := 31) rfl ?_); refine goesL_ (some 61) rfl rfl Try.func31 (by kernel_rfl) rfl #[.int .i64 t451, .slice Ao9 t452.length co9, .slice A467_0 (rd_L2 y464 x46_1).length c467_0] rfl (by (try simp only [List.map_toArray, List.map_cons, List.map_nil]); first | done | rfl | (simp only [List.length_drop, List.length_take]; rfl)) ?_; (with_reducible refine (partsyncref21_Floor.calls k1 t451 _ _ t452 _ _ (rd_L2 y464 x46_1) t470 t471 _ ?side1 ?side2 ?side3 ?side4 A21.out).mono ?_); (case side1 => repeat (first | exact (Kd.N_reads' HO_11.out).2.2 | (with_reducible refine Kd.C_alloc ?_ _) | (with_reducible refine Kd.C_drewN ?_ _) | (with_reducible refine Kd.C_drew ?_))); (case side2 => exact (Kd.N_reads' HO_11.out).2.1); (case side3 => repeat (first | exact (by repeat (first | (with_reducible exact HR467_0.out) | (with_reducible refine Kd.C_alloc ?_ _) | (with_reducible refine Kd.C_drewN ?_ _) | (with_reducible refine Kd.C_drew ?_) | exact HR467_0.out)) | (with_reducible refine Kd.C_alloc ?_ _) | (with_reducible refine Kd.C_drewN ?_ _) | (with_reducible refine Kd.C_drew ?_))); (case side4 => exact HC467_0.out); rintro e w25 ⟨rfl, hb⟩; refine ⟨_, rfl, ?_⟩; have n0_ := Aside0.mk (Kd.V_below (by (with_reducible repeat (first | apply Kd.V_alloc | apply Kd.V_drewN | apply Kd.V_drew)); exact HO_2.out) hb); have n1_ := Aside0.mk (Kd.N_below (by (with_reducible repeat (first | apply Kd.N_alloc | apply Kd.N_drewN | apply Kd.N_drew)); exact HO_11.out) hb); have n2_ := Aside0.mk (Kd.N_below (by (with_reducible repeat (first | apply Kd.N_alloc | apply Kd.N_drewN | apply Kd.N_drew)); exact HO_44.out) hb); have n3_ := Aside0.mk (Kd.V_below (by (with_reducible repeat (first | apply Kd.V_alloc | apply Kd.V_drewN | apply Kd.V_drew)); exact HL467_0.out) hb); have n4_ := Aside0.mk (IsS61.below (by repeat (first | (with_reducible first | exact HI3.out | apply IsS61.alloc | apply IsS61.drewN | apply IsS61.drew | apply IsS61.set_1) | exact HI3.out)) hb); have n5_ := Aside0.mk (Kd.C_below (by repeat (first | (with_reducible exact HR467_0.out) | (with_reducible refine Kd.C_alloc ?_ _) | (with_reducible refine Kd.C_drewN ?_ _) | (with_reducible refine Kd.C_drew ?_) | exact HR467_0.out)) hb); have n6_ := Aside0.mk (KeepBut.trans (by repeat (first | (with_reducible first | exact HK.out | apply KeepBut.set_ | apply keep_drewN | apply keep_drew | apply keep_alloc) | exact HK.out)) (KeepBut.of_below hb g none) (.inl rfl)); have n7_ := Aside0.mk (below_step (by repeat (first | (with_reducible first | exact HB.out | apply below_alloc | apply pw_below_drewN | apply below_drew1 | refine below_set ?_ (IsS61.ge HI3.out)) | exact HB.out)) hb); clear HO_2; clear HO_11; clear HO_44; clear HL467_0; clear HI3; clear HR467_0; clear HK; clear HB; have HO_2 := n0_; have HO_11 := n1_; have HO_44 := n2_; have HL467_0 := n3_; have HI3 := n4_; have HR467_0 := n5_; have HK := n6_; have HB := n7_; clear n0_ n1_ n2_ n3_ n4_ n5_ n6_ n7_; (try clear hb); (try clear hb2); (try clear hk); (try clear hi)))
                go_roundg k1
                case measure => have := HK1.out; omega
                case rel => exact ⟨(wrap64 (x46_1 + 1)), (by first | rfl | (simp; done) | (simp [*]; done)), H', ⟨by have := HK1.out; omega⟩, ⟨by (with_reducible repeat (first | apply Kd.V_alloc | apply Kd.V_drewN | apply Kd.V_drew)); exact HO_2.out⟩, ⟨by (with_reducible repeat (first | apply Kd.N_alloc | apply Kd.N_drewN | apply Kd.N_drew)); exact HO_11.out⟩, ⟨by (with_reducible repeat (first | apply Kd.N_alloc | apply Kd.N_drewN | apply Kd.N_drew)); exact HO_44.out⟩, ⟨by repeat (first | (with_reducible first | exact HI3.out | apply IsS61.alloc | apply IsS61.drewN | apply IsS61.drew | apply IsS61.set_1) | exact HI3.out)⟩, ⟨by repeat (first | (with_reducible first | exact HK.out | apply KeepBut.set_ | apply keep_drewN | apply keep_drew | apply keep_alloc) | exact HK.out)⟩, ⟨by repeat (first | (with_reducible first | exact HB.out | apply below_alloc | apply pw_below_drewN | apply below_drew1 | refine below_set ?_ (IsS61.ge HI3.out)) | exact HB.out)⟩⟩
              · rw [if_neg c23] at H
                have c23b0 : (t469 == t471) = false := beq_eq_false_iff_ne.mpr c23
                have c23b1 : (t469 != t471) = true := bne_iff_ne.mpr c23
                exact (partsynclaw21_CutWholes.lf HRT.out H).elim
            · rw [if_neg c22] at H
              have c22b0 : (t468 == t470) = false := beq_eq_false_iff_ne.mpr c22
              have c22b1 : (t468 != t470) = true := bne_iff_ne.mpr c22
              exact (partsynclaw21_CutWholes.lf HRT.out H).elim
          · rw [if_neg c19] at H
            exact absurd H (by simp)
        · rw [if_neg c18] at H
          exact absurd H (by simp)
      · rw [if_neg c17] at H
        have c17b0 : decide (x46_1 < (y464.length : Int)) = false := decide_eq_false c17
        clear c17
        replace H := Option.bind_eq_some_iff.mp H
        obtain ⟨⟨t472, t473⟩, A300, H⟩ := H
        replace H : ((partsyncref21_Whole.f k1 t451 t452).bind fun bt474 => ((cut_Floor.f k1 a0 l1 l2).bind fun bt476 => ((partsyncref21_Floor.f k1 a0 l1 l2).bind fun bt478 => ((cut_Whole.f k1 a0 l1).bind fun bt480 => ((partsyncref21_Whole.f k1 a0 l1).bind fun bt482 => (if t472 = bt474.1 then (if t473 = bt474.2 then (if bt476.1 = bt478.1 then (if bt476.2 = bt478.2 then (if bt480.1 = bt482.1 then (if bt480.2 = bt482.2 then ((partsynclaw21_begun.f k1).bind fun t484 => (some (t484, t463))) else (some (false, t463))) else (some (false, t463))) else (some (false, t463))) else (some (false, t463))) else (some (false, t463))) else (some (false, t463)))))))) = some (r1, r2) := H
        have A30 := Aside0.mk A300
        clear A300
        replace H := Option.bind_eq_some_iff.mp H
        obtain ⟨⟨t474, t475⟩, A310, H⟩ := H
        replace H : ((cut_Floor.f k1 a0 l1 l2).bind fun bt476 => ((partsyncref21_Floor.f k1 a0 l1 l2).bind fun bt478 => ((cut_Whole.f k1 a0 l1).bind fun bt480 => ((partsyncref21_Whole.f k1 a0 l1).bind fun bt482 => (if t472 = t474 then (if t473 = t475 then (if bt476.1 = bt478.1 then (if bt476.2 = bt478.2 then (if bt480.1 = bt482.1 then (if bt480.2 = bt482.2 then ((partsynclaw21_begun.f k1).bind fun t484 => (some (t484, t463))) else (some (false, t463))) else (some (false, t463))) else (some (false, t463))) else (some (false, t463))) else (some (false, t463))) else (some (false, t463))))))) = some (r1, r2) := H
        have A31 := Aside0.mk A310
        clear A310
        replace H := Option.bind_eq_some_iff.mp H
        obtain ⟨⟨t476, t477⟩, A320, H⟩ := H
        replace H : ((partsyncref21_Floor.f k1 a0 l1 l2).bind fun bt478 => ((cut_Whole.f k1 a0 l1).bind fun bt480 => ((partsyncref21_Whole.f k1 a0 l1).bind fun bt482 => (if t472 = t474 then (if t473 = t475 then (if t476 = bt478.1 then (if t477 = bt478.2 then (if bt480.1 = bt482.1 then (if bt480.2 = bt482.2 then ((partsynclaw21_begun.f k1).bind fun t484 => (some (t484, t463))) else (some (false, t463))) else (some (false, t463))) else (some (false, t463))) else (some (false, t463))) else (some (false, t463))) else (some (false, t463)))))) = some (r1, r2) := H
        have A32 := Aside0.mk A320
        clear A320
        replace H := Option.bind_eq_some_iff.mp H
        obtain ⟨⟨t478, t479⟩, A330, H⟩ := H
        replace H : ((cut_Whole.f k1 a0 l1).bind fun bt480 => ((partsyncref21_Whole.f k1 a0 l1).bind fun bt482 => (if t472 = t474 then (if t473 = t475 then (if t476 = t478 then (if t477 = t479 then (if bt480.1 = bt482.1 then (if bt480.2 = bt482.2 then ((partsynclaw21_begun.f k1).bind fun t484 => (some (t484, t463))) else (some (false, t463))) else (some (false, t463))) else (some (false, t463))) else (some (false, t463))) else (some (false, t463))) else (some (false, t463))))) = some (r1, r2) := H
        have A33 := Aside0.mk A330
        clear A330
        replace H := Option.bind_eq_some_iff.mp H
        obtain ⟨⟨t480, t481⟩, A340, H⟩ := H
        replace H : ((partsyncref21_Whole.f k1 a0 l1).bind fun bt482 => (if t472 = t474 then (if t473 = t475 then (if t476 = t478 then (if t477 = t479 then (if t480 = bt482.1 then (if t481 = bt482.2 then ((partsynclaw21_begun.f k1).bind fun t484 => (some (t484, t463))) else (some (false, t463))) else (some (false, t463))) else (some (false, t463))) else (some (false, t463))) else (some (false, t463))) else (some (false, t463)))) = some (r1, r2) := H
        have A34 := Aside0.mk A340
        clear A340
        replace H := Option.bind_eq_some_iff.mp H
        obtain ⟨⟨t482, t483⟩, A350, H⟩ := H
        replace H : (if t472 = t474 then (if t473 = t475 then (if t476 = t478 then (if t477 = t479 then (if t480 = t482 then (if t481 = t483 then ((partsynclaw21_begun.f k1).bind fun t484 => (some (t484, t463))) else (some (false, t463))) else (some (false, t463))) else (some (false, t463))) else (some (false, t463))) else (some (false, t463))) else (some (false, t463))) = some (r1, r2) := H
        have A35 := Aside0.mk A350
        clear A350
        by_cases c36 : t472 = t474
        · rw [if_pos c36] at H
          have c36b0 : (t472 == t474) = true := beq_iff_eq.mpr c36
          have c36b1 : (t472 != t474) = false := bne_eq_false_iff_eq.mpr c36
          clear c36
          by_cases c37 : t473 = t475
          · rw [if_pos c37] at H
            have c37b0 : (t473 == t475) = true := beq_iff_eq.mpr c37
            have c37b1 : (t473 != t475) = false := bne_eq_false_iff_eq.mpr c37
            clear c37
            by_cases c38 : t476 = t478
            · rw [if_pos c38] at H
              have c38b0 : (t476 == t478) = true := beq_iff_eq.mpr c38
              have c38b1 : (t476 != t478) = false := bne_eq_false_iff_eq.mpr c38
              clear c38
              by_cases c39 : t477 = t479
              · rw [if_pos c39] at H
                have c39b0 : (t477 == t479) = true := beq_iff_eq.mpr c39
                have c39b1 : (t477 != t479) = false := bne_eq_false_iff_eq.mpr c39
                clear c39
                by_cases c40 : t480 = t482
                · rw [if_pos c40] at H
                  have c40b0 : (t480 == t482) = true := beq_iff_eq.mpr c40
                  have c40b1 : (t480 != t482) = false := bne_eq_false_iff_eq.mpr c40
                  clear c40
                  by_cases c41 : t481 = t483
                  · rw [if_pos c41] at H
                    have c41b0 : (t481 == t483) = true := beq_iff_eq.mpr c41
                    have c41b1 : (t481 != t483) = false := bne_eq_false_iff_eq.mpr c41
                    clear c41
                    replace H := Option.bind_eq_some_iff.mp H
                    obtain ⟨t484, A420, H⟩ := H
                    replace H : (some (t484, t463)) = some (r1, r2) := H
                    have A42 := Aside0.mk A420
                    clear A420
                    simp only [Option.some.injEq, Prod.mk.injEq] at H
                    obtain ⟨rfl, rfl⟩ := H
                    go_wp2_with (first | ((with_reducible refine gate_callee (f := 23) rfl ?_); refine goesL_ (some 76) rfl rfl Try.func23 (by kernel_rfl) rfl #[.int .i64 t451, .slice Ao9 t452.length co9] rfl (by (try simp only [List.map_toArray, List.map_cons, List.map_nil]); first | done | rfl | (simp only [List.length_drop, List.length_take]; rfl)) ?_; (with_reducible refine (cut_Whole.calls k1 t451 _ _ t452 t472 t473 _ ?side1 ?side2 A30.out).mono ?_); (case side1 => repeat (first | exact (Kd.N_reads' HO_11.out).2.2 | (with_reducible refine Kd.C_alloc ?_ _) | (with_reducible refine Kd.C_drewN ?_ _) | (with_reducible refine Kd.C_drew ?_))); (case side2 => exact (Kd.N_reads' HO_11.out).2.1); rintro e w43 ⟨rfl, hb⟩; refine ⟨_, rfl, ?_⟩; have n0_ := Aside0.mk (Kd.V_below (by (with_reducible repeat (first | apply Kd.V_alloc | apply Kd.V_drewN | apply Kd.V_drew)); exact HO_2.out) hb); have n1_ := Aside0.mk (Kd.N_below (by (with_reducible repeat (first | apply Kd.N_alloc | apply Kd.N_drewN | apply Kd.N_drew)); exact HO_11.out) hb); have n2_ := Aside0.mk (Kd.N_below (by (with_reducible repeat (first | apply Kd.N_alloc | apply Kd.N_drewN | apply Kd.N_drew)); exact HO_44.out) hb); have n3_ := Aside0.mk (IsS61.below (by repeat (first | (with_reducible first | exact HI3.out | apply IsS61.alloc | apply IsS61.drewN | apply IsS61.drew | apply IsS61.set_1) | exact HI3.out)) hb); have n4_ := Aside0.mk (KeepBut.trans (by repeat (first | (with_reducible first | exact HK.out | apply KeepBut.set_ | apply keep_drewN | apply keep_drew | apply keep_alloc) | exact HK.out)) (KeepBut.of_below hb g none) (.inl rfl)); have n5_ := Aside0.mk (below_step (by repeat (first | (with_reducible first | exact HB.out | apply below_alloc | apply pw_below_drewN | apply below_drew1 | refine below_set ?_ (IsS61.ge HI3.out)) | exact HB.out)) hb); clear HO_2; clear HO_11; clear HO_44; clear HI3; clear HK; clear HB; have HO_2 := n0_; have HO_11 := n1_; have HO_44 := n2_; have HI3 := n3_; have HK := n4_; have HB := n5_; clear n0_ n1_ n2_ n3_ n4_ n5_; (try clear hb); (try clear hb2); (try clear hk); (try clear hi)) | ((with_reducible refine gate_callee (f := 32) rfl ?_); refine goesL_ (some 82) rfl rfl Try.func32 (by kernel_rfl) rfl #[.int .i64 t451, .slice Ao9 t452.length co9] rfl (by (try simp only [List.map_toArray, List.map_cons, List.map_nil]); first | done | rfl | (simp only [List.length_drop, List.length_take]; rfl)) ?_; (with_reducible refine (partsyncref21_Whole.calls k1 t451 _ _ t452 t474 t475 _ ?side1 ?side2 A31.out).mono ?_); (case side1 => repeat (first | exact (Kd.N_reads' HO_11.out).2.2 | (with_reducible refine Kd.C_alloc ?_ _) | (with_reducible refine Kd.C_drewN ?_ _) | (with_reducible refine Kd.C_drew ?_))); (case side2 => exact (Kd.N_reads' HO_11.out).2.1); rintro e w44 ⟨rfl, hb⟩; refine ⟨_, rfl, ?_⟩; have n0_ := Aside0.mk (Kd.V_below (by (with_reducible repeat (first | apply Kd.V_alloc | apply Kd.V_drewN | apply Kd.V_drew)); exact HO_2.out) hb); have n1_ := Aside0.mk (Kd.N_below (by (with_reducible repeat (first | apply Kd.N_alloc | apply Kd.N_drewN | apply Kd.N_drew)); exact HO_11.out) hb); have n2_ := Aside0.mk (Kd.N_below (by (with_reducible repeat (first | apply Kd.N_alloc | apply Kd.N_drewN | apply Kd.N_drew)); exact HO_44.out) hb); have n3_ := Aside0.mk (IsS61.below (by repeat (first | (with_reducible first | exact HI3.out | apply IsS61.alloc | apply IsS61.drewN | apply IsS61.drew | apply IsS61.set_1) | exact HI3.out)) hb); have n4_ := Aside0.mk (KeepBut.trans (by repeat (first | (with_reducible first | exact HK.out | apply KeepBut.set_ | apply keep_drewN | apply keep_drew | apply keep_alloc) | exact HK.out)) (KeepBut.of_below hb g none) (.inl rfl)); have n5_ := Aside0.mk (below_step (by repeat (first | (with_reducible first | exact HB.out | apply below_alloc | apply pw_below_drewN | apply below_drew1 | refine below_set ?_ (IsS61.ge HI3.out)) | exact HB.out)) hb); clear HO_2; clear HO_11; clear HO_44; clear HI3; clear HK; clear HB; have HO_2 := n0_; have HO_11 := n1_; have HO_44 := n2_; have HI3 := n3_; have HK := n4_; have HB := n5_; clear n0_ n1_ n2_ n3_ n4_ n5_; (try clear hb); (try clear hb2); (try clear hk); (try clear hi)) | ((with_reducible refine gate_callee (f := 24) rfl ?_); refine goesL_ (some 89) rfl rfl Try.func24 (by kernel_rfl) rfl #[.int .i64 a0, .slice A1 l1.length c1, .slice A2 l2.length c2] rfl (by (try simp only [List.map_toArray, List.map_cons, List.map_nil]); first | done | rfl | (simp only [List.length_drop, List.length_take]; rfl)) ?_; (with_reducible refine (cut_Floor.calls k1 a0 _ _ l1 _ _ l2 t476 t477 _ ?side1 ?side2 ?side3 ?side4 A32.out).mono ?_); (case side1 => exact Kd.C_foot_now HR1.out (by repeat (first | (with_reducible first | exact HK.out | apply KeepBut.set_ | apply keep_drewN | apply keep_drew | apply keep_alloc) | exact HK.out))); (case side2 => exact HC1.out); (case side3 => repeat (first | exact (Kd.V_reads' HO_2.out).2.2 | (with_reducible refine Kd.C_alloc ?_ _) | (with_reducible refine Kd.C_drewN ?_ _) | (with_reducible refine Kd.C_drew ?_))); (case side4 => exact (Kd.V_reads' HO_2.out).2.1); rintro e w45 ⟨rfl, hb⟩; refine ⟨_, rfl, ?_⟩; have n0_ := Aside0.mk (Kd.V_below (by (with_reducible repeat (first | apply Kd.V_alloc | apply Kd.V_drewN | apply Kd.V_drew)); exact HO_2.out) hb); have n1_ := Aside0.mk (Kd.N_below (by (with_reducible repeat (first | apply Kd.N_alloc | apply Kd.N_drewN | apply Kd.N_drew)); exact HO_11.out) hb); have n2_ := Aside0.mk (Kd.N_below (by (with_reducible repeat (first | apply Kd.N_alloc | apply Kd.N_drewN | apply Kd.N_drew)); exact HO_44.out) hb); have n3_ := Aside0.mk (IsS61.below (by repeat (first | (with_reducible first | exact HI3.out | apply IsS61.alloc | apply IsS61.drewN | apply IsS61.drew | apply IsS61.set_1) | exact HI3.out)) hb); have n4_ := Aside0.mk (KeepBut.trans (by repeat (first | (with_reducible first | exact HK.out | apply KeepBut.set_ | apply keep_drewN | apply keep_drew | apply keep_alloc) | exact HK.out)) (KeepBut.of_below hb g none) (.inl rfl)); have n5_ := Aside0.mk (below_step (by repeat (first | (with_reducible first | exact HB.out | apply below_alloc | apply pw_below_drewN | apply below_drew1 | refine below_set ?_ (IsS61.ge HI3.out)) | exact HB.out)) hb); clear HO_2; clear HO_11; clear HO_44; clear HI3; clear HK; clear HB; have HO_2 := n0_; have HO_11 := n1_; have HO_44 := n2_; have HI3 := n3_; have HK := n4_; have HB := n5_; clear n0_ n1_ n2_ n3_ n4_ n5_; (try clear hb); (try clear hb2); (try clear hk); (try clear hi)) | ((with_reducible refine gate_callee (f := 31) rfl ?_); refine goesL_ (some 96) rfl rfl Try.func31 (by kernel_rfl) rfl #[.int .i64 a0, .slice A1 l1.length c1, .slice A2 l2.length c2] rfl (by (try simp only [List.map_toArray, List.map_cons, List.map_nil]); first | done | rfl | (simp only [List.length_drop, List.length_take]; rfl)) ?_; (with_reducible refine (partsyncref21_Floor.calls k1 a0 _ _ l1 _ _ l2 t478 t479 _ ?side1 ?side2 ?side3 ?side4 A33.out).mono ?_); (case side1 => exact Kd.C_foot_now HR1.out (by repeat (first | (with_reducible first | exact HK.out | apply KeepBut.set_ | apply keep_drewN | apply keep_drew | apply keep_alloc) | exact HK.out))); (case side2 => exact HC1.out); (case side3 => repeat (first | exact (Kd.V_reads' HO_2.out).2.2 | (with_reducible refine Kd.C_alloc ?_ _) | (with_reducible refine Kd.C_drewN ?_ _) | (with_reducible refine Kd.C_drew ?_))); (case side4 => exact (Kd.V_reads' HO_2.out).2.1); rintro e w46 ⟨rfl, hb⟩; refine ⟨_, rfl, ?_⟩; have n0_ := Aside0.mk (Kd.V_below (by (with_reducible repeat (first | apply Kd.V_alloc | apply Kd.V_drewN | apply Kd.V_drew)); exact HO_2.out) hb); have n1_ := Aside0.mk (Kd.N_below (by (with_reducible repeat (first | apply Kd.N_alloc | apply Kd.N_drewN | apply Kd.N_drew)); exact HO_11.out) hb); have n2_ := Aside0.mk (Kd.N_below (by (with_reducible repeat (first | apply Kd.N_alloc | apply Kd.N_drewN | apply Kd.N_drew)); exact HO_44.out) hb); have n3_ := Aside0.mk (IsS61.below (by repeat (first | (with_reducible first | exact HI3.out | apply IsS61.alloc | apply IsS61.drewN | apply IsS61.drew | apply IsS61.set_1) | exact HI3.out)) hb); have n4_ := Aside0.mk (KeepBut.trans (by repeat (first | (with_reducible first | exact HK.out | apply KeepBut.set_ | apply keep_drewN | apply keep_drew | apply keep_alloc) | exact HK.out)) (KeepBut.of_below hb g none) (.inl rfl)); have n5_ := Aside0.mk (below_step (by repeat (first | (with_reducible first | exact HB.out | apply below_alloc | apply pw_below_drewN | apply below_drew1 | refine below_set ?_ (IsS61.ge HI3.out)) | exact HB.out)) hb); clear HO_2; clear HO_11; clear HO_44; clear HI3; clear HK; clear HB; have HO_2 := n0_; have HO_11 := n1_; have HO_44 := n2_; have HI3 := n3_; have HK := n4_; have HB := n5_; clear n0_ n1_ n2_ n3_ n4_ n5_; (try clear hb); (try clear hb2); (try clear hk); (try clear hi)) | ((with_reducible refine gate_callee (f := 23) rfl ?_); refine goesL_ (some 102) rfl rfl Try.func23 (by kernel_rfl) rfl #[.int .i64 a0, .slice A1 l1.length c1] rfl (by (try simp only [List.map_toArray, List.map_cons, List.map_nil]); first | done | rfl | (simp only [List.length_drop, List.length_take]; rfl)) ?_; (with_reducible refine (cut_Whole.calls k1 a0 _ _ l1 t480 t481 _ ?side1 ?side2 A34.out).mono ?_); (case side1 => exact Kd.C_foot_now HR1.out (by repeat (first | (with_reducible first | exact HK.out | apply KeepBut.set_ | apply keep_drewN | apply keep_drew | apply keep_alloc) | exact HK.out))); (case side2 => exact HC1.out); rintro e w47 ⟨rfl, hb⟩; refine ⟨_, rfl, ?_⟩; have n0_ := Aside0.mk (Kd.V_below (by (with_reducible repeat (first | apply Kd.V_alloc | apply Kd.V_drewN | apply Kd.V_drew)); exact HO_2.out) hb); have n1_ := Aside0.mk (Kd.N_below (by (with_reducible repeat (first | apply Kd.N_alloc | apply Kd.N_drewN | apply Kd.N_drew)); exact HO_11.out) hb); have n2_ := Aside0.mk (Kd.N_below (by (with_reducible repeat (first | apply Kd.N_alloc | apply Kd.N_drewN | apply Kd.N_drew)); exact HO_44.out) hb); have n3_ := Aside0.mk (IsS61.below (by repeat (first | (with_reducible first | exact HI3.out | apply IsS61.alloc | apply IsS61.drewN | apply IsS61.drew | apply IsS61.set_1) | exact HI3.out)) hb); have n4_ := Aside0.mk (KeepBut.trans (by repeat (first | (with_reducible first | exact HK.out | apply KeepBut.set_ | apply keep_drewN | apply keep_drew | apply keep_alloc) | exact HK.out)) (KeepBut.of_below hb g none) (.inl rfl)); have n5_ := Aside0.mk (below_step (by repeat (first | (with_reducible first | exact HB.out | apply below_alloc | apply pw_below_drewN | apply below_drew1 | refine below_set ?_ (IsS61.ge HI3.out)) | exact HB.out)) hb); clear HO_2; clear HO_11; clear HO_44; clear HI3; clear HK; clear HB; have HO_2 := n0_; have HO_11 := n1_; have HO_44 := n2_; have HI3 := n3_; have HK := n4_; have HB := n5_; clear n0_ n1_ n2_ n3_ n4_ n5_; (try clear hb); (try clear hb2); (try clear hk); (try clear hi)) | ((with_reducible refine gate_callee (f := 32) rfl ?_); refine goesL_ (some 108) rfl rfl Try.func32 (by kernel_rfl) rfl #[.int .i64 a0, .slice A1 l1.length c1] rfl (by (try simp only [List.map_toArray, List.map_cons, List.map_nil]); first | done | rfl | (simp only [List.length_drop, List.length_take]; rfl)) ?_; (with_reducible refine (partsyncref21_Whole.calls k1 a0 _ _ l1 t482 t483 _ ?side1 ?side2 A35.out).mono ?_); (case side1 => exact Kd.C_foot_now HR1.out (by repeat (first | (with_reducible first | exact HK.out | apply KeepBut.set_ | apply keep_drewN | apply keep_drew | apply keep_alloc) | exact HK.out))); (case side2 => exact HC1.out); rintro e w48 ⟨rfl, hb⟩; refine ⟨_, rfl, ?_⟩; have n0_ := Aside0.mk (Kd.V_below (by (with_reducible repeat (first | apply Kd.V_alloc | apply Kd.V_drewN | apply Kd.V_drew)); exact HO_2.out) hb); have n1_ := Aside0.mk (Kd.N_below (by (with_reducible repeat (first | apply Kd.N_alloc | apply Kd.N_drewN | apply Kd.N_drew)); exact HO_11.out) hb); have n2_ := Aside0.mk (Kd.N_below (by (with_reducible repeat (first | apply Kd.N_alloc | apply Kd.N_drewN | apply Kd.N_drew)); exact HO_44.out) hb); have n3_ := Aside0.mk (IsS61.below (by repeat (first | (with_reducible first | exact HI3.out | apply IsS61.alloc | apply IsS61.drewN | apply IsS61.drew | apply IsS61.set_1) | exact HI3.out)) hb); have n4_ := Aside0.mk (KeepBut.trans (by repeat (first | (with_reducible first | exact HK.out | apply KeepBut.set_ | apply keep_drewN | apply keep_drew | apply keep_alloc) | exact HK.out)) (KeepBut.of_below hb g none) (.inl rfl)); have n5_ := Aside0.mk (below_step (by repeat (first | (with_reducible first | exact HB.out | apply below_alloc | apply pw_below_drewN | apply below_drew1 | refine below_set ?_ (IsS61.ge HI3.out)) | exact HB.out)) hb); clear HO_2; clear HO_11; clear HO_44; clear HI3; clear HK; clear HB; have HO_2 := n0_; have HO_11 := n1_; have HO_44 := n2_; have HI3 := n3_; have HK := n4_; have HB := n5_; clear n0_ n1_ n2_ n3_ n4_ n5_; (try clear hb); (try clear hb2); (try clear hk); (try clear hi)) | (go_at_call 20; (with_reducible refine (partsynclaw21_begun.calls k1  t484 _ A42.out).mono ?_); rintro e w49 ⟨rfl, hb⟩; have n0_ := Aside0.mk (Kd.V_below (by (with_reducible repeat (first | apply Kd.V_alloc | apply Kd.V_drewN | apply Kd.V_drew)); exact HO_2.out) hb); have n1_ := Aside0.mk (Kd.N_below (by (with_reducible repeat (first | apply Kd.N_alloc | apply Kd.N_drewN | apply Kd.N_drew)); exact HO_11.out) hb); have n2_ := Aside0.mk (Kd.N_below (by (with_reducible repeat (first | apply Kd.N_alloc | apply Kd.N_drewN | apply Kd.N_drew)); exact HO_44.out) hb); have n3_ := Aside0.mk (IsS61.below (by repeat (first | (with_reducible first | exact HI3.out | apply IsS61.alloc | apply IsS61.drewN | apply IsS61.drew | apply IsS61.set_1) | exact HI3.out)) hb); have n4_ := Aside0.mk (KeepBut.trans (by repeat (first | (with_reducible first | exact HK.out | apply KeepBut.set_ | apply keep_drewN | apply keep_drew | apply keep_alloc) | exact HK.out)) (KeepBut.of_below hb g none) (.inl rfl)); have n5_ := Aside0.mk (below_step (by repeat (first | (with_reducible first | exact HB.out | apply below_alloc | apply pw_below_drewN | apply below_drew1 | refine below_set ?_ (IsS61.ge HI3.out)) | exact HB.out)) hb); clear HO_2; clear HO_11; clear HO_44; clear HI3; clear HK; clear HB; have HO_2 := n0_; have HO_11 := n1_; have HO_44 := n2_; have HI3 := n3_; have HK := n4_; have HB := n5_; clear n0_ n1_ n2_ n3_ n4_ n5_; (try clear hb); (try clear hb2); (try clear hk); (try clear hi)))
                    go_ret
                    exact ⟨w, w0, g, HN0.out, by first | rfl | (simp [errW_none, errW_some] <;> rfl) | (simp [*, errW_none, errW_some] <;> rfl), by repeat (first | (with_reducible first | exact HI3.out | apply IsS61.alloc | apply IsS61.drewN | apply IsS61.drew | apply IsS61.set_1) | exact HI3.out), by repeat (first | (with_reducible first | exact HB.out | apply below_alloc | apply pw_below_drewN | apply below_drew1 | refine below_set ?_ (IsS61.ge HI3.out)) | exact HB.out), by repeat (first | (with_reducible first | exact HK.out | apply KeepBut.set_ | apply keep_drewN | apply keep_drew | apply keep_alloc) | exact HK.out)⟩
                  · rw [if_neg c41] at H
                    have c41b0 : (t481 == t483) = false := beq_eq_false_iff_ne.mpr c41
                    have c41b1 : (t481 != t483) = true := bne_iff_ne.mpr c41
                    exact (partsynclaw21_CutWholes.lf HRT.out H).elim
                · rw [if_neg c40] at H
                  have c40b0 : (t480 == t482) = false := beq_eq_false_iff_ne.mpr c40
                  have c40b1 : (t480 != t482) = true := bne_iff_ne.mpr c40
                  exact (partsynclaw21_CutWholes.lf HRT.out H).elim
              · rw [if_neg c39] at H
                have c39b0 : (t477 == t479) = false := beq_eq_false_iff_ne.mpr c39
                have c39b1 : (t477 != t479) = true := bne_iff_ne.mpr c39
                exact (partsynclaw21_CutWholes.lf HRT.out H).elim
            · rw [if_neg c38] at H
              have c38b0 : (t476 == t478) = false := beq_eq_false_iff_ne.mpr c38
              have c38b1 : (t476 != t478) = true := bne_iff_ne.mpr c38
              exact (partsynclaw21_CutWholes.lf HRT.out H).elim
          · rw [if_neg c37] at H
            have c37b0 : (t473 == t475) = false := beq_eq_false_iff_ne.mpr c37
            have c37b1 : (t473 != t475) = true := bne_iff_ne.mpr c37
            exact (partsynclaw21_CutWholes.lf HRT.out H).elim
        · rw [if_neg c36] at H
          have c36b0 : (t472 == t474) = false := beq_eq_false_iff_ne.mpr c36
          have c36b1 : (t472 != t474) = true := bne_iff_ne.mpr c36
          exact (partsynclaw21_CutWholes.lf HRT.out H).elim

end Go.Proofs.Ytkhiglincdognaa.PA
