-- WRITTEN BY A PROGRAM OF THIS SESSION (wip/cut/printx.py). Not trusted: Lean checks it.
import Derived.Test.YtkhiglincdognaaPAx0
import Derived.Test.YtkhiglincdognaaPAx1
import Derived.Test.YtkhiglincdognaaPAx6
import Derived.Test.YtkhiglincdognaaPAx8
import Derived.Test.YtkhiglincdognaaHLogs
import Derived.Test.YtkhiglincdognaaHNew
namespace Go.Proofs.Ytkhiglincdognaa.PA
open Go.RowKit Go.Proofs.YtkhiglincdognaaW.PrintWords Go.Proofs.YtkhiglincdognaaW.PrintLast Go.Proofs.YtkhiglincdognaaW.PrintMore
attribute [local go_sem] max2_int min2_int max_two min_two max_three min_three max_four min_four   -- for this text's walks alone
set_option linter.unusedVariables false
set_option linter.unusedSimpArgs false

/-! ### partsynclaw21_CutRecovers: function 7 -/
def partsynclaw21_CutRecovers.l0 : Nat → Int → List (List (S50)) → List Int → List (List (S50)) → Int → Int → List Int → Int → Option (Bool × Int)
  | 0, _, _, _, _, _, _, _, _ => none
  | k + 1, x4, x5, x6, x7, x27, x28, x1000, x1001 => if x28 < x27 then (if 0 ≤ x28 then (if x28 < (x5.length : Int) then (if x28 < (x6.length : Int) then (if 0 ≤ (rd x6 x28) then (if (rd x6 x28) ≤ ((rd_L4 x5 x28).length : Int) then (if x28 < (x7.length : Int) then (partsynclaw21_CutRecovers.l0 k x4 x5 x6 (x7.set (x28 : Int).toNat ((rd_L4 x5 x28).take ((rd x6 x28) : Int).toNat)) x27 (wrap64 (x28 + 1)) x1000 x1001) else (none)) else (none)) else (none)) else (none)) else (none)) else (none)) else ((cut_Whole.f k x4 x7).bind fun bt505 => ((cut_Floor.f k x4 x5 x6).bind fun bt507 => (if bt505.2 = 0 then (if bt507.2 = 0 then (if bt505.1 = bt507.1 then ((partsynclaw21_begun.f k).bind fun t509 => (some (t509, x1001))) else (some (false, x1001))) else (some (false, x1001))) else (some (false, x1001)))))
def partsynclaw21_CutRecovers.f (k : Nat) (s0_0 : List Int) (s0_1 : Int) : Option (Bool × Int) := (partsynccase_Case_Logs.f s0_0 s0_1).bind fun bt485 => ((partsynccase_Case_Cut.f k s0_0 bt485.2.2 bt485.2.1).bind fun bt490 => (if 0 ≤ (bt485.2.1.length : Int) then (if ((bt485.2.1.length : Int) : Int).toNat ≤ 11728124029610 then (partsynclaw21_CutRecovers.l0 k bt485.1 bt485.2.1 bt490.1 (List.replicate ((bt485.2.1.length : Int) : Int).toNat []) (bt485.2.1.length : Int) 0 s0_0 bt490.2) else (none)) else (none)))
theorem partsynclaw21_CutRecovers.mono_l : ∀ k, (∀ y0 y1 y2 y3 y4 y5 y6 y7, LeO (partsynclaw21_CutRecovers.l0 k y0 y1 y2 y3 y4 y5 y6 y7) (partsynclaw21_CutRecovers.l0 (k + 1) y0 y1 y2 y3 y4 y5 y6 y7))
  | 0 => fun _ _ _ _ _ _ _ _ r h => by simp [partsynclaw21_CutRecovers.l0] at h
  | k + 1 => by
    have ih0 := partsynclaw21_CutRecovers.mono_l k
    · intro y0 y1 y2 y3 y4 y5 y6 y7
      unfold partsynclaw21_CutRecovers.l0
      repeat' first
      | (with_reducible exact ih0 _ _ _ _ _ _ _ _)
      | (with_reducible exact cut_Floor.mono _ _ _ _)
      | (with_reducible exact cut_Whole.mono _ _ _)
      | (with_reducible exact partsynccase_Case_Cut.mono _ _ _ _)
      | (with_reducible exact partsynclaw21_begun.mono _)
      | (with_reducible exact LeO.refl _)
      | (with_reducible exact LeO.none _)
      | (with_reducible refine LeO.ite ?_ ?_)
      | (with_reducible refine LeO.bind ?_ (fun _ => ?_))
      | exact ih0 _ _ _ _ _ _ _ _
      | exact cut_Floor.mono _ _ _ _
      | exact cut_Whole.mono _ _ _
      | exact partsynccase_Case_Cut.mono _ _ _ _
      | exact partsynclaw21_begun.mono _
      | exact LeO.none _
      | refine LeO.ite ?_ ?_
      | refine LeO.bind ?_ (fun _ => ?_)
theorem partsynclaw21_CutRecovers.mono : ∀ a0 a1 k, LeO (partsynclaw21_CutRecovers.f k a0 a1) (partsynclaw21_CutRecovers.f (k + 1) a0 a1) := by
  intro a0 a1 k
  have ih0 := partsynclaw21_CutRecovers.mono_l k
  unfold partsynclaw21_CutRecovers.f
  repeat' first
      | (with_reducible exact ih0 _ _ _ _ _ _ _ _)
      | (with_reducible exact cut_Floor.mono _ _ _ _)
      | (with_reducible exact cut_Whole.mono _ _ _)
      | (with_reducible exact partsynccase_Case_Cut.mono _ _ _ _)
      | (with_reducible exact partsynclaw21_begun.mono _)
      | (with_reducible exact LeO.refl _)
      | (with_reducible exact LeO.none _)
      | (with_reducible refine LeO.ite ?_ ?_)
      | (with_reducible refine LeO.bind ?_ (fun _ => ?_))
      | exact ih0 _ _ _ _ _ _ _ _
      | exact cut_Floor.mono _ _ _ _
      | exact cut_Whole.mono _ _ _
      | exact partsynccase_Case_Cut.mono _ _ _ _
      | exact partsynclaw21_begun.mono _
      | exact LeO.none _
      | refine LeO.ite ?_ ?_
      | refine LeO.bind ?_ (fun _ => ?_)
def partsynclaw21_CutRecovers.T8 : Bool × List (List Nat × List Nat) := (true, [([], []), ([], []), ([], []), ([], []), ([2, 3], [2, 3]), ([4], [4]), ([], []), ([], []), ([6, 7], [6, 7]), ([8], [8]), ([5, 9], [5, 9]), ([0, 1, 0, 1, 2, 3, 4, 5, 6, 7, 8, 9, 10], [0, 1]), ([11, 10, 0, 1, 2, 3, 4, 5, 6, 7, 8, 9, 10], [10, 11])])
def partsynclaw21_CutRecovers.B8 : List Nat := [0, 0, 0, 0, 12, 28, 0, 0, 192, 448, 1020, 2047, 4095]
theorem partsynclaw21_CutRecovers.tab8 : rtab .any (opsOf Try.f7 8) = partsynclaw21_CutRecovers.T8 := by kernel_rfl
theorem partsynclaw21_CutRecovers.bits8 : waitsOk partsynclaw21_CutRecovers.T8.2 partsynclaw21_CutRecovers.B8 = true := by kernel_rfl
theorem partsynclaw21_CutRecovers.lf {r : Bool} {a b : Int} (hr : r = true) (h : some (false, a) = some (r, b)) : False := by subst hr; simp at h
set_option maxHeartbeats 8000000 in
set_option maxRecDepth 100000 in
theorem partsynclaw21_CutRecovers.calls (k : Nat) (AA : Option Addr) (cc : Nat) (l0 : List Int) (r1 : Bool) (r2 : Int) (ww : World) (hC : (Kd.int .u8).C ww AA l0.length l0) (hc : l0.length ≤ cc) (h : partsynclaw21_CutRecovers.f k (l0.take 90) 0 = some (r1, r2)) (hr : r1 = true) :
    Calls Try.prog 7 #[.slice AA l0.length cc] ww fun e w' => ∃ w w0 g, Below ww.heap.size ww w0 ∧ (e = .returned (.bool r1) ∧ IsS61 w0 w' g (l0.take 90) r2 ∧ Below w0.heap.size w0 w' ∧ KeepBut w w' g none) := by
  have HRT := Aside0.mk hr
  clear hr
  have Z_hC := Aside0.mk hC
  have Z_hc := Aside0.mk hc
  clear hC hc
  obtain ⟨s0_0, hs0_⟩ : ∃ s, s = l0.take 90 := ⟨_, rfl⟩
  obtain ⟨s0_1, hs1_⟩ : ∃ s : Int, s = 0 := ⟨_, rfl⟩
  replace h := (show _ = _ from h)
  rw [← hs0_, ← hs1_] at h
  rw [← hs0_]
  go_enter Try.func7, Try.ntmps7
  go_upto_region 2 with (first | (go_at_call 13; refine (new_any l0 AA cc 90 _ (Kd.C_below Z_hC.out (by repeat (first | exact Below.refl _ _ | apply Below.drew | apply pw_below_drewN))) Z_hc.out (by omega)).mono ?_; rintro e w ⟨w0, g, rfl, hb0, hI, hB⟩; have HN0 := Aside0.mk (show Below ww.heap.size ww w0 from Below.trans (by repeat (first | exact Below.refl _ _ | apply Below.drew | apply pw_below_drewN)) hb0); have HBW := Aside0.mk (show Below ww.heap.size ww w from below_step HN0.out hB); have HGE := Aside0.mk (show ww.heap.size ≤ g from Nat.le_trans HN0.out.size hI.ge); clear hb0; replace hI := (show IsS61 w0 w g s0_0 s0_1 from by rw [hs0_, hs1_]; exact hI); clear hs0_ hs1_))
  have HI0 := Aside0.mk hI
  have HK := Aside0.mk (KeepBut.refl w g none)
  have HL := Aside0.mk hB.size
  clear hI
  have HW0 := Aside0.mk hB.size
  have HB := Aside0.mk hB
  clear hB
  have H : ((partsynccase_Case_Logs.f s0_0 s0_1).bind fun bt485 => ((partsynccase_Case_Cut.f k s0_0 bt485.2.2 bt485.2.1).bind fun bt490 => (if 0 ≤ (bt485.2.1.length : Int) then (if ((bt485.2.1.length : Int) : Int).toNat ≤ 11728124029610 then (partsynclaw21_CutRecovers.l0 k bt485.1 bt485.2.1 bt490.1 (List.replicate ((bt485.2.1.length : Int) : Int).toNat []) (bt485.2.1.length : Int) 0 s0_0 bt490.2) else (none)) else (none)))) = some (r1, r2) := h
  clear h
  replace H := Option.bind_eq_some_iff.mp H
  obtain ⟨⟨t485, t486, t489⟩, A20, H⟩ := H
  replace H : ((partsynccase_Case_Cut.f k s0_0 t489 t486).bind fun bt490 => (if 0 ≤ (t486.length : Int) then (if ((t486.length : Int) : Int).toNat ≤ 11728124029610 then (partsynclaw21_CutRecovers.l0 k t485 t486 bt490.1 (List.replicate ((t486.length : Int) : Int).toNat []) (t486.length : Int) 0 s0_0 bt490.2) else (none)) else (none))) = some (r1, r2) := H
  have A2 := Aside0.mk A20
  clear A20
  replace H := Option.bind_eq_some_iff.mp H
  obtain ⟨⟨t490, t493⟩, A30, H⟩ := H
  replace H : (if 0 ≤ (t486.length : Int) then (if ((t486.length : Int) : Int).toNat ≤ 11728124029610 then (partsynclaw21_CutRecovers.l0 k t485 t486 t490 (List.replicate ((t486.length : Int) : Int).toNat []) (t486.length : Int) 0 s0_0 t493) else (none)) else (none)) = some (r1, r2) := H
  have A3 := Aside0.mk A30
  clear A30
  by_cases c4 : 0 ≤ (t486.length : Int)
  · rw [if_pos c4] at H
    have c4b0 := eq_true c4
    have c4b1 : decide (0 ≤ (t486.length : Int)) = true := decide_eq_true c4
    clear c4
    by_cases c5 : ((t486.length : Int) : Int).toNat ≤ 11728124029610
    · rw [if_pos c5] at H
      have c5b0 := eq_true c5
      have c5b1 : decide (((t486.length : Int) : Int).toNat ≤ 11728124029610) = true := decide_eq_true c5
      clear c5
      obtain ⟨y494, hy494⟩ : ∃ y_ : List (List (S50)), y_ = (List.replicate ((t486.length : Int) : Int).toNat []) := ⟨_, rfl⟩
      replace H : (partsynclaw21_CutRecovers.l0 k t485 t486 t490 y494 (t486.length : Int) 0 s0_0 t493) = some (r1, r2) := by first | (rw [hy494]; with_reducible exact H) | (have H2_ := (Option.bind_some _ _).symm.trans H; rw [hy494]; with_reducible exact H2_) | (have H2_ := (Option.bind_some _ _).symm.trans H; with_reducible exact H2_) | with_reducible exact H | (rw [hy494]; exact H) | exact H
      have Ny494 := Aside0.mk hy494
      clear hy494
      have H' := Aside0.mk H
      clear H
      go_wp2_with (first | ((with_reducible refine gate_callee (f := 21) rfl ?_); refine goesL_ (some 17) rfl rfl Try.func21 (by kernel_rfl) rfl #[.pointer (some ⟨g, 0, none⟩)] rfl (by (try simp only [List.map_toArray, List.map_cons, List.map_nil]); first | done | rfl | (simp only [List.length_drop, List.length_take]; rfl)) ?_; (with_reducible refine (partsynccase_Case_Logs.calls g s0_0 s0_1 t485 t486 t489 w0 _ ?side1 ?side2 A2.out).mono ?_); (case side1 => repeat (first | (with_reducible first | exact HI0.out | apply IsS61.alloc | apply IsS61.drewN | apply IsS61.drew | apply IsS61.set_1) | exact HI0.out)); (case side2 => repeat (first | (with_reducible first | exact HB.out | apply below_alloc | apply pw_below_drewN | apply below_drew1 | refine below_set ?_ (IsS61.ge HI0.out)) | exact HB.out)); rintro e w6 ⟨v487, rfl, ho0, hi, hb, hk⟩; refine ⟨_, rfl, ?_⟩; have n0_ := Aside0.mk (Kd.N_lower (Kd.N_mono (ok' := fun k_ => k_ ≠ g) (Kd.R_N (Kd.R_bound ho0)) (fun k_ hk_ => (IsS61.fresh (by repeat (first | (with_reducible first | exact HI0.out | apply IsS61.alloc | apply IsS61.drewN | apply IsS61.drew | apply IsS61.set_1) | exact HI0.out)) k_ hk_.2.1))) (keep_size (w := w) (g := g) (row := none) (by repeat (first | (with_reducible first | exact HK.out | apply KeepBut.set_ | apply keep_drewN | apply keep_drew | apply keep_alloc) | exact HK.out)))); have n1_ := Aside0.mk (KeepBut.trans (by repeat (first | (with_reducible first | exact HK.out | apply KeepBut.set_ | apply keep_drewN | apply keep_drew | apply keep_alloc) | exact HK.out)) hk (.inl rfl)); have n2_ := Aside0.mk (hb); have n3_ := Aside0.mk (hi); clear HK; clear HB; clear HI0; have HO488 := n0_; have HK := n1_; have HB := n2_; have HI0 := n3_; clear n0_ n1_ n2_ n3_; (try clear hb); (try clear hb2); (try clear hk); (try clear hi); (try clear ho0); obtain ⟨Ao7, co7, eo7⟩ := Kd.N_slice HO488.out; subst eo7) | ((with_reducible refine gate_callee (f := 22) rfl ?_); refine goesL_ (some 22) rfl rfl Try.func22 (by kernel_rfl) rfl #[.pointer (some ⟨g, 0, none⟩), .slice Ao7 t486.length co7] rfl (by (try simp only [List.map_toArray, List.map_cons, List.map_nil]); first | done | rfl | (simp only [List.length_drop, List.length_take]; rfl)) ?_; (with_reducible refine (partsynccase_Case_Cut.calls k g s0_0 t489 _ _ t486 t490 t493 w0 _ ?side1 ?side2 ?side3 ?side4 A3.out).mono ?_); (case side1 => repeat (first | (with_reducible first | exact HI0.out | apply IsS61.alloc | apply IsS61.drewN | apply IsS61.drew | apply IsS61.set_1) | exact HI0.out)); (case side2 => repeat (first | (with_reducible first | exact HB.out | apply below_alloc | apply pw_below_drewN | apply below_drew1 | refine below_set ?_ (IsS61.ge HI0.out)) | exact HB.out)); (case side3 => exact Kd.C_foot_ownV (base := 0) (Kd.N_V (Kd.N_mono (ok := fun k_ => k_ ≠ g) (by (with_reducible repeat (first | apply Kd.N_alloc | apply Kd.N_drewN | apply Kd.N_drew)); exact HO488.out) (fun k_ hk_ => (⟨hk_, hk_⟩ : _ ∧ k_ ≠ g)))) (fun _ h_ => h_.2)); (case side4 => exact (Kd.N_reads' HO488.out).2.1); rintro e w8 ⟨v491, rfl, ho0, hi, hb, hk⟩; refine ⟨_, rfl, ?_⟩; have n0_ := Aside0.mk (Kd.N_mono (Kd.N_told (Kd.N_oldK (Kd.N_mono (ok := fun k_ => k_ ≠ g) (by (with_reducible repeat (first | apply Kd.N_alloc | apply Kd.N_drewN | apply Kd.N_drew)); exact HO488.out) (fun k_ hk_ => (⟨hk_, hk_⟩ : _ ∧ k_ ≠ g))) hk) (Kd.R_base ho0)) (fun _ h_ => h_.1)); have n1_ := Aside0.mk (Kd.R_lower ho0 (keep_size (w := w) (g := g) (row := none) (by repeat (first | (with_reducible first | exact HK.out | apply KeepBut.set_ | apply keep_drewN | apply keep_drew | apply keep_alloc) | exact HK.out)))); have n2_ := Aside0.mk (KeepBut.trans (by repeat (first | (with_reducible first | exact HK.out | apply KeepBut.set_ | apply keep_drewN | apply keep_drew | apply keep_alloc) | exact HK.out)) hk (.inl rfl)); have n3_ := Aside0.mk (hb); have n4_ := Aside0.mk (hi); clear HO488; clear HK; clear HB; clear HI0; have HO488 := n0_; have HO492 := n1_; have HK := n2_; have HB := n3_; have HI0 := n4_; clear n0_ n1_ n2_ n3_ n4_; (try clear hb); (try clear hb2); (try clear hk); (try clear hi); (try clear ho0)) | ((with_reducible refine gate_dst (N := 25) rfl ?_); refine Kd.N_make (Kd.slice 50 k50) _ 47 rfl (N' := 25) rfl 34 _ _ rfl (t486.length : Int) rfl rfl Try.underlying34 (.slice none 0 0) 24 info47 rfl (by decide) (by omega) [] (ok := fun k_ => w8.heap.size ≤ k_) (okp := fun _ => False) (Kd.FK_slice_mk (Nat.le_refl _) (Kd.F_nil _ _ _)) (fun _ hk => hk.elim) (Nat.le_refl _) (of_decide_eq_true (by first | (with_reducible assumption) | assumption)) (Nat.le_trans (Nat.mul_le_mul_right _ (of_decide_eq_true (by first | (with_reducible assumption) | assumption) : (t486.length : Int).toNat ≤ 11728124029610)) (by omega)) (Below.refl _ _) (Nat.le_refl _) ?_; intro v495 w9 ho10 hb hg_ hnew_; clear hg_ hnew_; (first | rw [← Ny494.out] at ho10 | (simp only [Int.reduceToNat] at ho10; rw [← Ny494.out] at ho10)); have n0_ := Aside0.mk (Kd.N_elder' (by (with_reducible repeat (first | apply Kd.N_alloc | apply Kd.N_drewN | apply Kd.N_drew)); exact HO488.out) (Kd.N_base ho10) hb); have n1_ := Aside0.mk (Kd.R_below (by (with_reducible repeat (first | apply Kd.R_alloc | apply Kd.R_drewN | apply Kd.R_drew)); exact HO492.out) hb); have n2_ := Aside0.mk (Kd.N_lower (Kd.N_mono (ok' := fun k_ => some k_ ≠ (.slice Ao7 t486.length co7 : Value).ownBlock ∧ some k_ ≠ (v491 : Value).ownBlock ∧ k_ ≠ g) ho10 (fun k_ hk_ => ⟨(Kd.fresh' (Kd.N_lt (by (with_reducible repeat (first | apply Kd.N_alloc | apply Kd.N_drewN | apply Kd.N_drew)); exact HO488.out)) k_ hk_), (Kd.fresh' (Kd.R_lt (by (with_reducible repeat (first | apply Kd.R_alloc | apply Kd.R_drewN | apply Kd.R_drew)); exact HO492.out)) k_ hk_), (IsS61.fresh (by repeat (first | (with_reducible first | exact HI0.out | apply IsS61.alloc | apply IsS61.drewN | apply IsS61.drew | apply IsS61.set_1) | exact HI0.out)) k_ hk_)⟩)) (keep_size (w := w) (g := g) (row := none) (by repeat (first | (with_reducible first | exact HK.out | apply KeepBut.set_ | apply keep_drewN | apply keep_drew | apply keep_alloc) | exact HK.out)))); have n3_ := Aside0.mk (IsS61.below (by repeat (first | (with_reducible first | exact HI0.out | apply IsS61.alloc | apply IsS61.drewN | apply IsS61.drew | apply IsS61.set_1) | exact HI0.out)) hb); have n4_ := Aside0.mk (KeepBut.trans (by repeat (first | (with_reducible first | exact HK.out | apply KeepBut.set_ | apply keep_drewN | apply keep_drew | apply keep_alloc) | exact HK.out)) (KeepBut.of_below hb g none) (.inl rfl)); have n5_ := Aside0.mk (below_step (by repeat (first | (with_reducible first | exact HB.out | apply below_alloc | apply pw_below_drewN | apply below_drew1 | refine below_set ?_ (IsS61.ge HI0.out)) | exact HB.out)) hb); clear HO488; clear HO492; clear HI0; clear HK; clear HB; have HO488 := n0_; have HO492 := n1_; have HO496 := n2_; have HI0 := n3_; have HK := n4_; have HB := n5_; clear n0_ n1_ n2_ n3_ n4_ n5_; clear hb ho10))
      go_loopg [28] k (fun kq v28 w' => ∃ (x7_1 : List (List (S50))) (x28_1 : Int), v28 = .int .i64 x28_1 ∧ Aside0 (partsynclaw21_CutRecovers.l0 kq t485 t486 t490 x7_1 (t486.length : Int) x28_1 s0_0 t493 = some (r1, r2)) ∧ Aside0 (kq ≤ k) ∧ Aside0 (Kd.N (Kd.slice 50 k50) 47 w' w.heap.size (fun k_ => some k_ ≠ (v491 : Value).ownBlock ∧ some k_ ≠ (v495 : Value).ownBlock ∧ k_ ≠ g) (.slice Ao7 t486.length co7) t486) ∧ Aside0 (Kd.R (Kd.int .i64) 3 w' w.heap.size (fun _ => True) v491 t490) ∧ Aside0 (Kd.N (Kd.slice 50 k50) 47 w' w.heap.size (fun k_ => some k_ ≠ ((.slice Ao7 t486.length co7) : Value).ownBlock ∧ some k_ ≠ (v491 : Value).ownBlock ∧ k_ ≠ g) v495 x7_1) ∧ Aside0 (IsS61 w0 w' g s0_0 t493) ∧ Aside0 (KeepBut w w' g none) ∧ Aside0 (Below w0.heap.size w0 w'))
      case atStart => exact ⟨(y494), (0), (by first | rfl | (simp; done) | (simp [*]; done)), H', ⟨Nat.le_refl _⟩, ⟨by (with_reducible repeat (first | apply Kd.N_alloc | apply Kd.N_drewN | apply Kd.N_drew)); exact Kd.N_mono HO488.out (fun _ hk => ⟨hk.1.2, ⟨hk.2, hk.1.1⟩⟩)⟩, ⟨by (with_reducible repeat (first | apply Kd.R_alloc | apply Kd.R_drewN | apply Kd.R_drew)); exact HO492.out⟩, ⟨by (with_reducible repeat (first | apply Kd.N_alloc | apply Kd.N_drewN | apply Kd.N_drew)); exact HO496.out⟩, ⟨by repeat (first | (with_reducible first | exact HI0.out | apply IsS61.alloc | apply IsS61.drewN | apply IsS61.drew | apply IsS61.set_1) | exact HI0.out)⟩, ⟨by repeat (first | (with_reducible first | exact HK.out | apply KeepBut.set_ | apply keep_drewN | apply keep_drew | apply keep_alloc) | exact HK.out)⟩, ⟨by repeat (first | (with_reducible first | exact HB.out | apply below_alloc | apply pw_below_drewN | apply below_drew1 | refine below_set ?_ (IsS61.ge HI0.out)) | exact HB.out)⟩⟩
      case round =>
        clear H'
        try clear c2
        try clear p2
        try clear c4
        try clear c4b0
        try clear c4b1
        try clear c5
        try clear c5b0
        try clear c5b1
        try clear c7
        obtain ⟨x7_1, x28_1, rfl, HA, HK1, HO_5, HO_6, HO_7, HI0, HK, HB⟩ := hrel
        cases gk with
        | zero => exact absurd HA.out (by simp [partsynclaw21_CutRecovers.l0])
        | succ k1 =>
          have H := HA.out
          clear HA
          simp only [partsynclaw21_CutRecovers.l0] at H
          by_cases c11 : x28_1 < (t486.length : Int)
          · rw [if_pos c11] at H
            have c11b0 : decide (x28_1 < (t486.length : Int)) = true := decide_eq_true c11
            clear c11
            by_cases c12 : 0 ≤ x28_1
            · rw [if_pos c12] at H
              have c12b0 : decide (0 ≤ x28_1) = true := decide_eq_true c12
              clear c12
              by_cases c13 : x28_1 < (t486.length : Int)
              · rw [if_pos c13] at H
                have c13b0 : decide (x28_1 < (t486.length : Int)) = true := decide_eq_true c13
                clear c13
                by_cases c14 : x28_1 < (t490.length : Int)
                · rw [if_pos c14] at H
                  have c14b0 : decide (x28_1 < (t490.length : Int)) = true := decide_eq_true c14
                  clear c14
                  by_cases c15 : 0 ≤ (rd t490 x28_1)
                  · rw [if_pos c15] at H
                    have c15b0 := eq_true c15
                    have c15b1 : decide (0 ≤ (rd t490 x28_1)) = true := decide_eq_true c15
                    clear c15
                    by_cases c16 : (rd t490 x28_1) ≤ ((rd_L4 t486 x28_1).length : Int)
                    · rw [if_pos c16] at H
                      have c16b0 := eq_true c16
                      have c16b1 : decide ((rd t490 x28_1) ≤ ((rd_L4 t486 x28_1).length : Int)) = true := decide_eq_true c16
                      clear c16
                      obtain ⟨y499, hy499⟩ : ∃ y_ : List (S50), y_ = ((rd_L4 t486 x28_1).take ((rd t490 x28_1) : Int).toNat) := ⟨_, rfl⟩
                      replace H : (if x28_1 < (x7_1.length : Int) then (partsynclaw21_CutRecovers.l0 k1 t485 t486 t490 (x7_1.set (x28_1 : Int).toNat y499) (t486.length : Int) (wrap64 (x28_1 + 1)) s0_0 t493) else (none)) = some (r1, r2) := by first | (rw [hy499]; with_reducible exact H) | (have H2_ := (Option.bind_some _ _).symm.trans H; rw [hy499]; with_reducible exact H2_) | (have H2_ := (Option.bind_some _ _).symm.trans H; with_reducible exact H2_) | with_reducible exact H | (rw [hy499]; exact H) | exact H
                      have Ny499 := Aside0.mk hy499
                      clear hy499
                      by_cases c17 : x28_1 < (x7_1.length : Int)
                      · rw [if_pos c17] at H
                        have c17b0 : decide (x28_1 < (x7_1.length : Int)) = true := decide_eq_true c17
                        clear c17
                        obtain ⟨y504, hy504⟩ : ∃ y_ : List (List (S50)), y_ = (x7_1.set (x28_1 : Int).toNat y499) := ⟨_, rfl⟩
                        replace H : (partsynclaw21_CutRecovers.l0 k1 t485 t486 t490 y504 (t486.length : Int) (wrap64 (x28_1 + 1)) s0_0 t493) = some (r1, r2) := by first | (rw [hy504]; with_reducible exact H) | (have H2_ := (Option.bind_some _ _).symm.trans H; rw [hy504]; with_reducible exact H2_) | (have H2_ := (Option.bind_some _ _).symm.trans H; with_reducible exact H2_) | with_reducible exact H | (rw [hy504]; exact H) | exact H
                        have Ny504 := Aside0.mk hy504
                        clear hy504
                        have H' := Aside0.mk H
                        clear H
                        try go_wp2
                        have n0_ := Aside0.mk (Kd.N_drew HO_5.out)
                        have n1_ := Aside0.mk (Kd.R_drew HO_6.out)
                        have n2_ := Aside0.mk (Kd.N_drew HO_7.out)
                        have n3_ := Aside0.mk (IsS61.drew HI0.out)
                        have n4_ := Aside0.mk (keep_drew HK.out)
                        have n5_ := Aside0.mk (below_drew1 HB.out)
                        clear HO_5
                        clear HO_6
                        clear HO_7
                        clear HI0
                        clear HK
                        clear HB
                        have HO_5 := n0_
                        have HO_6 := n1_
                        have HO_7 := n2_
                        have HI0 := n3_
                        have HK := n4_
                        have HB := n5_
                        clear n0_ n1_ n2_ n3_ n4_ n5_
                        have p497 : 0 ≤ (x28_1 : Int) := of_decide_eq_true (by first | (with_reducible assumption) | assumption)
                        have q497 : x28_1 < (t486.length : Int) := of_decide_eq_true (by first | (with_reducible assumption) | assumption)
                        obtain ⟨ad497, A497_0, c497_0, e497, hx497_0, hl497_0, hi497_0⟩ := at_L4 (Kd.N_reads' HO_5.out).2.2 x28_1 p497 q497
                        cases e497
                        obtain ⟨ce497, hce497, hMe497, hcc497⟩ := Kd.N_get HO_5.out [] x28_1 p497 (by first | exact q497 | exact of_decide_eq_true (by first | (with_reducible assumption) | assumption) | (have e_ := (Kd.N_reads' HO_5.out).1; omega))
                        obtain ⟨ua497_0, uc497_0, rfl, ul497_0, ge497_0⟩ := Kd.FK_slice_open hMe497
                        have hv497_0 := hcc497 0 _ rfl
                        rw [Nat.add_zero, show ((Kd.slice 50 k50)).sz = 1 from rfl, Nat.mul_one] at hv497_0
                        replace hv497_0 := Option.some.inj (hv497_0.symm.trans hx497_0)
                        injection hv497_0 with hva_ hvn_ hvc_
                        rw [hva_] at ge497_0
                        rw [hvc_] at ul497_0
                        have HL497_0 := Aside0.mk (show Kd.V k50 50 _ w.heap.size _ _ (rd_L4 t486 x28_1) from Kd.V_mk ul497_0 ge497_0)
                        clear hva_ hvn_ hvc_ ge497_0 ul497_0
                        clear hcc497 hce497
                        have HR497_0 := Aside0.mk hi497_0
                        have HC497_0 := Aside0.mk hl497_0
                        clear hi497_0 hl497_0
                        replace p497 := eq_true p497
                        replace q497 := eq_true q497
                        obtain ⟨Ao20, co20, eo20⟩ := Kd.R_slice HO_6.out
                        (first | subst eo20 | (injection eo20 with f1_ f2_ f3_; have f4_ := f1_.symm; have f5_ := f3_.symm; clear f1_ f2_ f3_; subst f4_; subst f5_))
                        have p498 : 0 ≤ (x28_1 : Int) := of_decide_eq_true (by first | (with_reducible assumption) | assumption)
                        have q498 : x28_1 < (t490.length : Int) := of_decide_eq_true (by first | (with_reducible assumption) | assumption)
                        obtain ⟨ad498, e498, hx498_0⟩ := Kd.at_int (Kd.R_reads' HO_6.out).2.2 x28_1 p498 q498
                        cases e498
                        replace p498 := eq_true p498
                        replace q498 := eq_true q498
                        have q21 : ((rd t490 x28_1) : Int) ≤ (((rd_L4 t486 x28_1).length : Int) : Int) := of_decide_eq_true (by first | (with_reducible assumption) | assumption)
                        obtain ⟨i021, hi021, _, hsz21, _⟩ := info_parts info50
                        have hroom21 : (rd_L4 t486 x28_1).length ≤ c497_0 := HC497_0.out
                        have hC21 : Kd.F k50 _ _ A497_0 (rd_L4 t486 x28_1).length (rd_L4 t486 x28_1) := (Kd.V_at (base := w.heap.size) HL497_0.out).2.2
                        have hcut21 := cut_to (P := Try.prog) 47 50 .i64 Try.underlying47 hi021 A497_0 (rd_L4 t486 x28_1).length c497_0 (rd t490 x28_1) (of_decide_eq_true (by first | (with_reducible assumption) | assumption)) q21 hroom21
                        have hr21 := Kd.F_take (m := ((rd t490 x28_1) : Int).toNat) hC21 (by omega)
                        have hy21 : y499.length = ((rd t490 x28_1) : Int).toNat := (by rw [Ny499.out, List.length_take]; omega)
                        rw [← Ny499.out] at hr21
                        rw [← hy21] at hcut21
                        have HO503 := Aside0.mk (show Kd.V k50 50 _ w.heap.size _ (.slice A497_0 y499.length c497_0) y499 from Kd.V_mk (by omega) hr21)
                        have HC503 := Aside0.mk (show y499.length ≤ c497_0 from by omega)
                        clear hr21 hC21 hroom21 hi021 hsz21
                        have KY21 := Aside0.mk hy21
                        clear hy21
                        replace q21 := eq_true q21
                        have p18 : 0 ≤ (x28_1 : Int) := of_decide_eq_true (by first | (with_reducible assumption) | assumption)
                        have q18 : (x28_1 : Int) < ((x7_1.length : Int) : Int) := of_decide_eq_true (by first | (with_reducible assumption) | assumption)
                        obtain ⟨go18, co18, eo18, gb18, gl18, cl18, HG18⟩ := Kd.N_form HO_7.out (by omega)
                        (first | cases eo18 | (injection eo18 with ea_ en_ ec_; (first | subst ea_ | (injection ea_ with ea_; subst ea_)); subst ec_; clear en_))
                        have GB18 := Aside0.mk gb18
                        have GG18 := Aside0.mk HG18
                        clear gb18 gl18 HG18
                        obtain ⟨ce18, hcl18, hM18, hcc18, hfr18⟩ := Kd.N_elem HO_7.out [] (x28_1 : Int) p18 q18
                        obtain ⟨ua18_0, uc18_0, rfl, ul18_0, ge18_0⟩ := Kd.FK_slice_open hM18
                        have hx18_0 := hcc18 0 _ rfl
                        have hf18_0 := hfr18 0
                        (try simp only [show ((Kd.slice 50 k50)).sz = 1 from rfl, Nat.mul_one, Nat.add_zero] at hx18_0)
                        (try simp only [show ((Kd.slice 50 k50)).sz = 1 from rfl, Nat.mul_one, Nat.add_zero] at hf18_0)
                        clear hcl18 hcc18 hfr18 hM18
                        replace p18 := eq_true p18
                        replace q18 := eq_true q18
                        have HN0_go18 := Aside0.mk (show g ≠ go18 from by have h_ := IsS61.own_neN HI0.out HO_7.out (by decide); intro e_; exact h_ (by rw [e_]; rfl))
                        have HX22 := Aside0.mk (show Kd.N (Kd.slice 50 k50) 47 _ w.heap.size (fun k_ => some k_ ≠ (.slice (some ad497) t486.length co7 : Value).ownBlock ∧ some k_ ≠ (.slice (some ad498) t490.length co20 : Value).ownBlock ∧ k_ ≠ g) (.slice (some ⟨go18, 0, none⟩) x7_1.length co18) x7_1 from (Kd.N_mono (HO_7.out) (fun k_ hk => ⟨hk.1, ⟨hk.2.1, hk.2.2⟩⟩)))
                        obtain ⟨ce22, hcl22, hM22, hcc22, hfr22⟩ := Kd.N_elem HX22.out [] (x28_1 : Int) (of_decide_eq_true (by first | (with_reducible assumption) | assumption)) (by have h_ : (x28_1 : Int) < ((x7_1.length : Int) : Int) := of_decide_eq_true (by first | (with_reducible assumption) | assumption); first | exact h_ | (have e_ := (Kd.N_reads' HO_7.out).1; omega) | simpa using h_)
                        obtain ⟨ua22_0, uc22_0, rfl, ul22_0, ge22_0⟩ := Kd.FK_slice_open hM22
                        have HP22 := (Kd.N_seg HX22.out (x28_1 : Int) (of_decide_eq_true (by first | (with_reducible assumption) | assumption)) (by have h_ : (x28_1 : Int) < ((x7_1.length : Int) : Int) := of_decide_eq_true (by first | (with_reducible assumption) | assumption); first | exact h_ | (have e_ := (Kd.N_reads' HO_7.out).1; omega) | simpa using h_) (seg := [.slice A497_0 y499.length c497_0]) (j := 0) hcl22 hcc22 (show 1 ≤ 1 from by decide) (x' := y499) (Kd.FK_slice_mk (Kd.V_reads' (Kd.V_mono (ok' := (fun k_ => ((fun k_ => some k_ ≠ (.slice (some ad497) t486.length co7 : Value).ownBlock ∧ some k_ ≠ (.slice (some ad498) t490.length co20 : Value).ownBlock ∧ k_ ≠ g)) k_ ∧ k_ ≠ go18)) (HO503.out) (fun k_ hk => ⟨⟨hk.2, ⟨hk.1.1, hk.1.2.2⟩⟩, fun e_ => (hk.1.2.1) (by rw [e_]; rfl)⟩))).2.1 (Kd.V_F (Kd.V_mono (ok' := (fun k_ => ((fun k_ => some k_ ≠ (.slice (some ad497) t486.length co7 : Value).ownBlock ∧ some k_ ≠ (.slice (some ad498) t490.length co20 : Value).ownBlock ∧ k_ ≠ g)) k_ ∧ k_ ≠ go18)) (HO503.out) (fun k_ hk => ⟨⟨hk.2, ⟨hk.1.1, hk.1.2.2⟩⟩, fun e_ => (hk.1.2.1) (by rw [e_]; rfl)⟩)))) (fun _ hk => hk)).1
                        (try simp only [show ((Kd.slice 50 k50)).sz = 1 from rfl, Nat.mul_one, Nat.add_zero] at HP22)
                        rw [← Ny504.out] at HP22
                        have HQ22 := Aside0.mk HP22
                        clear hcl22 hcc22 hfr22 hM22 HP22
                        refine start_ (n := 13) (S := fun w' => w'.cell? (ad497.add (x28_1).toNat) = some (.slice A497_0 (rd_L4 t486 x28_1).length c497_0) ∧ w'.cell? (ad498.add (x28_1).toNat) = some (.int .i64 (rd t490 x28_1))) (ds := [12]) #[false, false, false, false, false, false, false, false, false, false, false, false, false] (by kernel_rfl) rfl rfl ⟨hx497_0, hx498_0⟩ (fun hHeld => ?_); refine with_tabW partsynclaw21_CutRecovers.tab8 partsynclaw21_CutRecovers.bits8 (fun HT_ HW_ => ?_)
                        generalize wr.drew = w19 at HO_5 HO_6 HO_7 HI0 HK HB GG18 HL497_0 HO503 HQ22 HR497_0 hf18_0 hx18_0 hx497_0 hx498_0 hHeld ⊢
                        refine pure_ (i := 0) (N := some 31) (v := ?_) (a' := ?_) #[true, false, false, false, false, false, false, false, false, false, false, false, false] rfl rfl (any_of HT_.out (by kernel_rfl)) (fun _ _ _ h => h) (Or.inl ⟨by rfl, ?_⟩) ?_ ?_
                        rotate_left
                        · intro w'
                          go_simp
                          with_reducible rfl
                        rotate_left
                        · simp only [Act.put, List.setIfInBounds_toArray, List.set_cons_zero, List.set_cons_succ, i64_w, i32_w]
                          rfl
                        refine pure_ (i := 1) (N := some 32) (v := ?_) (a' := ?_) #[true, true, false, false, false, false, false, false, false, false, false, false, false] rfl rfl (any_of HT_.out (by kernel_rfl)) (fun _ _ _ h => h) (Or.inl ⟨by rfl, ?_⟩) ?_ ?_
                        rotate_left
                        · intro w'
                          go_simp
                          with_reducible rfl
                        rotate_left
                        · simp only [Act.put, List.setIfInBounds_toArray, List.set_cons_zero, List.set_cons_succ, i64_w, i32_w]
                          rfl
                        refine pure_ (i := 2) (N := some 33) (v := ?_) (a' := ?_) #[true, true, true, false, false, false, false, false, false, false, false, false, false] rfl rfl (any_of HT_.out (by kernel_rfl)) (fun _ _ _ h => h) (Or.inl ⟨by rfl, ?_⟩) ?_ ?_
                        rotate_left
                        · intro w'
                          go_simp
                          with_reducible rfl
                        rotate_left
                        · simp only [Act.put, List.setIfInBounds_toArray, List.set_cons_zero, List.set_cons_succ, i64_w, i32_w]
                          rfl
                        refine pure_ (i := 3) (N := some 34) (v := ?_) (a' := ?_) #[true, true, true, true, false, false, false, false, false, false, false, false, false] rfl rfl (any_of HT_.out (by kernel_rfl)) (fun _ _ _ h => h) (Or.inl ⟨by rfl, ?_⟩) ?_ ?_
                        rotate_left
                        · intro w'
                          go_simp
                          with_reducible rfl
                        rotate_left
                        · simp only [Act.put, List.setIfInBounds_toArray, List.set_cons_zero, List.set_cons_succ, i64_w, i32_w]
                          rfl
                        refine pure_ (i := 4) (N := some 35) (v := ?_) (a' := ?_) #[true, true, true, true, true, false, false, false, false, false, false, false, false] rfl rfl (any_of HT_.out (by kernel_rfl)) (fun _ _ _ h => h) (Or.inl ⟨by rfl, ?_⟩) ?_ ?_
                        rotate_left
                        · intro w'
                          go_simp
                          with_reducible rfl
                        rotate_left
                        · simp only [Act.put, List.setIfInBounds_toArray, List.set_cons_zero, List.set_cons_succ, i64_w, i32_w]
                          rfl
                        refine pure_ (i := 6) (N := some 37) (v := ?_) (a' := ?_) #[true, true, true, true, true, false, true, false, false, false, false, false, false] rfl rfl (any_of HT_.out (by kernel_rfl)) (fun _ _ _ h => h) (Or.inl ⟨by rfl, ?_⟩) ?_ ?_
                        rotate_left
                        · intro w'
                          go_simp
                          with_reducible rfl
                        rotate_left
                        · simp only [Act.put, List.setIfInBounds_toArray, List.set_cons_zero, List.set_cons_succ, i64_w, i32_w]
                          rfl
                        refine pure_ (i := 7) (N := some 38) (v := ?_) (a' := ?_) #[true, true, true, true, true, false, true, true, false, false, false, false, false] rfl rfl (any_of HT_.out (by kernel_rfl)) (fun _ _ _ h => h) (Or.inl ⟨by rfl, ?_⟩) ?_ ?_
                        rotate_left
                        · intro w'
                          go_simp
                          with_reducible rfl
                        rotate_left
                        · simp only [Act.put, List.setIfInBounds_toArray, List.set_cons_zero, List.set_cons_succ, i64_w, i32_w]
                          rfl
                        refine pure_ (i := 8) (N := some 39) (v := ?_) (a' := ?_) #[true, true, true, true, true, false, true, true, true, false, false, false, false] rfl rfl (any_of HT_.out (by kernel_rfl)) (fun _ _ _ h => h) (Or.inl ⟨by rfl, ?_⟩) ?_ ?_
                        rotate_left
                        · intro w'
                          go_simp
                          with_reducible rfl
                        rotate_left
                        · simp only [Act.put, List.setIfInBounds_toArray, List.set_cons_zero, List.set_cons_succ, i64_w, i32_w]
                          rfl
                        refine take_ (i := 5) (N := some 36) (v := ?_) (a' := ?_) #[true, true, true, true, true, true, true, true, true, false, false, false, false] rfl rfl (take_ofW HT_.out HW_.out (by kernel_rfl)) (fun _ _ _ h => h) (Or.inl ⟨by rfl, ?_⟩) hHeld ?_ ?_
                        rotate_left
                        · rintro w' ⟨s0, s1⟩
                          go_simp
                          with_reducible rfl
                        rotate_left
                        · simp only [Act.put, List.setIfInBounds_toArray, List.set_cons_zero, List.set_cons_succ, i64_w, i32_w]
                          rfl
                        refine take_ (i := 9) (N := some 40) (v := ?_) (a' := ?_) #[true, true, true, true, true, true, true, true, true, true, false, false, false] rfl rfl (take_ofW HT_.out HW_.out (by kernel_rfl)) (fun _ _ _ h => h) (Or.inl ⟨by rfl, ?_⟩) hHeld ?_ ?_
                        rotate_left
                        · rintro w' ⟨s0, s1⟩
                          go_simp
                          with_reducible rfl
                        rotate_left
                        · simp only [Act.put, List.setIfInBounds_toArray, List.set_cons_zero, List.set_cons_succ, i64_w, i32_w]
                          rfl
                        refine pure_ (i := 10) (N := some 41) (v := ?_) (a' := ?_) #[true, true, true, true, true, true, true, true, true, true, true, false, false] rfl rfl (any_of HT_.out (by kernel_rfl)) (fun _ _ _ h => h) (Or.inl ⟨by rfl, ?_⟩) ?_ ?_
                        rotate_left
                        · intro w'
                          go_simp
                          with_reducible rfl
                        rotate_left
                        · simp only [Act.put, List.setIfInBounds_toArray, List.set_cons_zero, List.set_cons_succ, i64_w, i32_w]
                          rfl
                        refine pure_ (i := 11) (N := some 42) (v := ?_) (a' := ?_) #[true, true, true, true, true, true, true, true, true, true, true, true, false] rfl rfl (any_of HT_.out (by kernel_rfl)) (fun _ _ _ h => h) (Or.inl ⟨by rfl, ?_⟩) ?_ ?_
                        rotate_left
                        · intro w'
                          go_simp
                          with_reducible rfl
                        rotate_left
                        · simp only [Act.put, List.setIfInBounds_toArray, List.set_cons_zero, List.set_cons_succ, i64_w, i32_w]
                          rfl
                        refine last_ (i := 12) (N := none) #[true, true, true, true, true, true, true, true, true, true, true, true, true] rfl rfl (one_of HT_.out (by kernel_rfl)) (by decide) (fun K hK => ?_)
                        refine skip_ (w1 := ?_) (by rfl) rfl ?_ ?_
                        rotate_left
                        · go_simp
                          rfl
                        refine hK.out _ _ ?_
                        clear hK K
                        refine done_ (done_of HT_.out (by kernel_rfl)) ?_
                        try go_wp2
                        go_roundg k1
                        case measure => have := HK1.out; omega
                        case rel => exact ⟨(y504), (wrap64 (x28_1 + 1)), (by first | rfl | (simp; done) | (simp [*]; done)), H', ⟨by have := HK1.out; omega⟩, ⟨by (with_reducible repeat (first | apply Kd.N_alloc | apply Kd.N_drewN | apply Kd.N_drew)); exact Kd.N_mono (Kd.N_far (p := ⟨go18, (x28_1 : Int).toNat, none⟩) (Kd.N_mono HO_5.out (fun k_ hk => (⟨hk, fun e_ => hk.2.1 (by rw [e_]; rfl)⟩ : _ ∧ k_ ≠ go18))) (fun _ hk => hk.2) (.slice A497_0 y499.length c497_0)) (fun _ hk => ⟨hk.1.1, ⟨hk.1.2.1, hk.1.2.2⟩⟩)⟩, ⟨by (with_reducible repeat (first | apply Kd.R_alloc | apply Kd.R_drewN | apply Kd.R_drew)); exact Kd.R_mono (Kd.R_far (p := ⟨go18, (x28_1 : Int).toNat, none⟩) (Kd.R_types HO_6.out GG18.out (by decide)) (fun _ hk => hk.2) (.slice A497_0 y499.length c497_0)) (fun _ hk => trivial)⟩, ⟨by (with_reducible repeat (first | apply Kd.N_alloc | apply Kd.N_drewN | apply Kd.N_drew)); exact HQ22.out⟩, ⟨by repeat (first | (with_reducible first | exact HI0.out | apply IsS61.alloc | apply IsS61.drewN | apply IsS61.drew | apply IsS61.set_1 | refine IsS61.far ?_ HN0_go18.out _) | exact HI0.out)⟩, ⟨by repeat (first | (with_reducible first | exact HK.out | apply KeepBut.set_ | apply keep_drewN | apply keep_drew | apply keep_alloc | refine keep_far ?_ GB18.out _) | exact HK.out)⟩, ⟨by repeat (first | (with_reducible first | exact HB.out | apply below_alloc | apply pw_below_drewN | apply below_drew1 | refine below_set ?_ (Nat.le_trans HL.out GB18.out) | refine below_set ?_ (IsS61.ge HI0.out)) | exact HB.out)⟩⟩
                      · rw [if_neg c17] at H
                        exact absurd H (by simp)
                    · rw [if_neg c16] at H
                      exact absurd H (by simp)
                  · rw [if_neg c15] at H
                    exact absurd H (by simp)
                · rw [if_neg c14] at H
                  exact absurd H (by simp)
              · rw [if_neg c13] at H
                exact absurd H (by simp)
            · rw [if_neg c12] at H
              exact absurd H (by simp)
          · rw [if_neg c11] at H
            have c11b0 : decide (x28_1 < (t486.length : Int)) = false := decide_eq_false c11
            clear c11
            replace H := Option.bind_eq_some_iff.mp H
            obtain ⟨⟨t505, t506⟩, A230, H⟩ := H
            replace H : ((cut_Floor.f k1 t485 t486 t490).bind fun bt507 => (if t506 = 0 then (if bt507.2 = 0 then (if t505 = bt507.1 then ((partsynclaw21_begun.f k1).bind fun t509 => (some (t509, t493))) else (some (false, t493))) else (some (false, t493))) else (some (false, t493)))) = some (r1, r2) := H
            have A23 := Aside0.mk A230
            clear A230
            replace H := Option.bind_eq_some_iff.mp H
            obtain ⟨⟨t507, t508⟩, A240, H⟩ := H
            replace H : (if t506 = 0 then (if t508 = 0 then (if t505 = t507 then ((partsynclaw21_begun.f k1).bind fun t509 => (some (t509, t493))) else (some (false, t493))) else (some (false, t493))) else (some (false, t493))) = some (r1, r2) := H
            have A24 := Aside0.mk A240
            clear A240
            by_cases c25 : t506 = 0
            · rw [if_pos c25] at H
              have c25b0 : (t506 == 0) = true := beq_iff_eq.mpr c25
              have c25b1 : (t506 != 0) = false := bne_eq_false_iff_eq.mpr c25
              clear c25
              by_cases c26 : t508 = 0
              · rw [if_pos c26] at H
                have c26b0 : (t508 == 0) = true := beq_iff_eq.mpr c26
                have c26b1 : (t508 != 0) = false := bne_eq_false_iff_eq.mpr c26
                clear c26
                by_cases c27 : t505 = t507
                · rw [if_pos c27] at H
                  have c27b0 : (t505 == t507) = true := beq_iff_eq.mpr c27
                  have c27b1 : (t505 != t507) = false := bne_eq_false_iff_eq.mpr c27
                  clear c27
                  replace H := Option.bind_eq_some_iff.mp H
                  obtain ⟨t509, A280, H⟩ := H
                  replace H : (some (t509, t493)) = some (r1, r2) := H
                  have A28 := Aside0.mk A280
                  clear A280
                  simp only [Option.some.injEq, Prod.mk.injEq] at H
                  obtain ⟨rfl, rfl⟩ := H
                  obtain ⟨Ao29, co29, eo29⟩ := Kd.N_slice HO_7.out
                  subst eo29
                  go_wp2_with (first | ((with_reducible refine gate_callee (f := 23) rfl ?_); refine goesL_ (some 47) rfl rfl Try.func23 (by kernel_rfl) rfl #[.int .i64 t485, .slice Ao29 x7_1.length co29] rfl (by (try simp only [List.map_toArray, List.map_cons, List.map_nil]); first | done | rfl | (simp only [List.length_drop, List.length_take]; rfl)) ?_; (with_reducible refine (cut_Whole.calls k1 t485 _ _ x7_1 t505 t506 _ ?side1 ?side2 A23.out).mono ?_); (case side1 => repeat (first | exact (Kd.N_reads' HO_7.out).2.2 | (with_reducible refine Kd.C_alloc ?_ _) | (with_reducible refine Kd.C_drewN ?_ _) | (with_reducible refine Kd.C_drew ?_))); (case side2 => exact (Kd.N_reads' HO_7.out).2.1); rintro e w30 ⟨rfl, hb⟩; refine ⟨_, rfl, ?_⟩; have n0_ := Aside0.mk (Kd.N_below (by (with_reducible repeat (first | apply Kd.N_alloc | apply Kd.N_drewN | apply Kd.N_drew)); exact HO_5.out) hb); have n1_ := Aside0.mk (Kd.R_below (by (with_reducible repeat (first | apply Kd.R_alloc | apply Kd.R_drewN | apply Kd.R_drew)); exact HO_6.out) hb); have n2_ := Aside0.mk (Kd.N_below (by (with_reducible repeat (first | apply Kd.N_alloc | apply Kd.N_drewN | apply Kd.N_drew)); exact HO_7.out) hb); have n3_ := Aside0.mk (IsS61.below (by repeat (first | (with_reducible first | exact HI0.out | apply IsS61.alloc | apply IsS61.drewN | apply IsS61.drew | apply IsS61.set_1) | exact HI0.out)) hb); have n4_ := Aside0.mk (KeepBut.trans (by repeat (first | (with_reducible first | exact HK.out | apply KeepBut.set_ | apply keep_drewN | apply keep_drew | apply keep_alloc) | exact HK.out)) (KeepBut.of_below hb g none) (.inl rfl)); have n5_ := Aside0.mk (below_step (by repeat (first | (with_reducible first | exact HB.out | apply below_alloc | apply pw_below_drewN | apply below_drew1 | refine below_set ?_ (IsS61.ge HI0.out)) | exact HB.out)) hb); clear HO_5; clear HO_6; clear HO_7; clear HI0; clear HK; clear HB; have HO_5 := n0_; have HO_6 := n1_; have HO_7 := n2_; have HI0 := n3_; have HK := n4_; have HB := n5_; clear n0_ n1_ n2_ n3_ n4_ n5_; (try clear hb); (try clear hb2); (try clear hk); (try clear hi); obtain ⟨Ao31, co31, eo31⟩ := Kd.R_slice HO_6.out; subst eo31) | ((with_reducible refine gate_callee (f := 24) rfl ?_); refine goesL_ (some 54) rfl rfl Try.func24 (by kernel_rfl) rfl #[.int .i64 t485, .slice Ao7 t486.length co7, .slice Ao31 t490.length co31] rfl (by (try simp only [List.map_toArray, List.map_cons, List.map_nil]); first | done | rfl | (simp only [List.length_drop, List.length_take]; rfl)) ?_; (with_reducible refine (cut_Floor.calls k1 t485 _ _ t486 _ _ t490 t507 t508 _ ?side1 ?side2 ?side3 ?side4 A24.out).mono ?_); (case side1 => repeat (first | exact (Kd.N_reads' HO_5.out).2.2 | (with_reducible refine Kd.C_alloc ?_ _) | (with_reducible refine Kd.C_drewN ?_ _) | (with_reducible refine Kd.C_drew ?_))); (case side2 => exact (Kd.N_reads' HO_5.out).2.1); (case side3 => repeat (first | exact (Kd.R_reads' HO_6.out).2.2 | (with_reducible refine Kd.C_alloc ?_ _) | (with_reducible refine Kd.C_drewN ?_ _) | (with_reducible refine Kd.C_drew ?_))); (case side4 => exact (Kd.R_reads' HO_6.out).2.1); rintro e w32 ⟨rfl, hb⟩; refine ⟨_, rfl, ?_⟩; have n0_ := Aside0.mk (Kd.N_below (by (with_reducible repeat (first | apply Kd.N_alloc | apply Kd.N_drewN | apply Kd.N_drew)); exact HO_5.out) hb); have n1_ := Aside0.mk (Kd.R_below (by (with_reducible repeat (first | apply Kd.R_alloc | apply Kd.R_drewN | apply Kd.R_drew)); exact HO_6.out) hb); have n2_ := Aside0.mk (Kd.N_below (by (with_reducible repeat (first | apply Kd.N_alloc | apply Kd.N_drewN | apply Kd.N_drew)); exact HO_7.out) hb); have n3_ := Aside0.mk (IsS61.below (by repeat (first | (with_reducible first | exact HI0.out | apply IsS61.alloc | apply IsS61.drewN | apply IsS61.drew | apply IsS61.set_1) | exact HI0.out)) hb); have n4_ := Aside0.mk (KeepBut.trans (by repeat (first | (with_reducible first | exact HK.out | apply KeepBut.set_ | apply keep_drewN | apply keep_drew | apply keep_alloc) | exact HK.out)) (KeepBut.of_below hb g none) (.inl rfl)); have n5_ := Aside0.mk (below_step (by repeat (first | (with_reducible first | exact HB.out | apply below_alloc | apply pw_below_drewN | apply below_drew1 | refine below_set ?_ (IsS61.ge HI0.out)) | exact HB.out)) hb); clear HO_5; clear HO_6; clear HO_7; clear HI0; clear HK; clear HB; have HO_5 := n0_; have HO_6 := n1_; have HO_7 := n2_; have HI0 := n3_; have HK := n4_; have HB := n5_; clear n0_ n1_ n2_ n3_ n4_ n5_; (try clear hb); (try clear hb2); (try clear hk); (try clear hi)) | (go_at_call 20; (with_reducible refine (partsynclaw21_begun.calls k1  t509 _ A28.out).mono ?_); rintro e w33 ⟨rfl, hb⟩; have n0_ := Aside0.mk (Kd.N_below (by (with_reducible repeat (first | apply Kd.N_alloc | apply Kd.N_drewN | apply Kd.N_drew)); exact HO_5.out) hb); have n1_ := Aside0.mk (Kd.R_below (by (with_reducible repeat (first | apply Kd.R_alloc | apply Kd.R_drewN | apply Kd.R_drew)); exact HO_6.out) hb); have n2_ := Aside0.mk (Kd.N_below (by (with_reducible repeat (first | apply Kd.N_alloc | apply Kd.N_drewN | apply Kd.N_drew)); exact HO_7.out) hb); have n3_ := Aside0.mk (IsS61.below (by repeat (first | (with_reducible first | exact HI0.out | apply IsS61.alloc | apply IsS61.drewN | apply IsS61.drew | apply IsS61.set_1) | exact HI0.out)) hb); have n4_ := Aside0.mk (KeepBut.trans (by repeat (first | (with_reducible first | exact HK.out | apply KeepBut.set_ | apply keep_drewN | apply keep_drew | apply keep_alloc) | exact HK.out)) (KeepBut.of_below hb g none) (.inl rfl)); have n5_ := Aside0.mk (below_step (by repeat (first | (with_reducible first | exact HB.out | apply below_alloc | apply pw_below_drewN | apply below_drew1 | refine below_set ?_ (IsS61.ge HI0.out)) | exact HB.out)) hb); clear HO_5; clear HO_6; clear HO_7; clear HI0; clear HK; clear HB; have HO_5 := n0_; have HO_6 := n1_; have HO_7 := n2_; have HI0 := n3_; have HK := n4_; have HB := n5_; clear n0_ n1_ n2_ n3_ n4_ n5_; (try clear hb); (try clear hb2); (try clear hk); (try clear hi)))
                  go_ret
                  exact ⟨w, w0, g, HN0.out, by first | rfl | (simp [errW_none, errW_some] <;> rfl) | (simp [*, errW_none, errW_some] <;> rfl), by repeat (first | (with_reducible first | exact HI0.out | apply IsS61.alloc | apply IsS61.drewN | apply IsS61.drew | apply IsS61.set_1) | exact HI0.out), by repeat (first | (with_reducible first | exact HB.out | apply below_alloc | apply pw_below_drewN | apply below_drew1 | refine below_set ?_ (IsS61.ge HI0.out)) | exact HB.out), by repeat (first | (with_reducible first | exact HK.out | apply KeepBut.set_ | apply keep_drewN | apply keep_drew | apply keep_alloc) | exact HK.out)⟩
                · rw [if_neg c27] at H
                  have c27b0 : (t505 == t507) = false := beq_eq_false_iff_ne.mpr c27
                  have c27b1 : (t505 != t507) = true := bne_iff_ne.mpr c27
                  exact (partsynclaw21_CutRecovers.lf HRT.out H).elim
              · rw [if_neg c26] at H
                have c26b0 : (t508 == 0) = false := beq_eq_false_iff_ne.mpr c26
                have c26b1 : (t508 != 0) = true := bne_iff_ne.mpr c26
                exact (partsynclaw21_CutRecovers.lf HRT.out H).elim
            · rw [if_neg c25] at H
              have c25b0 : (t506 == 0) = false := beq_eq_false_iff_ne.mpr c25
              have c25b1 : (t506 != 0) = true := bne_iff_ne.mpr c25
              exact (partsynclaw21_CutRecovers.lf HRT.out H).elim
    · rw [if_neg c5] at H
      exact absurd H (by simp)
  · rw [if_neg c4] at H
    exact absurd H (by simp)

end Go.Proofs.Ytkhiglincdognaa.PA
