-- WRITTEN BY A PROGRAM OF THIS SESSION (wip/cut/printx.py). Not trusted: Lean checks it.
import Derived.Test.YtkhiglincdognaaPAx0
import Derived.Test.YtkhiglincdognaaPAx1
import Derived.Test.YtkhiglincdognaaPAx2
import Derived.Test.YtkhiglincdognaaPAx6
import Derived.Test.YtkhiglincdognaaHMaps
namespace Go.Proofs.Ytkhiglincdognaa.PA
open Go.RowKit Go.Proofs.YtkhiglincdognaaW.PrintWords Go.Proofs.YtkhiglincdognaaW.PrintLast Go.Proofs.YtkhiglincdognaaW.PrintMore
attribute [local go_sem] max2_int min2_int max_two min_two max_three min_three max_four min_four   -- for this text's walks alone
set_option linter.unusedVariables false
set_option linter.unusedSimpArgs false

/-! ### cut_Close: function 34 -/
def cut_Close.l0 : Nat → List (List (S50)) → List Int → Option (List Int × Int)
  | 0, _, _ => none
  | k + 1, x1, x9 => (cut_open.f k x1 x9).bind fun bt204 => (if bt204.2.2 = true then (if 0 ≤ bt204.1 then (if bt204.1 < (x9.length : Int) then (cut_Close.l0 k x1 (x9.set (bt204.1 : Int).toNat bt204.2.1)) else (none)) else (none)) else (some (x9, 0)))
def cut_Close.f (k : Nat) (a0 : Int) (l1 : List (List (S50))) (l2 : List Int) : Option (List Int × Int) := (cut_checkCut.f k a0 l1 l2).bind fun t200 => (if t200 = 0 then ((slices_Clone_int_int.f l2).bind fun t201 => (cut_Close.l0 k l1 t201)) else (some (([] : List Int), t200)))
theorem cut_Close.mono_l : ∀ k, (∀ y0 y1, LeO (cut_Close.l0 k y0 y1) (cut_Close.l0 (k + 1) y0 y1))
  | 0 => fun _ _ r h => by simp [cut_Close.l0] at h
  | k + 1 => by
    have ih0 := cut_Close.mono_l k
    · intro y0 y1
      unfold cut_Close.l0
      repeat' first
      | (with_reducible exact ih0 _ _)
      | (with_reducible exact cut_checkCut.mono _ _ _ _)
      | (with_reducible exact cut_open.mono _ _ _)
      | (with_reducible exact LeO.refl _)
      | (with_reducible exact LeO.none _)
      | (with_reducible refine LeO.ite ?_ ?_)
      | (with_reducible refine LeO.bind ?_ (fun _ => ?_))
      | exact ih0 _ _
      | exact cut_checkCut.mono _ _ _ _
      | exact cut_open.mono _ _ _
      | exact LeO.none _
      | refine LeO.ite ?_ ?_
      | refine LeO.bind ?_ (fun _ => ?_)
theorem cut_Close.mono : ∀ a0 a1 a2 k, LeO (cut_Close.f k a0 a1 a2) (cut_Close.f (k + 1) a0 a1 a2) := by
  intro a0 a1 a2 k
  have ih0 := cut_Close.mono_l k
  unfold cut_Close.f
  repeat' first
      | (with_reducible exact ih0 _ _)
      | (with_reducible exact cut_checkCut.mono _ _ _ _)
      | (with_reducible exact cut_open.mono _ _ _)
      | (with_reducible exact LeO.refl _)
      | (with_reducible exact LeO.none _)
      | (with_reducible refine LeO.ite ?_ ?_)
      | (with_reducible refine LeO.bind ?_ (fun _ => ?_))
      | exact ih0 _ _
      | exact cut_checkCut.mono _ _ _ _
      | exact cut_open.mono _ _ _
      | exact LeO.none _
      | refine LeO.ite ?_ ?_
      | refine LeO.bind ?_ (fun _ => ?_)
set_option maxHeartbeats 8000000 in
set_option maxRecDepth 100000 in
theorem cut_Close.calls (k : Nat) (a0 : Int) (A1 : Option Addr) (c1 : Nat) (l1 : List (List (S50))) (A2 : Option Addr) (c2 : Nat) (l2 : List Int) (r1 : List Int) (r2 : Int) (w : World) (hr1 : Kd.C (Kd.slice 50 k50) w A1 l1.length l1) (hc1 : l1.length ≤ c1) (hr2 : Kd.C (Kd.int .i64) w A2 l2.length l2) (hc2 : l2.length ≤ c2) (h : cut_Close.f k a0 l1 l2 = some (r1, r2)) :
    Calls Try.prog 34 #[.int .i64 a0, .slice A1 l1.length c1, .slice A2 l2.length c2] w fun e w' => ∃ v0_ : Value, e = .returned (.tuple #[v0_, .int .i64 r2]) ∧ Kd.R (Kd.int .i64) 3 w' w.heap.size (fun _ => True) v0_ r1 ∧ Below w.heap.size w w' := by
  have HR1 := Aside0.mk hr1
  have HC1 := Aside0.mk hc1
  clear hr1 hc1
  have HR2 := Aside0.mk hr2
  have HC2 := Aside0.mk hc2
  clear hr2 hc2
  have HB := Aside0.mk (Below.refl w.heap.size w)
  have H : ((cut_checkCut.f k a0 l1 l2).bind fun t200 => (if t200 = 0 then ((slices_Clone_int_int.f l2).bind fun t201 => (cut_Close.l0 k l1 t201)) else (some (([] : List Int), t200)))) = some (r1, r2) := h
  clear h
  replace H := Option.bind_eq_some_iff.mp H
  obtain ⟨t200, A40, H⟩ := H
  replace H : (if t200 = 0 then ((slices_Clone_int_int.f l2).bind fun t201 => (cut_Close.l0 k l1 t201)) else (some (([] : List Int), t200))) = some (r1, r2) := H
  have A4 := Aside0.mk A40
  clear A40
  by_cases c5 : t200 = 0
  · rw [if_pos c5] at H
    have c5b0 : (t200 == 0) = true := beq_iff_eq.mpr c5
    have c5b1 : (t200 != 0) = false := bne_eq_false_iff_eq.mpr c5
    clear c5
    replace H := Option.bind_eq_some_iff.mp H
    obtain ⟨t201, A60, H⟩ := H
    replace H : (cut_Close.l0 k l1 t201) = some (r1, r2) := H
    have A6 := Aside0.mk A60
    clear A60
    have H' := Aside0.mk H
    clear H
    go_enter Try.func34, Try.ntmps34
    go_wp2_with (first | ((with_reducible refine gate_callee (f := 42) rfl ?_); refine goesL_ (some 16) rfl rfl Try.func42 (by kernel_rfl) rfl #[.int .i64 a0, .slice A1 l1.length c1, .slice A2 l2.length c2] rfl (by (try simp only [List.map_toArray, List.map_cons, List.map_nil]); first | done | rfl | (simp only [List.length_drop, List.length_take]; rfl)) ?_; (with_reducible refine (cut_checkCut.calls k a0 _ _ l1 _ _ l2 t200 _ ?side1 ?side2 ?side3 ?side4 A4.out).mono ?_); (case side1 => repeat (first | exact HR1.out | (with_reducible refine Kd.C_alloc ?_ _) | (with_reducible refine Kd.C_drewN ?_ _) | (with_reducible refine Kd.C_drew ?_))); (case side2 => exact HC1.out); (case side3 => repeat (first | exact HR2.out | (with_reducible refine Kd.C_alloc ?_ _) | (with_reducible refine Kd.C_drewN ?_ _) | (with_reducible refine Kd.C_drew ?_))); (case side4 => exact HC2.out); rintro e w7 ⟨rfl, hb⟩; refine ⟨_, rfl, ?_⟩; have n0_ := Aside0.mk (below_step (by repeat (first | (with_reducible first | exact HB.out | apply below_alloc | apply pw_below_drewN | apply below_drew1) | exact HB.out)) hb); clear HB; have HB := n0_; clear n0_; (try clear hb); (try clear hb2); (try clear hk); (try clear hi)) | ((with_reducible refine gate_callee (f := 54) rfl ?_); refine goesL_ (some 21) rfl rfl Try.func54 (by kernel_rfl) rfl #[.slice A2 l2.length c2] rfl (by (try simp only [List.map_toArray, List.map_cons, List.map_nil]); first | done | rfl | (simp only [List.length_drop, List.length_take]; rfl)) ?_; (with_reducible refine (slices_Clone_int_int.calls _ _ l2 t201 _ ?side1 ?side2 A6.out).mono ?_); (case side1 => repeat (first | exact (Kd.C_below HR2.out HB.out) | (with_reducible refine Kd.C_alloc ?_ _) | (with_reducible refine Kd.C_drewN ?_ _) | (with_reducible refine Kd.C_drew ?_))); (case side2 => exact HC2.out); rintro e w8 ⟨v202, rfl, ho0, hb⟩; refine ⟨_, rfl, ?_⟩; have n0_ := Aside0.mk (Kd.R_lower ho0 (below_size (by repeat (first | (with_reducible first | exact HB.out | apply below_alloc | apply pw_below_drewN | apply below_drew1) | exact HB.out)))); have n1_ := Aside0.mk (below_step (by repeat (first | (with_reducible first | exact HB.out | apply below_alloc | apply pw_below_drewN | apply below_drew1) | exact HB.out)) hb); clear HB; have HO203 := n0_; have HB := n1_; clear n0_ n1_; (try clear hb); (try clear hb2); (try clear hk); (try clear hi); (try clear ho0)))
    go_loopg [] k (fun kq w' => ∃ (x9_1 : List Int), Aside0 (cut_Close.l0 kq l1 x9_1 = some (r1, r2)) ∧ Aside0 (kq ≤ k) ∧ Aside0 (Kd.R (Kd.int .i64) 3 w' w.heap.size (fun _ => True) v202 x9_1) ∧ Aside0 (Below w.heap.size w w'))
    case atStart => exact ⟨(t201), H', ⟨Nat.le_refl _⟩, ⟨by (with_reducible repeat (first | apply Kd.R_alloc | apply Kd.R_drewN | apply Kd.R_drew)); exact HO203.out⟩, ⟨by repeat (first | (with_reducible first | exact HB.out | apply below_alloc | apply pw_below_drewN | apply below_drew1) | exact HB.out)⟩⟩
    case round =>
      clear H'
      try clear c1
      try clear c2
      try clear p2
      try clear c3
      try clear c4
      try clear c5
      try clear c5b0
      try clear c5b1
      obtain ⟨x9_1, HA, HK1, HO_9, HB⟩ := hrel
      cases gk with
      | zero => exact absurd HA.out (by simp [cut_Close.l0])
      | succ k1 =>
        have H := HA.out
        clear HA
        simp only [cut_Close.l0] at H
        replace H := Option.bind_eq_some_iff.mp H
        obtain ⟨⟨t204, t205, t206⟩, A90, H⟩ := H
        replace H : (if t206 = true then (if 0 ≤ t204 then (if t204 < (x9_1.length : Int) then (cut_Close.l0 k1 l1 (x9_1.set (t204 : Int).toNat t205)) else (none)) else (none)) else (some (x9_1, 0))) = some (r1, r2) := H
        have A9 := Aside0.mk A90
        clear A90
        by_cases c10 : t206 = true
        · subst c10
          have H1 : (if 0 ≤ t204 then (if t204 < (x9_1.length : Int) then (cut_Close.l0 k1 l1 (x9_1.set (t204 : Int).toNat t205)) else (none)) else (none)) = some (r1, r2) := by rw [if_pos rfl] at H; exact H
          clear H
          have H := H1
          clear H1
          by_cases c11 : 0 ≤ t204
          · rw [if_pos c11] at H
            have c11b0 : decide (0 ≤ t204) = true := decide_eq_true c11
            clear c11
            by_cases c12 : t204 < (x9_1.length : Int)
            · rw [if_pos c12] at H
              have c12b0 : decide (t204 < (x9_1.length : Int)) = true := decide_eq_true c12
              clear c12
              obtain ⟨y207, hy207⟩ : ∃ y_ : List Int, y_ = (x9_1.set (t204 : Int).toNat t205) := ⟨_, rfl⟩
              replace H : (cut_Close.l0 k1 l1 y207) = some (r1, r2) := by first | (rw [hy207]; with_reducible exact H) | (have H2_ := (Option.bind_some _ _).symm.trans H; rw [hy207]; with_reducible exact H2_) | (have H2_ := (Option.bind_some _ _).symm.trans H; with_reducible exact H2_) | with_reducible exact H | (rw [hy207]; exact H) | exact H
              have Ny207 := Aside0.mk hy207
              clear hy207
              have H' := Aside0.mk H
              clear H
              obtain ⟨Ao14, co14, eo14⟩ := Kd.R_slice HO_9.out
              subst eo14
              go_wp2_with (first | ((with_reducible refine gate_callee (f := 45) rfl ?_); refine goesL_ (some 25) rfl rfl Try.func45 (by kernel_rfl) rfl #[.slice A1 l1.length c1, .slice Ao14 x9_1.length co14] rfl (by (try simp only [List.map_toArray, List.map_cons, List.map_nil]); first | done | rfl | (simp only [List.length_drop, List.length_take]; rfl)) ?_; (with_reducible refine (cut_open.calls k1 _ _ l1 _ _ x9_1 t204 t205 true _ ?side1 ?side2 ?side3 ?side4 A9.out).mono ?_); (case side1 => repeat (first | exact (Kd.C_below HR1.out HB.out) | (with_reducible refine Kd.C_alloc ?_ _) | (with_reducible refine Kd.C_drewN ?_ _) | (with_reducible refine Kd.C_drew ?_))); (case side2 => exact HC1.out); (case side3 => repeat (first | exact (Kd.R_reads' HO_9.out).2.2 | (with_reducible refine Kd.C_alloc ?_ _) | (with_reducible refine Kd.C_drewN ?_ _) | (with_reducible refine Kd.C_drew ?_))); (case side4 => exact (Kd.R_reads' HO_9.out).2.1); rintro e w15 ⟨rfl, hb⟩; refine ⟨_, rfl, ?_⟩; have n0_ := Aside0.mk (Kd.R_below (by (with_reducible repeat (first | apply Kd.R_alloc | apply Kd.R_drewN | apply Kd.R_drew)); exact HO_9.out) hb); have n1_ := Aside0.mk (below_step (by repeat (first | (with_reducible first | exact HB.out | apply below_alloc | apply pw_below_drewN | apply below_drew1) | exact HB.out)) hb); clear HO_9; clear HB; have HO_9 := n0_; have HB := n1_; clear n0_ n1_; (try clear hb); (try clear hb2); (try clear hk); (try clear hi); have p13 : 0 ≤ (t204 : Int) := of_decide_eq_true (by first | (with_reducible assumption) | assumption); have q13 : (t204 : Int) < ((x9_1.length : Int) : Int) := of_decide_eq_true (by first | (with_reducible assumption) | assumption); obtain ⟨go13, co13, eo13, gb13, gl13, cl13, HG13⟩ := Kd.R_form HO_9.out (by omega); (first | cases eo13 | (injection eo13 with ea_ en_ ec_; (first | subst ea_ | (injection ea_ with ea_; subst ea_)); subst ec_; clear en_)); have GB13 := Aside0.mk gb13; have GG13 := Aside0.mk HG13; clear gb13 gl13 HG13; obtain ⟨hx13_0, hf13_0⟩ := Kd.R_celln 0 HO_9.out (t204 : Int) p13 q13; replace p13 := eq_true p13; replace q13 := eq_true q13; obtain ⟨hy16_, hz16_⟩ := Kd.R_celln 0 HO_9.out (t204 : Int) (of_decide_eq_true (by first | (with_reducible assumption) | assumption)) (of_decide_eq_true (by first | (with_reducible assumption) | assumption)); have HP16 := Kd.R_putg HO_9.out (t204 : Int) t205) | ((with_reducible refine gate_store (t := 3) (p := 35) rfl ?_); refine store_event (t := 3) (p := 35) (v := ?vo_w17) (w1 := (w15.setCell ⟨go13, (t204 : Int).toNat, none⟩ (.int .i64 t205))) ?hg ?ho ?hn ?hr ?_; (case ho => rfl); (case hg => rfl); (case hn => rfl); (case hr => first | (go_simp; done) | (go_simp; rfl)); intro w17 hw; have hg : w15.grownBy w17 (some go13) := (by rw [hw]; exact HP16.2); have hp_ : Kd.R (Kd.int .i64) 3 w17 w.heap.size (fun _ => True) (.slice (some ⟨go13, 0, none⟩) x9_1.length co14) y207 := (by rw [hw, Ny207.out]; exact HP16.1); clear HP16; have n0_ := Aside0.mk (hp_); have n1_ := Aside0.mk ((by rw [hw]; exact below_set (HB.out) GB13.out : Below w.heap.size w w17)); clear HO_9; clear HB; have HO_9 := n0_; have HB := n1_; clear n0_ n1_; clear hg hw hp_))
              go_roundg k1
              case measure => have := HK1.out; omega
              case rel => exact ⟨(y207), H', ⟨by have := HK1.out; omega⟩, ⟨by (with_reducible repeat (first | apply Kd.R_alloc | apply Kd.R_drewN | apply Kd.R_drew)); exact HO_9.out⟩, ⟨by repeat (first | (with_reducible first | exact HB.out | apply below_alloc | apply pw_below_drewN | apply below_drew1) | exact HB.out)⟩⟩
            · rw [if_neg c12] at H
              exact absurd H (by simp)
          · rw [if_neg c11] at H
            exact absurd H (by simp)
        · replace c10 := Bool.eq_false_iff.mpr c10
          subst c10
          have H1 : (some (x9_1, 0)) = some (r1, r2) := by rw [if_neg (show ¬ (false = true) by decide)] at H; exact H
          clear H
          have H := H1
          clear H1
          simp only [Option.some.injEq, Prod.mk.injEq] at H
          obtain ⟨rfl, rfl⟩ := H
          obtain ⟨Ao18, co18, eo18⟩ := Kd.R_slice HO_9.out
          subst eo18
          go_wp2_with (first | ((with_reducible refine gate_callee (f := 45) rfl ?_); refine goesL_ (some 25) rfl rfl Try.func45 (by kernel_rfl) rfl #[.slice A1 l1.length c1, .slice Ao18 x9_1.length co18] rfl (by (try simp only [List.map_toArray, List.map_cons, List.map_nil]); first | done | rfl | (simp only [List.length_drop, List.length_take]; rfl)) ?_; (with_reducible refine (cut_open.calls k1 _ _ l1 _ _ x9_1 t204 t205 false _ ?side1 ?side2 ?side3 ?side4 A9.out).mono ?_); (case side1 => repeat (first | exact (Kd.C_below HR1.out HB.out) | (with_reducible refine Kd.C_alloc ?_ _) | (with_reducible refine Kd.C_drewN ?_ _) | (with_reducible refine Kd.C_drew ?_))); (case side2 => exact HC1.out); (case side3 => repeat (first | exact (Kd.R_reads' HO_9.out).2.2 | (with_reducible refine Kd.C_alloc ?_ _) | (with_reducible refine Kd.C_drewN ?_ _) | (with_reducible refine Kd.C_drew ?_))); (case side4 => exact (Kd.R_reads' HO_9.out).2.1); rintro e w19 ⟨rfl, hb⟩; refine ⟨_, rfl, ?_⟩; have n0_ := Aside0.mk (Kd.R_below (by (with_reducible repeat (first | apply Kd.R_alloc | apply Kd.R_drewN | apply Kd.R_drew)); exact HO_9.out) hb); have n1_ := Aside0.mk (below_step (by repeat (first | (with_reducible first | exact HB.out | apply below_alloc | apply pw_below_drewN | apply below_drew1) | exact HB.out)) hb); clear HO_9; clear HB; have HO_9 := n0_; have HB := n1_; clear n0_ n1_; (try clear hb); (try clear hb2); (try clear hk); (try clear hi)))
          go_ret2
          exact ⟨_, by first | rfl | (simp [errW_none, errW_some] <;> rfl) | (simp [*, errW_none, errW_some] <;> rfl), by (with_reducible repeat (first | apply Kd.R_alloc | apply Kd.R_drewN | apply Kd.R_drew)); exact HO_9.out, by repeat (first | (with_reducible first | exact HB.out | apply below_alloc | apply pw_below_drewN | apply below_drew1) | exact HB.out)⟩
  · rw [if_neg c5] at H
    have c5b0 : (t200 == 0) = false := beq_eq_false_iff_ne.mpr c5
    have c5b1 : (t200 != 0) = true := bne_iff_ne.mpr c5
    simp only [Option.some.injEq, Prod.mk.injEq] at H
    obtain ⟨rfl, rfl⟩ := H
    go_enter Try.func34, Try.ntmps34
    go_wp2_with (first | ((with_reducible refine gate_callee (f := 42) rfl ?_); refine goesL_ (some 16) rfl rfl Try.func42 (by kernel_rfl) rfl #[.int .i64 a0, .slice A1 l1.length c1, .slice A2 l2.length c2] rfl (by (try simp only [List.map_toArray, List.map_cons, List.map_nil]); first | done | rfl | (simp only [List.length_drop, List.length_take]; rfl)) ?_; (with_reducible refine (cut_checkCut.calls k a0 _ _ l1 _ _ l2 t200 _ ?side1 ?side2 ?side3 ?side4 A4.out).mono ?_); (case side1 => repeat (first | exact HR1.out | (with_reducible refine Kd.C_alloc ?_ _) | (with_reducible refine Kd.C_drewN ?_ _) | (with_reducible refine Kd.C_drew ?_))); (case side2 => exact HC1.out); (case side3 => repeat (first | exact HR2.out | (with_reducible refine Kd.C_alloc ?_ _) | (with_reducible refine Kd.C_drewN ?_ _) | (with_reducible refine Kd.C_drew ?_))); (case side4 => exact HC2.out); rintro e w20 ⟨rfl, hb⟩; refine ⟨_, rfl, ?_⟩; have n0_ := Aside0.mk (below_step (by repeat (first | (with_reducible first | exact HB.out | apply below_alloc | apply pw_below_drewN | apply below_drew1) | exact HB.out)) hb); clear HB; have HB := n0_; clear n0_; (try clear hb); (try clear hb2); (try clear hk); (try clear hi)))
    go_ret2
    exact ⟨_, by first | rfl | (simp [errW_none, errW_some] <;> rfl) | (simp [*, errW_none, errW_some] <;> rfl), by first | exact Kd.R_nil _ _ _ _ _ | exact Kd.N_nil _ _ _ _ _ | exact Kd.V_nil _ _ _ _ _ | exact Kd.Q_nil _ _ _ _ _ | exact Kd.S_nil _ _ _ _ _, by repeat (first | (with_reducible first | exact HB.out | apply below_alloc | apply pw_below_drewN | apply below_drew1) | exact HB.out)⟩

/-! ### partsynclaw21_begun: function 20 -/
def partsynclaw21_begun.f (k : Nat)  : Option (Bool) := (some (([(([(⟨1, (([0, 1] : List Int))⟩ : S50), (⟨3, (([0] : List Int))⟩ : S50)] : List (S50))), (([(⟨1, (([0, 1] : List Int))⟩ : S50), (⟨2, (([1] : List Int))⟩ : S50)] : List (S50)))] : List (List (S50))) : List (List (S50)))).bind fun y226 => ((cut_Whole.f k 0 y226).bind fun bt229 => ((cut_Close.f k 0 y226 (([1, 0] : List Int))).bind fun bt234 => ((cut_Floor.f k 0 y226 (([2, 1] : List Int))).bind fun bt241 => (if bt229.2 = 0 then (if bt234.2 = 0 then (if bt241.2 = 0 then (if bt229.1 = 3 then ((slices_Equal_int_int.f k bt234.1 (([0, 0] : List Int))).bind fun t246 => (if t246 = true then (some (bt241.1 == 1)) else (some false))) else (some false)) else (some false)) else (some false)) else (some false)))))
theorem partsynclaw21_begun.mono : ∀ k, LeO (partsynclaw21_begun.f k ) (partsynclaw21_begun.f (k + 1) ) := by
  intro  k
  unfold partsynclaw21_begun.f
  repeat' first
      | (with_reducible exact cut_Close.mono _ _ _ _)
      | (with_reducible exact cut_Floor.mono _ _ _ _)
      | (with_reducible exact cut_Whole.mono _ _ _)
      | (with_reducible exact slices_Equal_int_int.mono _ _ _)
      | (with_reducible exact LeO.refl _)
      | (with_reducible exact LeO.none _)
      | (with_reducible refine LeO.ite ?_ ?_)
      | (with_reducible refine LeO.bind ?_ (fun _ => ?_))
      | exact cut_Close.mono _ _ _ _
      | exact cut_Floor.mono _ _ _ _
      | exact cut_Whole.mono _ _ _
      | exact slices_Equal_int_int.mono _ _ _
      | exact LeO.none _
      | refine LeO.ite ?_ ?_
      | refine LeO.bind ?_ (fun _ => ?_)
theorem partsynclaw21_begun.lf {r : Bool} (hr : r = true) (h : some false = some r) : False := by subst hr; simp at h
set_option maxHeartbeats 8000000 in
set_option maxRecDepth 100000 in
theorem partsynclaw21_begun.calls1 (k : Nat)  (r : Bool) (w : World) (h : partsynclaw21_begun.f k  = some r) (hr : r = true) :
    Calls Try.prog 20 #[] w fun e w' => e = .returned (.bool r) ∧ Below w.heap.size w w' := by
  have HRT := Aside0.mk hr
  clear hr
  have hu50 := Try.underlying50
  have HB := Aside0.mk (Below.refl w.heap.size w)
  have H : ((some (([(([(⟨1, (([0, 1] : List Int))⟩ : S50), (⟨3, (([0] : List Int))⟩ : S50)] : List (S50))), (([(⟨1, (([0, 1] : List Int))⟩ : S50), (⟨2, (([1] : List Int))⟩ : S50)] : List (S50)))] : List (List (S50))) : List (List (S50)))).bind fun y226 => ((cut_Whole.f k 0 y226).bind fun bt229 => ((cut_Close.f k 0 y226 (([1, 0] : List Int))).bind fun bt234 => ((cut_Floor.f k 0 y226 (([2, 1] : List Int))).bind fun bt241 => (if bt229.2 = 0 then (if bt234.2 = 0 then (if bt241.2 = 0 then (if bt229.1 = 3 then ((slices_Equal_int_int.f k bt234.1 (([0, 0] : List Int))).bind fun t246 => (if t246 = true then (some (bt241.1 == 1)) else (some false))) else (some false)) else (some false)) else (some false)) else (some false)))))) = some r := h
  clear h
  obtain ⟨y208, hy208⟩ : ∃ y_ : List Int, y_ = (([0, 1] : List Int)) := ⟨_, rfl⟩
  replace H : ((some (([(([(⟨1, y208⟩ : S50), (⟨3, (([0] : List Int))⟩ : S50)] : List (S50))), (([(⟨1, (([0, 1] : List Int))⟩ : S50), (⟨2, (([1] : List Int))⟩ : S50)] : List (S50)))] : List (List (S50))) : List (List (S50)))).bind fun y226 => ((cut_Whole.f k 0 y226).bind fun bt229 => ((cut_Close.f k 0 y226 (([1, 0] : List Int))).bind fun bt234 => ((cut_Floor.f k 0 y226 (([2, 1] : List Int))).bind fun bt241 => (if bt229.2 = 0 then (if bt234.2 = 0 then (if bt241.2 = 0 then (if bt229.1 = 3 then ((slices_Equal_int_int.f k bt234.1 (([0, 0] : List Int))).bind fun t246 => (if t246 = true then (some (bt241.1 == 1)) else (some false))) else (some false)) else (some false)) else (some false)) else (some false)))))) = some r := by first | (rw [hy208]; with_reducible exact H) | (have H2_ := (Option.bind_some _ _).symm.trans H; rw [hy208]; with_reducible exact H2_) | (have H2_ := (Option.bind_some _ _).symm.trans H; with_reducible exact H2_) | with_reducible exact H | (rw [hy208]; exact H) | exact H
  have Ny208 := Aside0.mk hy208
  clear hy208
  obtain ⟨y211, hy211⟩ : ∃ y_ : List Int, y_ = (([0] : List Int)) := ⟨_, rfl⟩
  replace H : ((some (([(([(⟨1, y208⟩ : S50), (⟨3, y211⟩ : S50)] : List (S50))), (([(⟨1, (([0, 1] : List Int))⟩ : S50), (⟨2, (([1] : List Int))⟩ : S50)] : List (S50)))] : List (List (S50))) : List (List (S50)))).bind fun y226 => ((cut_Whole.f k 0 y226).bind fun bt229 => ((cut_Close.f k 0 y226 (([1, 0] : List Int))).bind fun bt234 => ((cut_Floor.f k 0 y226 (([2, 1] : List Int))).bind fun bt241 => (if bt229.2 = 0 then (if bt234.2 = 0 then (if bt241.2 = 0 then (if bt229.1 = 3 then ((slices_Equal_int_int.f k bt234.1 (([0, 0] : List Int))).bind fun t246 => (if t246 = true then (some (bt241.1 == 1)) else (some false))) else (some false)) else (some false)) else (some false)) else (some false)))))) = some r := by first | (rw [hy211]; with_reducible exact H) | (have H2_ := (Option.bind_some _ _).symm.trans H; rw [hy211]; with_reducible exact H2_) | (have H2_ := (Option.bind_some _ _).symm.trans H; with_reducible exact H2_) | with_reducible exact H | (rw [hy211]; exact H) | exact H
  have Ny211 := Aside0.mk hy211
  clear hy211
  obtain ⟨y214, hy214⟩ : ∃ y_ : List (S50), y_ = (([(⟨1, y208⟩ : S50), (⟨3, y211⟩ : S50)] : List (S50))) := ⟨_, rfl⟩
  replace H : ((some (([y214, (([(⟨1, (([0, 1] : List Int))⟩ : S50), (⟨2, (([1] : List Int))⟩ : S50)] : List (S50)))] : List (List (S50))) : List (List (S50)))).bind fun y226 => ((cut_Whole.f k 0 y226).bind fun bt229 => ((cut_Close.f k 0 y226 (([1, 0] : List Int))).bind fun bt234 => ((cut_Floor.f k 0 y226 (([2, 1] : List Int))).bind fun bt241 => (if bt229.2 = 0 then (if bt234.2 = 0 then (if bt241.2 = 0 then (if bt229.1 = 3 then ((slices_Equal_int_int.f k bt234.1 (([0, 0] : List Int))).bind fun t246 => (if t246 = true then (some (bt241.1 == 1)) else (some false))) else (some false)) else (some false)) else (some false)) else (some false)))))) = some r := by first | (rw [hy214]; with_reducible exact H) | (have H2_ := (Option.bind_some _ _).symm.trans H; rw [hy214]; with_reducible exact H2_) | (have H2_ := (Option.bind_some _ _).symm.trans H; with_reducible exact H2_) | with_reducible exact H | (rw [hy214]; exact H) | exact H
  have Ny214 := Aside0.mk hy214
  clear hy214
  obtain ⟨y217, hy217⟩ : ∃ y_ : List Int, y_ = (([0, 1] : List Int)) := ⟨_, rfl⟩
  replace H : ((some (([y214, (([(⟨1, y217⟩ : S50), (⟨2, (([1] : List Int))⟩ : S50)] : List (S50)))] : List (List (S50))) : List (List (S50)))).bind fun y226 => ((cut_Whole.f k 0 y226).bind fun bt229 => ((cut_Close.f k 0 y226 (([1, 0] : List Int))).bind fun bt234 => ((cut_Floor.f k 0 y226 (([2, 1] : List Int))).bind fun bt241 => (if bt229.2 = 0 then (if bt234.2 = 0 then (if bt241.2 = 0 then (if bt229.1 = 3 then ((slices_Equal_int_int.f k bt234.1 (([0, 0] : List Int))).bind fun t246 => (if t246 = true then (some (bt241.1 == 1)) else (some false))) else (some false)) else (some false)) else (some false)) else (some false)))))) = some r := by first | (rw [hy217]; with_reducible exact H) | (have H2_ := (Option.bind_some _ _).symm.trans H; rw [hy217]; with_reducible exact H2_) | (have H2_ := (Option.bind_some _ _).symm.trans H; with_reducible exact H2_) | with_reducible exact H | (rw [hy217]; exact H) | exact H
  have Ny217 := Aside0.mk hy217
  clear hy217
  obtain ⟨y220, hy220⟩ : ∃ y_ : List Int, y_ = (([1] : List Int)) := ⟨_, rfl⟩
  replace H : ((some (([y214, (([(⟨1, y217⟩ : S50), (⟨2, y220⟩ : S50)] : List (S50)))] : List (List (S50))) : List (List (S50)))).bind fun y226 => ((cut_Whole.f k 0 y226).bind fun bt229 => ((cut_Close.f k 0 y226 (([1, 0] : List Int))).bind fun bt234 => ((cut_Floor.f k 0 y226 (([2, 1] : List Int))).bind fun bt241 => (if bt229.2 = 0 then (if bt234.2 = 0 then (if bt241.2 = 0 then (if bt229.1 = 3 then ((slices_Equal_int_int.f k bt234.1 (([0, 0] : List Int))).bind fun t246 => (if t246 = true then (some (bt241.1 == 1)) else (some false))) else (some false)) else (some false)) else (some false)) else (some false)))))) = some r := by first | (rw [hy220]; with_reducible exact H) | (have H2_ := (Option.bind_some _ _).symm.trans H; rw [hy220]; with_reducible exact H2_) | (have H2_ := (Option.bind_some _ _).symm.trans H; with_reducible exact H2_) | with_reducible exact H | (rw [hy220]; exact H) | exact H
  have Ny220 := Aside0.mk hy220
  clear hy220
  obtain ⟨y223, hy223⟩ : ∃ y_ : List (S50), y_ = (([(⟨1, y217⟩ : S50), (⟨2, y220⟩ : S50)] : List (S50))) := ⟨_, rfl⟩
  replace H : ((some (([y214, y223] : List (List (S50))) : List (List (S50)))).bind fun y226 => ((cut_Whole.f k 0 y226).bind fun bt229 => ((cut_Close.f k 0 y226 (([1, 0] : List Int))).bind fun bt234 => ((cut_Floor.f k 0 y226 (([2, 1] : List Int))).bind fun bt241 => (if bt229.2 = 0 then (if bt234.2 = 0 then (if bt241.2 = 0 then (if bt229.1 = 3 then ((slices_Equal_int_int.f k bt234.1 (([0, 0] : List Int))).bind fun t246 => (if t246 = true then (some (bt241.1 == 1)) else (some false))) else (some false)) else (some false)) else (some false)) else (some false)))))) = some r := by first | (rw [hy223]; with_reducible exact H) | (have H2_ := (Option.bind_some _ _).symm.trans H; rw [hy223]; with_reducible exact H2_) | (have H2_ := (Option.bind_some _ _).symm.trans H; with_reducible exact H2_) | with_reducible exact H | (rw [hy223]; exact H) | exact H
  have Ny223 := Aside0.mk hy223
  clear hy223
  obtain ⟨y226, hy226⟩ : ∃ y_ : List (List (S50)), y_ = (([y214, y223] : List (List (S50)))) := ⟨_, rfl⟩
  replace H : ((cut_Whole.f k 0 y226).bind fun bt229 => ((cut_Close.f k 0 y226 (([1, 0] : List Int))).bind fun bt234 => ((cut_Floor.f k 0 y226 (([2, 1] : List Int))).bind fun bt241 => (if bt229.2 = 0 then (if bt234.2 = 0 then (if bt241.2 = 0 then (if bt229.1 = 3 then ((slices_Equal_int_int.f k bt234.1 (([0, 0] : List Int))).bind fun t246 => (if t246 = true then (some (bt241.1 == 1)) else (some false))) else (some false)) else (some false)) else (some false)) else (some false))))) = some r := by first | (rw [hy226]; with_reducible exact H) | (have H2_ := (Option.bind_some _ _).symm.trans H; rw [hy226]; with_reducible exact H2_) | (have H2_ := (Option.bind_some _ _).symm.trans H; with_reducible exact H2_) | with_reducible exact H | (rw [hy226]; exact H) | exact H
  have Ny226 := Aside0.mk hy226
  clear hy226
  replace H := Option.bind_eq_some_iff.mp H
  obtain ⟨⟨t229, t230⟩, A10, H⟩ := H
  replace H : ((cut_Close.f k 0 y226 (([1, 0] : List Int))).bind fun bt234 => ((cut_Floor.f k 0 y226 (([2, 1] : List Int))).bind fun bt241 => (if t230 = 0 then (if bt234.2 = 0 then (if bt241.2 = 0 then (if t229 = 3 then ((slices_Equal_int_int.f k bt234.1 (([0, 0] : List Int))).bind fun t246 => (if t246 = true then (some (bt241.1 == 1)) else (some false))) else (some false)) else (some false)) else (some false)) else (some false)))) = some r := H
  have A1 := Aside0.mk A10
  clear A10
  obtain ⟨y231, hy231⟩ : ∃ y_ : List Int, y_ = (([1, 0] : List Int)) := ⟨_, rfl⟩
  replace H : ((cut_Close.f k 0 y226 y231).bind fun bt234 => ((cut_Floor.f k 0 y226 (([2, 1] : List Int))).bind fun bt241 => (if t230 = 0 then (if bt234.2 = 0 then (if bt241.2 = 0 then (if t229 = 3 then ((slices_Equal_int_int.f k bt234.1 (([0, 0] : List Int))).bind fun t246 => (if t246 = true then (some (bt241.1 == 1)) else (some false))) else (some false)) else (some false)) else (some false)) else (some false)))) = some r := by first | (rw [hy231]; with_reducible exact H) | (have H2_ := (Option.bind_some _ _).symm.trans H; rw [hy231]; with_reducible exact H2_) | (have H2_ := (Option.bind_some _ _).symm.trans H; with_reducible exact H2_) | with_reducible exact H | (rw [hy231]; exact H) | exact H
  have Ny231 := Aside0.mk hy231
  clear hy231
  replace H := Option.bind_eq_some_iff.mp H
  obtain ⟨⟨t234, t235⟩, A20, H⟩ := H
  replace H : ((cut_Floor.f k 0 y226 (([2, 1] : List Int))).bind fun bt241 => (if t230 = 0 then (if t235 = 0 then (if bt241.2 = 0 then (if t229 = 3 then ((slices_Equal_int_int.f k t234 (([0, 0] : List Int))).bind fun t246 => (if t246 = true then (some (bt241.1 == 1)) else (some false))) else (some false)) else (some false)) else (some false)) else (some false))) = some r := H
  have A2 := Aside0.mk A20
  clear A20
  obtain ⟨y238, hy238⟩ : ∃ y_ : List Int, y_ = (([2, 1] : List Int)) := ⟨_, rfl⟩
  replace H : ((cut_Floor.f k 0 y226 y238).bind fun bt241 => (if t230 = 0 then (if t235 = 0 then (if bt241.2 = 0 then (if t229 = 3 then ((slices_Equal_int_int.f k t234 (([0, 0] : List Int))).bind fun t246 => (if t246 = true then (some (bt241.1 == 1)) else (some false))) else (some false)) else (some false)) else (some false)) else (some false))) = some r := by first | (rw [hy238]; with_reducible exact H) | (have H2_ := (Option.bind_some _ _).symm.trans H; rw [hy238]; with_reducible exact H2_) | (have H2_ := (Option.bind_some _ _).symm.trans H; with_reducible exact H2_) | with_reducible exact H | (rw [hy238]; exact H) | exact H
  have Ny238 := Aside0.mk hy238
  clear hy238
  replace H := Option.bind_eq_some_iff.mp H
  obtain ⟨⟨t241, t242⟩, A30, H⟩ := H
  replace H : (if t230 = 0 then (if t235 = 0 then (if t242 = 0 then (if t229 = 3 then ((slices_Equal_int_int.f k t234 (([0, 0] : List Int))).bind fun t246 => (if t246 = true then (some (t241 == 1)) else (some false))) else (some false)) else (some false)) else (some false)) else (some false)) = some r := H
  have A3 := Aside0.mk A30
  clear A30
  by_cases c4 : t230 = 0
  · rw [if_pos c4] at H
    have c4b0 : (t230 == 0) = true := beq_iff_eq.mpr c4
    have c4b1 : (t230 != 0) = false := bne_eq_false_iff_eq.mpr c4
    clear c4
    by_cases c5 : t235 = 0
    · rw [if_pos c5] at H
      have c5b0 : (t235 == 0) = true := beq_iff_eq.mpr c5
      have c5b1 : (t235 != 0) = false := bne_eq_false_iff_eq.mpr c5
      clear c5
      by_cases c6 : t242 = 0
      · rw [if_pos c6] at H
        have c6b0 : (t242 == 0) = true := beq_iff_eq.mpr c6
        have c6b1 : (t242 != 0) = false := bne_eq_false_iff_eq.mpr c6
        clear c6
        by_cases c7 : t229 = 3
        · rw [if_pos c7] at H
          have c7b0 : (t229 == 3) = true := beq_iff_eq.mpr c7
          have c7b1 : (t229 != 3) = false := bne_eq_false_iff_eq.mpr c7
          clear c7
          obtain ⟨y243, hy243⟩ : ∃ y_ : List Int, y_ = (([0, 0] : List Int)) := ⟨_, rfl⟩
          replace H : ((slices_Equal_int_int.f k t234 y243).bind fun t246 => (if t246 = true then (some (t241 == 1)) else (some false))) = some r := by first | (rw [hy243]; with_reducible exact H) | (have H2_ := (Option.bind_some _ _).symm.trans H; rw [hy243]; with_reducible exact H2_) | (have H2_ := (Option.bind_some _ _).symm.trans H; with_reducible exact H2_) | with_reducible exact H | (rw [hy243]; exact H) | exact H
          have Ny243 := Aside0.mk hy243
          clear hy243
          replace H := Option.bind_eq_some_iff.mp H
          obtain ⟨t246, A80, H⟩ := H
          replace H : (if t246 = true then (some (t241 == 1)) else (some false)) = some r := H
          have A8 := Aside0.mk A80
          clear A80
          by_cases c9 : t246 = true
          · subst c9
            have H1 : (some (t241 == 1)) = some r := by rw [if_pos rfl] at H; exact H
            clear H
            have H := H1
            clear H1
            obtain rfl := Option.some.inj H
            go_enter Try.func20, Try.ntmps20
            go_wp2_with (first | ((with_reducible refine gate_dst (N := 8) rfl ?_); (try (refine gate_guard (by rfl) ?_; dsimp only)); refine Kd.R_lit (Kd.int .i64) _ 3 ?hg (N := 8) ?hd (xs := ([0, 1] : List Int)) (inner := [.int .i64 0, .int .i64 1]) (ok := fun _ => True) (okp := fun _ => True) ?hr ?hp (fun _ hk => hk) trivial (Below.refl _ _) (Nat.le_refl _) (by simp) ?_; (case hd => rfl); (case hg => rfl); (case hr => first | (go_simp; done) | (go_simp; rfl)); (case hp => exact (Reps.one (show Kd.M (Kd.int .i64) _ _ _ 0 [.int .i64 0] from rfl) (Reps.one (show Kd.M (Kd.int .i64) _ _ _ 1 [.int .i64 1] from rfl) (Reps.none _ _)))); intro v209 w10 ho11 hb hg_ hnew_; clear hg_ hnew_; (first | rw [← Ny208.out] at ho11 | (simp only [Int.reduceToNat] at ho11; rw [← Ny208.out] at ho11)); have n0_ := Aside0.mk (Kd.R_lower ho11 (below_size (by repeat (first | (with_reducible first | exact HB.out | apply below_alloc | apply pw_below_drewN | apply below_drew1) | exact HB.out)))); have n1_ := Aside0.mk (below_step (by repeat (first | (with_reducible first | exact HB.out | apply below_alloc | apply pw_below_drewN | apply below_drew1) | exact HB.out)) hb); clear HB; have HO210 := n0_; have HB := n1_; clear n0_ n1_; clear hb ho11; obtain ⟨Ao12, co12, eo12⟩ := Kd.R_slice HO210.out; subst eo12) | ((with_reducible refine gate_dst (N := 10) rfl ?_); (try (refine gate_guard (by rfl) ?_; dsimp only)); refine Kd.R_lit (Kd.int .i64) _ 3 ?hg (N := 10) ?hd (xs := ([0] : List Int)) (inner := [.int .i64 0]) (ok := fun _ => True) (okp := fun _ => True) ?hr ?hp (fun _ hk => hk) trivial (Below.refl _ _) (Nat.le_refl _) (by simp) ?_; (case hd => rfl); (case hg => rfl); (case hr => first | (go_simp; done) | (go_simp; rfl)); (case hp => exact (Reps.one (show Kd.M (Kd.int .i64) _ _ _ 0 [.int .i64 0] from rfl) (Reps.none _ _))); intro v212 w13 ho14 hb hg_ hnew_; clear hg_ hnew_; (first | rw [← Ny211.out] at ho14 | (simp only [Int.reduceToNat] at ho14; rw [← Ny211.out] at ho14)); have n0_ := Aside0.mk (Kd.R_elder' (by (with_reducible repeat (first | apply Kd.R_alloc | apply Kd.R_drewN | apply Kd.R_drew)); exact HO210.out) (Kd.R_base ho14) hb); have n1_ := Aside0.mk (Kd.R_lower (Kd.R_new' ho14 (Kd.R_lt (by (with_reducible repeat (first | apply Kd.R_alloc | apply Kd.R_drewN | apply Kd.R_drew)); exact HO210.out))) (below_size (by repeat (first | (with_reducible first | exact HB.out | apply below_alloc | apply pw_below_drewN | apply below_drew1) | exact HB.out)))); have n2_ := Aside0.mk (below_step (by repeat (first | (with_reducible first | exact HB.out | apply below_alloc | apply pw_below_drewN | apply below_drew1) | exact HB.out)) hb); clear HO210; clear HB; have HO210 := n0_; have HO213 := n1_; have HB := n2_; clear n0_ n1_ n2_; clear hb ho14; obtain ⟨Ao15, co15, eo15⟩ := Kd.R_slice HO213.out; subst eo15) | ((with_reducible refine gate_dst (N := 12) rfl ?_); (try (refine gate_guard (by rfl) ?_; dsimp only)); refine Kd.N_lit k50 _ 50 ?hg (N' := 12) ?hd (xs := ([(⟨1, y208⟩ : S50), (⟨3, y211⟩ : S50)] : List (S50))) (inner := [.int .i64 1, .slice Ao12 y208.length co12, .int .i64 3, .slice Ao15 y211.length co15]) (ok := (fun _ => True)) (okp := (fun _ => True)) ?hr ?hp (fun _ hk => hk) ((show ∀ k_, w13.heap.size ≤ k_ → (fun _ => True) k_ from fun k_ hk => trivial) _ (Nat.le_refl _)) (Below.refl _ _) (Nat.le_refl _) (by simp) ?_; (case hd => rfl); (case hg => rfl); (case hr => first | (go_simp; done) | (go_simp; rfl)); (case hp => exact (Reps.c2 (show Kd.FK k50 _ _ (⟨1, y208⟩ : S50) [.int .i64 1, .slice Ao12 y208.length co12] from (k50_mkF _ _ (⟨1, y208⟩ : S50) (Kd.R_reads' (Kd.R_mono (ok' := (fun _ => True)) (HO210.out) (fun k_ hk => trivial))).2.1 (Kd.R_F (Kd.R_mono (ok' := (fun _ => True)) (HO210.out) (fun k_ hk => trivial))))) (Reps.c2 (show Kd.FK k50 _ _ (⟨3, y211⟩ : S50) [.int .i64 3, .slice Ao15 y211.length co15] from (k50_mkF _ _ (⟨3, y211⟩ : S50) (Kd.R_reads' (Kd.R_mono (ok' := (fun _ => True)) (HO213.out) (fun k_ hk => trivial))).2.1 (Kd.R_F (Kd.R_mono (ok' := (fun _ => True)) (HO213.out) (fun k_ hk => trivial))))) (Reps.none _ _)))); intro v215 w16 ho17 hb hg_ hnew_; clear hg_ hnew_; (first | rw [← Ny214.out] at ho17 | (simp only [Int.reduceToNat] at ho17; rw [← Ny214.out] at ho17)); have n0_ := Aside0.mk (Kd.N_lower ho17 (below_size (by repeat (first | (with_reducible first | exact HB.out | apply below_alloc | apply pw_below_drewN | apply below_drew1) | exact HB.out)))); have n1_ := Aside0.mk (below_step (by repeat (first | (with_reducible first | exact HB.out | apply below_alloc | apply pw_below_drewN | apply below_drew1) | exact HB.out)) hb); clear HB; clear HO210; clear HO213; have HO216 := n0_; have HB := n1_; clear n0_ n1_; clear hb ho17) | ((with_reducible refine gate_dst (N := 13) rfl ?_); (try (refine gate_guard (by rfl) ?_; dsimp only)); refine Kd.R_lit (Kd.int .i64) _ 3 ?hg (N := 13) ?hd (xs := ([0, 1] : List Int)) (inner := [.int .i64 0, .int .i64 1]) (ok := fun _ => True) (okp := fun _ => True) ?hr ?hp (fun _ hk => hk) trivial (Below.refl _ _) (Nat.le_refl _) (by simp) ?_; (case hd => rfl); (case hg => rfl); (case hr => first | (go_simp; done) | (go_simp; rfl)); (case hp => exact (Reps.one (show Kd.M (Kd.int .i64) _ _ _ 0 [.int .i64 0] from rfl) (Reps.one (show Kd.M (Kd.int .i64) _ _ _ 1 [.int .i64 1] from rfl) (Reps.none _ _)))); intro v218 w18 ho19 hb hg_ hnew_; clear hg_ hnew_; (first | rw [← Ny217.out] at ho19 | (simp only [Int.reduceToNat] at ho19; rw [← Ny217.out] at ho19)); have n0_ := Aside0.mk (Kd.N_elder' (by (with_reducible repeat (first | apply Kd.N_alloc | apply Kd.N_drewN | apply Kd.N_drew)); exact HO216.out) (Kd.R_base ho19) hb); have n1_ := Aside0.mk (Kd.R_lower ho19 (below_size (by repeat (first | (with_reducible first | exact HB.out | apply below_alloc | apply pw_below_drewN | apply below_drew1) | exact HB.out)))); have n2_ := Aside0.mk (below_step (by repeat (first | (with_reducible first | exact HB.out | apply below_alloc | apply pw_below_drewN | apply below_drew1) | exact HB.out)) hb); clear HO216; clear HB; have HO216 := n0_; have HO219 := n1_; have HB := n2_; clear n0_ n1_ n2_; clear hb ho19; obtain ⟨Ao20, co20, eo20⟩ := Kd.R_slice HO219.out; subst eo20) | ((with_reducible refine gate_dst (N := 15) rfl ?_); (try (refine gate_guard (by rfl) ?_; dsimp only)); refine Kd.R_lit (Kd.int .i64) _ 3 ?hg (N := 15) ?hd (xs := ([1] : List Int)) (inner := [.int .i64 1]) (ok := fun _ => True) (okp := fun _ => True) ?hr ?hp (fun _ hk => hk) trivial (Below.refl _ _) (Nat.le_refl _) (by simp) ?_; (case hd => rfl); (case hg => rfl); (case hr => first | (go_simp; done) | (go_simp; rfl)); (case hp => exact (Reps.one (show Kd.M (Kd.int .i64) _ _ _ 1 [.int .i64 1] from rfl) (Reps.none _ _))); intro v221 w21 ho22 hb hg_ hnew_; clear hg_ hnew_; (first | rw [← Ny220.out] at ho22 | (simp only [Int.reduceToNat] at ho22; rw [← Ny220.out] at ho22)); have n0_ := Aside0.mk (Kd.N_elder' (by (with_reducible repeat (first | apply Kd.N_alloc | apply Kd.N_drewN | apply Kd.N_drew)); exact HO216.out) (Kd.R_base ho22) hb); have n1_ := Aside0.mk (Kd.R_elder' (by (with_reducible repeat (first | apply Kd.R_alloc | apply Kd.R_drewN | apply Kd.R_drew)); exact HO219.out) (Kd.R_base ho22) hb); have n2_ := Aside0.mk (Kd.R_lower (Kd.R_new' ho22 (Kd.R_lt (by (with_reducible repeat (first | apply Kd.R_alloc | apply Kd.R_drewN | apply Kd.R_drew)); exact HO219.out))) (below_size (by repeat (first | (with_reducible first | exact HB.out | apply below_alloc | apply pw_below_drewN | apply below_drew1) | exact HB.out)))); have n3_ := Aside0.mk (below_step (by repeat (first | (with_reducible first | exact HB.out | apply below_alloc | apply pw_below_drewN | apply below_drew1) | exact HB.out)) hb); clear HO216; clear HO219; clear HB; have HO216 := n0_; have HO219 := n1_; have HO222 := n2_; have HB := n3_; clear n0_ n1_ n2_ n3_; clear hb ho22; obtain ⟨Ao23, co23, eo23⟩ := Kd.R_slice HO222.out; subst eo23) | ((with_reducible refine gate_dst (N := 17) rfl ?_); (try (refine gate_guard (by rfl) ?_; dsimp only)); refine Kd.N_lit k50 _ 50 ?hg (N' := 17) ?hd (xs := ([(⟨1, y217⟩ : S50), (⟨2, y220⟩ : S50)] : List (S50))) (inner := [.int .i64 1, .slice Ao20 y217.length co20, .int .i64 2, .slice Ao23 y220.length co23]) (ok := (fun k_ => some k_ ≠ (v215 : Value).ownBlock)) (okp := (fun k_ => some k_ ≠ (v215 : Value).ownBlock)) ?hr ?hp (fun _ hk => hk) ((show ∀ k_, w21.heap.size ≤ k_ → (fun k_ => some k_ ≠ (v215 : Value).ownBlock) k_ from fun k_ hk => Kd.fresh' (Kd.N_lt (by (with_reducible repeat (first | apply Kd.N_alloc | apply Kd.N_drewN | apply Kd.N_drew)); exact HO216.out)) k_ hk) _ (Nat.le_refl _)) (Below.refl _ _) (Nat.le_refl _) (by simp) ?_; (case hd => rfl); (case hg => rfl); (case hr => first | (go_simp; done) | (go_simp; rfl)); (case hp => exact (Reps.c2 (show Kd.FK k50 _ _ (⟨1, y217⟩ : S50) [.int .i64 1, .slice Ao20 y217.length co20] from (k50_mkF _ _ (⟨1, y217⟩ : S50) (Kd.R_reads' (Kd.R_mono (ok' := (fun k_ => some k_ ≠ (v215 : Value).ownBlock)) (Kd.R_apart' (HO219.out) (Kd.N_typed HO216.out) (by decide)) (fun k_ hk => hk.2))).2.1 (Kd.R_F (Kd.R_mono (ok' := (fun k_ => some k_ ≠ (v215 : Value).ownBlock)) (Kd.R_apart' (HO219.out) (Kd.N_typed HO216.out) (by decide)) (fun k_ hk => hk.2))))) (Reps.c2 (show Kd.FK k50 _ _ (⟨2, y220⟩ : S50) [.int .i64 2, .slice Ao23 y220.length co23] from (k50_mkF _ _ (⟨2, y220⟩ : S50) (Kd.R_reads' (Kd.R_mono (ok' := (fun k_ => some k_ ≠ (v215 : Value).ownBlock)) (Kd.R_apart' (HO222.out) (Kd.N_typed HO216.out) (by decide)) (fun k_ hk => hk.2))).2.1 (Kd.R_F (Kd.R_mono (ok' := (fun k_ => some k_ ≠ (v215 : Value).ownBlock)) (Kd.R_apart' (HO222.out) (Kd.N_typed HO216.out) (by decide)) (fun k_ hk => hk.2))))) (Reps.none _ _)))); intro v224 w24 ho25 hb hg_ hnew_; clear hg_ hnew_; (first | rw [← Ny223.out] at ho25 | (simp only [Int.reduceToNat] at ho25; rw [← Ny223.out] at ho25)); have n0_ := Aside0.mk (Kd.N_elder' (by (with_reducible repeat (first | apply Kd.N_alloc | apply Kd.N_drewN | apply Kd.N_drew)); exact HO216.out) (Kd.N_base ho25) hb); have n1_ := Aside0.mk (Kd.N_lower ho25 (below_size (by repeat (first | (with_reducible first | exact HB.out | apply below_alloc | apply pw_below_drewN | apply below_drew1) | exact HB.out)))); have n2_ := Aside0.mk (below_step (by repeat (first | (with_reducible first | exact HB.out | apply below_alloc | apply pw_below_drewN | apply below_drew1) | exact HB.out)) hb); clear HO216; clear HB; clear HO219; clear HO222; have HO216 := n0_; have HO225 := n1_; have HB := n2_; clear n0_ n1_ n2_; clear hb ho25; obtain ⟨Ao26, co26, eo26⟩ := Kd.N_slice HO216.out; subst eo26; obtain ⟨Ao27, co27, eo27⟩ := Kd.N_slice HO225.out; subst eo27) | ((with_reducible refine gate_dst (N := 18) rfl ?_); (try (refine gate_guard (by rfl) ?_; dsimp only)); refine Kd.N_lit (Kd.slice 50 k50) _ 47 ?hg (N' := 18) ?hd (xs := ([y214, y223] : List (List (S50)))) (inner := [.slice Ao26 y214.length co26, .slice Ao27 y223.length co27]) (ok := (fun _ => True)) (okp := (fun _ => True)) ?hr ?hp (fun _ hk => hk) ((show ∀ k_, w24.heap.size ≤ k_ → (fun _ => True) k_ from fun k_ hk => trivial) _ (Nat.le_refl _)) (Below.refl _ _) (Nat.le_refl _) (by simp) ?_; (case hd => rfl); (case hg => rfl); (case hr => first | (go_simp; done) | (go_simp; rfl)); (case hp => exact (Reps.one (show Kd.FK (Kd.slice 50 k50) _ _ y214 [.slice Ao26 y214.length co26] from (Kd.FK_slice_mk (Kd.N_reads' (Kd.N_mono (ok' := (fun _ => True)) (HO216.out) (fun k_ hk => trivial))).2.1 (Kd.N_F (Kd.N_mono (ok' := (fun _ => True)) (HO216.out) (fun k_ hk => trivial))))) (Reps.one (show Kd.FK (Kd.slice 50 k50) _ _ y223 [.slice Ao27 y223.length co27] from (Kd.FK_slice_mk (Kd.N_reads' (Kd.N_mono (ok' := (fun _ => True)) (HO225.out) (fun k_ hk => trivial))).2.1 (Kd.N_F (Kd.N_mono (ok' := (fun _ => True)) (HO225.out) (fun k_ hk => trivial))))) (Reps.none _ _)))); intro v227 w28 ho29 hb hg_ hnew_; clear hg_ hnew_; (first | rw [← Ny226.out] at ho29 | (simp only [Int.reduceToNat] at ho29; rw [← Ny226.out] at ho29)); have n0_ := Aside0.mk (Kd.N_lower ho29 (below_size (by repeat (first | (with_reducible first | exact HB.out | apply below_alloc | apply pw_below_drewN | apply below_drew1) | exact HB.out)))); have n1_ := Aside0.mk (below_step (by repeat (first | (with_reducible first | exact HB.out | apply below_alloc | apply pw_below_drewN | apply below_drew1) | exact HB.out)) hb); clear HB; clear HO216; clear HO225; have HO228 := n0_; have HB := n1_; clear n0_ n1_; clear hb ho29; obtain ⟨Ao30, co30, eo30⟩ := Kd.N_slice HO228.out; subst eo30) | ((with_reducible refine gate_callee (f := 23) rfl ?_); refine goesL_ (some 21) rfl rfl Try.func23 (by kernel_rfl) rfl #[.int .i64 0, .slice Ao30 y226.length co30] rfl (by (try simp only [List.map_toArray, List.map_cons, List.map_nil]); first | done | rfl | (simp only [List.length_drop, List.length_take]; rfl)) ?_; (with_reducible refine (cut_Whole.calls k 0 _ _ y226 t229 t230 _ ?side1 ?side2 A1.out).mono ?_); (case side1 => repeat (first | exact (Kd.N_reads' HO228.out).2.2 | (with_reducible refine Kd.C_alloc ?_ _) | (with_reducible refine Kd.C_drewN ?_ _) | (with_reducible refine Kd.C_drew ?_))); (case side2 => exact (Kd.N_reads' HO228.out).2.1); rintro e w31 ⟨rfl, hb⟩; refine ⟨_, rfl, ?_⟩; have n0_ := Aside0.mk (Kd.N_below (by (with_reducible repeat (first | apply Kd.N_alloc | apply Kd.N_drewN | apply Kd.N_drew)); exact HO228.out) hb); have n1_ := Aside0.mk (below_step (by repeat (first | (with_reducible first | exact HB.out | apply below_alloc | apply pw_below_drewN | apply below_drew1) | exact HB.out)) hb); clear HO228; clear HB; have HO228 := n0_; have HB := n1_; clear n0_ n1_; (try clear hb); (try clear hb2); (try clear hk); (try clear hi)) | ((with_reducible refine gate_dst (N := 26) rfl ?_); (try (refine gate_guard (by rfl) ?_; dsimp only)); refine Kd.R_lit (Kd.int .i64) _ 3 ?hg (N := 26) ?hd (xs := ([1, 0] : List Int)) (inner := [.int .i64 1, .int .i64 0]) (ok := fun _ => True) (okp := fun _ => True) ?hr ?hp (fun _ hk => hk) trivial (Below.refl _ _) (Nat.le_refl _) (by simp) ?_; (case hd => rfl); (case hg => rfl); (case hr => first | (go_simp; done) | (go_simp; rfl)); (case hp => exact (Reps.one (show Kd.M (Kd.int .i64) _ _ _ 1 [.int .i64 1] from rfl) (Reps.one (show Kd.M (Kd.int .i64) _ _ _ 0 [.int .i64 0] from rfl) (Reps.none _ _)))); intro v232 w32 ho33 hb hg_ hnew_; clear hg_ hnew_; (first | rw [← Ny231.out] at ho33 | (simp only [Int.reduceToNat] at ho33; rw [← Ny231.out] at ho33)); have n0_ := Aside0.mk (Kd.N_elder' (by (with_reducible repeat (first | apply Kd.N_alloc | apply Kd.N_drewN | apply Kd.N_drew)); exact HO228.out) (Kd.R_base ho33) hb); have n1_ := Aside0.mk (Kd.R_lower ho33 (below_size (by repeat (first | (with_reducible first | exact HB.out | apply below_alloc | apply pw_below_drewN | apply below_drew1) | exact HB.out)))); have n2_ := Aside0.mk (below_step (by repeat (first | (with_reducible first | exact HB.out | apply below_alloc | apply pw_below_drewN | apply below_drew1) | exact HB.out)) hb); clear HO228; clear HB; have HO228 := n0_; have HO233 := n1_; have HB := n2_; clear n0_ n1_ n2_; clear hb ho33; obtain ⟨Ao34, co34, eo34⟩ := Kd.R_slice HO233.out; subst eo34) | ((with_reducible refine gate_callee (f := 34) rfl ?_); refine goesL_ (some 27) rfl rfl Try.func34 (by kernel_rfl) rfl #[.int .i64 0, .slice Ao30 y226.length co30, .slice Ao34 y231.length co34] rfl (by (try simp only [List.map_toArray, List.map_cons, List.map_nil]); first | done | rfl | (simp only [List.length_drop, List.length_take]; rfl)) ?_; (with_reducible refine (cut_Close.calls k 0 _ _ y226 _ _ y231 t234 t235 _ ?side1 ?side2 ?side3 ?side4 A2.out).mono ?_); (case side1 => repeat (first | exact (Kd.N_reads' HO228.out).2.2 | (with_reducible refine Kd.C_alloc ?_ _) | (with_reducible refine Kd.C_drewN ?_ _) | (with_reducible refine Kd.C_drew ?_))); (case side2 => exact (Kd.N_reads' HO228.out).2.1); (case side3 => repeat (first | exact (Kd.R_reads' HO233.out).2.2 | (with_reducible refine Kd.C_alloc ?_ _) | (with_reducible refine Kd.C_drewN ?_ _) | (with_reducible refine Kd.C_drew ?_))); (case side4 => exact (Kd.R_reads' HO233.out).2.1); rintro e w35 ⟨v236, rfl, ho0, hb⟩; refine ⟨_, rfl, ?_⟩; have n0_ := Aside0.mk (Kd.N_elder' (by (with_reducible repeat (first | apply Kd.N_alloc | apply Kd.N_drewN | apply Kd.N_drew)); exact HO228.out) (Kd.R_base ho0) hb); have n1_ := Aside0.mk (Kd.R_elder' (by (with_reducible repeat (first | apply Kd.R_alloc | apply Kd.R_drewN | apply Kd.R_drew)); exact HO233.out) (Kd.R_base ho0) hb); have n2_ := Aside0.mk (Kd.R_lower (Kd.R_new' ho0 (Kd.R_lt (by (with_reducible repeat (first | apply Kd.R_alloc | apply Kd.R_drewN | apply Kd.R_drew)); exact HO233.out))) (below_size (by repeat (first | (with_reducible first | exact HB.out | apply below_alloc | apply pw_below_drewN | apply below_drew1) | exact HB.out)))); have n3_ := Aside0.mk (below_step (by repeat (first | (with_reducible first | exact HB.out | apply below_alloc | apply pw_below_drewN | apply below_drew1) | exact HB.out)) hb); clear HO228; clear HO233; clear HB; have HO228 := n0_; have HO233 := n1_; have HO237 := n2_; have HB := n3_; clear n0_ n1_ n2_ n3_; (try clear hb); (try clear hb2); (try clear hk); (try clear hi); (try clear ho0)) | ((with_reducible refine gate_dst (N := 32) rfl ?_); (try (refine gate_guard (by rfl) ?_; dsimp only)); refine Kd.R_lit (Kd.int .i64) _ 3 ?hg (N := 32) ?hd (xs := ([2, 1] : List Int)) (inner := [.int .i64 2, .int .i64 1]) (ok := fun _ => True) (okp := fun _ => True) ?hr ?hp (fun _ hk => hk) trivial (Below.refl _ _) (Nat.le_refl _) (by simp) ?_; (case hd => rfl); (case hg => rfl); (case hr => first | (go_simp; done) | (go_simp; rfl)); (case hp => exact (Reps.one (show Kd.M (Kd.int .i64) _ _ _ 2 [.int .i64 2] from rfl) (Reps.one (show Kd.M (Kd.int .i64) _ _ _ 1 [.int .i64 1] from rfl) (Reps.none _ _)))); intro v239 w36 ho37 hb hg_ hnew_; clear hg_ hnew_; (first | rw [← Ny238.out] at ho37 | (simp only [Int.reduceToNat] at ho37; rw [← Ny238.out] at ho37)); have n0_ := Aside0.mk (Kd.N_elder' (by (with_reducible repeat (first | apply Kd.N_alloc | apply Kd.N_drewN | apply Kd.N_drew)); exact HO228.out) (Kd.R_base ho37) hb); have n1_ := Aside0.mk (Kd.R_elder' (by (with_reducible repeat (first | apply Kd.R_alloc | apply Kd.R_drewN | apply Kd.R_drew)); exact HO233.out) (Kd.R_base ho37) hb); have n2_ := Aside0.mk (Kd.R_elder' (by (with_reducible repeat (first | apply Kd.R_alloc | apply Kd.R_drewN | apply Kd.R_drew)); exact HO237.out) (Kd.R_base ho37) hb); have n3_ := Aside0.mk (Kd.R_lower (Kd.R_new' (Kd.R_new' ho37 (Kd.R_lt (by (with_reducible repeat (first | apply Kd.R_alloc | apply Kd.R_drewN | apply Kd.R_drew)); exact HO233.out))) (Kd.R_lt (by (with_reducible repeat (first | apply Kd.R_alloc | apply Kd.R_drewN | apply Kd.R_drew)); exact HO237.out))) (below_size (by repeat (first | (with_reducible first | exact HB.out | apply below_alloc | apply pw_below_drewN | apply below_drew1) | exact HB.out)))); have n4_ := Aside0.mk (below_step (by repeat (first | (with_reducible first | exact HB.out | apply below_alloc | apply pw_below_drewN | apply below_drew1) | exact HB.out)) hb); clear HO228; clear HO233; clear HO237; clear HB; have HO228 := n0_; have HO233 := n1_; have HO237 := n2_; have HO240 := n3_; have HB := n4_; clear n0_ n1_ n2_ n3_ n4_; clear hb ho37; obtain ⟨Ao38, co38, eo38⟩ := Kd.R_slice HO240.out; subst eo38) | ((with_reducible refine gate_callee (f := 24) rfl ?_); refine goesL_ (some 33) rfl rfl Try.func24 (by kernel_rfl) rfl #[.int .i64 0, .slice Ao30 y226.length co30, .slice Ao38 y238.length co38] rfl (by (try simp only [List.map_toArray, List.map_cons, List.map_nil]); first | done | rfl | (simp only [List.length_drop, List.length_take]; rfl)) ?_; (with_reducible refine (cut_Floor.calls k 0 _ _ y226 _ _ y238 t241 t242 _ ?side1 ?side2 ?side3 ?side4 A3.out).mono ?_); (case side1 => repeat (first | exact (Kd.N_reads' HO228.out).2.2 | (with_reducible refine Kd.C_alloc ?_ _) | (with_reducible refine Kd.C_drewN ?_ _) | (with_reducible refine Kd.C_drew ?_))); (case side2 => exact (Kd.N_reads' HO228.out).2.1); (case side3 => repeat (first | exact (Kd.R_reads' HO240.out).2.2 | (with_reducible refine Kd.C_alloc ?_ _) | (with_reducible refine Kd.C_drewN ?_ _) | (with_reducible refine Kd.C_drew ?_))); (case side4 => exact (Kd.R_reads' HO240.out).2.1); rintro e w39 ⟨rfl, hb⟩; refine ⟨_, rfl, ?_⟩; have n0_ := Aside0.mk (Kd.N_below (by (with_reducible repeat (first | apply Kd.N_alloc | apply Kd.N_drewN | apply Kd.N_drew)); exact HO228.out) hb); have n1_ := Aside0.mk (Kd.R_below (by (with_reducible repeat (first | apply Kd.R_alloc | apply Kd.R_drewN | apply Kd.R_drew)); exact HO233.out) hb); have n2_ := Aside0.mk (Kd.R_below (by (with_reducible repeat (first | apply Kd.R_alloc | apply Kd.R_drewN | apply Kd.R_drew)); exact HO237.out) hb); have n3_ := Aside0.mk (Kd.R_below (by (with_reducible repeat (first | apply Kd.R_alloc | apply Kd.R_drewN | apply Kd.R_drew)); exact HO240.out) hb); have n4_ := Aside0.mk (below_step (by repeat (first | (with_reducible first | exact HB.out | apply below_alloc | apply pw_below_drewN | apply below_drew1) | exact HB.out)) hb); clear HO228; clear HO233; clear HO237; clear HO240; clear HB; have HO228 := n0_; have HO233 := n1_; have HO237 := n2_; have HO240 := n3_; have HB := n4_; clear n0_ n1_ n2_ n3_ n4_; (try clear hb); (try clear hb2); (try clear hk); (try clear hi)) | ((with_reducible refine gate_dst (N := 52) rfl ?_); (try (refine gate_guard (by rfl) ?_; dsimp only)); refine Kd.R_lit (Kd.int .i64) _ 3 ?hg (N := 52) ?hd (xs := ([0, 0] : List Int)) (inner := [.int .i64 0, .int .i64 0]) (ok := fun _ => True) (okp := fun _ => True) ?hr ?hp (fun _ hk => hk) trivial (Below.refl _ _) (Nat.le_refl _) (by simp) ?_; (case hd => rfl); (case hg => rfl); (case hr => first | (go_simp; done) | (go_simp; rfl)); (case hp => exact (Reps.one (show Kd.M (Kd.int .i64) _ _ _ 0 [.int .i64 0] from rfl) (Reps.one (show Kd.M (Kd.int .i64) _ _ _ 0 [.int .i64 0] from rfl) (Reps.none _ _)))); intro v244 w40 ho41 hb hg_ hnew_; clear hg_ hnew_; (first | rw [← Ny243.out] at ho41 | (simp only [Int.reduceToNat] at ho41; rw [← Ny243.out] at ho41)); have n0_ := Aside0.mk (Kd.N_elder' (by (with_reducible repeat (first | apply Kd.N_alloc | apply Kd.N_drewN | apply Kd.N_drew)); exact HO228.out) (Kd.R_base ho41) hb); have n1_ := Aside0.mk (Kd.R_elder' (by (with_reducible repeat (first | apply Kd.R_alloc | apply Kd.R_drewN | apply Kd.R_drew)); exact HO233.out) (Kd.R_base ho41) hb); have n2_ := Aside0.mk (Kd.R_elder' (by (with_reducible repeat (first | apply Kd.R_alloc | apply Kd.R_drewN | apply Kd.R_drew)); exact HO237.out) (Kd.R_base ho41) hb); have n3_ := Aside0.mk (Kd.R_elder' (by (with_reducible repeat (first | apply Kd.R_alloc | apply Kd.R_drewN | apply Kd.R_drew)); exact HO240.out) (Kd.R_base ho41) hb); have n4_ := Aside0.mk (Kd.R_lower (Kd.R_new' (Kd.R_new' (Kd.R_new' ho41 (Kd.R_lt (by (with_reducible repeat (first | apply Kd.R_alloc | apply Kd.R_drewN | apply Kd.R_drew)); exact HO233.out))) (Kd.R_lt (by (with_reducible repeat (first | apply Kd.R_alloc | apply Kd.R_drewN | apply Kd.R_drew)); exact HO237.out))) (Kd.R_lt (by (with_reducible repeat (first | apply Kd.R_alloc | apply Kd.R_drewN | apply Kd.R_drew)); exact HO240.out))) (below_size (by repeat (first | (with_reducible first | exact HB.out | apply below_alloc | apply pw_below_drewN | apply below_drew1) | exact HB.out)))); have n5_ := Aside0.mk (below_step (by repeat (first | (with_reducible first | exact HB.out | apply below_alloc | apply pw_below_drewN | apply below_drew1) | exact HB.out)) hb); clear HO228; clear HO233; clear HO237; clear HO240; clear HB; have HO228 := n0_; have HO233 := n1_; have HO237 := n2_; have HO240 := n3_; have HO245 := n4_; have HB := n5_; clear n0_ n1_ n2_ n3_ n4_ n5_; clear hb ho41; obtain ⟨Ao42, co42, eo42⟩ := Kd.R_slice HO237.out; subst eo42; obtain ⟨Ao43, co43, eo43⟩ := Kd.R_slice HO245.out; subst eo43) | (go_at_call 18; (with_reducible refine (slices_Equal_int_int.calls k _ _ t234 _ _ y243 true _ ?side1 ?side2 ?side3 ?side4 A8.out).mono ?_); (case side1 => repeat (first | exact (Kd.R_reads' HO237.out).2.2 | (with_reducible refine Kd.C_alloc ?_ _) | (with_reducible refine Kd.C_drewN ?_ _) | (with_reducible refine Kd.C_drew ?_))); (case side2 => exact (Kd.R_reads' HO237.out).2.1); (case side3 => repeat (first | exact (Kd.R_reads' HO245.out).2.2 | (with_reducible refine Kd.C_alloc ?_ _) | (with_reducible refine Kd.C_drewN ?_ _) | (with_reducible refine Kd.C_drew ?_))); (case side4 => exact (Kd.R_reads' HO245.out).2.1); rintro e w' ⟨rfl, ⟨nd, rfl⟩⟩))
            go_ret
            exact ⟨by first | rfl | (simp [errW_none, errW_some] <;> rfl) | (simp [*, errW_none, errW_some] <;> rfl), by repeat (first | (with_reducible first | exact HB.out | apply below_alloc | apply pw_below_drewN | apply below_drew1) | exact HB.out)⟩
          · replace c9 := Bool.eq_false_iff.mpr c9
            subst c9
            have H1 : (some false) = some r := by rw [if_neg (show ¬ (false = true) by decide)] at H; exact H
            clear H
            have H := H1
            clear H1
            exact (partsynclaw21_begun.lf HRT.out H).elim
        · rw [if_neg c7] at H
          have c7b0 : (t229 == 3) = false := beq_eq_false_iff_ne.mpr c7
          have c7b1 : (t229 != 3) = true := bne_iff_ne.mpr c7
          exact (partsynclaw21_begun.lf HRT.out H).elim
      · rw [if_neg c6] at H
        have c6b0 : (t242 == 0) = false := beq_eq_false_iff_ne.mpr c6
        have c6b1 : (t242 != 0) = true := bne_iff_ne.mpr c6
        exact (partsynclaw21_begun.lf HRT.out H).elim
    · rw [if_neg c5] at H
      have c5b0 : (t235 == 0) = false := beq_eq_false_iff_ne.mpr c5
      have c5b1 : (t235 != 0) = true := bne_iff_ne.mpr c5
      exact (partsynclaw21_begun.lf HRT.out H).elim
  · rw [if_neg c4] at H
    have c4b0 : (t230 == 0) = false := beq_eq_false_iff_ne.mpr c4
    have c4b1 : (t230 != 0) = true := bne_iff_ne.mpr c4
    exact (partsynclaw21_begun.lf HRT.out H).elim

theorem begun_true : partsynclaw21_begun.f 40 = some true := by kernel_rfl
theorem partsynclaw21_begun.only {k : Nat} {r : Bool} (h : partsynclaw21_begun.f k = some r) : r = true := by
  have up : ∀ (m : Nat) (x : Bool), partsynclaw21_begun.f m = some x → ∀ d, partsynclaw21_begun.f (m + d) = some x := fun m x hx d => by
    induction d with
    | zero => exact hx
    | succ d ih => exact partsynclaw21_begun.mono (m + d) _ ih
  have h1 := up k r h 40
  have h2 := up 40 true begun_true k
  rw [Nat.add_comm] at h2
  rw [h2] at h1
  exact (Option.some.inj h1).symm
theorem partsynclaw21_begun.calls (k : Nat)  (r : Bool) (w : World) (h : partsynclaw21_begun.f k  = some r) :
    Calls Try.prog 20 #[] w fun e w' => e = .returned (.bool r) ∧ Below w.heap.size w w' := partsynclaw21_begun.calls1 k r w h (partsynclaw21_begun.only h)

/-! ### partsynccase_Case_Bool: function 29 -/
def partsynccase_Case_Bool.f (s0_0 : List Int) (s0_1 : Int) (a1 : Int) : Option (Bool × Int) := (partsynccase_Case_Int.f s0_0 s0_1 a1).bind fun bt247 => (some ((bt247.1 == (wrap64 (a1 - 1))), bt247.2))
set_option maxHeartbeats 8000000 in
set_option maxRecDepth 100000 in
theorem partsynccase_Case_Bool.calls (g : Nat) (s0_0 : List Int) (s0_1 : Int) (a1 : Int) (r1 : Bool) (r2 : Int) (w0 w : World) (hI : IsS61 w0 w g s0_0 s0_1) (hB : Below w0.heap.size w0 w) (h : partsynccase_Case_Bool.f s0_0 s0_1 a1 = some (r1, r2)) :
    Calls Try.prog 29 #[.pointer (some ⟨g, 0, none⟩), .int .i64 a1] w fun e w' => e = .returned (.bool r1) ∧ IsS61 w0 w' g s0_0 r2 ∧ Below w0.heap.size w0 w' ∧ KeepBut w w' g none := by
  have HI0 := Aside0.mk hI
  have HK := Aside0.mk (KeepBut.refl w g none)
  have HL := Aside0.mk hB.size
  clear hI
  have HW0 := Aside0.mk hB.size
  have HB := Aside0.mk hB
  clear hB
  have H : ((partsynccase_Case_Int.f s0_0 s0_1 a1).bind fun bt247 => (some ((bt247.1 == (wrap64 (a1 - 1))), bt247.2))) = some (r1, r2) := h
  clear h
  replace H := Option.bind_eq_some_iff.mp H
  obtain ⟨⟨t247, t248⟩, A30, H⟩ := H
  replace H : (some ((t247 == (wrap64 (a1 - 1))), t248)) = some (r1, r2) := H
  have A3 := Aside0.mk A30
  clear A30
  simp only [Option.some.injEq, Prod.mk.injEq] at H
  obtain ⟨rfl, rfl⟩ := H
  go_enter Try.func29, Try.ntmps29
  go_wp2_with (first | ((with_reducible refine gate_callee (f := 14) rfl ?_); refine goesL_ (some 7) rfl rfl Try.func14 (by kernel_rfl) rfl #[.pointer (some ⟨g, 0, none⟩), .int .i64 a1] rfl (by (try simp only [List.map_toArray, List.map_cons, List.map_nil]); first | done | rfl | (simp only [List.length_drop, List.length_take]; rfl)) ?_; (with_reducible refine (partsynccase_Case_Int.calls g s0_0 s0_1 a1 t247 t248 w0 _ ?side1 ?side2 A3.out).mono ?_); (case side1 => repeat (first | (with_reducible first | exact HI0.out | apply IsS61.alloc | apply IsS61.drewN | apply IsS61.drew | apply IsS61.set_1) | exact HI0.out)); (case side2 => repeat (first | (with_reducible first | exact HB.out | apply below_alloc | apply pw_below_drewN | apply below_drew1 | refine below_set ?_ (IsS61.ge HI0.out)) | exact HB.out)); rintro e w4 ⟨rfl, hi, hb, hk⟩; refine ⟨_, rfl, ?_⟩; have n0_ := Aside0.mk (KeepBut.trans (by repeat (first | (with_reducible first | exact HK.out | apply KeepBut.set_ | apply keep_drewN | apply keep_drew | apply keep_alloc) | exact HK.out)) hk (.inl rfl)); have n1_ := Aside0.mk (hb); have n2_ := Aside0.mk (hi); clear HK; clear HB; clear HI0; have HK := n0_; have HB := n1_; have HI0 := n2_; clear n0_ n1_ n2_; (try clear hb); (try clear hb2); (try clear hk); (try clear hi)))
  go_ret
  exact ⟨by first | rfl | (simp [errW_none, errW_some] <;> rfl) | (simp [*, errW_none, errW_some] <;> rfl), by repeat (first | (with_reducible first | exact HI0.out | apply IsS61.alloc | apply IsS61.drewN | apply IsS61.drew | apply IsS61.set_1) | exact HI0.out), by repeat (first | (with_reducible first | exact HB.out | apply below_alloc | apply pw_below_drewN | apply below_drew1 | refine below_set ?_ (IsS61.ge HI0.out)) | exact HB.out), by repeat (first | (with_reducible first | exact HK.out | apply KeepBut.set_ | apply keep_drewN | apply keep_drew | apply keep_alloc) | exact HK.out)⟩

/-! ### partsynccase_Case_Cut: function 22 -/
def partsynccase_Case_Cut.l0 : Nat → List (List (S50)) → List Int → Int → Int → List Int → Int → Option (List Int × Int)
  | 0, _, _, _, _, _, _ => none
  | k + 1, x1, x5, x11, x12, x1000, x1001 => if x12 < x11 then (if 0 ≤ x12 then (if x12 < (x1.length : Int) then ((partsynccase_Case_Int.f x1000 x1001 (wrap64 (((rd_L4 x1 x12).length : Int) + 1))).bind fun bt253 => (if x12 < (x5.length : Int) then (partsynccase_Case_Cut.l0 k x1 (x5.set (x12 : Int).toNat bt253.1) x11 (wrap64 (x12 + 1)) x1000 bt253.2) else (none))) else (none)) else (none)) else (some (x5, x1001))
def partsynccase_Case_Cut.f (k : Nat) (s0_0 : List Int) (s0_1 : Int) (l1 : List (List (S50))) : Option (List Int × Int) := if 0 ≤ (l1.length : Int) then (if ((l1.length : Int) : Int).toNat ≤ 35184372088832 then (partsynccase_Case_Cut.l0 k l1 (List.replicate ((l1.length : Int) : Int).toNat 0) (l1.length : Int) 0 s0_0 s0_1) else (none)) else (none)
theorem partsynccase_Case_Cut.mono_l : ∀ k, (∀ y0 y1 y2 y3 y4 y5, LeO (partsynccase_Case_Cut.l0 k y0 y1 y2 y3 y4 y5) (partsynccase_Case_Cut.l0 (k + 1) y0 y1 y2 y3 y4 y5))
  | 0 => fun _ _ _ _ _ _ r h => by simp [partsynccase_Case_Cut.l0] at h
  | k + 1 => by
    have ih0 := partsynccase_Case_Cut.mono_l k
    · intro y0 y1 y2 y3 y4 y5
      unfold partsynccase_Case_Cut.l0
      repeat' first
      | (with_reducible exact ih0 _ _ _ _ _ _)
      | (with_reducible exact LeO.refl _)
      | (with_reducible exact LeO.none _)
      | (with_reducible refine LeO.ite ?_ ?_)
      | (with_reducible refine LeO.bind ?_ (fun _ => ?_))
      | exact ih0 _ _ _ _ _ _
      | exact LeO.none _
      | refine LeO.ite ?_ ?_
      | refine LeO.bind ?_ (fun _ => ?_)
theorem partsynccase_Case_Cut.mono : ∀ a0 a1 a2 k, LeO (partsynccase_Case_Cut.f k a0 a1 a2) (partsynccase_Case_Cut.f (k + 1) a0 a1 a2) := by
  intro a0 a1 a2 k
  have ih0 := partsynccase_Case_Cut.mono_l k
  unfold partsynccase_Case_Cut.f
  repeat' first
      | (with_reducible exact ih0 _ _ _ _ _ _)
      | (with_reducible exact LeO.refl _)
      | (with_reducible exact LeO.none _)
      | (with_reducible refine LeO.ite ?_ ?_)
      | (with_reducible refine LeO.bind ?_ (fun _ => ?_))
      | exact ih0 _ _ _ _ _ _
      | exact LeO.none _
      | refine LeO.ite ?_ ?_
      | refine LeO.bind ?_ (fun _ => ?_)
set_option maxHeartbeats 8000000 in
set_option maxRecDepth 100000 in
theorem partsynccase_Case_Cut.calls (k : Nat) (g : Nat) (s0_0 : List Int) (s0_1 : Int) (A1 : Option Addr) (c1 : Nat) (l1 : List (List (S50))) (r1 : List Int) (r2 : Int) (w0 w : World) (hI : IsS61 w0 w g s0_0 s0_1) (hB : Below w0.heap.size w0 w) (hr1 : ∀ W_, KeepBut w W_ g none → Kd.C (Kd.slice 50 k50) W_ A1 l1.length l1) (hc1 : l1.length ≤ c1) (h : partsynccase_Case_Cut.f k s0_0 s0_1 l1 = some (r1, r2)) :
    Calls Try.prog 22 #[.pointer (some ⟨g, 0, none⟩), .slice A1 l1.length c1] w fun e w' => ∃ v0_ : Value, e = .returned (v0_) ∧ Kd.R (Kd.int .i64) 3 w' w.heap.size (fun _ => True) v0_ r1 ∧ IsS61 w0 w' g s0_0 r2 ∧ Below w0.heap.size w0 w' ∧ KeepBut w w' g none := by
  have HR1 := Aside0.mk hr1
  have HC1 := Aside0.mk hc1
  clear hr1 hc1
  have HI0 := Aside0.mk hI
  have HK := Aside0.mk (KeepBut.refl w g none)
  have HL := Aside0.mk hB.size
  clear hI
  have HW0 := Aside0.mk hB.size
  have HB := Aside0.mk hB
  clear hB
  have H : (if 0 ≤ (l1.length : Int) then (if ((l1.length : Int) : Int).toNat ≤ 35184372088832 then (partsynccase_Case_Cut.l0 k l1 (List.replicate ((l1.length : Int) : Int).toNat 0) (l1.length : Int) 0 s0_0 s0_1) else (none)) else (none)) = some (r1, r2) := h
  clear h
  by_cases c3 : 0 ≤ (l1.length : Int)
  · rw [if_pos c3] at H
    have c3b0 := eq_true c3
    have c3b1 : decide (0 ≤ (l1.length : Int)) = true := decide_eq_true c3
    clear c3
    by_cases c4 : ((l1.length : Int) : Int).toNat ≤ 35184372088832
    · rw [if_pos c4] at H
      have c4b0 := eq_true c4
      have c4b1 : decide (((l1.length : Int) : Int).toNat ≤ 35184372088832) = true := decide_eq_true c4
      clear c4
      obtain ⟨y249, hy249⟩ : ∃ y_ : List Int, y_ = (List.replicate ((l1.length : Int) : Int).toNat 0) := ⟨_, rfl⟩
      replace H : (partsynccase_Case_Cut.l0 k l1 y249 (l1.length : Int) 0 s0_0 s0_1) = some (r1, r2) := by first | (rw [hy249]; with_reducible exact H) | (have H2_ := (Option.bind_some _ _).symm.trans H; rw [hy249]; with_reducible exact H2_) | (have H2_ := (Option.bind_some _ _).symm.trans H; with_reducible exact H2_) | with_reducible exact H | (rw [hy249]; exact H) | exact H
      have Ny249 := Aside0.mk hy249
      clear hy249
      have H' := Aside0.mk H
      clear H
      go_enter Try.func22, Try.ntmps22
      go_wp2_with (first | ((with_reducible refine gate_dst (N := 9) rfl ?_); refine Kd.R_make (Kd.int .i64) _ 3 rfl (N := 9) rfl 26 _ _ rfl (l1.length : Int) rfl rfl Try.underlying26 (.int .i64 0) 8 info3 rfl (by decide) (by omega) 0 (ok := fun _ => True) (okp := fun _ => True) rfl (fun _ hk => hk) trivial (of_decide_eq_true (by first | (with_reducible assumption) | assumption)) (Nat.le_trans (Nat.mul_le_mul_right _ (of_decide_eq_true (by first | (with_reducible assumption) | assumption) : (l1.length : Int).toNat ≤ 35184372088832)) (by omega)) (Below.refl _ _) (Nat.le_refl _) ?_; intro v250 w5 ho6 hb hg_ hnew_; clear hg_ hnew_; (first | rw [← Ny249.out] at ho6 | (simp only [Int.reduceToNat] at ho6; rw [← Ny249.out] at ho6)); have n0_ := Aside0.mk (Kd.R_lower ho6 (keep_size (w := w) (g := g) (row := none) (by repeat (first | (with_reducible first | exact HK.out | apply KeepBut.set_ | apply keep_drewN | apply keep_drew | apply keep_alloc) | exact HK.out)))); have n1_ := Aside0.mk (IsS61.below (by repeat (first | (with_reducible first | exact HI0.out | apply IsS61.alloc | apply IsS61.drewN | apply IsS61.drew | apply IsS61.set_1) | exact HI0.out)) hb); have n2_ := Aside0.mk (KeepBut.trans (by repeat (first | (with_reducible first | exact HK.out | apply KeepBut.set_ | apply keep_drewN | apply keep_drew | apply keep_alloc) | exact HK.out)) (KeepBut.of_below hb g none) (.inl rfl)); have n3_ := Aside0.mk (below_step (by repeat (first | (with_reducible first | exact HB.out | apply below_alloc | apply pw_below_drewN | apply below_drew1 | refine below_set ?_ (IsS61.ge HI0.out)) | exact HB.out)) hb); clear HI0; clear HK; clear HB; have HO251 := n0_; have HI0 := n1_; have HK := n2_; have HB := n3_; clear n0_ n1_ n2_ n3_; clear hb ho6))
      go_loopg [12] k (fun kq v12 w' => ∃ (x5_1 : List Int) (x12_1 : Int) (x1001_1 : Int), v12 = .int .i64 x12_1 ∧ Aside0 (partsynccase_Case_Cut.l0 kq l1 x5_1 (l1.length : Int) x12_1 s0_0 x1001_1 = some (r1, r2)) ∧ Aside0 (kq ≤ k) ∧ Aside0 (Kd.R (Kd.int .i64) 3 w' w.heap.size (fun _ => True) v250 x5_1) ∧ Aside0 (IsS61 w0 w' g s0_0 x1001_1) ∧ Aside0 (KeepBut w w' g none) ∧ Aside0 (Below w0.heap.size w0 w'))
      case atStart => exact ⟨(y249), (0), (s0_1), (by first | rfl | (simp; done) | (simp [*]; done)), H', ⟨Nat.le_refl _⟩, ⟨by (with_reducible repeat (first | apply Kd.R_alloc | apply Kd.R_drewN | apply Kd.R_drew)); exact HO251.out⟩, ⟨by repeat (first | (with_reducible first | exact HI0.out | apply IsS61.alloc | apply IsS61.drewN | apply IsS61.drew | apply IsS61.set_1) | exact HI0.out)⟩, ⟨by repeat (first | (with_reducible first | exact HK.out | apply KeepBut.set_ | apply keep_drewN | apply keep_drew | apply keep_alloc) | exact HK.out)⟩, ⟨by repeat (first | (with_reducible first | exact HB.out | apply below_alloc | apply pw_below_drewN | apply below_drew1 | refine below_set ?_ (IsS61.ge HI0.out)) | exact HB.out)⟩⟩
      case round =>
        clear H'
        try clear c1
        try clear c2
        try clear p2
        try clear c3
        try clear c3b0
        try clear c3b1
        try clear c4
        try clear c4b0
        try clear c4b1
        obtain ⟨x5_1, x12_1, x1001_1, rfl, HA, HK1, HO_5, HI0, HK, HB⟩ := hrel
        cases gk with
        | zero => exact absurd HA.out (by simp [partsynccase_Case_Cut.l0])
        | succ k1 =>
          have H := HA.out
          clear HA
          simp only [partsynccase_Case_Cut.l0] at H
          by_cases c7 : x12_1 < (l1.length : Int)
          · rw [if_pos c7] at H
            have c7b0 : decide (x12_1 < (l1.length : Int)) = true := decide_eq_true c7
            clear c7
            by_cases c8 : 0 ≤ x12_1
            · rw [if_pos c8] at H
              have c8b0 : decide (0 ≤ x12_1) = true := decide_eq_true c8
              clear c8
              by_cases c9 : x12_1 < (l1.length : Int)
              · rw [if_pos c9] at H
                have c9b0 : decide (x12_1 < (l1.length : Int)) = true := decide_eq_true c9
                clear c9
                replace H := Option.bind_eq_some_iff.mp H
                obtain ⟨⟨t253, t254⟩, A100, H⟩ := H
                replace H : (if x12_1 < (x5_1.length : Int) then (partsynccase_Case_Cut.l0 k1 l1 (x5_1.set (x12_1 : Int).toNat t253) (l1.length : Int) (wrap64 (x12_1 + 1)) s0_0 t254) else (none)) = some (r1, r2) := H
                have A10 := Aside0.mk A100
                clear A100
                by_cases c11 : x12_1 < (x5_1.length : Int)
                · rw [if_pos c11] at H
                  have c11b0 : decide (x12_1 < (x5_1.length : Int)) = true := decide_eq_true c11
                  clear c11
                  obtain ⟨y255, hy255⟩ : ∃ y_ : List Int, y_ = (x5_1.set (x12_1 : Int).toNat t253) := ⟨_, rfl⟩
                  replace H : (partsynccase_Case_Cut.l0 k1 l1 y255 (l1.length : Int) (wrap64 (x12_1 + 1)) s0_0 t254) = some (r1, r2) := by first | (rw [hy255]; with_reducible exact H) | (have H2_ := (Option.bind_some _ _).symm.trans H; rw [hy255]; with_reducible exact H2_) | (have H2_ := (Option.bind_some _ _).symm.trans H; with_reducible exact H2_) | with_reducible exact H | (rw [hy255]; exact H) | exact H
                  have Ny255 := Aside0.mk hy255
                  clear hy255
                  have H' := Aside0.mk H
                  clear H
                  have p252 : 0 ≤ (x12_1 : Int) := of_decide_eq_true (by first | (with_reducible assumption) | assumption)
                  have q252 : x12_1 < (l1.length : Int) := of_decide_eq_true (by first | (with_reducible assumption) | assumption)
                  obtain ⟨ad252, A252_0, c252_0, e252, hx252_0, hl252_0, hi252_0⟩ := at_L4 (Kd.C_foot_now HR1.out HK.out) x12_1 p252 q252
                  cases e252
                  have HR252_0 := Aside0.mk hi252_0
                  have HC252_0 := Aside0.mk hl252_0
                  clear hi252_0 hl252_0
                  replace p252 := eq_true p252
                  replace q252 := eq_true q252
                  go_wp2_with (first | ((with_reducible refine gate_callee (f := 14) rfl ?_); refine goesL_ (some 24) rfl rfl Try.func14 (by kernel_rfl) rfl #[.pointer (some ⟨g, 0, none⟩), .int .i64 (wrap64 (((rd_L4 l1 x12_1).length : Int) + 1))] rfl (by (try simp only [List.map_toArray, List.map_cons, List.map_nil]); first | done | rfl | (simp only [List.length_drop, List.length_take]; rfl)) ?_; (with_reducible refine (partsynccase_Case_Int.calls g s0_0 x1001_1 (wrap64 (((rd_L4 l1 x12_1).length : Int) + 1)) t253 t254 w0 _ ?side1 ?side2 A10.out).mono ?_); (case side1 => repeat (first | (with_reducible first | exact HI0.out | apply IsS61.alloc | apply IsS61.drewN | apply IsS61.drew | apply IsS61.set_1) | exact HI0.out)); (case side2 => repeat (first | (with_reducible first | exact HB.out | apply below_alloc | apply pw_below_drewN | apply below_drew1 | refine below_set ?_ (IsS61.ge HI0.out)) | exact HB.out)); rintro e w13 ⟨rfl, hi, hb, hk⟩; refine ⟨_, rfl, ?_⟩; have n0_ := Aside0.mk (Kd.R_mono (Kd.R_keep (IsS61.apart (show IsS61 w0 _ g s0_0 x1001_1 from by repeat (first | (with_reducible first | exact HI0.out | apply IsS61.alloc | apply IsS61.drewN | apply IsS61.drew | apply IsS61.set_1) | exact HI0.out)) (by (with_reducible repeat (first | apply Kd.R_alloc | apply Kd.R_drewN | apply Kd.R_drew)); exact HO_5.out) (by decide)) hk (fun _ h => h.2)) (fun _ h => h.1)); have n1_ := Aside0.mk (KeepBut.trans (by repeat (first | (with_reducible first | exact HK.out | apply KeepBut.set_ | apply keep_drewN | apply keep_drew | apply keep_alloc) | exact HK.out)) hk (.inl rfl)); have n2_ := Aside0.mk (hb); have n3_ := Aside0.mk (hi); clear HO_5; clear HK; clear HB; clear HI0; have HO_5 := n0_; have HK := n1_; have HB := n2_; have HI0 := n3_; clear n0_ n1_ n2_ n3_; (try clear hb); (try clear hb2); (try clear hk); (try clear hi); have p12 : 0 ≤ (x12_1 : Int) := of_decide_eq_true (by first | (with_reducible assumption) | assumption); have q12 : (x12_1 : Int) < ((x5_1.length : Int) : Int) := of_decide_eq_true (by first | (with_reducible assumption) | assumption); obtain ⟨go12, co12, eo12, gb12, gl12, cl12, HG12⟩ := Kd.R_form HO_5.out (by omega); (first | cases eo12 | (injection eo12 with ea_ en_ ec_; (first | subst ea_ | (injection ea_ with ea_; subst ea_)); subst ec_; clear en_)); have GB12 := Aside0.mk gb12; have GG12 := Aside0.mk HG12; clear gb12 gl12 HG12; obtain ⟨hx12_0, hf12_0⟩ := Kd.R_celln 0 HO_5.out (x12_1 : Int) p12 q12; replace p12 := eq_true p12; replace q12 := eq_true q12; obtain ⟨hy14_, hz14_⟩ := Kd.R_celln 0 HO_5.out (x12_1 : Int) (of_decide_eq_true (by first | (with_reducible assumption) | assumption)) (of_decide_eq_true (by first | (with_reducible assumption) | assumption)); have HP14 := Kd.R_putg HO_5.out (x12_1 : Int) t253) | ((with_reducible refine gate_store (t := 3) (p := 25) rfl ?_); refine store_event (t := 3) (p := 25) (v := ?vo_w15) (w1 := (w13.setCell ⟨go12, (x12_1 : Int).toNat, none⟩ (.int .i64 t253))) ?hg ?ho ?hn ?hr ?_; (case ho => rfl); (case hg => rfl); (case hn => rfl); (case hr => first | (go_simp; done) | (go_simp; rfl)); intro w15 hw; have hg : w13.grownBy w15 (some go12) := (by rw [hw]; exact HP14.2); have hp_ : Kd.R (Kd.int .i64) 3 w15 w.heap.size (fun _ => True) (.slice (some ⟨go12, 0, none⟩) x5_1.length co12) y255 := (by rw [hw, Ny255.out]; exact HP14.1); clear HP14; have n0_ := Aside0.mk (hp_); have n1_ := Aside0.mk (IsS61.grown (by repeat (first | (with_reducible first | exact HI0.out | apply IsS61.alloc | apply IsS61.drewN | apply IsS61.drew | apply IsS61.set_1) | exact HI0.out)) hg (IsS61.own_ne HI0.out HO_5.out (by decide))); have n2_ := Aside0.mk ((by rw [hw]; exact below_set (HB.out) (Nat.le_trans HL.out GB12.out) : Below w0.heap.size w0 w15)); have n3_ := Aside0.mk (KeepBut.trans (by repeat (first | (with_reducible first | exact HK.out | apply KeepBut.set_ | apply keep_drewN | apply keep_drew | apply keep_alloc) | exact HK.out)) (KeepBut.of_grown hg g) (Kd.R_base2 HO_5.out)); clear HO_5; clear HI0; clear HB; clear HK; have HO_5 := n0_; have HI0 := n1_; have HB := n2_; have HK := n3_; clear n0_ n1_ n2_ n3_; clear hg hw hp_))
                  go_roundg k1
                  case measure => have := HK1.out; omega
                  case rel => exact ⟨(y255), (wrap64 (x12_1 + 1)), (t254), (by first | rfl | (simp; done) | (simp [*]; done)), H', ⟨by have := HK1.out; omega⟩, ⟨by (with_reducible repeat (first | apply Kd.R_alloc | apply Kd.R_drewN | apply Kd.R_drew)); exact HO_5.out⟩, ⟨by repeat (first | (with_reducible first | exact HI0.out | apply IsS61.alloc | apply IsS61.drewN | apply IsS61.drew | apply IsS61.set_1) | exact HI0.out)⟩, ⟨by repeat (first | (with_reducible first | exact HK.out | apply KeepBut.set_ | apply keep_drewN | apply keep_drew | apply keep_alloc) | exact HK.out)⟩, ⟨by repeat (first | (with_reducible first | exact HB.out | apply below_alloc | apply pw_below_drewN | apply below_drew1 | refine below_set ?_ (IsS61.ge HI0.out)) | exact HB.out)⟩⟩
                · rw [if_neg c11] at H
                  exact absurd H (by simp)
              · rw [if_neg c9] at H
                exact absurd H (by simp)
            · rw [if_neg c8] at H
              exact absurd H (by simp)
          · rw [if_neg c7] at H
            have c7b0 : decide (x12_1 < (l1.length : Int)) = false := decide_eq_false c7
            clear c7
            simp only [Option.some.injEq, Prod.mk.injEq] at H
            obtain ⟨rfl, rfl⟩ := H
            go_wp2
            go_ret
            exact ⟨_, by first | rfl | (simp [errW_none, errW_some] <;> rfl) | (simp [*, errW_none, errW_some] <;> rfl), by (with_reducible repeat (first | apply Kd.R_alloc | apply Kd.R_drewN | apply Kd.R_drew)); exact HO_5.out, by repeat (first | (with_reducible first | exact HI0.out | apply IsS61.alloc | apply IsS61.drewN | apply IsS61.drew | apply IsS61.set_1) | exact HI0.out), by repeat (first | (with_reducible first | exact HB.out | apply below_alloc | apply pw_below_drewN | apply below_drew1 | refine below_set ?_ (IsS61.ge HI0.out)) | exact HB.out), by repeat (first | (with_reducible first | exact HK.out | apply KeepBut.set_ | apply keep_drewN | apply keep_drew | apply keep_alloc) | exact HK.out)⟩
    · rw [if_neg c4] at H
      exact absurd H (by simp)
  · rw [if_neg c3] at H
    exact absurd H (by simp)

end Go.Proofs.Ytkhiglincdognaa.PA
