-- WRITTEN BY A PROGRAM OF THIS SESSION (wip/cut/printx.py). Not trusted: Lean checks it.
import Derived.Test.YtkhiglincdognaaPAx0
import Derived.Test.YtkhiglincdognaaPAx1
import Derived.Test.YtkhiglincdognaaPAx2
import Derived.Test.YtkhiglincdognaaPAx8
import Derived.Test.YtkhiglincdognaaROf
import Derived.Test.YtkhiglincdognaaHOf
import Derived.Test.YtkhiglincdognaaHLogs
import Derived.Test.YtkhiglincdognaaHNew
namespace Go.Proofs.Ytkhiglincdognaa.PA
open Go.RowKit Go.Proofs.YtkhiglincdognaaW.PrintWords Go.Proofs.YtkhiglincdognaaW.PrintLast Go.Proofs.YtkhiglincdognaaW.PrintMore
attribute [local go_sem] max2_int min2_int max_two min_two max_three min_three max_four min_four   -- for this text's walks alone
set_option linter.unusedVariables false
set_option linter.unusedSimpArgs false

theorem partsynclaw21_CutOfs.heap50 : Kd.Heap k50 := Kd.heap_iso _ (Kd.heap_pair (Kd.heap_int .i64) (Kd.heap_slice 3 (Kd.heap_int .i64)))
/-! ### partsynclaw21_CutOfs: function 9 -/
def partsynclaw21_CutOfs.l0 : Nat → Int → List (List (S50)) → Int → Int → List (List (S50)) → List Int → Int → Int → List Int → Int → Option (Bool × Int)
  | 0, _, _, _, _, _, _, _, _, _, _ => none
  | k + 1, x0, x1, x2, x9, x10, x37, x38, x39, x4000, x4001 => if x39 < x38 then (if 0 ≤ x39 then (if x39 < (x37.length : Int) then ((cut_Of.f k x9 x10 (rd x37 x39)).bind fun bt566 => ((partsyncref21_Of.f k x9 x10 (rd x37 x39)).bind fun bt570 => ((slices_Equal_int_int.f k bt566.1 bt570.1).bind fun t574 => (if t574 = true then (if bt566.2 = bt570.2 then (partsynclaw21_CutOfs.l0 k x0 x1 x2 x9 x10 x37 x38 (wrap64 (x39 + 1)) x4000 x4001) else (some (false, x4001))) else (some (false, x4001)))))) else (none)) else (none)) else ((cut_Of.f k x0 x1 x2).bind fun bt575 => ((partsyncref21_Of.f k x0 x1 x2).bind fun bt579 => ((slices_Equal_int_int.f k bt575.1 bt579.1).bind fun t583 => (if t583 = true then (if bt575.2 = bt579.2 then ((partsynclaw21_begun.f k).bind fun t584 => (some (t584, x4001))) else (some (false, x4001))) else (some (false, x4001))))))
def partsynclaw21_CutOfs.f (k : Nat) (a0 : Int) (l1 : List (List (S50))) (a2 : Int) (s3_0 : List Int) (s3_1 : Int) : Option (Bool × Int) := (partsynccase_Case_Logs.f s3_0 s3_1).bind fun bt557 => ((some (([a2, wrap64 (bt557.1 - 1), bt557.1, wrap64 (bt557.1 + 1), wrap64 (bt557.1 + 3), wrap64 (bt557.1 + 9), 1073741824] : List Int) : List Int)).bind fun y562 => (partsynclaw21_CutOfs.l0 k a0 l1 a2 bt557.1 bt557.2.1 y562 (y562.length : Int) 0 s3_0 bt557.2.2))
theorem partsynclaw21_CutOfs.mono_l : ∀ k, (∀ y0 y1 y2 y3 y4 y5 y6 y7 y8 y9, LeO (partsynclaw21_CutOfs.l0 k y0 y1 y2 y3 y4 y5 y6 y7 y8 y9) (partsynclaw21_CutOfs.l0 (k + 1) y0 y1 y2 y3 y4 y5 y6 y7 y8 y9))
  | 0 => fun _ _ _ _ _ _ _ _ _ _ r h => by simp [partsynclaw21_CutOfs.l0] at h
  | k + 1 => by
    have ih0 := partsynclaw21_CutOfs.mono_l k
    · intro y0 y1 y2 y3 y4 y5 y6 y7 y8 y9
      unfold partsynclaw21_CutOfs.l0
      repeat' first
      | (with_reducible exact ih0 _ _ _ _ _ _ _ _ _ _)
      | (with_reducible exact cut_Of.mono _ _ _ _)
      | (with_reducible exact partsynclaw21_begun.mono _)
      | (with_reducible exact partsyncref21_Of.mono _ _ _ _)
      | (with_reducible exact slices_Equal_int_int.mono _ _ _)
      | (with_reducible exact LeO.refl _)
      | (with_reducible exact LeO.none _)
      | (with_reducible refine LeO.ite ?_ ?_)
      | (with_reducible refine LeO.bind ?_ (fun _ => ?_))
      | exact ih0 _ _ _ _ _ _ _ _ _ _
      | exact cut_Of.mono _ _ _ _
      | exact partsynclaw21_begun.mono _
      | exact partsyncref21_Of.mono _ _ _ _
      | exact slices_Equal_int_int.mono _ _ _
      | exact LeO.none _
      | refine LeO.ite ?_ ?_
      | refine LeO.bind ?_ (fun _ => ?_)
theorem partsynclaw21_CutOfs.mono : ∀ a0 a1 a2 a3 a4 k, LeO (partsynclaw21_CutOfs.f k a0 a1 a2 a3 a4) (partsynclaw21_CutOfs.f (k + 1) a0 a1 a2 a3 a4) := by
  intro a0 a1 a2 a3 a4 k
  have ih0 := partsynclaw21_CutOfs.mono_l k
  unfold partsynclaw21_CutOfs.f
  repeat' first
      | (with_reducible exact ih0 _ _ _ _ _ _ _ _ _ _)
      | (with_reducible exact cut_Of.mono _ _ _ _)
      | (with_reducible exact partsynclaw21_begun.mono _)
      | (with_reducible exact partsyncref21_Of.mono _ _ _ _)
      | (with_reducible exact slices_Equal_int_int.mono _ _ _)
      | (with_reducible exact LeO.refl _)
      | (with_reducible exact LeO.none _)
      | (with_reducible refine LeO.ite ?_ ?_)
      | (with_reducible refine LeO.bind ?_ (fun _ => ?_))
      | exact ih0 _ _ _ _ _ _ _ _ _ _
      | exact cut_Of.mono _ _ _ _
      | exact partsynclaw21_begun.mono _
      | exact partsyncref21_Of.mono _ _ _ _
      | exact slices_Equal_int_int.mono _ _ _
      | exact LeO.none _
      | refine LeO.ite ?_ ?_
      | refine LeO.bind ?_ (fun _ => ?_)
theorem partsynclaw21_CutOfs.lf {r : Bool} {a b : Int} (hr : r = true) (h : some (false, a) = some (r, b)) : False := by subst hr; simp at h
set_option maxHeartbeats 8000000 in
set_option maxRecDepth 100000 in
theorem partsynclaw21_CutOfs.calls (k : Nat) (a0 : Int) (A1 : Option Addr) (c1 : Nat) (l1 : List (List (S50))) (a2 : Int) (AA : Option Addr) (cc : Nat) (l0 : List Int) (r1 : Bool) (r2 : Int) (ww : World) (hr1 : Kd.C (Kd.slice 50 k50) ww A1 l1.length l1) (hc1 : l1.length ≤ c1) (hC : (Kd.int .u8).C ww AA l0.length l0) (hc : l0.length ≤ cc) (h : partsynclaw21_CutOfs.f k a0 l1 a2 (l0.take 80) 0 = some (r1, r2)) (hr : r1 = true) :
    Calls Try.prog 9 #[.int .i64 a0, .slice A1 l1.length c1, .int .i64 a2, .slice AA l0.length cc] ww fun e w' => ∃ w w0 g, Below ww.heap.size ww w0 ∧ (e = .returned (.bool r1) ∧ IsS61 w0 w' g (l0.take 80) r2 ∧ Below w0.heap.size w0 w' ∧ KeepBut w w' g none) := by
  have HRT := Aside0.mk hr
  clear hr
  have Z_hC := Aside0.mk hC
  have Z_hc := Aside0.mk hc
  have Z_hr1 := Aside0.mk hr1
  have Z_hc1 := Aside0.mk hc1
  clear hC hc hr1 hc1
  obtain ⟨s3_0, hs0_⟩ : ∃ s, s = l0.take 80 := ⟨_, rfl⟩
  obtain ⟨s3_1, hs1_⟩ : ∃ s : Int, s = 0 := ⟨_, rfl⟩
  replace h := (show _ = _ from h)
  rw [← hs0_, ← hs1_] at h
  rw [← hs0_]
  have H : ((partsynccase_Case_Logs.f s3_0 s3_1).bind fun bt557 => ((some (([a2, wrap64 (bt557.1 - 1), bt557.1, wrap64 (bt557.1 + 1), wrap64 (bt557.1 + 3), wrap64 (bt557.1 + 9), 1073741824] : List Int) : List Int)).bind fun y562 => (partsynclaw21_CutOfs.l0 k a0 l1 a2 bt557.1 bt557.2.1 y562 (y562.length : Int) 0 s3_0 bt557.2.2))) = some (r1, r2) := h
  clear h
  replace H := Option.bind_eq_some_iff.mp H
  obtain ⟨⟨t557, t558, t561⟩, A50, H⟩ := H
  replace H : ((some (([a2, wrap64 (t557 - 1), t557, wrap64 (t557 + 1), wrap64 (t557 + 3), wrap64 (t557 + 9), 1073741824] : List Int) : List Int)).bind fun y562 => (partsynclaw21_CutOfs.l0 k a0 l1 a2 t557 t558 y562 (y562.length : Int) 0 s3_0 t561)) = some (r1, r2) := H
  have A5 := Aside0.mk A50
  clear A50
  obtain ⟨y562, hy562⟩ : ∃ y_ : List Int, y_ = (([a2, wrap64 (t557 - 1), t557, wrap64 (t557 + 1), wrap64 (t557 + 3), wrap64 (t557 + 9), 1073741824] : List Int)) := ⟨_, rfl⟩
  replace H : (partsynclaw21_CutOfs.l0 k a0 l1 a2 t557 t558 y562 (y562.length : Int) 0 s3_0 t561) = some (r1, r2) := by first | (rw [hy562]; with_reducible exact H) | (have H2_ := (Option.bind_some _ _).symm.trans H; rw [hy562]; with_reducible exact H2_) | (have H2_ := (Option.bind_some _ _).symm.trans H; with_reducible exact H2_) | with_reducible exact H | (rw [hy562]; exact H) | exact H
  have Ny562 := Aside0.mk hy562
  clear hy562
  have H' := Aside0.mk H
  clear H
  go_enter Try.func9, Try.ntmps9
  go_wp2_with (first | (go_at_call 13; refine (new_any l0 AA cc 80 _ (Kd.C_below Z_hC.out (by repeat (first | exact Below.refl _ _ | apply Below.drew | apply pw_below_drewN))) Z_hc.out (by omega)).mono ?_; rintro e w ⟨w0, g, rfl, hb0, hI, hB⟩; have HN0 := Aside0.mk (show Below ww.heap.size ww w0 from Below.trans (by repeat (first | exact Below.refl _ _ | apply Below.drew | apply pw_below_drewN)) hb0); have HBW := Aside0.mk (show Below ww.heap.size ww w from below_step HN0.out hB); have HGE := Aside0.mk (show ww.heap.size ≤ g from Nat.le_trans HN0.out.size hI.ge); clear hb0; replace hI := (show IsS61 w0 w g s3_0 s3_1 from by rw [hs0_, hs1_]; exact hI); have hr1 := Kd.C_foot_came (g := g) (Kd.heap_slice 50 partsynclaw21_CutOfs.heap50) Z_hr1.out HBW.out HGE.out; have hc1 := Z_hc1.out; have HR1 := Aside0.mk hr1; have HC1 := Aside0.mk hc1; clear hr1 hc1; have HI3 := Aside0.mk hI; have HK := Aside0.mk (KeepBut.refl w g none); have HL := Aside0.mk hB.size; clear hI; have HW0 := Aside0.mk hB.size; have HB := Aside0.mk hB; clear hB) | ((with_reducible refine gate_callee (f := 21) rfl ?_); refine goesL_ (some 24) rfl rfl Try.func21 (by kernel_rfl) rfl #[.pointer (some ⟨g, 0, none⟩)] rfl (by (try simp only [List.map_toArray, List.map_cons, List.map_nil]); first | done | rfl | (simp only [List.length_drop, List.length_take]; rfl)) ?_; (with_reducible refine (partsynccase_Case_Logs.calls g s3_0 s3_1 t557 t558 t561 w0 _ ?side1 ?side2 A5.out).mono ?_); (case side1 => repeat (first | (with_reducible first | exact HI3.out | apply IsS61.alloc | apply IsS61.drewN | apply IsS61.drew | apply IsS61.set_1) | exact HI3.out)); (case side2 => repeat (first | (with_reducible first | exact HB.out | apply below_alloc | apply pw_below_drewN | apply below_drew1 | refine below_set ?_ (IsS61.ge HI3.out)) | exact HB.out)); rintro e w6 ⟨v559, rfl, ho0, hi, hb, hk⟩; refine ⟨_, rfl, ?_⟩; have n0_ := Aside0.mk (Kd.R_lower ho0 (keep_size (w := w) (g := g) (row := none) (by repeat (first | (with_reducible first | exact HK.out | apply KeepBut.set_ | apply keep_drewN | apply keep_drew | apply keep_alloc) | exact HK.out)))); have n1_ := Aside0.mk (KeepBut.trans (by repeat (first | (with_reducible first | exact HK.out | apply KeepBut.set_ | apply keep_drewN | apply keep_drew | apply keep_alloc) | exact HK.out)) hk (.inl rfl)); have n2_ := Aside0.mk (hb); have n3_ := Aside0.mk (hi); clear HK; clear HB; clear HI3; have HO560 := n0_; have HK := n1_; have HB := n2_; have HI3 := n3_; clear n0_ n1_ n2_ n3_; (try clear hb); (try clear hb2); (try clear hk); (try clear hi); (try clear ho0)) | ((with_reducible refine gate_dst (N := 37) rfl ?_); refine Kd.R_lit (Kd.int .i64) _ 3 ?hg (N := 37) ?hd (xs := ([a2, wrap64 (t557 - 1), t557, wrap64 (t557 + 1), wrap64 (t557 + 3), wrap64 (t557 + 9), 1073741824] : List Int)) (inner := [.int .i64 a2, .int .i64 (wrap64 (t557 - 1)), .int .i64 t557, .int .i64 (wrap64 (t557 + 1)), .int .i64 (wrap64 (t557 + 3)), .int .i64 (wrap64 (t557 + 9)), .int .i64 1073741824]) (ok := fun _ => True) (okp := fun _ => True) ?hr ?hp (fun _ hk => hk) trivial (Below.refl _ _) (Nat.le_refl _) (by simp) ?_; (case hd => rfl); (case hg => rfl); (case hr => first | (go_simp; done) | (go_simp; rfl)); (case hp => exact (Reps.one (show Kd.M (Kd.int .i64) _ _ _ a2 [.int .i64 a2] from rfl) (Reps.one (show Kd.M (Kd.int .i64) _ _ _ (wrap64 (t557 - 1)) [.int .i64 (wrap64 (t557 - 1))] from rfl) (Reps.one (show Kd.M (Kd.int .i64) _ _ _ t557 [.int .i64 t557] from rfl) (Reps.one (show Kd.M (Kd.int .i64) _ _ _ (wrap64 (t557 + 1)) [.int .i64 (wrap64 (t557 + 1))] from rfl) (Reps.one (show Kd.M (Kd.int .i64) _ _ _ (wrap64 (t557 + 3)) [.int .i64 (wrap64 (t557 + 3))] from rfl) (Reps.one (show Kd.M (Kd.int .i64) _ _ _ (wrap64 (t557 + 9)) [.int .i64 (wrap64 (t557 + 9))] from rfl) (Reps.one (show Kd.M (Kd.int .i64) _ _ _ 1073741824 [.int .i64 1073741824] from rfl) (Reps.none _ _))))))))); intro v563 w7 ho8 hb hg_ hnew_; clear hg_ hnew_; (first | rw [← Ny562.out] at ho8 | (simp only [Int.reduceToNat] at ho8; rw [← Ny562.out] at ho8)); have n0_ := Aside0.mk (Kd.R_elder' (by (with_reducible repeat (first | apply Kd.R_alloc | apply Kd.R_drewN | apply Kd.R_drew)); exact HO560.out) (Kd.R_base ho8) hb); have n1_ := Aside0.mk (Kd.R_lower ho8 (keep_size (w := w) (g := g) (row := none) (by repeat (first | (with_reducible first | exact HK.out | apply KeepBut.set_ | apply keep_drewN | apply keep_drew | apply keep_alloc) | exact HK.out)))); have n2_ := Aside0.mk (IsS61.below (by repeat (first | (with_reducible first | exact HI3.out | apply IsS61.alloc | apply IsS61.drewN | apply IsS61.drew | apply IsS61.set_1) | exact HI3.out)) hb); have n3_ := Aside0.mk (KeepBut.trans (by repeat (first | (with_reducible first | exact HK.out | apply KeepBut.set_ | apply keep_drewN | apply keep_drew | apply keep_alloc) | exact HK.out)) (KeepBut.of_below hb g none) (.inl rfl)); have n4_ := Aside0.mk (below_step (by repeat (first | (with_reducible first | exact HB.out | apply below_alloc | apply pw_below_drewN | apply below_drew1 | refine below_set ?_ (IsS61.ge HI3.out)) | exact HB.out)) hb); clear HO560; clear HI3; clear HK; clear HB; have HO560 := n0_; have HO564 := n1_; have HI3 := n2_; have HK := n3_; have HB := n4_; clear n0_ n1_ n2_ n3_ n4_; clear hb ho8; obtain ⟨Ao9, co9, eo9⟩ := Kd.R_slice HO564.out; subst eo9))
  go_loopg [39] k (fun kq v39 w' => ∃ (x39_1 : Int), v39 = .int .i64 x39_1 ∧ Aside0 (partsynclaw21_CutOfs.l0 kq a0 l1 a2 t557 t558 y562 (y562.length : Int) x39_1 s3_0 t561 = some (r1, r2)) ∧ Aside0 (kq ≤ k) ∧ Aside0 (Kd.R (Kd.slice 50 k50) 47 w' w.heap.size (fun k_ => some k_ ≠ ((.slice Ao9 y562.length co9) : Value).ownBlock) v559 t558) ∧ Aside0 (Kd.R (Kd.int .i64) 3 w' w.heap.size (fun _ => True) (.slice Ao9 y562.length co9) y562) ∧ Aside0 (IsS61 w0 w' g s3_0 t561) ∧ Aside0 (KeepBut w w' g none) ∧ Aside0 (Below w0.heap.size w0 w'))
  case atStart => exact ⟨(0), (by first | rfl | (simp; done) | (simp [*]; done)), H', ⟨Nat.le_refl _⟩, ⟨by (with_reducible repeat (first | apply Kd.R_alloc | apply Kd.R_drewN | apply Kd.R_drew)); exact Kd.R_mono HO560.out (fun _ hk => hk.2)⟩, ⟨by (with_reducible repeat (first | apply Kd.R_alloc | apply Kd.R_drewN | apply Kd.R_drew)); exact HO564.out⟩, ⟨by repeat (first | (with_reducible first | exact HI3.out | apply IsS61.alloc | apply IsS61.drewN | apply IsS61.drew | apply IsS61.set_1) | exact HI3.out)⟩, ⟨by repeat (first | (with_reducible first | exact HK.out | apply KeepBut.set_ | apply keep_drewN | apply keep_drew | apply keep_alloc) | exact HK.out)⟩, ⟨by repeat (first | (with_reducible first | exact HB.out | apply below_alloc | apply pw_below_drewN | apply below_drew1 | refine below_set ?_ (IsS61.ge HI3.out)) | exact HB.out)⟩⟩
  case round =>
    clear H'
    try clear c1
    try clear c2
    try clear p2
    try clear p6
    try clear c9
    obtain ⟨x39_1, rfl, HA, HK1, HO_10, HO_37, HI3, HK, HB⟩ := hrel
    cases gk with
    | zero => exact absurd HA.out (by simp [partsynclaw21_CutOfs.l0])
    | succ k1 =>
      have H := HA.out
      clear HA
      simp only [partsynclaw21_CutOfs.l0] at H
      by_cases c10 : x39_1 < (y562.length : Int)
      · rw [if_pos c10] at H
        have c10b0 : decide (x39_1 < (y562.length : Int)) = true := decide_eq_true c10
        clear c10
        by_cases c11 : 0 ≤ x39_1
        · rw [if_pos c11] at H
          have c11b0 : decide (0 ≤ x39_1) = true := decide_eq_true c11
          clear c11
          by_cases c12 : x39_1 < (y562.length : Int)
          · rw [if_pos c12] at H
            have c12b0 : decide (x39_1 < (y562.length : Int)) = true := decide_eq_true c12
            clear c12
            replace H := Option.bind_eq_some_iff.mp H
            obtain ⟨⟨t566, t567⟩, A130, H⟩ := H
            replace H : ((partsyncref21_Of.f k1 t557 t558 (rd y562 x39_1)).bind fun bt570 => ((slices_Equal_int_int.f k1 t566 bt570.1).bind fun t574 => (if t574 = true then (if t567 = bt570.2 then (partsynclaw21_CutOfs.l0 k1 a0 l1 a2 t557 t558 y562 (y562.length : Int) (wrap64 (x39_1 + 1)) s3_0 t561) else (some (false, t561))) else (some (false, t561))))) = some (r1, r2) := H
            have A13 := Aside0.mk A130
            clear A130
            replace H := Option.bind_eq_some_iff.mp H
            obtain ⟨⟨t570, t571⟩, A140, H⟩ := H
            replace H : ((slices_Equal_int_int.f k1 t566 t570).bind fun t574 => (if t574 = true then (if t567 = t571 then (partsynclaw21_CutOfs.l0 k1 a0 l1 a2 t557 t558 y562 (y562.length : Int) (wrap64 (x39_1 + 1)) s3_0 t561) else (some (false, t561))) else (some (false, t561)))) = some (r1, r2) := H
            have A14 := Aside0.mk A140
            clear A140
            replace H := Option.bind_eq_some_iff.mp H
            obtain ⟨t574, A150, H⟩ := H
            replace H : (if t574 = true then (if t567 = t571 then (partsynclaw21_CutOfs.l0 k1 a0 l1 a2 t557 t558 y562 (y562.length : Int) (wrap64 (x39_1 + 1)) s3_0 t561) else (some (false, t561))) else (some (false, t561))) = some (r1, r2) := H
            have A15 := Aside0.mk A150
            clear A150
            by_cases c16 : t574 = true
            · subst c16
              have H1 : (if t567 = t571 then (partsynclaw21_CutOfs.l0 k1 a0 l1 a2 t557 t558 y562 (y562.length : Int) (wrap64 (x39_1 + 1)) s3_0 t561) else (some (false, t561))) = some (r1, r2) := by rw [if_pos rfl] at H; exact H
              clear H
              have H := H1
              clear H1
              by_cases c17 : t567 = t571
              · rw [if_pos c17] at H
                have c17b0 : (t567 == t571) = true := beq_iff_eq.mpr c17
                have c17b1 : (t567 != t571) = false := bne_eq_false_iff_eq.mpr c17
                clear c17
                have H' := Aside0.mk H
                clear H
                have p565 : 0 ≤ (x39_1 : Int) := of_decide_eq_true (by first | (with_reducible assumption) | assumption)
                have q565 : x39_1 < (y562.length : Int) := of_decide_eq_true (by first | (with_reducible assumption) | assumption)
                obtain ⟨ad565, e565, hx565_0⟩ := Kd.at_int (Kd.R_reads' HO_37.out).2.2 x39_1 p565 q565
                cases e565
                replace p565 := eq_true p565
                replace q565 := eq_true q565
                obtain ⟨Ao18, co18, eo18⟩ := Kd.R_slice HO_10.out
                subst eo18
                go_wp2_with (first | ((with_reducible refine gate_callee (f := 25) rfl ?_); refine goesL_ (some 47) rfl rfl Try.func25 (by kernel_rfl) rfl #[.int .i64 t557, .slice Ao18 t558.length co18, .int .i64 (rd y562 x39_1)] rfl (by (try simp only [List.map_toArray, List.map_cons, List.map_nil]); first | done | rfl | (simp only [List.length_drop, List.length_take]; rfl)) ?_; (with_reducible refine (cut_Of.calls k1 t557 _ _ t558 (rd y562 x39_1) t566 t567 _ ?side1 ?side2 A13.out).mono ?_); (case side1 => repeat (first | exact (Kd.R_reads' HO_10.out).2.2 | (with_reducible refine Kd.C_alloc ?_ _) | (with_reducible refine Kd.C_drewN ?_ _) | (with_reducible refine Kd.C_drew ?_))); (case side2 => exact (Kd.R_reads' HO_10.out).2.1); rintro e w19 ⟨v568, rfl, ho0, hb⟩; refine ⟨_, rfl, ?_⟩; have n0_ := Aside0.mk (Kd.R_elder' (by (with_reducible repeat (first | apply Kd.R_alloc | apply Kd.R_drewN | apply Kd.R_drew)); exact HO_10.out) (Kd.R_base ho0) hb); have n1_ := Aside0.mk (Kd.R_elder' (by (with_reducible repeat (first | apply Kd.R_alloc | apply Kd.R_drewN | apply Kd.R_drew)); exact HO_37.out) (Kd.R_base ho0) hb); have n2_ := Aside0.mk (Kd.R_lower (Kd.R_new' ho0 (Kd.R_lt (by (with_reducible repeat (first | apply Kd.R_alloc | apply Kd.R_drewN | apply Kd.R_drew)); exact HO_37.out))) (keep_size (w := w) (g := g) (row := none) (by repeat (first | (with_reducible first | exact HK.out | apply KeepBut.set_ | apply keep_drewN | apply keep_drew | apply keep_alloc) | exact HK.out)))); have n3_ := Aside0.mk (IsS61.below (by repeat (first | (with_reducible first | exact HI3.out | apply IsS61.alloc | apply IsS61.drewN | apply IsS61.drew | apply IsS61.set_1) | exact HI3.out)) hb); have n4_ := Aside0.mk (KeepBut.trans (by repeat (first | (with_reducible first | exact HK.out | apply KeepBut.set_ | apply keep_drewN | apply keep_drew | apply keep_alloc) | exact HK.out)) (KeepBut.of_below hb g none) (.inl rfl)); have n5_ := Aside0.mk (below_step (by repeat (first | (with_reducible first | exact HB.out | apply below_alloc | apply pw_below_drewN | apply below_drew1 | refine below_set ?_ (IsS61.ge HI3.out)) | exact HB.out)) hb); clear HO_10; clear HO_37; clear HI3; clear HK; clear HB; have HO_10 := n0_; have HO_37 := n1_; have HO569 := n2_; have HI3 := n3_; have HK := n4_; have HB := n5_; clear n0_ n1_ n2_ n3_ n4_ n5_; (try clear hb); (try clear hb2); (try clear hk); (try clear hi); (try clear ho0)) | ((with_reducible refine gate_callee (f := 36) rfl ?_); refine goesL_ (some 54) rfl rfl Try.func36 (by kernel_rfl) rfl #[.int .i64 t557, .slice Ao18 t558.length co18, .int .i64 (rd y562 x39_1)] rfl (by (try simp only [List.map_toArray, List.map_cons, List.map_nil]); first | done | rfl | (simp only [List.length_drop, List.length_take]; rfl)) ?_; (with_reducible refine (partsyncref21_Of.calls k1 t557 _ _ t558 (rd y562 x39_1) t570 t571 _ ?side1 ?side2 A14.out).mono ?_); (case side1 => repeat (first | exact (Kd.R_reads' HO_10.out).2.2 | (with_reducible refine Kd.C_alloc ?_ _) | (with_reducible refine Kd.C_drewN ?_ _) | (with_reducible refine Kd.C_drew ?_))); (case side2 => exact (Kd.R_reads' HO_10.out).2.1); rintro e w20 ⟨v572, rfl, ho0, hb⟩; refine ⟨_, rfl, ?_⟩; have n0_ := Aside0.mk (Kd.R_elder' (by (with_reducible repeat (first | apply Kd.R_alloc | apply Kd.R_drewN | apply Kd.R_drew)); exact HO_10.out) (Kd.R_base ho0) hb); have n1_ := Aside0.mk (Kd.R_elder' (by (with_reducible repeat (first | apply Kd.R_alloc | apply Kd.R_drewN | apply Kd.R_drew)); exact HO_37.out) (Kd.R_base ho0) hb); have n2_ := Aside0.mk (Kd.R_elder' (by (with_reducible repeat (first | apply Kd.R_alloc | apply Kd.R_drewN | apply Kd.R_drew)); exact HO569.out) (Kd.R_base ho0) hb); have n3_ := Aside0.mk (Kd.R_lower (Kd.R_new' (Kd.R_new' ho0 (Kd.R_lt (by (with_reducible repeat (first | apply Kd.R_alloc | apply Kd.R_drewN | apply Kd.R_drew)); exact HO_37.out))) (Kd.R_lt (by (with_reducible repeat (first | apply Kd.R_alloc | apply Kd.R_drewN | apply Kd.R_drew)); exact HO569.out))) (keep_size (w := w) (g := g) (row := none) (by repeat (first | (with_reducible first | exact HK.out | apply KeepBut.set_ | apply keep_drewN | apply keep_drew | apply keep_alloc) | exact HK.out)))); have n4_ := Aside0.mk (IsS61.below (by repeat (first | (with_reducible first | exact HI3.out | apply IsS61.alloc | apply IsS61.drewN | apply IsS61.drew | apply IsS61.set_1) | exact HI3.out)) hb); have n5_ := Aside0.mk (KeepBut.trans (by repeat (first | (with_reducible first | exact HK.out | apply KeepBut.set_ | apply keep_drewN | apply keep_drew | apply keep_alloc) | exact HK.out)) (KeepBut.of_below hb g none) (.inl rfl)); have n6_ := Aside0.mk (below_step (by repeat (first | (with_reducible first | exact HB.out | apply below_alloc | apply pw_below_drewN | apply below_drew1 | refine below_set ?_ (IsS61.ge HI3.out)) | exact HB.out)) hb); clear HO_10; clear HO_37; clear HO569; clear HI3; clear HK; clear HB; have HO_10 := n0_; have HO_37 := n1_; have HO569 := n2_; have HO573 := n3_; have HI3 := n4_; have HK := n5_; have HB := n6_; clear n0_ n1_ n2_ n3_ n4_ n5_ n6_; (try clear hb); (try clear hb2); (try clear hk); (try clear hi); (try clear ho0); obtain ⟨Ao21, co21, eo21⟩ := Kd.R_slice HO569.out; subst eo21; obtain ⟨Ao22, co22, eo22⟩ := Kd.R_slice HO573.out; subst eo22) | ((with_reducible refine gate_callee (f := 18) rfl ?_); refine goesL_ (some 59) rfl rfl Try.func18 (by kernel_rfl) rfl #[.slice Ao21 t566.length co21, .slice Ao22 t570.length co22] rfl (by (try simp only [List.map_toArray, List.map_cons, List.map_nil]); first | done | rfl | (simp only [List.length_drop, List.length_take]; rfl)) ?_; (with_reducible refine (slices_Equal_int_int.calls k1 _ _ t566 _ _ t570 true _ ?side1 ?side2 ?side3 ?side4 A15.out).mono ?_); (case side1 => repeat (first | exact (Kd.R_reads' HO569.out).2.2 | (with_reducible refine Kd.C_alloc ?_ _) | (with_reducible refine Kd.C_drewN ?_ _) | (with_reducible refine Kd.C_drew ?_))); (case side2 => exact (Kd.R_reads' HO569.out).2.1); (case side3 => repeat (first | exact (Kd.R_reads' HO573.out).2.2 | (with_reducible refine Kd.C_alloc ?_ _) | (with_reducible refine Kd.C_drewN ?_ _) | (with_reducible refine Kd.C_drew ?_))); (case side4 => exact (Kd.R_reads' HO573.out).2.1); rintro e w' ⟨rfl, ⟨nd, rfl⟩⟩; refine ⟨_, rfl, ?_⟩))
                go_roundg k1
                case measure => have := HK1.out; omega
                case rel => exact ⟨(wrap64 (x39_1 + 1)), (by first | rfl | (simp; done) | (simp [*]; done)), H', ⟨by have := HK1.out; omega⟩, ⟨by (with_reducible repeat (first | apply Kd.R_alloc | apply Kd.R_drewN | apply Kd.R_drew)); exact Kd.R_mono HO_10.out (fun _ hk => hk.1.1)⟩, ⟨by (with_reducible repeat (first | apply Kd.R_alloc | apply Kd.R_drewN | apply Kd.R_drew)); exact Kd.R_mono HO_37.out (fun _ hk => trivial)⟩, ⟨by repeat (first | (with_reducible first | exact HI3.out | apply IsS61.alloc | apply IsS61.drewN | apply IsS61.drew | apply IsS61.set_1) | exact HI3.out)⟩, ⟨by repeat (first | (with_reducible first | exact HK.out | apply KeepBut.set_ | apply keep_drewN | apply keep_drew | apply keep_alloc) | exact HK.out)⟩, ⟨by repeat (first | (with_reducible first | exact HB.out | apply below_alloc | apply pw_below_drewN | apply below_drew1 | refine below_set ?_ (IsS61.ge HI3.out)) | exact HB.out)⟩⟩
              · rw [if_neg c17] at H
                have c17b0 : (t567 == t571) = false := beq_eq_false_iff_ne.mpr c17
                have c17b1 : (t567 != t571) = true := bne_iff_ne.mpr c17
                exact (partsynclaw21_CutOfs.lf HRT.out H).elim
            · replace c16 := Bool.eq_false_iff.mpr c16
              subst c16
              have H1 : (some (false, t561)) = some (r1, r2) := by rw [if_neg (show ¬ (false = true) by decide)] at H; exact H
              clear H
              have H := H1
              clear H1
              exact (partsynclaw21_CutOfs.lf HRT.out H).elim
          · rw [if_neg c12] at H
            exact absurd H (by simp)
        · rw [if_neg c11] at H
          exact absurd H (by simp)
      · rw [if_neg c10] at H
        have c10b0 : decide (x39_1 < (y562.length : Int)) = false := decide_eq_false c10
        clear c10
        replace H := Option.bind_eq_some_iff.mp H
        obtain ⟨⟨t575, t576⟩, A330, H⟩ := H
        replace H : ((partsyncref21_Of.f k1 a0 l1 a2).bind fun bt579 => ((slices_Equal_int_int.f k1 t575 bt579.1).bind fun t583 => (if t583 = true then (if t576 = bt579.2 then ((partsynclaw21_begun.f k1).bind fun t584 => (some (t584, t561))) else (some (false, t561))) else (some (false, t561))))) = some (r1, r2) := H
        have A33 := Aside0.mk A330
        clear A330
        replace H := Option.bind_eq_some_iff.mp H
        obtain ⟨⟨t579, t580⟩, A340, H⟩ := H
        replace H : ((slices_Equal_int_int.f k1 t575 t579).bind fun t583 => (if t583 = true then (if t576 = t580 then ((partsynclaw21_begun.f k1).bind fun t584 => (some (t584, t561))) else (some (false, t561))) else (some (false, t561)))) = some (r1, r2) := H
        have A34 := Aside0.mk A340
        clear A340
        replace H := Option.bind_eq_some_iff.mp H
        obtain ⟨t583, A350, H⟩ := H
        replace H : (if t583 = true then (if t576 = t580 then ((partsynclaw21_begun.f k1).bind fun t584 => (some (t584, t561))) else (some (false, t561))) else (some (false, t561))) = some (r1, r2) := H
        have A35 := Aside0.mk A350
        clear A350
        by_cases c36 : t583 = true
        · subst c36
          have H1 : (if t576 = t580 then ((partsynclaw21_begun.f k1).bind fun t584 => (some (t584, t561))) else (some (false, t561))) = some (r1, r2) := by rw [if_pos rfl] at H; exact H
          clear H
          have H := H1
          clear H1
          by_cases c37 : t576 = t580
          · rw [if_pos c37] at H
            have c37b0 : (t576 == t580) = true := beq_iff_eq.mpr c37
            have c37b1 : (t576 != t580) = false := bne_eq_false_iff_eq.mpr c37
            clear c37
            replace H := Option.bind_eq_some_iff.mp H
            obtain ⟨t584, A380, H⟩ := H
            replace H : (some (t584, t561)) = some (r1, r2) := H
            have A38 := Aside0.mk A380
            clear A380
            simp only [Option.some.injEq, Prod.mk.injEq] at H
            obtain ⟨rfl, rfl⟩ := H
            go_wp2_with (first | ((with_reducible refine gate_callee (f := 25) rfl ?_); refine goesL_ (some 71) rfl rfl Try.func25 (by kernel_rfl) rfl #[.int .i64 a0, .slice A1 l1.length c1, .int .i64 a2] rfl (by (try simp only [List.map_toArray, List.map_cons, List.map_nil]); first | done | rfl | (simp only [List.length_drop, List.length_take]; rfl)) ?_; (with_reducible refine (cut_Of.calls k1 a0 _ _ l1 a2 t575 t576 _ ?side1 ?side2 A33.out).mono ?_); (case side1 => exact Kd.C_foot_now HR1.out (by repeat (first | (with_reducible first | exact HK.out | apply KeepBut.set_ | apply keep_drewN | apply keep_drew | apply keep_alloc) | exact HK.out))); (case side2 => exact HC1.out); rintro e w39 ⟨v577, rfl, ho0, hb⟩; refine ⟨_, rfl, ?_⟩; have n0_ := Aside0.mk (Kd.R_elder' (by (with_reducible repeat (first | apply Kd.R_alloc | apply Kd.R_drewN | apply Kd.R_drew)); exact HO_10.out) (Kd.R_base ho0) hb); have n1_ := Aside0.mk (Kd.R_elder' (by (with_reducible repeat (first | apply Kd.R_alloc | apply Kd.R_drewN | apply Kd.R_drew)); exact HO_37.out) (Kd.R_base ho0) hb); have n2_ := Aside0.mk (Kd.R_lower (Kd.R_new' ho0 (Kd.R_lt (by (with_reducible repeat (first | apply Kd.R_alloc | apply Kd.R_drewN | apply Kd.R_drew)); exact HO_37.out))) (keep_size (w := w) (g := g) (row := none) (by repeat (first | (with_reducible first | exact HK.out | apply KeepBut.set_ | apply keep_drewN | apply keep_drew | apply keep_alloc) | exact HK.out)))); have n3_ := Aside0.mk (IsS61.below (by repeat (first | (with_reducible first | exact HI3.out | apply IsS61.alloc | apply IsS61.drewN | apply IsS61.drew | apply IsS61.set_1) | exact HI3.out)) hb); have n4_ := Aside0.mk (KeepBut.trans (by repeat (first | (with_reducible first | exact HK.out | apply KeepBut.set_ | apply keep_drewN | apply keep_drew | apply keep_alloc) | exact HK.out)) (KeepBut.of_below hb g none) (.inl rfl)); have n5_ := Aside0.mk (below_step (by repeat (first | (with_reducible first | exact HB.out | apply below_alloc | apply pw_below_drewN | apply below_drew1 | refine below_set ?_ (IsS61.ge HI3.out)) | exact HB.out)) hb); clear HO_10; clear HO_37; clear HI3; clear HK; clear HB; have HO_10 := n0_; have HO_37 := n1_; have HO578 := n2_; have HI3 := n3_; have HK := n4_; have HB := n5_; clear n0_ n1_ n2_ n3_ n4_ n5_; (try clear hb); (try clear hb2); (try clear hk); (try clear hi); (try clear ho0)) | ((with_reducible refine gate_callee (f := 36) rfl ?_); refine goesL_ (some 78) rfl rfl Try.func36 (by kernel_rfl) rfl #[.int .i64 a0, .slice A1 l1.length c1, .int .i64 a2] rfl (by (try simp only [List.map_toArray, List.map_cons, List.map_nil]); first | done | rfl | (simp only [List.length_drop, List.length_take]; rfl)) ?_; (with_reducible refine (partsyncref21_Of.calls k1 a0 _ _ l1 a2 t579 t580 _ ?side1 ?side2 A34.out).mono ?_); (case side1 => exact Kd.C_foot_now HR1.out (by repeat (first | (with_reducible first | exact HK.out | apply KeepBut.set_ | apply keep_drewN | apply keep_drew | apply keep_alloc) | exact HK.out))); (case side2 => exact HC1.out); rintro e w40 ⟨v581, rfl, ho0, hb⟩; refine ⟨_, rfl, ?_⟩; have n0_ := Aside0.mk (Kd.R_elder' (by (with_reducible repeat (first | apply Kd.R_alloc | apply Kd.R_drewN | apply Kd.R_drew)); exact HO_10.out) (Kd.R_base ho0) hb); have n1_ := Aside0.mk (Kd.R_elder' (by (with_reducible repeat (first | apply Kd.R_alloc | apply Kd.R_drewN | apply Kd.R_drew)); exact HO_37.out) (Kd.R_base ho0) hb); have n2_ := Aside0.mk (Kd.R_elder' (by (with_reducible repeat (first | apply Kd.R_alloc | apply Kd.R_drewN | apply Kd.R_drew)); exact HO578.out) (Kd.R_base ho0) hb); have n3_ := Aside0.mk (Kd.R_lower (Kd.R_new' (Kd.R_new' ho0 (Kd.R_lt (by (with_reducible repeat (first | apply Kd.R_alloc | apply Kd.R_drewN | apply Kd.R_drew)); exact HO_37.out))) (Kd.R_lt (by (with_reducible repeat (first | apply Kd.R_alloc | apply Kd.R_drewN | apply Kd.R_drew)); exact HO578.out))) (keep_size (w := w) (g := g) (row := none) (by repeat (first | (with_reducible first | exact HK.out | apply KeepBut.set_ | apply keep_drewN | apply keep_drew | apply keep_alloc) | exact HK.out)))); have n4_ := Aside0.mk (IsS61.below (by repeat (first | (with_reducible first | exact HI3.out | apply IsS61.alloc | apply IsS61.drewN | apply IsS61.drew | apply IsS61.set_1) | exact HI3.out)) hb); have n5_ := Aside0.mk (KeepBut.trans (by repeat (first | (with_reducible first | exact HK.out | apply KeepBut.set_ | apply keep_drewN | apply keep_drew | apply keep_alloc) | exact HK.out)) (KeepBut.of_below hb g none) (.inl rfl)); have n6_ := Aside0.mk (below_step (by repeat (first | (with_reducible first | exact HB.out | apply below_alloc | apply pw_below_drewN | apply below_drew1 | refine below_set ?_ (IsS61.ge HI3.out)) | exact HB.out)) hb); clear HO_10; clear HO_37; clear HO578; clear HI3; clear HK; clear HB; have HO_10 := n0_; have HO_37 := n1_; have HO578 := n2_; have HO582 := n3_; have HI3 := n4_; have HK := n5_; have HB := n6_; clear n0_ n1_ n2_ n3_ n4_ n5_ n6_; (try clear hb); (try clear hb2); (try clear hk); (try clear hi); (try clear ho0); obtain ⟨Ao41, co41, eo41⟩ := Kd.R_slice HO578.out; subst eo41; obtain ⟨Ao42, co42, eo42⟩ := Kd.R_slice HO582.out; subst eo42) | ((with_reducible refine gate_callee (f := 18) rfl ?_); refine goesL_ (some 83) rfl rfl Try.func18 (by kernel_rfl) rfl #[.slice Ao41 t575.length co41, .slice Ao42 t579.length co42] rfl (by (try simp only [List.map_toArray, List.map_cons, List.map_nil]); first | done | rfl | (simp only [List.length_drop, List.length_take]; rfl)) ?_; (with_reducible refine (slices_Equal_int_int.calls k1 _ _ t575 _ _ t579 true _ ?side1 ?side2 ?side3 ?side4 A35.out).mono ?_); (case side1 => repeat (first | exact (Kd.R_reads' HO578.out).2.2 | (with_reducible refine Kd.C_alloc ?_ _) | (with_reducible refine Kd.C_drewN ?_ _) | (with_reducible refine Kd.C_drew ?_))); (case side2 => exact (Kd.R_reads' HO578.out).2.1); (case side3 => repeat (first | exact (Kd.R_reads' HO582.out).2.2 | (with_reducible refine Kd.C_alloc ?_ _) | (with_reducible refine Kd.C_drewN ?_ _) | (with_reducible refine Kd.C_drew ?_))); (case side4 => exact (Kd.R_reads' HO582.out).2.1); rintro e w' ⟨rfl, ⟨nd, rfl⟩⟩; refine ⟨_, rfl, ?_⟩) | (go_at_call 20; (with_reducible refine (partsynclaw21_begun.calls k1  t584 _ A38.out).mono ?_); rintro e w43 ⟨rfl, hb⟩; have n0_ := Aside0.mk (Kd.R_below (by (with_reducible repeat (first | apply Kd.R_alloc | apply Kd.R_drewN | apply Kd.R_drew)); exact HO_10.out) hb); have n1_ := Aside0.mk (Kd.R_below (by (with_reducible repeat (first | apply Kd.R_alloc | apply Kd.R_drewN | apply Kd.R_drew)); exact HO_37.out) hb); have n2_ := Aside0.mk (Kd.R_below (by (with_reducible repeat (first | apply Kd.R_alloc | apply Kd.R_drewN | apply Kd.R_drew)); exact HO578.out) hb); have n3_ := Aside0.mk (Kd.R_below (by (with_reducible repeat (first | apply Kd.R_alloc | apply Kd.R_drewN | apply Kd.R_drew)); exact HO582.out) hb); have n4_ := Aside0.mk (IsS61.below (by repeat (first | (with_reducible first | exact HI3.out | apply IsS61.alloc | apply IsS61.drewN | apply IsS61.drew | apply IsS61.set_1) | exact HI3.out)) hb); have n5_ := Aside0.mk (KeepBut.trans (by repeat (first | (with_reducible first | exact HK.out | apply KeepBut.set_ | apply keep_drewN | apply keep_drew | apply keep_alloc) | exact HK.out)) (KeepBut.of_below hb g none) (.inl rfl)); have n6_ := Aside0.mk (below_step (by repeat (first | (with_reducible first | exact HB.out | apply below_alloc | apply pw_below_drewN | apply below_drew1 | refine below_set ?_ (IsS61.ge HI3.out)) | exact HB.out)) hb); clear HO_10; clear HO_37; clear HO578; clear HO582; clear HI3; clear HK; clear HB; have HO_10 := n0_; have HO_37 := n1_; have HO578 := n2_; have HO582 := n3_; have HI3 := n4_; have HK := n5_; have HB := n6_; clear n0_ n1_ n2_ n3_ n4_ n5_ n6_; (try clear hb); (try clear hb2); (try clear hk); (try clear hi)))
            go_ret
            exact ⟨w, w0, g, HN0.out, by first | rfl | (simp [errW_none, errW_some] <;> rfl) | (simp [*, errW_none, errW_some] <;> rfl), by repeat (first | (with_reducible first | exact HI3.out | apply IsS61.alloc | apply IsS61.drewN | apply IsS61.drew | apply IsS61.set_1) | exact HI3.out), by repeat (first | (with_reducible first | exact HB.out | apply below_alloc | apply pw_below_drewN | apply below_drew1 | refine below_set ?_ (IsS61.ge HI3.out)) | exact HB.out), by repeat (first | (with_reducible first | exact HK.out | apply KeepBut.set_ | apply keep_drewN | apply keep_drew | apply keep_alloc) | exact HK.out)⟩
          · rw [if_neg c37] at H
            have c37b0 : (t576 == t580) = false := beq_eq_false_iff_ne.mpr c37
            have c37b1 : (t576 != t580) = true := bne_iff_ne.mpr c37
            exact (partsynclaw21_CutOfs.lf HRT.out H).elim
        · replace c36 := Bool.eq_false_iff.mpr c36
          subst c36
          have H1 : (some (false, t561)) = some (r1, r2) := by rw [if_neg (show ¬ (false = true) by decide)] at H; exact H
          clear H
          have H := H1
          clear H1
          exact (partsynclaw21_CutOfs.lf HRT.out H).elim

end Go.Proofs.Ytkhiglincdognaa.PA
