/-
CutPrefixes' plain law: over any codes its function answers true.
Conditions: the codes are bytes, at most 1000.
-/
import Derived.Test.YtkhiglincdognaaPBase
import Derived.Test.YtkhiglincdognaaSpec5
import Derived.Test.YtkhiglincdognaaHOf
import Derived.Test.YtkhiglincdognaaPAx16
namespace Go.Proofs.Ytkhiglincdognaa.PA
open Go.RowKit Go.Proofs.YtkhiglincdognaaW.PrintWords Go.Proofs.YtkhiglincdognaaW.PrintLast Go.Proofs.YtkhiglincdognaaW.PrintMore
set_option linter.unusedVariables false
set_option linter.unusedSimpArgs false
open Classical

def ofV (logs : List (List S50)) (n : Int) : List Int := logs.map (cntUpto n)
theorem ofV_len (logs : List (List S50)) (n : Int) : (ofV logs n).length = logs.length := by unfold ofV; rw [List.length_map]
theorem ofV_get {logs : List (List S50)} {n : Int} (i : Nat) (hi : i < logs.length) : (ofV logs n).getD i 0 = cntUpto n (logs.getD i []) := by
  unfold ofV
  rw [List.getD_eq_getElem?_getD, List.getElem?_map, List.getD_eq_getElem?_getD, List.getElem?_eq_getElem hi]; rfl
theorem cntU_le (n : Int) (l : List S50) : 0 ≤ cntUpto n l ∧ cntUpto n l ≤ (l.length : Int) := by
  have := tw_len n l
  unfold cntUpto; omega
theorem ofV_cut (logs : List (List S50)) (n : Int) : isCut logs (ofV logs n) := ⟨ofV_len _ _, fun i hi => by rw [ofV_get i hi]; exact cntU_le n _⟩
theorem of_ev {b n : Int} {logs : List (List S50)} (hv : Valid b logs) (h1 : b ≤ n) (h2 : n ≤ 1073741824) : Evt (fun k => cut_Of.f k b logs n) (ofV logs n, 0) := by
  unfold cut_Of.f
  have hc := check_ev b logs
  rw [checkV_ok.2 hv] at hc
  refine Evt.bind hc (Evt.pos rfl (Evt.neg (by omega) (Evt.pos (fun l hl => ?_) (Evt.ret _))))
  obtain ⟨j, hj, rfl⟩ := List.mem_iff_getElem.1 hl
  have := hv.short j hj
  rwa [List.getD_eq_getElem?_getD, List.getElem?_eq_getElem hj] at this
/-- A stamp is in the cut of n exactly if its commit is at most n. -/
theorem mem_of {b n : Int} {logs : List (List S50)} (hv : Valid b logs) {i : Nat} (hi : i < logs.length) {s : S50} (hs : s ∈ logs.getD i []) : s ∈ cutOf logs (ofV logs n) i ↔ s.f0 ≤ n := by
  obtain ⟨a, ha, rfl⟩ := List.mem_iff_getElem.1 hs
  have eg : (logs.getD i []).getD a z50 = (logs.getD i [])[a] := by rw [List.getD_eq_getElem?_getD, List.getElem?_eq_getElem ha]; rfl
  have hasc := hv.inv.asc i hi
  unfold cutOf
  rw [ofV_get i hi]
  unfold cntUpto
  rw [Int.toNat_natCast]
  constructor
  · intro hm
    obtain ⟨c, hc, hce⟩ := List.mem_iff_getElem.1 hm
    rw [List.length_take] at hc
    rw [List.getElem_take] at hce
    have hcl : c < (logs.getD i []).length := by omega
    have := tw_in n (logs.getD i []) c (by omega)
    rw [List.getD_eq_getElem?_getD, List.getElem?_eq_getElem hcl] at this
    rw [← hce]; exact this
  · intro hle
    have hac : a < ((logs.getD i []).takeWhile fun s => decide (s.f0 ≤ n)).length := by
      refine Nat.lt_of_not_le fun h => ?_
      have := tw_out n _ hasc a h ha
      rw [eg] at this; omega
    have := mem_take_getD (logs.getD i []) a _ hac ha
    rwa [eg] at this
theorem of_closed {b n w : Int} {logs : List (List S50)} (hv : Valid b logs) (hw : isWhole b logs w) (h2 : n ≤ w) : closedP logs (ofV logs n) := by
  intro i hi st hst
  rw [badSt_iff]
  intro x hx
  have hm : st ∈ logs.getD i [] := List.mem_of_mem_take hst
  have hle := (mem_of hv hi hm).1 hst
  have hr := hv.inv.rng i hi st hm
  obtain ⟨_, hall⟩ := hw.2.2.1 st.f0 hr.1 (by omega)
  obtain ⟨s, hs, he⟩ := hall i hi st hm rfl x hx
  have hx2 := (hv.inv.sh i hi st hm).2.1 x hx
  exact ⟨s, (mem_of hv (by omega) hs).2 (by omega), he⟩
theorem getD_get (L : List S50) (k : Nat) (h : k < L.length) : L.getD k z50 = L[k] := by rw [List.getD_eq_getElem?_getD, List.getElem?_eq_getElem h]; rfl
theorem of_floor {b n w r : Int} {logs : List (List S50)} (hv : Valid b logs) (hw : isWhole b logs w) (h1 : b ≤ n) (h2 : n ≤ w) (hf : isFloor logs (ofV logs n) w r) : r = n := by
  obtain ⟨f1, f2, f3⟩ := hf
  have ge : ∀ i, i < logs.length → (ofV logs n).getD i 0 < ((logs.getD i []).length : Int) → n < ((logs.getD i []).getD ((ofV logs n).getD i 0).toNat z50).f0 := fun i hi hl => by
    rw [ofV_get i hi] at hl ⊢
    unfold cntUpto at hl ⊢
    rw [Int.toNat_natCast]
    exact tw_out n _ (hv.inv.asc i hi) _ (Nat.le_refl _) (by omega)
  have hge : n ≤ r := by
    rcases f3 with rfl | ⟨i, hi, hl, rfl⟩
    · exact h2
    · have := ge i hi hl; omega
  rcases Int.lt_or_eq_of_le h2 with g | rfl
  · obtain ⟨⟨j, hj, s, hs, he⟩, _⟩ := hw.2.2.1 (n + 1) (by omega) (by omega)
    obtain ⟨a, ha, rfl⟩ := List.mem_iff_getElem.1 hs
    have eg : (logs.getD j []).getD a z50 = (logs.getD j [])[a] := by rw [List.getD_eq_getElem?_getD, List.getElem?_eq_getElem ha]; rfl
    have hca : ((logs.getD j []).takeWhile fun s => decide (s.f0 ≤ n)).length ≤ a := by
      refine Nat.le_of_not_lt fun h => ?_
      have := tw_in n _ a h
      rw [eg] at this; omega
    have hcl : (ofV logs n).getD j 0 < ((logs.getD j []).length : Int) := by rw [ofV_get j hj]; unfold cntUpto; omega
    have h3 := f2 j hj hcl
    have h4 : ((logs.getD j []).getD ((ofV logs n).getD j 0).toNat z50).f0 ≤ n + 1 := by
      rw [ofV_get j hj]
      unfold cntUpto
      rw [Int.toNat_natCast]
      rcases Nat.lt_or_eq_of_le hca with g2 | g2
      · have := List.pairwise_iff_getElem.1 (hv.inv.asc j hj) _ a (by omega) ha g2
        rw [getD_get _ _ (by omega)]
        omega
      · rw [g2, eg]; omega
    omega
  · omega
theorem of_under {b n w f : Int} {logs : List (List S50)} (hv : Valid b logs) {x : List Int} (hx : isCut logs x) (h2 : n ≤ w) (hf : isFloor logs x w f) : leV (ofV logs n) x = decide (n ≤ f) := by
  obtain ⟨f1, f2, f3⟩ := hf
  rw [Bool.eq_iff_iff, decide_eq_true_eq, leV_iff]
  constructor
  · rintro ⟨_, h⟩
    rcases f3 with rfl | ⟨i, hi, hl, rfl⟩
    · exact h2
    · have h3 := h i (by rw [ofV_len]; exact hi)
      rw [ofV_get i hi] at h3
      have := hx.2 i hi
      have := tw_out n _ (hv.inv.asc i hi) (x.getD i 0).toNat (by unfold cntUpto at h3; omega) (by omega)
      omega
  · intro hnf
    refine ⟨cuts_fit (ofV_cut logs n) hx, fun i hi => ?_⟩
    rw [ofV_len] at hi
    rw [ofV_get i hi]
    have hxi := hx.2 i hi
    have := cntU_le n (logs.getD i [])
    by_cases hl : x.getD i 0 < ((logs.getD i []).length : Int)
    · refine Int.not_lt.1 fun h => ?_
      have h3 := f2 i hi hl
      have := tw_in n (logs.getD i []) (x.getD i 0).toNat (by unfold cntUpto at h; omega)
      omega
    · omega
theorem cnt_mono (n : Int) : ∀ (l : List S50), ((l.takeWhile fun s => decide (s.f0 ≤ n - 1)).length) ≤ ((l.takeWhile fun s => decide (s.f0 ≤ n)).length)
  | [] => by simp
  | s :: l => by
    by_cases h : s.f0 ≤ n - 1
    · rw [List.takeWhile_cons_of_pos (by simpa using h), List.takeWhile_cons_of_pos (by simp; omega)]
      have := cnt_mono n l
      simp only [List.length_cons]; omega
    · rw [List.takeWhile_cons_of_neg (by simpa using h)]; simp
theorem of_before {b n w : Int} {logs : List (List S50)} (hv : Valid b logs) (hw : isWhole b logs w) (h1 : b < n) (h2 : n ≤ w) : cmpV (ofV logs (n - 1)) (ofV logs n) = (1, 0) := by
  unfold cmpV
  rw [if_pos (cuts_fit (ofV_cut logs _) (ofV_cut logs _))]
  have hL : anyLt (ofV logs (n - 1)) (ofV logs n) 0 = true := by
    rw [anyLt_iff]
    obtain ⟨⟨j, hj, s, hs, he⟩, _⟩ := hw.2.2.1 n h1 h2
    refine ⟨j, Nat.zero_le _, by rw [ofV_len]; exact hj, ?_⟩
    rw [ofV_get j hj, ofV_get j hj]
    obtain ⟨a, ha, rfl⟩ := List.mem_iff_getElem.1 hs
    have eg : (logs.getD j []).getD a z50 = (logs.getD j [])[a] := by rw [List.getD_eq_getElem?_getD, List.getElem?_eq_getElem ha]; rfl
    have k1 : ((logs.getD j []).takeWhile fun s => decide (s.f0 ≤ n - 1)).length ≤ a := by
      refine Nat.le_of_not_lt fun h => ?_
      have := tw_in (n - 1) _ a h
      rw [eg] at this; omega
    have k2 : a < ((logs.getD j []).takeWhile fun s => decide (s.f0 ≤ n)).length := by
      refine Nat.lt_of_not_le fun h => ?_
      have := tw_out n _ (hv.inv.asc j hj) a h ha
      rw [eg] at this; omega
    unfold cntUpto; omega
  have hG : anyGt (ofV logs (n - 1)) (ofV logs n) 0 = false := by
    cases h : anyGt (ofV logs (n - 1)) (ofV logs n) 0 with
    | false => rfl
    | true =>
      obtain ⟨j, _, hj, hlt⟩ := (anyGt_iff _ _ _).1 h
      rw [ofV_len] at hj
      rw [ofV_get j hj, ofV_get j hj] at hlt
      have := cnt_mono n (logs.getD j [])
      unfold cntUpto at hlt; omega
  rw [hL, hG]; rfl
theorem pre_l {b w f : Int} {logs : List (List S50)} (hv : Valid b logs) (hw : isWhole b logs w) {x : List Int} (hx : isCut logs x) (hf : isFloor logs x w f) (cs : List Int) (q : Int) : ∀ (d : Nat) (n : Int) (before : List Int), n + d = w + 1 → b ≤ n → (b < n → before = ofV logs (n - 1)) →
    Evt (fun k => partsynclaw21_CutPrefixes.l0 k b logs x w f before n cs q) (true, q)
  | 0, n, before, hd, hb, hbe => by
    refine Evt.step (g := ?g) ?h ?e
    case e => intro k; rw [partsynclaw21_CutPrefixes.l0, if_neg (by omega)]
    case h => exact Evt.bind begun_ev (Evt.ret _)
  | d + 1, n, before, hd, hb, hbe => by
    have hw1 := hw.2.1
    have hb0 := hv.b0
    obtain ⟨w', r, hw', hfe, hfl⟩ := floor_ev hv (ofV_cut logs n)
    obtain rfl := isWhole_uniq hw hw'
    have hrn := of_floor hv hw hb (by omega) hfl
    rw [hrn] at hfe
    have hcl := closed_true hv (ofV_cut logs n)
    rw [decide_eq_true (of_closed hv hw (by omega : n ≤ w))] at hcl
    have hun := under_ev (ofV logs n) x (by have := isCut_len hv (ofV_cut logs n); omega)
    rw [of_under hv hx (by omega : n ≤ w) hf] at hun
    have ih := pre_l hv hw hx hf cs q d (n + 1) (ofV logs n) (by omega) (by omega) (fun _ => by rw [Int.add_sub_cancel])
    have ew : wrap64 (n + 1) = n + 1 := by unfold wrap64; omega
    refine Evt.step (g := ?g1) ?h1 ?e1
    case e1 => intro k; rw [partsynclaw21_CutPrefixes.l0, if_pos (by omega)]
    case h1 =>
      refine Evt.bind (of_ev hv hb (by omega)) (Evt.bind hcl (Evt.bind hfe (Evt.pos rfl (Evt.pos rfl (Evt.pos rfl (Evt.pos rfl (Evt.bind hun ?_)))))))
      refine Evt.step (g := ?g2) ?h2 ?e2
      case e2 => intro k; rw [partsynclaw21_CutPrefixes.j2, if_neg (by simp), ew]
      case h2 =>
        by_cases hbn : n > b
        · refine Evt.pos hbn ?_
          rw [hbe hbn]
          have hc := compare_ev (ofV logs (n - 1)) (ofV logs n) (by have := isCut_len hv (ofV_cut logs (n - 1)); omega)
          rw [of_before hv hw hbn (by omega)] at hc
          exact Evt.bind hc (Evt.pos rfl ih)
        · exact Evt.neg hbn ih
theorem prefixes_plain (cs : List Int) (hc : codesOk cs) : ∃ q, Evt (fun k => partsynclaw21_CutPrefixes.f k cs 0) (true, q) := by
  obtain ⟨b, logs, q1, e1, hv, hb, hinv, hq1, hsh⟩ := logs_tot hc
  have hn := hv.n1
  have hb0 := hv.b0
  obtain ⟨x, q2, e2, hx, hq2⟩ := cut_tot hc logs (by omega) (fun i hi => by have := hsh i hi; omega) q1 hq1
  obtain ⟨w', f, hw', hfe, hf⟩ := floor_ev hv hx
  obtain ⟨w, hwe, hw⟩ := whole_ev hv
  obtain rfl := isWhole_uniq hw hw'
  have hwb : w ≤ b + 8 := by
    refine Int.not_lt.1 fun h => ?_
    have := (good_le hinv (hw.2.2.1 w (by omega) (Int.le_refl _))).2
    omega
  have hbw := hw.1
  have ew : wrap64 (b + 60) = b + 60 := by unfold wrap64; omega
  refine ⟨q2, ?_⟩
  unfold partsynclaw21_CutPrefixes.f
  simp only [e1, Option.bind_some]
  refine Evt.bind e2 (Evt.bind hwe (Evt.bind hfe (Evt.pos rfl (Evt.pos rfl (Evt.neg (by omega) ?_)))))
  rw [ew, decide_eq_false (show ¬ w > b + 60 by omega)]
  refine Evt.step (g := ?g) ?h ?e
  case e => intro k; rw [partsynclaw21_CutPrefixes.j0, if_neg (by simp)]
  case h => exact pre_l hv hw hx hf cs q2 (w + 1 - b).toNat b [] (by omega) (Int.le_refl _) (fun h => by omega)
theorem prefixes_walk (l0 : List Int) (A : Option Addr) (cap : Nat) (W : World) (hC : (Kd.int .u8).C W A l0.length l0) (hc : l0.length ≤ cap) (hG : ∀ x ∈ l0, (Lit.int .u8 x).wf = true) :
    Calls Try.prog 4 #[.slice A l0.length cap] W fun e W' => e = .returned (.bool true) ∧ Below W.heap.size W W' := by
  obtain ⟨q, hq⟩ := prefixes_plain _ (codes_ok 90 (by omega) hG)
  obtain ⟨k, hk⟩ := hq.get
  refine (partsynclaw21_CutPrefixes.calls k A cap l0 true q W hC hc hk rfl).mono ?_
  rintro e w' ⟨w, w0, g, h1, h2, h3, h4, h5⟩
  exact ⟨h2, below_step h1 h4⟩
end Go.Proofs.Ytkhiglincdognaa.PA
