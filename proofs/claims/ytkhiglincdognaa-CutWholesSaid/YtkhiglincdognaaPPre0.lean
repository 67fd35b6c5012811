/-
The cut of a commit: what it holds, that it is closed, its Floor.
Conditions: valid logs.
-/
import Derived.Test.YtkhiglincdognaaPBase
import Derived.Test.YtkhiglincdognaaSpec5
import Derived.Test.YtkhiglincdognaaHOf
namespace Go.Proofs.Ytkhiglincdognaa.PA
open Go.RowKit Go.Proofs.YtkhiglincdognaaW.PrintWords Go.Proofs.YtkhiglincdognaaW.PrintLast Go.Proofs.YtkhiglincdognaaW.PrintMore
set_option linter.unusedVariables false
set_option linter.unusedSimpArgs false
open Classical

def ofV (logs : List (List S50)) (n : Int) : List Int := logs.map (cntUpto n)
theorem ofV_len (logs : List (List S50)) (n : Int) : (ofV logs n).length = logs.length := by unfold ofV; rw [List.length_map]
theorem ofV_get {logs : List (List S50)} {n : Int} (i : Nat) (hi : i < logs.length) : (ofV logs n).getD i 0 = cntUpto n (logs.getD i []) := by
  unfold ofV
  rw [List.getD_eq_getElem?_getD, List.getElem?_map, List.getD_eq_getElem?_getD, List.getElem?_eq_getElem hi]; rfl
theorem cntU_le (n : Int) (l : List S50) : 0 ≤ cntUpto n l ∧ cntUpto n l ≤ (l.length : Int) := by
  have := tw_len n l
  unfold cntUpto; omega
theorem ofV_cut (logs : List (List S50)) (n : Int) : isCut logs (ofV logs n) := ⟨ofV_len _ _, fun i hi => by rw [ofV_get i hi]; exact cntU_le n _⟩
theorem of_ev {b n : Int} {logs : List (List S50)} (hv : Valid b logs) (h1 : b ≤ n) (h2 : n ≤ 1073741824) : Evt (fun k => cut_Of.f k b logs n) (ofV logs n, 0) := by
  unfold cut_Of.f
  have hc := check_ev b logs
  rw [checkV_ok.2 hv] at hc
  refine Evt.bind hc (Evt.pos rfl (Evt.neg (by omega) (Evt.pos (fun l hl => ?_) (Evt.ret _))))
  obtain ⟨j, hj, rfl⟩ := List.mem_iff_getElem.1 hl
  have := hv.short j hj
  rwa [List.getD_eq_getElem?_getD, List.getElem?_eq_getElem hj] at this
/-- A stamp is in the cut of n exactly if its commit is at most n. -/
theorem mem_of {b n : Int} {logs : List (List S50)} (hv : Valid b logs) {i : Nat} (hi : i < logs.length) {s : S50} (hs : s ∈ logs.getD i []) : s ∈ cutOf logs (ofV logs n) i ↔ s.f0 ≤ n := by
  obtain ⟨a, ha, rfl⟩ := List.mem_iff_getElem.1 hs
  have eg : (logs.getD i []).getD a z50 = (logs.getD i [])[a] := by rw [List.getD_eq_getElem?_getD, List.getElem?_eq_getElem ha]; rfl
  have hasc := hv.inv.asc i hi
  unfold cutOf
  rw [ofV_get i hi]
  unfold cntUpto
  rw [Int.toNat_natCast]
  constructor
  · intro hm
    obtain ⟨c, hc, hce⟩ := List.mem_iff_getElem.1 hm
    rw [List.length_take] at hc
    rw [List.getElem_take] at hce
    have hcl : c < (logs.getD i []).length := by omega
    have := tw_in n (logs.getD i []) c (by omega)
    rw [List.getD_eq_getElem?_getD, List.getElem?_eq_getElem hcl] at this
    rw [← hce]; exact this
  · intro hle
    have hac : a < ((logs.getD i []).takeWhile fun s => decide (s.f0 ≤ n)).length := by
      refine Nat.lt_of_not_le fun h => ?_
      have := tw_out n _ hasc a h ha
      rw [eg] at this; omega
    have := mem_take_getD (logs.getD i []) a _ hac ha
    rwa [eg] at this
theorem of_closed {b n w : Int} {logs : List (List S50)} (hv : Valid b logs) (hw : isWhole b logs w) (h2 : n ≤ w) : closedP logs (ofV logs n) := by
  intro i hi st hst
  rw [badSt_iff]
  intro x hx
  have hm : st ∈ logs.getD i [] := List.mem_of_mem_take hst
  have hle := (mem_of hv hi hm).1 hst
  have hr := hv.inv.rng i hi st hm
  obtain ⟨_, hall⟩ := hw.2.2.1 st.f0 hr.1 (by omega)
  obtain ⟨s, hs, he⟩ := hall i hi st hm rfl x hx
  have hx2 := (hv.inv.sh i hi st hm).2.1 x hx
  exact ⟨s, (mem_of hv (by omega) hs).2 (by omega), he⟩
theorem of_floor {b n w r : Int} {logs : List (List S50)} (hv : Valid b logs) (hw : isWhole b logs w) (h1 : b ≤ n) (h2 : n ≤ w) (hf : isFloor logs (ofV logs n) w r) : r = n := by
  obtain ⟨f1, f2, f3⟩ := hf
  have ge : ∀ i, i < logs.length → (ofV logs n).getD i 0 < ((logs.getD i []).length : Int) → n < ((logs.getD i []).getD ((ofV logs n).getD i 0).toNat z50).f0 := fun i hi hl => by
    rw [ofV_get i hi] at hl ⊢
    unfold cntUpto at hl ⊢
    rw [Int.toNat_natCast]
    exact tw_out n _ (hv.inv.asc i hi) _ (Nat.le_refl _) (by omega)
  have hge : n ≤ r := by
    rcases f3 with rfl | ⟨i, hi, hl, rfl⟩
    · exact h2
    · have := ge i hi hl; omega
  rcases Int.lt_or_eq_of_le h2 with g | rfl
  · obtain ⟨⟨j, hj, s, hs, he⟩, _⟩ := hw.2.2.1 (n + 1) (by omega) (by omega)
    obtain ⟨a, ha, rfl⟩ := List.mem_iff_getElem.1 hs
    have eg : (logs.getD j []).getD a z50 = (logs.getD j [])[a] := by rw [List.getD_eq_getElem?_getD, List.getElem?_eq_getElem ha]; rfl
    have hca : ((logs.getD j []).takeWhile fun s => decide (s.f0 ≤ n)).length ≤ a := by
      refine Nat.le_of_not_lt fun h => ?_
      have := tw_in n _ a h
      rw [eg] at this; omega
    have hcl : (ofV logs n).getD j 0 < ((logs.getD j []).length : Int) := by rw [ofV_get j hj]; unfold cntUpto; omega
    have h3 := f2 j hj hcl
    have h4 : ((logs.getD j []).getD ((ofV logs n).getD j 0).toNat z50).f0 ≤ n + 1 := by
      rw [ofV_get j hj]
      unfold cntUpto
      rw [Int.toNat_natCast]
      rcases Nat.lt_or_eq_of_le hca with g2 | g2
      · have := List.pairwise_iff_getElem.1 (hv.inv.asc j hj) _ a (by omega) ha g2
        rw [getD_get _ _ (by omega)]
        omega
      · rw [g2, eg]; omega
    omega
  · omega
theorem of_under {b n w f : Int} {logs : List (List S50)} (hv : Valid b logs) {x : List Int} (hx : isCut logs x) (h2 : n ≤ w) (hf : isFloor logs x w f) : leV (ofV logs n) x = decide (n ≤ f) := by
  obtain ⟨f1, f2, f3⟩ := hf
  rw [Bool.eq_iff_iff, decide_eq_true_eq, leV_iff]
  constructor
  · rintro ⟨_, h⟩
    rcases f3 with rfl | ⟨i, hi, hl, rfl⟩
    · exact h2
    · have h3 := h i (by rw [ofV_len]; exact hi)
      rw [ofV_get i hi] at h3
      have := hx.2 i hi
      have := tw_out n _ (hv.inv.asc i hi) (x.getD i 0).toNat (by unfold cntUpto at h3; omega) (by omega)
      omega
  · intro hnf
    refine ⟨cuts_fit (ofV_cut logs n) hx, fun i hi => ?_⟩
    rw [ofV_len] at hi
    rw [ofV_get i hi]
    have hxi := hx.2 i hi
    have := cntU_le n (logs.getD i [])
    by_cases hl : x.getD i 0 < ((logs.getD i []).length : Int)
    · refine Int.not_lt.1 fun h => ?_
      have h3 := f2 i hi hl
      have := tw_in n (logs.getD i []) (x.getD i 0).toNat (by unfold cntUpto at h; omega)
      omega
    · omega
end Go.Proofs.Ytkhiglincdognaa.PA
