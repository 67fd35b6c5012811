/-
The reference's Floor answers as the program's.
Conditions: none.
-/
import Derived.Test.YtkhiglincdognaaRefUpto
import Derived.Test.YtkhiglincdognaaRefCmp
import Derived.Test.YtkhiglincdognaaRefWhole
namespace Go.Proofs.Ytkhiglincdognaa.PA
open Go.RowKit Go.Proofs.YtkhiglincdognaaW.PrintWords Go.Proofs.YtkhiglincdognaaW.PrintLast Go.Proofs.YtkhiglincdognaaW.PrintMore
set_option linter.unusedVariables false
set_option linter.unusedSimpArgs false
open Classical

/-! Floor -/
theorem cmp_le (a c : List Int) : ((cmpV a c).1 = 0 ∨ (cmpV a c).1 = 1) ↔ (fitsV a c = false ∨ leV a c = true) := by
  unfold cmpV leV
  cases fitsV a c <;> cases anyLt a c 0 <;> cases anyGt a c 0 <;> simp [cmpR]
theorem rfloor_l {b w f : Int} {logs : List (List S50)} (hv : Valid b logs) (hw : isWhole b logs w) {x : List Int} (hx : isCut logs x) (hf : isFloor logs x w f) (hbf : b ≤ f) : ∀ (d : Nat) (n : Int), n = b + d → n ≤ w → f ≤ n → Evt (fun k => partsyncref21_Floor.l0 k b logs x n) (f, 0)
  | 0, n, hn, h1, h2 => by
    have : f = b := by omega
    rw [this]
    exact Evt.one fun k => by rw [partsyncref21_Floor.l0, if_neg (by omega)]
  | d + 1, n, hn, h1, h2 => by
    have hb0 := hv.b0
    have hw1 := hw.2.1
    have ew : wrap64 (n - 1) = n - 1 := by unfold wrap64; omega
    have un : ∀ k, partsyncref21_Floor.l0 (k + 1) b logs x n = ((partsyncref21_upto.f k logs n).bind fun t302 => ((partsyncref21_Compare.f k t302 x).bind fun bt305 => (if bt305.1 = 0 then (some (n, 0)) else (if bt305.1 = 1 then (some (n, 0)) else (partsyncref21_Floor.l0 k b logs x (n - 1)))))) := fun k => by rw [partsyncref21_Floor.l0, if_pos (by omega), ew]
    have hc := rcompare_ev (ofV logs n) x (by rw [ofV_len]; have := hv.n1; omega)
    have hle := of_under hv hx h1 hf
    have hfit := cuts_fit (ofV_cut logs n) hx
    by_cases h : n ≤ f
    · obtain rfl : n = f := by omega
      rw [decide_eq_true (Int.le_refl _)] at hle
      have := (cmp_le (ofV logs n) x).2 (.inr hle)
      refine Evt.step (Evt.bind (upto_ev hv n) (Evt.bind hc ?_)) un
      rcases this with e | e
      · exact Evt.pos e (Evt.ret _)
      · exact Evt.neg (by rw [e]; decide) (Evt.pos e (Evt.ret _))
    · rw [decide_eq_false h] at hle
      have no : ¬ ((cmpV (ofV logs n) x).1 = 0 ∨ (cmpV (ofV logs n) x).1 = 1) := fun g => by
        rcases (cmp_le _ _).1 g with e | e
        · rw [hfit] at e; cases e
        · rw [hle] at e; cases e
      refine Evt.step (Evt.bind (upto_ev hv n) (Evt.bind hc ?_)) un
      exact Evt.neg (fun e => no (.inl e)) (Evt.neg (fun e => no (.inr e)) (rfloor_l hv hw hx hf hbf d (n - 1) (by omega) (by omega) (by omega)))
theorem floor_ge {b w f : Int} {logs : List (List S50)} (hv : Valid b logs) (hw : isWhole b logs w) {x : List Int} (hx : isCut logs x) (hf : isFloor logs x w f) : b ≤ f := by
  rcases hf.2.2 with rfl | ⟨i, hi, hil, rfl⟩
  · exact hw.1
  · have := hx.2 i hi
    have := hv.inv.rng i hi _ (getD_mem (logs.getD i []) (x.getD i 0).toNat (by omega))
    omega
theorem floor_both (b : Int) (logs : List (List S50)) (x : List Int) : ∃ r, Evt (fun k => cut_Floor.f k b logs x) r ∧ Evt (fun k => partsyncref21_Floor.f k b logs x) r := by
  by_cases hp : placeV b logs x = 0
  · obtain ⟨hv, hx⟩ := placeV_ok.1 hp
    obtain ⟨w, f, hw, h1, hf⟩ := floor_ev hv hx
    refine ⟨(f, 0), h1, ?_⟩
    unfold partsyncref21_Floor.f
    have hr := rplace_ev b logs x
    rw [hp] at hr
    exact Evt.bind hr (Evt.pos rfl (Evt.bind (rlast_ev hv hw) (rfloor_l hv hw hx hf (floor_ge hv hw hx hf) (w - b).toNat w (by have := hw.1; omega) (Int.le_refl _) hf.1)))
  · refine ⟨(0, placeV b logs x), floor_err hp, ?_⟩
    unfold partsyncref21_Floor.f
    exact Evt.bind (rplace_ev b logs x) (Evt.neg hp (Evt.ret _))
end Go.Proofs.Ytkhiglincdognaa.PA
