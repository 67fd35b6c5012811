/-
The reference's Of answers as the program's.
Conditions: none.
-/
import Derived.Test.YtkhiglincdognaaRefUpto
import Derived.Test.YtkhiglincdognaaROf
namespace Go.Proofs.Ytkhiglincdognaa.PA
open Go.RowKit Go.Proofs.YtkhiglincdognaaW.PrintWords Go.Proofs.YtkhiglincdognaaW.PrintLast Go.Proofs.YtkhiglincdognaaW.PrintMore
set_option linter.unusedVariables false
set_option linter.unusedSimpArgs false
open Classical

/-! Of -/
theorem of_both (b n : Int) (logs : List (List S50)) : ∃ r : List Int × Int, r.1.length ≤ 4 ∧ Evt (fun k => cut_Of.f k b logs n) r ∧ Evt (fun k => partsyncref21_Of.f k b logs n) r := by
  by_cases hv : Valid b logs
  · have hc := check_ev b logs
    have hrc := rcheck_ev b logs
    rw [checkV_ok.2 hv] at hc hrc
    by_cases h1 : n < b
    · refine ⟨([], 1), Nat.zero_le _, ?_, ?_⟩
      · unfold cut_Of.f; exact Evt.bind hc (Evt.pos rfl (Evt.pos (.inl h1) (Evt.ret _)))
      · unfold partsyncref21_Of.f; exact Evt.bind hrc (Evt.pos rfl (Evt.pos h1 (Evt.ret _)))
    · by_cases h2 : n > 1073741824
      · refine ⟨([], 1), Nat.zero_le _, ?_, ?_⟩
        · unfold cut_Of.f; exact Evt.bind hc (Evt.pos rfl (Evt.pos (.inr h2) (Evt.ret _)))
        · unfold partsyncref21_Of.f; exact Evt.bind hrc (Evt.pos rfl (Evt.neg h1 (Evt.pos h2 (Evt.ret _))))
      · refine ⟨(ofV logs n, 0), by rw [ofV_len]; exact hv.n1, of_ev hv (by omega) (by omega), ?_⟩
        unfold partsyncref21_Of.f
        exact Evt.bind hrc (Evt.pos rfl (Evt.neg h1 (Evt.neg h2 (Evt.bind (upto_ev hv n) (Evt.ret _)))))
  · refine ⟨([], checkV b logs), Nat.zero_le _, ?_, ?_⟩
    · unfold cut_Of.f; exact Evt.bind (check_ev b logs) (Evt.neg (fun h => hv (checkV_ok.1 h)) (Evt.ret _))
    · unfold partsyncref21_Of.f; exact Evt.bind (rcheck_ev b logs) (Evt.neg (fun h => hv (checkV_ok.1 h)) (Evt.ret _))
end Go.Proofs.Ytkhiglincdognaa.PA
