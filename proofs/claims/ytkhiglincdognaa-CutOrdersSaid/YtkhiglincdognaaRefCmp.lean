/-
The reference compares as the program does.
Conditions: none.
-/
import Derived.Test.YtkhiglincdognaaRefA
import Derived.Test.YtkhiglincdognaaRCompare
namespace Go.Proofs.Ytkhiglincdognaa.PA
open Go.RowKit Go.Proofs.YtkhiglincdognaaW.PrintWords Go.Proofs.YtkhiglincdognaaW.PrintLast Go.Proofs.YtkhiglincdognaaW.PrintMore
set_option linter.unusedVariables false
set_option linter.unusedSimpArgs false
open Classical

theorem rcompare_l (a b : List Int) (hl : a.length = b.length) (hb : a.length < 4611686018427387904) : ∀ (d i : Nat) (L G : Bool), i + d = a.length →
    Evt (fun k => partsyncref21_Compare.l0 k a b L G a.length i) (cmpR (L || anyLt a b i) (G || anyGt a b i), 0)
  | 0, i, L, G, hi => by
    obtain rfl : i = a.length := by omega
    rw [anyLt_end, anyGt_end, Bool.or_false, Bool.or_false]
    refine .of 2 fun k hk => ?_
    obtain ⟨k, rfl⟩ : ∃ j, k = j + 2 := ⟨k - 2, by omega⟩
    rw [partsyncref21_Compare.l0, if_neg (by omega)]
    cases L <;> cases G <;> simp [partsyncref21_Compare.j1, cmpR]
  | d + 1, i, L, G, hi => by
    have hlt : i < a.length := by omega
    rw [anyLt_step a b i hlt, anyGt_step a b i hlt, ← Bool.or_assoc, ← Bool.or_assoc]
    refine (rcompare_l a b hl hb d (i + 1) (L || decide (a.getD i 0 < b.getD i 0)) (G || decide (b.getD i 0 < a.getD i 0)) (by omega)).step fun k => ?_
    rw [partsyncref21_Compare.l0, if_pos (by omega)]
    cases L <;> cases G <;> simp only [if_true, Bool.false_eq_true, if_false, Bool.true_or, Bool.false_or, w1 i (by omega), rdN, if_pos (show (0 : Int) ≤ (i : Int) by omega), if_pos (show (i : Int) < (a.length : Int) by omega), if_pos (show (i : Int) < (b.length : Int) by omega), gt_iff_lt]
theorem rcompare_ev (a b : List Int) (hb : a.length < 4611686018427387904) : Evt (fun k => partsyncref21_Compare.f k a b) (cmpV a b) := by
  unfold partsyncref21_Compare.f cmpV
  refine Evt.bind (pair_ev a b hb) ?_
  by_cases h : fitsV a b = true
  · rw [if_pos h, if_pos h]
    refine Evt.pos rfl ?_
    have := rcompare_l a b ((fitsV_iff a b).1 h).1 hb a.length 0 false false (by omega)
    rw [Bool.false_or, Bool.false_or] at this
    exact this
  · rw [if_neg h, if_neg h]; exact Evt.neg (by decide) (Evt.ret _)
end Go.Proofs.Ytkhiglincdognaa.PA
