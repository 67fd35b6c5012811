/-
The reference's Join and Meet answer as the program's.
Conditions: none.
-/
import Derived.Test.YtkhiglincdognaaRefA
import Derived.Test.YtkhiglincdognaaRJoin
namespace Go.Proofs.Ytkhiglincdognaa.PA
open Go.RowKit Go.Proofs.YtkhiglincdognaaW.PrintWords Go.Proofs.YtkhiglincdognaaW.PrintLast Go.Proofs.YtkhiglincdognaaW.PrintMore
set_option linter.unusedVariables false
set_option linter.unusedSimpArgs false
open Classical

/-! Join and Meet -/
theorem rzip_fill (f : Int → Int → Int) (a b : List Int) (hl : a.length = b.length) (out : List Int) (ho : out.length = a.length) (h : ∀ j, j < a.length → out.getD j 0 = f (a.getD j 0) (b.getD j 0)) : out = List.zipWith f a b :=
  ext_getD _ _ (by rw [List.length_zipWith]; omega) fun j hj => by rw [h j (by omega), zip_getD f a b j (by omega) (by omega)]
theorem rjoin_l (a b : List Int) (hl : a.length = b.length) (hb : a.length < 4611686018427387904) : ∀ (d i : Nat) (out : List Int), i + d = a.length → out.length = a.length → (∀ j, j < i → out.getD j 0 = mx (a.getD j 0) (b.getD j 0)) →
    Evt (fun k => partsyncref21_Join.l0 k a b out a.length i) (List.zipWith mx a b, 0)
  | 0, i, out, hi, ho, h => by
    rw [← rzip_fill mx a b hl out ho (fun j hj => h j (by omega))]
    exact Evt.one fun k => by rw [partsyncref21_Join.l0, if_neg (by omega)]
  | d + 1, i, out, hi, ho, h => by
    refine (rjoin_l a b hl hb d (i + 1) (out.set i (mx (a.getD i 0) (b.getD i 0))) (by omega) (by simp [ho]) (fun j hj => by
      by_cases hji : j = i
      · subst hji; rw [getD_set_self _ _ _ _ (by omega)]
      · rw [getD_set_ne _ _ _ _ _ (Ne.symm hji)]; exact h j (by omega))).step fun k => ?_
    rw [partsyncref21_Join.l0, if_pos (by omega), if_pos (by omega), if_pos (by omega), if_pos (by omega), if_pos (by omega), rdN, rdN, w1 i (by omega), Int.toNat_natCast]
theorem rmeet_l (a b : List Int) (hl : a.length = b.length) (hb : a.length < 4611686018427387904) : ∀ (d i : Nat) (out : List Int), i + d = a.length → out.length = a.length → (∀ j, j < i → out.getD j 0 = mn (a.getD j 0) (b.getD j 0)) →
    Evt (fun k => partsyncref21_Meet.l0 k a b out a.length i) (List.zipWith mn a b, 0)
  | 0, i, out, hi, ho, h => by
    rw [← rzip_fill mn a b hl out ho (fun j hj => h j (by omega))]
    exact Evt.one fun k => by rw [partsyncref21_Meet.l0, if_neg (by omega)]
  | d + 1, i, out, hi, ho, h => by
    refine (rmeet_l a b hl hb d (i + 1) (out.set i (mn (a.getD i 0) (b.getD i 0))) (by omega) (by simp [ho]) (fun j hj => by
      by_cases hji : j = i
      · subst hji; rw [getD_set_self _ _ _ _ (by omega)]
      · rw [getD_set_ne _ _ _ _ _ (Ne.symm hji)]; exact h j (by omega))).step fun k => ?_
    rw [partsyncref21_Meet.l0, if_pos (by omega), if_pos (by omega), if_pos (by omega), if_pos (by omega), if_pos (by omega), rdN, rdN, w1 i (by omega), Int.toNat_natCast]
theorem rjoin_ev (a b : List Int) (hb : a.length < 17592186044416) : Evt (fun k => partsyncref21_Join.f k a b) (joinV a b) := by
  unfold partsyncref21_Join.f joinV
  refine Evt.bind (pair_ev a b (by omega)) ?_
  by_cases h : fitsV a b = true
  · rw [if_pos h, if_pos h]
    refine Evt.pos rfl (Evt.pos (by omega) (Evt.pos (by omega) ?_))
    rw [Int.toNat_natCast]
    exact rjoin_l a b ((fitsV_iff a b).1 h).1 (by omega) a.length 0 _ (by omega) (by simp) (fun j hj => by omega)
  · rw [if_neg h, if_neg h]; exact Evt.neg (by decide) (Evt.ret _)
theorem rmeet_ev (a b : List Int) (hb : a.length < 17592186044416) : Evt (fun k => partsyncref21_Meet.f k a b) (meetV a b) := by
  unfold partsyncref21_Meet.f meetV
  refine Evt.bind (pair_ev a b (by omega)) ?_
  by_cases h : fitsV a b = true
  · rw [if_pos h, if_pos h]
    refine Evt.pos rfl (Evt.pos (by omega) (Evt.pos (by omega) ?_))
    rw [Int.toNat_natCast]
    exact rmeet_l a b ((fitsV_iff a b).1 h).1 (by omega) a.length 0 _ (by omega) (by simp) (fun j hj => by omega)
  · rw [if_neg h, if_neg h]; exact Evt.neg (by decide) (Evt.ret _)
end Go.Proofs.Ytkhiglincdognaa.PA
