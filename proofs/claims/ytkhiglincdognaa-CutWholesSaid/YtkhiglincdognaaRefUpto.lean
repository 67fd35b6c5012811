/-
The reference counts the stamps up to a commit.
Conditions: none.
-/
import Derived.Test.YtkhiglincdognaaRefA
import Derived.Test.YtkhiglincdognaaPPre0
import Derived.Test.YtkhiglincdognaaPAx10
namespace Go.Proofs.Ytkhiglincdognaa.PA
open Go.RowKit Go.Proofs.YtkhiglincdognaaW.PrintWords Go.Proofs.YtkhiglincdognaaW.PrintLast Go.Proofs.YtkhiglincdognaaW.PrintMore
set_option linter.unusedVariables false
set_option linter.unusedSimpArgs false
open Classical

/-! upto -/
theorem tw_cons_pos (n : Int) (l : List S50) (x : Nat) (hx : x < l.length) (hasc : l.Pairwise (fun s t => s.f0 < t.f0)) : (l.getD x z50).f0 ≤ n ↔ x < (l.takeWhile fun s => decide (s.f0 ≤ n)).length := by
  constructor
  · intro h
    refine Nat.lt_of_not_le fun g => ?_
    have := tw_out n l hasc x g hx
    omega
  · intro h; exact tw_in n l x h
theorem upto_l1 {b : Int} {logs : List (List S50)} (hv : Valid b logs) (n : Int) (i : Nat) (hi : i < logs.length) (r : List Int) : ∀ (d x : Nat) (out : List Int), x + d = (logs.getD i []).length → out.length = logs.length → out.getD i 0 = (min x ((logs.getD i []).takeWhile fun s => decide (s.f0 ≤ n)).length : Nat) →
    (∀ out' : List Int, out'.length = logs.length → out'.getD i 0 = cntUpto n (logs.getD i []) → (∀ j, j ≠ i → out'.getD j 0 = out.getD j 0) → Evt (fun k => partsyncref21_upto.l0 k n out' logs logs.length ((i + 1 : Nat) : Int)) r) →
    Evt (fun k => partsyncref21_upto.l1 k n out i logs logs.length i (logs.getD i []) (logs.getD i []).length x) r
  | 0, x, out, hx, hl, ho, hr => by
    have hn := hv.n1
    have ht := tw_len n (logs.getD i [])
    refine (hr out hl (by rw [ho]; unfold cntUpto; congr 1; omega) (fun j hj => rfl)).step fun k => ?_
    rw [partsyncref21_upto.l1, if_neg (by omega), w1 i (by omega)]
  | d + 1, x, out, hx, hl, ho, hr => by
    have hn := hv.n1
    have hsh := hv.short i hi
    have hxl : x < (logs.getD i []).length := by omega
    have hiff := tw_cons_pos n (logs.getD i []) x hxl (hv.inv.asc i hi)
    by_cases h : ((logs.getD i []).getD x z50).f0 ≤ n
    · have hlt := hiff.1 h
      have ew : wrap64 (out.getD i 0 + 1) = ((x + 1 : Nat) : Int) := by rw [ho, Nat.min_eq_left (by omega)]; unfold wrap64; omega
      refine (upto_l1 hv n i hi r d (x + 1) (out.set i ((x + 1 : Nat) : Int)) (by omega) (by simp [hl]) (by rw [getD_set_self _ _ _ _ (by omega), Nat.min_eq_left (by omega)]) (fun out' h1 h2 h3 => hr out' h1 h2 fun j hj => by rw [h3 j hj, getD_set_ne _ _ _ _ _ (Ne.symm hj)])).step fun k => ?_
      rw [partsyncref21_upto.l1, if_pos (by omega), if_pos (by omega), if_pos (by omega), rdT, if_pos h, if_pos (by omega), if_pos (by omega), rdN, ew, w1 x (by omega), Int.toNat_natCast]
    · have hge : ¬ x < ((logs.getD i []).takeWhile fun s => decide (s.f0 ≤ n)).length := fun g => h (hiff.2 g)
      refine (upto_l1 hv n i hi r d (x + 1) out (by omega) hl (by rw [ho]; congr 1; omega) hr).step fun k => ?_
      rw [partsyncref21_upto.l1, if_pos (by omega), if_pos (by omega), if_pos (by omega), rdT, if_neg h, w1 x (by omega)]
theorem upto_l0 {b : Int} {logs : List (List S50)} (hv : Valid b logs) (n : Int) : ∀ (d i : Nat) (out : List Int), i + d = logs.length → out.length = logs.length → (∀ j, j < i → out.getD j 0 = cntUpto n (logs.getD j [])) → (∀ j, i ≤ j → out.getD j 0 = 0) →
    Evt (fun k => partsyncref21_upto.l0 k n out logs logs.length i) (ofV logs n)
  | 0, i, out, hi, hl, h1, h2 => by
    have : out = ofV logs n := ext_getD _ _ (by rw [hl, ofV_len]) fun j hj => by rw [h1 j (by omega), ofV_get j (by omega)]
    rw [← this]
    exact Evt.one fun k => by rw [partsyncref21_upto.l0, if_neg (by omega)]
  | d + 1, i, out, hi, hl, h1, h2 => by
    have hn := hv.n1
    refine (upto_l1 hv n i (by omega) (ofV logs n) (logs.getD i []).length 0 out (by omega) hl (by rw [h2 i (Nat.le_refl _)]; simp) (fun out' g1 g2 g3 => upto_l0 hv n d (i + 1) out' (by omega) g1 (fun j hj => by
      by_cases hji : j = i
      · subst hji; exact g2
      · rw [g3 j hji]; exact h1 j (by omega)) (fun j hj => by rw [g3 j (by omega)]; exact h2 j (by omega)))).step fun k => ?_
    rw [partsyncref21_upto.l0, if_pos (by omega), if_pos (by omega), if_pos (by omega), rdL]; rfl
theorem upto_ev {b : Int} {logs : List (List S50)} (hv : Valid b logs) (n : Int) : Evt (fun k => partsyncref21_upto.f k logs n) (ofV logs n) := by
  have hn := hv.n1
  unfold partsyncref21_upto.f
  refine Evt.pos (by omega) (Evt.pos (by omega) ?_)
  rw [Int.toNat_natCast]
  exact upto_l0 hv n logs.length 0 _ (by omega) (by simp) (fun j hj => by omega) (fun j _ => by rw [List.getD_eq_getElem?_getD, List.getElem?_replicate]; split <;> rfl)
end Go.Proofs.Ytkhiglincdognaa.PA
