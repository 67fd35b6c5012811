/-
partsynccase.New: a case over the first of the codes; begun.
Conditions: none (most is a small number that is handed in).
-/
import Derived.Test.YtkhiglincdognaaPAx8
namespace Go.Proofs.Ytkhiglincdognaa.PA
open Go.RowKit Go.Proofs.YtkhiglincdognaaW.PrintWords Go.Proofs.YtkhiglincdognaaW.PrintLast Go.Proofs.YtkhiglincdognaaW.PrintMore
attribute [local go_sem] min_two
set_option linter.unusedVariables false
set_option linter.unusedSimpArgs false

theorem begun_any (w : World) : Calls Try.prog 20 #[] w fun e w' => e = .returned (.bool true) ∧ Below w.heap.size w w' := partsynclaw21_begun.calls 40 true w begun_true

theorem min_len (most : Nat) {α : Type} (l : List α) : Builtin.min2 (.int .i64 (l.length : Int)) (.int .i64 (most : Int)) = pure (.int .i64 ((l.take most).length : Int)) := by
  rw [min2_int, List.length_take]
  congr 2
  split <;> omega

set_option maxHeartbeats 2000000 in
theorem new_any (l : List Int) (A : Option Addr) (c most : Nat) (w : World) (hC : (Kd.int .u8).C w A l.length l) (hc : l.length ≤ c) (hm : most ≤ 1000) :
    Calls Try.prog 13 #[.slice A l.length c, .int .i64 most] w fun e w' => ∃ w0 g, e = .returned (.pointer (some ⟨g, 0, none⟩)) ∧ Below w.heap.size w w0 ∧ IsS61 w0 w' g (l.take most) 0 ∧ Below w0.heap.size w0 w' := by
  obtain ⟨q, hq⟩ : ∃ q, q = l.take most := ⟨_, rfl⟩
  have hmin : Builtin.min2 (.int .i64 (l.length : Int)) (.int .i64 (most : Int)) = pure (.int .i64 ((l.take most).length : Int)) := min_len most l
  rw [← hq] at hmin
  have hql : q.length ≤ l.length := by rw [hq, List.length_take]; omega
  have hqm : q.length ≤ 1000 := by rw [hq, List.length_take]; omega
  obtain ⟨i5, hi5, _⟩ := Option.map_eq_some_iff.1 info5
  have hcut : ∀ W : World, (Instr.slice 22 (.slice A l.length c) none (some (.int .i64 q.length)) none).run Try.prog W = .ok (.slice A q.length c) W := fun W => by
    have := cut_to (P := Try.prog) 22 5 .i64 Try.underlying22 hi5 A l.length c q.length (by omega) (by omega) hc W
    simpa using this
  have HQ := Aside0.mk (show (Kd.int .u8).C w A q.length q from by
    rw [hq]
    rcases Nat.le_total most l.length with h | h
    · exact Kd.C_take hC h
    · rw [List.take_of_length_le h]; exact hC)
  rw [← hq]
  clear hC hq hi5
  go_enter Try.func13, Try.ntmps13
  go_wp2_with (first | (at_builtin; refine Kd.R_append_row (Value.int .u8) (0 : Int) (w0 := w) w.heap.size rfl (.const (.slice none 0 0)) (.tmp 10) 22 5 (.int .u8 0) 1 rfl Try.underlying22 info5 rfl (by omega) (.slice none 0 0) [] q A q.length c (fun _ => True) rfl rfl (fun _ _ => trivial) (Kd.R_nil _ _ _ _ _) HQ.out (Below.refl _ _) (Nat.le_refl _) (by simp; omega) ?_; intro v1 w2 hR2 hB2 hg2 hat2; rw [List.nil_append] at hR2; obtain ⟨A2, c2, rfl⟩ := Kd.R_slice hR2; have HR2 := Aside0.mk (Kd.R_reads' hR2).2.2; have HB2 := Aside0.mk hB2; clear hR2 hB2 hg2 hat2))
  go_ret
  exact ⟨w2, w2.heap.size, rfl, HB2.out, ⟨A2, c2, heap_alloc_new w2 _, Nat.le_refl _, HR2.out⟩, below_alloc (Below.refl _ _) _⟩
end Go.Proofs.Ytkhiglincdognaa.PA
