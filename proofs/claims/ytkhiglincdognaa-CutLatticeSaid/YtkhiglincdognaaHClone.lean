/-
slices.Clone at []int: a row of the call's own.
Conditions: fewer than 2^44 numbers.
-/
import Derived.Test.YtkhiglincdognaaPAx0
import Derived.WalkSpells
namespace Go.Proofs.Ytkhiglincdognaa.PA
open Go.RowKit Go.Proofs.YtkhiglincdognaaW.PrintWords Go.Proofs.YtkhiglincdognaaW.PrintLast Go.Proofs.YtkhiglincdognaaW.PrintMore
set_option linter.unusedVariables false
set_option linter.unusedSimpArgs false

def slices_Clone_int_int.f (l0 : List Int) : Option (List Int) := if l0.length < 17592186044416 then some l0 else none

/-- A row of the call's own. -/
def ClonedI (w : World) (l : List Int) (e : Ending) (w' : World) : Prop := ∃ v, e = .returned v ∧ Kd.R (Kd.int .i64) 3 w' w.heap.size (fun _ => True) v l ∧ Below w.heap.size w w'

set_option maxHeartbeats 1000000 in
theorem cloneI_nil (c : Nat) (w : World) : Calls Try.prog 54 #[.slice none 0 c] w (ClonedI w []) := by
  have he := fun w => Lib.run_eql_slice_nil (P := Try.prog) w 26 3 none 0 c 0 0 Try.underlying26
  go_enter Try.func54, Try.ntmps54
  go_wp2
  go_ret
  exact ⟨_, rfl, Kd.R_nil _ _ _ _ _, Below.refl _ _⟩

set_option maxHeartbeats 1000000 in
theorem cloneI_some (a : Addr) (c : Nat) (l : List Int) (w : World) (hr : (Kd.int .i64).C w (some a) l.length l) (hl : l.length < 17592186044416) : Calls Try.prog 54 #[.slice (some a) l.length c] w (ClonedI w l) := by
  have he := fun w => Lib.run_eql_slice_nil (P := Try.prog) w 26 3 (some a) l.length c 0 0 Try.underlying26
  have HR := Aside0.mk hr
  clear hr
  have HL := Aside0.mk hl
  clear hl
  go_enter Try.func54, Try.ntmps54
  go_wp2_with (first | ((with_reducible refine gate_dst (N := 5) rfl ?_); refine Kd.R_lit (Kd.int .i64) (w0 := w) w.heap.size 3 ?hg (N := 5) ?hd (xs := ([] : List Int)) (inner := []) (ok := fun _ => True) (okp := fun _ => True) ?hr ?hp (fun _ hk => hk) trivial (Below.refl _ _) (Nat.le_refl _) (by simp) ?_; (case hd => rfl); (case hg => rfl); (case hr => first | (go_simp; done) | (go_simp; rfl)); (case hp => exact (Reps.none _ _)); intro v1 w1 ho1 hb1 hg1 hn1; have HO1 := Aside0.mk ho1; have HB1 := Aside0.mk hb1; clear ho1 hb1 hg1 hn1) | ((with_reducible refine gate_dst (N := 7) rfl ?_); go_loud (refine Kd.R_append_row (Value.int .i64) 0 (h1 := fun _ => rfl) (w0 := w) w.heap.size rfl (.tmp 5) (.tmp 6) 26 3 (.int .i64 0) 8 rfl Try.underlying26 info3 rfl (by omega) v1 [] l _ _ _ (fun _ => True) rfl rfl ?aF ?aO ?aR ?aB ?aS ?aL ?_); (case aF => exact (fun _ _ => trivial)); (case aO => exact HO1.out); (case aR => exact Kd.C_below HR.out HB1.out); (case aB => exact HB1.out); (case aS => exact HB1.out.size); (case aL => have := HL.out; simp; omega); intro v2 w2 ho2 hb2 hg2 hat2; have HO2 := Aside0.mk ho2; have HB2 := Aside0.mk hb2; clear ho2 hb2 hg2 hat2))
  go_ret
  exact ⟨_, rfl, HO2.out, HB2.out⟩

theorem slices_Clone_int_int.calls (A0 : Option Addr) (c0 : Nat) (l0 : List Int) (r : List Int) (w : World) (hr0 : Kd.C (Kd.int .i64) w A0 l0.length l0) (hc0 : l0.length ≤ c0) (h : slices_Clone_int_int.f l0 = some r) :
    Calls Try.prog 54 #[.slice A0 l0.length c0] w fun e w' => ∃ v0_ : Value, e = .returned (v0_) ∧ Kd.R (Kd.int .i64) 3 w' w.heap.size (fun _ => True) v0_ r ∧ Below w.heap.size w w' := by
  unfold slices_Clone_int_int.f at h
  split at h
  · obtain rfl := Option.some.inj h
    cases A0 with
    | some a => exact cloneI_some a c0 l0 w hr0 (by assumption)
    | none =>
      have h0 : l0 = [] := by
        rcases Nat.eq_zero_or_pos l0.length with h | h
        · exact List.eq_nil_of_length_eq_zero h
        · obtain ⟨ad, e, _⟩ := hr0.2.2 h
          cases e
      subst h0
      exact cloneI_nil c0 w
  · cases h
end Go.Proofs.Ytkhiglincdognaa.PA
