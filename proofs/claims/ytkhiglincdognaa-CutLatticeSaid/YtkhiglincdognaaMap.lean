/-
A map of the call's own, keyed by int, whose elements' values are known exactly: made, looked up, looked up with ok, written.
Conditions: each theorem states what it asks.
-/
import Derived.Test.YtkhiglincdognaaPAx0
import Derived.Maps.Own
import Derived.Maps.Views
namespace Go.Proofs.Ytkhiglincdognaa.PA
open Go.RowKit Go.Proofs.YtkhiglincdognaaW.PrintWords Go.Proofs.YtkhiglincdognaaW.PrintLast Go.Proofs.YtkhiglincdognaaW.PrintMore
open Go.Maps Go.WideElems
set_option linter.unusedVariables false

/-- An element is told by itself. -/
def asIs (v : Value) : Option (DataW Value × List MemPlace) := some (.held v, [])

/-- Block b of w is a map of at most n entries: f tells what stands at each key. -/
def OMap (w : World) (b n : Nat) (f : Int → Option Value) : Prop :=
  ∃ D : DataW Value, w.ownsMap Try.prog 3 asIs b n D ∧ IsMap D ∧ ∀ i, (Lit.int .i64 i).wf = true → ∀ z, D.atKey (.int .i64 i) z = (match f i with | some v => .held v | none => z)

theorem OMap.made (w : World) : OMap (w.alloc (.map #[] 0)) w.heap.size 0 (fun _ => none) := by
  refine ⟨_, World.ownsMap_made w Try.prog 3 asIs, ?_, fun i hi z => ?_⟩
  · exact ⟨[], rfl⟩
  · exact Go.WideAt.atKey_none z (by simp)
theorem OMap.lt {w : World} {b n : Nat} {f : Int → Option Value} (h : OMap w b n f) : b < w.heap.size := h.choose_spec.1.lt
theorem OMap.mono {w : World} {b n n' : Nat} {f : Int → Option Value} (h : OMap w b n f) (hn : n ≤ n') : OMap w b n' f := by
  obtain ⟨D, h1, h2⟩ := h
  exact ⟨D, h1.mono hn, h2⟩
theorem OMap.kept {w w' : World} {b n : Nat} {f : Int → Option Value} {row : Option Nat} (h : OMap w b n f) (hg : w.grownBy w' row) (hne : some b ≠ row) : OMap w' b n f := by
  obtain ⟨D, h1, h2⟩ := h
  exact ⟨D, h1.kept hg hne, h2⟩
theorem OMap.below {w w' : World} {b n : Nat} {f : Int → Option Value} (h : OMap w b n f) (hb : Below w.heap.size w w') : OMap w' b n f := h.kept (grown_of_below hb none) (by simp)
theorem OMap.drew {w : World} {b n : Nat} {f : Int → Option Value} (h : OMap w b n f) : OMap w.drew b n f := h

theorem key3 {i : Int} (hi : (Lit.int .i64 i).wf = true) : keyOf Try.prog 3 (.int .i64 i) = some (.int .i64 i) := keyOf_int_mk Try.underlying3 hi

theorem OMap.look {w : World} {b n : Nat} {f : Int → Option Value} (h : OMap w b n f) {t e : TypeId} (ht : Try.prog.underlying t = some (.map 3 e)) {z : Value} (hz : (zeroValue e).run Try.prog w = .ok z w) {i : Int} (hi : (Lit.int .i64 i).wf = true) (c : Bool) :
    (Instr.lookup t (.map (some b)) (.int .i64 i) c).run Try.prog w = .ok (if c then .tuple #[(f i).getD z, .bool (f i).isSome] else (f i).getD z) w := by
  obtain ⟨D, ⟨es, clock, hb, F, hs, rfl⟩, hm, hf⟩ := h
  have hfi := hf i hi
  rcases Maps.fit_look c (int_keyed Try.underlying3) ht hz hb F (key3 hi) with ⟨hrun, _, hat⟩ | ⟨e0, y, _, _, hrun, hR, hat, _⟩
  · cases hfv : f i with
    | none => simpa using hrun
    | some v =>
      rw [hfv] at hfi
      have h1 := (hat .nil).symm.trans (hfi .nil)
      cases h1
  · obtain rfl : y = (.held e0.val, []) := (Option.some.inj hR).symm
    cases hfv : f i with
    | none =>
      rw [hfv] at hfi
      have h1 := (hat .nil).symm.trans (hfi .nil)
      cases h1
    | some v =>
      rw [hfv] at hfi
      have h1 := (hat .nil).symm.trans (hfi .nil)
      injection h1 with h1
      subst h1
      simpa using hrun

theorem OMap.put {w : World} {b n : Nat} {f : Int → Option Value} (h : OMap w b n f) {t e : TypeId} (ht : Try.prog.underlying t = some (.map 3 e)) (hn : n < maxLen) {i : Int} (hi : (Lit.int .i64 i).wf = true) (v : Value) :
    ∃ w', (Instr.mapUpdate t (.map (some b)) (.int .i64 i) v).run Try.prog w = .ok () w' ∧ OMap w' b (n + 1) (fun j => if j = i then some v else f j) ∧ w.grownBy w' (some b) := by
  obtain ⟨D, ho, hm, hf⟩ := h
  obtain ⟨w', hrun, ho', hg⟩ := ho.update (int_keyed Try.underlying3) ht hn (key3 hi) (val := v) (d := .held v) (ps := []) rfl
  have hk := (int_keyed (P := Try.prog) Try.underlying3).key (key3 hi)
  refine ⟨w', hrun, ⟨_, ho', ?_, fun j hj z => ?_⟩, hg⟩
  · exact hm.put _ _
  · by_cases hij : j = i
    · subst hij
      rw [atKey_put_same hm hk]
      simp
    · rw [atKey_put_other (by intro e; injection e with e1 e2; exact hij e2)]
      rw [hf j hj z]
      simp [hij]

/-- 'm[i] = v' at the operation. -/
theorem put_law (w : World) {ops : Array Oper} {rest : List Oper} {o : Oper} {a : Act} {Q : Exit → Act → World → Prop} (hgd : o.guard = none) (m x v : Operand) (t : TypeId) (hop : o.op = Op.mapUpdate t m x v) {e : TypeId} (ht : Try.prog.underlying t = some (.map 3 e))
    (b n : Nat) (f : Int → Option Value) (hm : a.eval m = .map (some b)) (ho : OMap w b n f) (hn : n < maxLen) (i : Int) (hi : (Lit.int .i64 i).wf = true) (val : Value) (hx : a.eval x = .int .i64 i) (hv : a.eval v = val)
    (hK : ∀ w', OMap w' b (n + 1) (fun j => if j = i then some val else f j) → w.grownBy w' (some b) → wpList Try.prog ops Q rest (a.put o.dst undef) w') : wpList Try.prog ops Q (o :: rest) a w := by
  refine wpList_plain hgd fun K' hK' => ?_
  obtain ⟨w', hrun, r1, r2⟩ := ho.put ht hn hi val
  unfold Oper.wp
  simp [execOp, hop, hm, hx, hv, hrun, Result.andThen]
  exact hK' _ _ (hK w' r1 r2)

theorem wf3 {i : Int} (h0 : -9223372036854775808 ≤ i) (h1 : i ≤ 9223372036854775807) : (Lit.int .i64 i).wf = true := by
  simp [Lit.wf, IntKind.min, IntKind.max, IntKind.signed, IntKind.bits]
  omega
theorem zero26 (w : World) : (zeroValue 26).run Try.prog w = .ok (.slice none 0 0) w := by
  obtain ⟨i, hi, h⟩ := Option.map_eq_some_iff.1 (show (Try.prog.info? 26).map (fun i => i.zero) = some (some (.slice none 0 0)) from by kernel_rfl)
  simp [zeroValue, typeInfo, hi, h]
theorem zero3 (w : World) : (zeroValue 3).run Try.prog w = .ok (.int .i64 0) w := by
  obtain ⟨i, hi, h⟩ := Option.map_eq_some_iff.1 (show (Try.prog.info? 3).map (fun i => i.zero) = some (some (.int .i64 0)) from by kernel_rfl)
  simp [zeroValue, typeInfo, hi, h]
theorem zero4 (w : World) : (zeroValue 4).run Try.prog w = .ok (.bool false) w := by
  obtain ⟨i, hi, h⟩ := Option.map_eq_some_iff.1 (show (Try.prog.info? 4).map (fun i => i.zero) = some (some (.bool false)) from by kernel_rfl)
  simp [zeroValue, typeInfo, hi, h]
end Go.Proofs.Ytkhiglincdognaa.PA
