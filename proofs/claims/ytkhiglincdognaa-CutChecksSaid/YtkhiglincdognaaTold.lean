/-
What the arguments of a law read as: slices of numbers, slices of slices, slices of structs: from the form's reading to the words of the print (Kd.C).
Conditions: each theorem states what it asks.
-/
import Derived.ProofKit
import Derived.Deep.Slices
import Derived.Test.YtkhiglincdognaaWWords
namespace Go.Proofs.Ytkhiglincdognaa.Told
open Go.RowKit Go.ChangeShapes Go.WideShapes Go.Proofs.YtkhiglincdognaaW.PrintWords
set_option linter.unusedVariables false
set_option linter.unusedSimpArgs false

/-- A type's values, as cells that can be read, are of this kind, and good. -/
def Told {α : Type} (d : Kd α) (G : α → Prop) (P : Program) (t : TypeId) : Prop :=
  P.cellsOf t = d.sz ∧ ∀ {H : Type} (enc : TypeId × Value → H) (w : World) (base : Nat) (spare : Nat → Bool) (held : Bool) (fuel : Nat) (cs : List Value) (x : DataW H × List MemPlace),
    DataW.trod enc P w base spare held fuel t cs = some x → ∃ p, d.K w p cs ∧ G p

theorem told_int {P : Program} {t : TypeId} {k : IntKind} (hu : P.underlying t = some (.int k)) (hc : P.cellsOf t = 1) : Told (Kd.int k) (fun n => (Lit.int k n).wf = true) P t := by
  refine ⟨hc, fun enc w base spare held fuel cs x h => ?_⟩
  obtain ⟨n, rfl, _, hw⟩ := DataW.trod_int hu h
  exact ⟨n, rfl, hw⟩

theorem told_slice {P : Program} {t e : TypeId} {α : Type} {d : Kd α} {G : α → Prop} (hu : P.underlying t = some (.slice e)) (hc : P.cellsOf t = 1) (hT : Told d G P e) : Told (Kd.slice e d) (fun l => ∀ x ∈ l, G x) P t := by
  refine ⟨hc, fun {H} enc w base spare held fuel cs x h => ?_⟩
  rcases Go.Deep.open_slice hu h with ⟨rfl, _⟩ | ⟨a, len, cap, m, n, D, Pl, rfl, _, hl, hm, hmm, _, hx⟩
  · exact ⟨[], ⟨none, 0, rfl, Nat.le_refl _, Kd.C_nil _ _⟩, fun x hx => by cases hx⟩
  · have hlm : len ≤ m := by rw [hmm]; split <;> omega
    have hex : ∀ i, i < len → ∃ p : α, G p ∧ ∃ cs', w.cells? base (a.add (i * P.cellsOf e)) (P.cellsOf e) = some cs' ∧ d.K w p cs' := fun i hi => by
      obtain ⟨cs', h1, h2⟩ := hx i (by omega)
      obtain ⟨p, hp, hg⟩ := hT.2 enc w base spare held n cs' _ h2
      exact ⟨p, hg, cs', h1, hp⟩
    rcases Nat.eq_zero_or_pos len with h0 | h0
    · subst h0
      exact ⟨[], ⟨some a, cap, rfl, Nat.zero_le _, ⟨rfl, by simp, fun hh => absurd hh (Nat.lt_irrefl 0)⟩⟩, fun x hx => by cases hx⟩
    obtain ⟨p0, _⟩ := hex 0 h0
    haveI : Inhabited α := ⟨p0⟩
    obtain ⟨f, hf⟩ := Go.Deep.choose_lt hex
    have hlen : ((List.range len).map f).length = len := by simp
    refine ⟨(List.range len).map f, ⟨some a, cap, by rw [hlen], by rw [hlen]; exact hl, ⟨rfl, by rw [hlen]; simp only [maxLen] at hm; omega, fun _ => ⟨a, rfl, fun j p hj => ?_⟩⟩⟩, fun x hx => ?_⟩
    · have hjl : j < len := by have := (List.getElem?_eq_some_iff.1 hj).1; simpa using this
      have hp : p = f j := by
        rw [List.getElem?_map, List.getElem?_range hjl] at hj
        simpa using hj.symm
      subst hp
      obtain ⟨_, cs', h1, h2⟩ := hf j hjl
      obtain ⟨_, hl1, hcell⟩ := World.cells?_some h1
      rw [hT.1] at hl1
      refine ⟨cs', hl1, h2, fun i u hu => ?_⟩
      have hi : i < P.cellsOf e := by rw [hT.1, ← hl1]; exact (List.getElem?_eq_some_iff.1 hu).1
      have := hcell i hi
      rw [hu, add_add, hT.1] at this
      exact this
    · obtain ⟨i, hi, rfl⟩ := List.mem_map.1 hx
      exact (hf i (by simpa using hi)).1

theorem told_iso {P : Program} {t : TypeId} {α β : Type} {d : Kd α} {G : α → Prop} (f : β → α) (g : α → β) (hfg : ∀ a, f (g a) = a) (hT : Told d G P t) : Told (Kd.iso d f) (fun b => G (f b)) P t :=
  ⟨hT.1, fun enc w base spare held fuel cs x h => by
    obtain ⟨p, hp, hg⟩ := hT.2 enc w base spare held fuel cs x h
    exact ⟨g p, by show d.K w (f (g p)) cs; rw [hfg]; exact hp, by show G (f (g p)); rw [hfg]; exact hg⟩⟩

theorem told_struct2 {P : Program} {t : TypeId} {f0 f1 : Field} {α β : Type} {d0 : Kd α} {d1 : Kd β} {G0 : α → Prop} {G1 : β → Prop} (hu : P.underlying t = some (.struct #[f0, f1])) (h0 : Told d0 G0 P f0.type) (h1 : Told d1 G1 P f1.type)
    (o0 : f0.offset = 0) (o1 : f1.offset = d0.sz) (hc : P.cellsOf t = d0.sz + d1.sz) : Told (Kd.pair d0 d1) (fun x => G0 x.1 ∧ G1 x.2) P t := by
  refine ⟨hc, fun {H} enc w base spare held fuel cs x h => ?_⟩
  obtain ⟨xs, n, _, _, hl, hlen, hf⟩ := DataW.trod_struct hu h
  have q0 := hf 0 f0 rfl
  have q1 := hf 1 f1 rfl
  rw [o0, List.drop_zero, h0.1] at q0
  rw [o1, h1.1] at q1
  rw [hc] at hl
  have hlen2 : xs.length = 2 := hlen
  rw [List.getElem?_eq_getElem (by omega)] at q0 q1
  obtain ⟨p0, k0, g0⟩ := h0.2 enc w base spare held n _ _ q0
  obtain ⟨p1, k1, g1⟩ := h1.2 enc w base spare held n _ _ q1
  rw [List.take_of_length_le (by rw [List.length_drop]; omega)] at k1
  exact ⟨(p0, p1), ⟨cs.take d0.sz, cs.drop d0.sz, (List.take_append_drop _ _).symm, k0, k1⟩, g0, g1⟩

theorem told_struct4 {P : Program} {t : TypeId} {f0 f1 f2 f3 : Field} {α β γ δ : Type} {d0 : Kd α} {d1 : Kd β} {d2 : Kd γ} {d3 : Kd δ} {G0 : α → Prop} {G1 : β → Prop} {G2 : γ → Prop} {G3 : δ → Prop} (hu : P.underlying t = some (.struct #[f0, f1, f2, f3]))
    (h0 : Told d0 G0 P f0.type) (h1 : Told d1 G1 P f1.type) (h2 : Told d2 G2 P f2.type) (h3 : Told d3 G3 P f3.type)
    (o0 : f0.offset = 0) (o1 : f1.offset = d0.sz) (o2 : f2.offset = d0.sz + d1.sz) (o3 : f3.offset = d0.sz + d1.sz + d2.sz) (hc : P.cellsOf t = d0.sz + d1.sz + d2.sz + d3.sz) : Told (Kd.pair d0 (Kd.pair d1 (Kd.pair d2 d3))) (fun x => G0 x.1 ∧ G1 x.2.1 ∧ G2 x.2.2.1 ∧ G3 x.2.2.2) P t := by
  refine ⟨by rw [hc]; simp only [Kd.pair]; omega, fun {H} enc w base spare held fuel cs x h => ?_⟩
  obtain ⟨xs, n, _, _, hl, hlen, hf⟩ := DataW.trod_struct hu h
  have q0 := hf 0 f0 rfl
  have q1 := hf 1 f1 rfl
  have q2 := hf 2 f2 rfl
  have q3 := hf 3 f3 rfl
  rw [o0, List.drop_zero, h0.1] at q0
  rw [o1, h1.1] at q1
  rw [o2, h2.1] at q2
  rw [o3, h3.1] at q3
  rw [hc] at hl
  have hlen4 : xs.length = 4 := hlen
  rw [List.getElem?_eq_getElem (by omega)] at q0 q1 q2 q3
  obtain ⟨p0, k0, g0⟩ := h0.2 enc w base spare held n _ _ q0
  obtain ⟨p1, k1, g1⟩ := h1.2 enc w base spare held n _ _ q1
  obtain ⟨p2, k2, g2⟩ := h2.2 enc w base spare held n _ _ q2
  obtain ⟨p3, k3, g3⟩ := h3.2 enc w base spare held n _ _ q3
  rw [List.take_of_length_le (by rw [List.length_drop]; omega)] at k3
  refine ⟨(p0, p1, p2, p3), ⟨cs.take d0.sz, cs.drop d0.sz, (List.take_append_drop _ _).symm, k0, (cs.drop d0.sz).take d1.sz, (cs.drop d0.sz).drop d1.sz, (List.take_append_drop _ _).symm, k1, ((cs.drop d0.sz).drop d1.sz).take d2.sz, ((cs.drop d0.sz).drop d1.sz).drop d2.sz, (List.take_append_drop _ _).symm, ?_, ?_⟩, g0, g1, g2, g3⟩
  · rw [List.drop_drop]; exact k2
  · rw [List.drop_drop, List.drop_drop, ← Nat.add_assoc]; exact k3

/-- A slice argument: what it reads as. -/
theorem told_arg {P : Program} {t e : TypeId} {α : Type} {d : Kd α} {G : α → Prop} (hu : P.underlying t = some (.slice e)) (hc : P.cellsOf t = 1) (hT : Told d G P e) {H : Type} {enc : TypeId × Value → H} {w : World} {base : Nat} {spare : Nat → Bool} {held : Bool} {A : Option Addr} {len cap : Nat} {x : DataW H} {ps : List MemPlace}
    (h : DataW.Trod enc P w base spare held t (.slice A len cap) x ps) : ∃ l : List α, len = l.length ∧ l.length ≤ cap ∧ d.C w A l.length l ∧ ∀ y ∈ l, G y := by
  obtain ⟨fuel, hf⟩ := h
  obtain ⟨l, ⟨A', c', he, hl, hC⟩, hg⟩ := (told_slice hu hc hT).2 enc w base spare held fuel _ _ hf
  simp only [Value.cells, List.cons.injEq, and_true, Value.slice.injEq] at he
  obtain ⟨rfl, rfl, rfl⟩ := he
  exact ⟨l, rfl, hl, hC, hg⟩
end Go.Proofs.Ytkhiglincdognaa.Told
