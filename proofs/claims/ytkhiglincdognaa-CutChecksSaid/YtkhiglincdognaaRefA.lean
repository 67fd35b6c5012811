/-
The reference's Check: what it answers, of any logs.
The reference tells whether two lists can be compared.
The reference's error of a cut, and where a commit stands.
Conditions: as each theorem states.
-/
import Derived.Test.YtkhiglincdognaaSpecs
import Derived.Test.YtkhiglincdognaaPAx9
import Derived.Test.YtkhiglincdognaaRPP
namespace Go.Proofs.Ytkhiglincdognaa.PA
open Go.RowKit Go.Proofs.YtkhiglincdognaaW.PrintWords Go.Proofs.YtkhiglincdognaaW.PrintLast Go.Proofs.YtkhiglincdognaaW.PrintMore
set_option linter.unusedVariables false
set_option linter.unusedSimpArgs false
open Classical

/-- One round that answers at once. -/
theorem Evt.one {α : Type} {g : Nat → Option α} {r : α} (h : ∀ k, g (k + 1) = some r) : Evt g r := .of 1 fun k hk => by
  obtain ⟨k, rfl⟩ : ∃ j, k = j + 1 := ⟨k - 1, by omega⟩
  exact h k
theorem rfit_l (l : List Int) (n : Nat) (own : Int) (hn : n ≤ 4) : ∀ (d i : Nat) (f : Bool), i + d = 5 → i ≤ l.length → upTo l n i → (f = true ↔ ∃ j, j < i ∧ l.getD j 0 = own) → Evt (fun k => partsyncref21_fits.l0 k l n own f l l.length i) (decide (shOk n own l))
  | 0, i, f, hi, hil, hu, hf => by have := upTo_le hu; omega
  | d + 1, i, f, hi, hil, hu, hf => by
    have hin := upTo_le hu
    by_cases hlt : i < l.length
    · have bad : ¬ upTo l n (i + 1) → decide (shOk n own l) = false := fun hb => decide_eq_false fun h => hb fun j hj => ((upTo_iff l n own).1 h).1 j (by omega)
      by_cases h1 : l.getD i 0 < 0
      · rw [bad fun h => by have := (h i (by omega)).1; omega]
        exact Evt.one fun k => by rw [partsyncref21_fits.l0, if_pos (by omega), if_pos (by omega), if_pos (by omega), rdN, if_pos h1]
      · by_cases h2 : l.getD i 0 ≥ (n : Int)
        · rw [bad fun h => by have := (h i (by omega)).2.1; omega]
          exact Evt.one fun k => by rw [partsyncref21_fits.l0, if_pos (by omega), if_pos (by omega), if_pos (by omega), rdN, if_neg h1, if_pos h2]
        · have nf : ((if f = true then true else l.getD i 0 == own) = true ↔ ∃ j, j < i + 1 ∧ l.getD j 0 = own) := by
            constructor
            · intro h
              cases f with
              | true => obtain ⟨j, hj, he⟩ := hf.1 rfl; exact ⟨j, by omega, he⟩
              | false => exact ⟨i, by omega, by simpa using h⟩
            · rintro ⟨j, hj, he⟩
              rcases Nat.lt_or_ge j i with g | g
              · rw [hf.2 ⟨j, g, he⟩]; rfl
              · obtain rfl : j = i := by omega
                cases f with
                | true => rfl
                | false =>
                  show (l.getD j 0 == own) = true
                  rw [he]; exact beq_self_eq_true _
          by_cases h0 : i = 0
          · subst h0
            refine (rfit_l l n own hn d 1 _ (by omega) (by omega) (fun j hj => by obtain rfl : j = 0 := (by omega); exact ⟨by omega, by omega, fun h => by omega⟩) nf).step fun k => ?_
            rw [partsyncref21_fits.l0, if_pos (by omega), if_pos (by omega), if_pos (by omega), rdN, if_neg h1, if_neg h2, if_neg (by omega), w1 0 (by omega)]
            cases f <;> rfl
          · have ew : wrap64 ((i : Int) - 1) = ((i - 1 : Nat) : Int) := by unfold wrap64; omega
            by_cases h3 : l.getD i 0 ≤ l.getD (i - 1) 0
            · rw [bad fun h => by have := (h i (by omega)).2.2 (by omega); omega]
              exact Evt.one fun k => by rw [partsyncref21_fits.l0, if_pos (by omega), if_pos (by omega), if_pos (by omega), rdN, if_neg h1, if_neg h2, if_pos (by omega), ew, if_pos (by omega), if_pos (by omega), rdN, if_pos h3]
            · refine (rfit_l l n own hn d (i + 1) _ (by omega) (by omega) (fun j hj => by
                rcases Nat.lt_or_ge j i with h | h
                · exact hu j h
                · obtain rfl : j = i := (by omega); exact ⟨by omega, by omega, fun h => by omega⟩) nf).step fun k => ?_
              rw [partsyncref21_fits.l0, if_pos (by omega), if_pos (by omega), if_pos (by omega), rdN, if_neg h1, if_neg h2, if_pos (by omega), ew, if_pos (by omega), if_pos (by omega), rdN, if_neg h3, w1 i (by omega)]
              cases f <;> rfl
    · obtain rfl : i = l.length := by omega
      have e : decide (shOk n own l) = f := by
        have hm : own ∈ l ↔ f = true := by
          rw [hf]
          constructor
          · intro h; obtain ⟨j, hj, he⟩ := List.mem_iff_getElem.1 h; exact ⟨j, hj, by rw [List.getD_eq_getElem?_getD, List.getElem?_eq_getElem hj]; exact he⟩
          · rintro ⟨j, hj, he⟩; rw [← he, List.getD_eq_getElem?_getD, List.getElem?_eq_getElem hj]; exact List.getElem_mem _
        rw [Bool.eq_iff_iff, decide_eq_true_eq, upTo_iff, ← hm]
        exact ⟨fun h => h.2, fun h => ⟨hu, h⟩⟩
      rw [e]
      exact Evt.one fun k => by rw [partsyncref21_fits.l0, if_neg (by omega)]
theorem rfit_ev (l : List Int) (n : Nat) (own : Int) (hn : n ≤ 4) : Evt (fun k => partsyncref21_fits.f k l n own) (decide (shOk n own l)) := by
  unfold partsyncref21_fits.f
  exact rfit_l l n own hn 5 0 false (by omega) (by omega) (fun j hj => by omega) ⟨fun h => by simp at h, fun ⟨j, hj, _⟩ => by omega⟩
theorem find_l (l : List S50) (m : Int) (hb : l.length ≤ 1073741824) : ∀ (d i : Nat), i + d = l.length → (∀ j, j < i → (l.getD j z50).f0 ≠ m) →
    (∃ a, a < l.length ∧ (l.getD a z50).f0 = m ∧ Evt (fun k => partsyncref21_find.l0 k m l l.length i) (a : Int)) ∨ ((∀ s ∈ l, s.f0 ≠ m) ∧ Evt (fun k => partsyncref21_find.l0 k m l l.length i) (-1))
  | 0, i, hi, hp => by
    refine .inr ⟨fun s hs => ?_, Evt.one fun k => by rw [partsyncref21_find.l0, if_neg (by omega)]⟩
    obtain ⟨j, hj, rfl⟩ := List.mem_iff_getElem.1 hs
    have := hp j (by omega)
    rwa [List.getD_eq_getElem?_getD, List.getElem?_eq_getElem hj] at this
  | d + 1, i, hi, hp => by
    by_cases h : (l.getD i z50).f0 = m
    · exact .inl ⟨i, by omega, h, Evt.one fun k => by rw [partsyncref21_find.l0, if_pos (by omega), if_pos (by omega), if_pos (by omega), rdT, if_pos h]⟩
    · have st : ∀ r, Evt (fun k => partsyncref21_find.l0 k m l l.length ((i + 1 : Nat) : Int)) r → Evt (fun k => partsyncref21_find.l0 k m l l.length i) r := fun r hr => hr.step fun k => by
        rw [partsyncref21_find.l0, if_pos (by omega), if_pos (by omega), if_pos (by omega), rdT, if_neg h, w1 i (by omega)]
      rcases find_l l m hb d (i + 1) (by omega) (fun j hj => by rcases Nat.lt_or_ge j i with g | g; exact hp j g; obtain rfl : j = i := (by omega); exact h) with ⟨a, h1, h2, h3⟩ | ⟨h1, h2⟩
      · exact .inl ⟨a, h1, h2, st _ h3⟩
      · exact .inr ⟨h1, st _ h2⟩
theorem find_ev (l : List S50) (m : Int) (hb : l.length ≤ 1073741824) :
    (∃ a, a < l.length ∧ (l.getD a z50).f0 = m ∧ Evt (fun k => partsyncref21_find.f k l m) (a : Int)) ∨ ((∀ s ∈ l, s.f0 ≠ m) ∧ Evt (fun k => partsyncref21_find.f k l m) (-1)) := by
  unfold partsyncref21_find.f
  exact find_l l m hb l.length 0 (by omega) (fun j hj => by omega)
theorem same_l (a b : List Int) (hl : a.length = b.length) (hb : a.length < 4611686018427387904) : ∀ (d i : Nat), i + d = a.length → (∀ j, j < i → a.getD j 0 = b.getD j 0) →
    Evt (fun k => partsyncref21_Same.l0 k a b a.length i) (decide (a = b))
  | 0, i, hi, hp => by
    have : a = b := ext_getD a b hl (fun j hj => hp j (by omega))
    rw [decide_eq_true this]
    exact Evt.one fun k => by rw [partsyncref21_Same.l0, if_neg (by omega)]
  | d + 1, i, hi, hp => by
    by_cases h1 : a.getD i 0 = b.getD i 0
    · refine (same_l a b hl hb d (i + 1) (by omega) (fun j hj => by rcases Nat.lt_or_ge j i with h | h; exact hp j h; obtain rfl : j = i := (by omega); exact h1)).step fun k => ?_
      rw [partsyncref21_Same.l0, if_pos (by omega), if_pos (by omega), if_pos (by omega), if_pos (by omega), rdN, rdN, if_pos h1, w1 i (by omega)]
    · have : a ≠ b := fun e => h1 (by rw [e])
      rw [decide_eq_false this]
      exact Evt.one fun k => by rw [partsyncref21_Same.l0, if_pos (by omega), if_pos (by omega), if_pos (by omega), if_pos (by omega), rdN, rdN, if_neg h1]
theorem same_ev (a b : List Int) (hb : a.length < 4611686018427387904) : Evt (fun k => partsyncref21_Same.f k a b) (decide (a = b)) := by
  unfold partsyncref21_Same.f
  by_cases hl : a.length = b.length
  · exact Evt.pos (by omega) (same_l a b hl hb a.length 0 (by omega) (fun j hj => by omega))
  · have : a ≠ b := fun e => hl (by rw [e])
    rw [decide_eq_false this]
    exact Evt.neg (by omega) (Evt.ret _)

/-! Check -/
def goodL (n : Nat) (own : Int) : Int → List S50 → Prop
  | _, [] => True
  | last, s :: l => last < s.f0 ∧ s.f0 ≤ 1073741824 ∧ shOk n own s.f1 ∧ goodL n own s.f0 l
theorem goodL_iff (n : Nat) (own : Int) : ∀ (l : List S50) (last : Int), goodL n own last l ↔ l.Pairwise (fun s t => s.f0 < t.f0) ∧ ∀ s ∈ l, last < s.f0 ∧ s.f0 ≤ 1073741824 ∧ shOk n own s.f1
  | [], last => by simp [goodL]
  | s :: l, last => by
    unfold goodL
    rw [goodL_iff n own l s.f0, List.pairwise_cons]
    constructor
    · rintro ⟨h1, h2, h3, h4, h5⟩
      refine ⟨⟨fun t ht => (h5 t ht).1, h4⟩, fun t ht => ?_⟩
      rcases List.mem_cons.1 ht with rfl | ht
      · exact ⟨h1, h2, h3⟩
      · have := h5 t ht; exact ⟨by omega, this.2⟩
    · rintro ⟨⟨h1, h2⟩, h3⟩
      have := h3 s (by simp)
      exact ⟨this.1, this.2.1, this.2.2, h2, fun t ht => ⟨h1 t ht, (h3 t (by simp [ht])).2⟩⟩
theorem dropT (l : List S50) (i : Nat) (h : i < l.length) : l.drop i = l.getD i z50 :: l.drop (i + 1) := by
  rw [List.drop_eq_getElem_cons h, List.getD_eq_getElem?_getD, List.getElem?_eq_getElem h]; rfl
theorem rl1 (b : Int) (logs : List (List S50)) (i0 : Nat) (hb0 : 0 ≤ b) (hn : logs.length ≤ 4) (hi0 : i0 < logs.length) (l : List S50) (r : Int) :
    ∀ (d i : Nat) (last : Int), i + d = l.length → (i : Int) ≤ last - b → last ≤ 1073741824 → (goodL logs.length i0 last (l.drop i) → Evt (fun k => partsyncref21_Check.l0 k b logs logs logs.length ((i0 + 1 : Nat) : Int)) r) → Evt (fun k => partsyncref21_Check.l1 k b logs i0 last logs logs.length i0 l l.length i) (if goodL logs.length i0 last (l.drop i) then r else 210)
  | 0, i, last, hi, hil, hla, hr => by
    rw [List.drop_of_length_le (by omega)] at hr ⊢
    rw [if_pos (show goodL logs.length i0 last [] from trivial)]
    exact (hr trivial).step fun k => by rw [partsyncref21_Check.l1, if_neg (by omega), w1 i0 (by omega)]
  | d + 1, i, last, hi, hil, hla, hr => by
    rw [dropT l i (by omega)] at hr ⊢
    unfold goodL at hr ⊢
    by_cases h1 : (l.getD i z50).f0 ≤ last
    · rw [if_neg (fun h => by omega)]
      exact Evt.one fun k => by rw [partsyncref21_Check.l1, if_pos (by omega), if_pos (by omega), if_pos (by omega), rdT, if_pos h1]
    · by_cases h2 : (l.getD i z50).f0 > 1073741824
      · rw [if_neg (fun h => by omega)]
        exact Evt.one fun k => by rw [partsyncref21_Check.l1, if_pos (by omega), if_pos (by omega), if_pos (by omega), rdT, if_neg h1, if_pos h2]
      · have hf := rfit_ev (l.getD i z50).f1 logs.length i0 hn
        refine Evt.step (g := ?g1) ?h1 ?e1
        case e1 => intro k; rw [partsyncref21_Check.l1, if_pos (by omega), if_pos (by omega), if_pos (by omega), rdT, if_neg h1, if_neg h2, w1 i (by omega)]
        case h1 =>
          by_cases h3 : shOk logs.length i0 (l.getD i z50).f1
          · rw [decide_eq_true h3] at hf
            have := rl1 b logs i0 hb0 hn hi0 l r d (i + 1) (l.getD i z50).f0 (by omega) (by omega) (by omega) (fun g => hr ⟨by omega, by omega, h3, g⟩)
            have e : (last < (l.getD i z50).f0 ∧ (l.getD i z50).f0 ≤ 1073741824 ∧ shOk logs.length i0 (l.getD i z50).f1 ∧ goodL logs.length i0 (l.getD i z50).f0 (l.drop (i + 1))) ↔ goodL logs.length i0 (l.getD i z50).f0 (l.drop (i + 1)) := ⟨fun h => h.2.2.2, fun h => ⟨by omega, by omega, h3, h⟩⟩
            simp only [e]
            exact Evt.bind hf (Evt.pos rfl this)
          · rw [decide_eq_false h3] at hf
            rw [if_neg (fun h => h3 h.2.2.1)]
            exact Evt.bind hf (Evt.neg (by decide) (Evt.ret _))
theorem rl0 (b : Int) (logs : List (List S50)) (hb0 : 0 ≤ b) (hb1 : b ≤ 1073741824) (hn : logs.length ≤ 4) (r : Int) (hr : Evt (fun k => partsyncref21_Check.l2 k logs logs logs.length 0) r) :
    ∀ (d i : Nat), i + d = logs.length → Evt (fun k => partsyncref21_Check.l0 k b logs logs logs.length i) (if ∀ j, i ≤ j → j < logs.length → goodL logs.length j b (logs.getD j []) then r else 210)
  | 0, i, hi => by
    rw [if_pos (fun j h1 h2 => by omega)]
    exact hr.step fun k => by rw [partsyncref21_Check.l0, if_neg (by omega)]
  | d + 1, i, hi => by
    have ih := rl0 b logs hb0 hb1 hn r hr d (i + 1) (by omega)
    have := rl1 b logs i hb0 hn (by omega) (logs.getD i []) _ (logs.getD i []).length 0 b (by omega) (by omega) hb1 (fun _ => ih)
    rw [List.drop_zero] at this
    have h2 := this.step (g' := fun k => partsyncref21_Check.l0 k b logs logs logs.length i) fun k => by
      show partsyncref21_Check.l0 (k + 1) b logs logs logs.length i = _
      rw [partsyncref21_Check.l0, if_pos (by omega), if_pos (by omega), if_pos (by omega), rdL]; rfl
    by_cases h : goodL logs.length i b (logs.getD i [])
    · rw [if_pos h] at h2
      have e : (∀ j, i ≤ j → j < logs.length → goodL logs.length j b (logs.getD j [])) ↔ (∀ j, i + 1 ≤ j → j < logs.length → goodL logs.length j b (logs.getD j [])) :=
        ⟨fun g j h1 h2 => g j (by omega) h2, fun g j h1 h2 => by rcases Nat.eq_or_lt_of_le h1 with rfl | q; exact h; exact g j q h2⟩
      simp only [e]; exact h2
    · rw [if_neg h] at h2
      rw [if_neg (fun g => h (g i (Nat.le_refl _) (by omega)))]
      exact h2
def agree (s : S50) (l : List S50) : Prop := ∀ t ∈ l, t.f0 = s.f0 → s.f1 = t.f1
theorem rl4 (logs : List (List S50)) (i : Nat) (l : List S50) (x : Nat) (y : List (List S50)) (hx : x < 1073741824) (hy : y.length ≤ 4) (s : S50) (hs : s.f1.length ≤ 4) (hasc : ∀ j, j < y.length → (y.getD j []).Pairwise (fun s t => s.f0 < t.f0) ∧ (y.getD j []).length ≤ 1073741824) (r : Int)
    (hr : Evt (fun k => partsyncref21_Check.l3 k logs i logs logs.length i l l.length ((x + 1 : Nat) : Int)) r) : ∀ (d j : Nat), j + d = y.length →
    Evt (fun k => partsyncref21_Check.l4 k logs i logs logs.length i l l.length x y y.length j s.f0 s.f1) (if ∀ j', j ≤ j' → j' < y.length → agree s (y.getD j' []) then r else 210)
  | 0, j, hj => by
    rw [if_pos (fun j' h1 h2 => by omega)]
    exact hr.step fun k => by rw [partsyncref21_Check.l4, if_neg (by omega), w1 x (by omega)]
  | d + 1, j, hj => by
    have ih := rl4 logs i l x y hx hy s hs hasc r hr d (j + 1) (by omega)
    obtain ⟨ha, hle⟩ := hasc j (by omega)
    have split_ : agree s (y.getD j []) → ((∀ j', j ≤ j' → j' < y.length → agree s (y.getD j' [])) ↔ (∀ j', j + 1 ≤ j' → j' < y.length → agree s (y.getD j' []))) := fun h =>
      ⟨fun g j' h1 h2 => g j' (by omega) h2, fun g j' h1 h2 => by rcases Nat.eq_or_lt_of_le h1 with rfl | q; exact h; exact g j' q h2⟩
    rcases find_ev (y.getD j []) s.f0 hle with ⟨a, h1, h2, h3⟩ | ⟨h1, h2⟩
    · have hsm := same_ev s.f1 ((y.getD j []).getD a z50).f1 (by omega)
      refine Evt.step (g := ?g1) ?h1 ?e1
      case e1 => intro k; rw [partsyncref21_Check.l4, if_pos (by omega), if_pos (by omega), if_pos (by omega), rdL, w1 j (by omega)]
      case h1 =>
        refine Evt.bind h3 (Evt.pos (by omega) (Evt.pos (by omega) (Evt.pos (by omega) ?_)))
        rw [rdT]
        by_cases hsa : s.f1 = ((y.getD j []).getD a z50).f1
        · rw [decide_eq_true hsa] at hsm
          have hag : agree s (y.getD j []) := fun t ht he => by
            obtain ⟨c, hc, rfl⟩ := List.mem_iff_getElem.1 ht
            have hp := List.pairwise_iff_getElem.1 ha
            rw [List.getD_eq_getElem?_getD (l := y.getD j []), List.getElem?_eq_getElem h1] at h2 hsa
            simp only [Option.getD_some] at h2 hsa
            rcases Nat.lt_trichotomy a c with g | g | g
            · have := hp a c h1 hc g; omega
            · subst g; exact hsa
            · have := hp c a hc h1 g; omega
          simp only [split_ hag]
          exact Evt.bind hsm (Evt.pos rfl ih)
        · rw [decide_eq_false hsa] at hsm
          rw [if_neg (fun g => hsa (g j (Nat.le_refl _) (by omega) _ (by rw [List.getD_eq_getElem?_getD (l := y.getD j []), List.getElem?_eq_getElem h1]; exact List.getElem_mem _) h2))]
          exact Evt.bind hsm (Evt.neg (by decide) (Evt.ret _))
    · have hag : agree s (y.getD j []) := fun t ht he => absurd he (h1 t ht)
      simp only [split_ hag]
      refine Evt.step (g := ?g2) ?h2 ?e2
      case e2 => intro k; rw [partsyncref21_Check.l4, if_pos (by omega), if_pos (by omega), if_pos (by omega), rdL, w1 j (by omega)]
      case h2 => exact Evt.bind h2 (Evt.neg (by decide) ih)
theorem rl3 (logs : List (List S50)) (hn : logs.length ≤ 4) (i : Nat) (hi : i < logs.length) (hok : ∀ j, j < logs.length → (logs.getD j []).Pairwise (fun s t => s.f0 < t.f0) ∧ (logs.getD j []).length ≤ 1073741824 ∧ ∀ s ∈ logs.getD j [], s.f1.length ≤ 4) (r : Int)
    (hr : Evt (fun k => partsyncref21_Check.l2 k logs logs logs.length ((i + 1 : Nat) : Int)) r) : ∀ (d x : Nat), x + d = (logs.getD i []).length →
    Evt (fun k => partsyncref21_Check.l3 k logs i logs logs.length i (logs.getD i []) (logs.getD i []).length x) (if ∀ s ∈ (logs.getD i []).drop x, ∀ j', i < j' → j' < logs.length → agree s (logs.getD j' []) then r else 210)
  | 0, x, hx => by
    rw [List.drop_of_length_le (by omega), if_pos (fun s hs => by simp at hs)]
    exact hr.step fun k => by rw [partsyncref21_Check.l3, if_neg (by omega), w1 i (by omega)]
  | d + 1, x, hx => by
    have ih := rl3 logs hn i hi hok r hr d (x + 1) (by omega)
    have hlen := (hok i hi).2.1
    have hxl : x < (logs.getD i []).length := by omega
    obtain ⟨y, hy⟩ : ∃ y, y = logs.drop (i + 1) := ⟨_, rfl⟩
    have yl : y.length = logs.length - (i + 1) := by rw [hy, List.length_drop]
    have yg : ∀ j, y.getD j [] = logs.getD (i + 1 + j) [] := fun j => by rw [hy, List.getD_eq_getElem?_getD, List.getElem?_drop, ← List.getD_eq_getElem?_getD]
    have hs4 : ((logs.getD i []).getD x z50).f1.length ≤ 4 := (hok i hi).2.2 _ (by rw [List.getD_eq_getElem?_getD (l := logs.getD i []), List.getElem?_eq_getElem hxl]; exact List.getElem_mem _)
    have h4 := rl4 logs i (logs.getD i []) x y (by omega) (by omega) ((logs.getD i []).getD x z50) hs4 (fun j hj => by rw [yg]; exact ⟨(hok _ (by omega)).1, (hok _ (by omega)).2.1⟩) _ ih y.length 0 (by omega)
    have e0 : (∀ j', 0 ≤ j' → j' < y.length → agree ((logs.getD i []).getD x z50) (y.getD j' [])) ↔ ∀ j', i < j' → j' < logs.length → agree ((logs.getD i []).getD x z50) (logs.getD j' []) := by
      constructor
      · intro h j' h1 h2
        have := h (j' - (i + 1)) (Nat.zero_le _) (by omega)
        rw [yg] at this
        have e : i + 1 + (j' - (i + 1)) = j' := by omega
        rwa [e] at this
      · intro h j' _ h2
        rw [yg]; exact h _ (by omega) (by omega)
    have h5 := h4.step (g' := fun k => partsyncref21_Check.l3 k logs i logs logs.length i (logs.getD i []) (logs.getD i []).length x) fun k => by
      show partsyncref21_Check.l3 (k + 1) logs i logs logs.length i (logs.getD i []) (logs.getD i []).length x = _
      rw [partsyncref21_Check.l3, if_pos (by omega), if_pos (by omega), if_pos (by omega), w1 i (by omega), if_pos (by omega), if_pos (by omega), Int.toNat_natCast, Option.bind_some, rdT, ← hy]; rfl
    simp only [e0] at h5
    rw [dropT _ x hxl]
    by_cases h : ∀ j', i < j' → j' < logs.length → agree ((logs.getD i []).getD x z50) (logs.getD j' [])
    · rw [if_pos h] at h5
      have e : (∀ s ∈ (logs.getD i []).getD x z50 :: (logs.getD i []).drop (x + 1), ∀ j', i < j' → j' < logs.length → agree s (logs.getD j' [])) ↔ (∀ s ∈ (logs.getD i []).drop (x + 1), ∀ j', i < j' → j' < logs.length → agree s (logs.getD j' [])) :=
        ⟨fun g s hs => g s (List.mem_cons_of_mem _ hs), fun g s hs => by rcases List.mem_cons.1 hs with rfl | hs; exact h; exact g s hs⟩
      simp only [e]; exact h5
    · rw [if_neg h] at h5
      rw [if_neg (fun g => h (g _ (by simp)))]
      exact h5
theorem rl2 (logs : List (List S50)) (hn : logs.length ≤ 4) (hok : ∀ j, j < logs.length → (logs.getD j []).Pairwise (fun s t => s.f0 < t.f0) ∧ (logs.getD j []).length ≤ 1073741824 ∧ ∀ s ∈ logs.getD j [], s.f1.length ≤ 4) : ∀ (d i : Nat), i + d = logs.length →
    Evt (fun k => partsyncref21_Check.l2 k logs logs logs.length i) (if ∀ i', i ≤ i' → i' < logs.length → ∀ s ∈ logs.getD i' [], ∀ j', i' < j' → j' < logs.length → agree s (logs.getD j' []) then 0 else 210)
  | 0, i, hi => by
    rw [if_pos (fun j h1 h2 => by omega)]
    exact Evt.one fun k => by rw [partsyncref21_Check.l2, if_neg (by omega)]
  | d + 1, i, hi => by
    have ih := rl2 logs hn hok d (i + 1) (by omega)
    have := rl3 logs hn i (by omega) hok _ ih (logs.getD i []).length 0 (by omega)
    rw [List.drop_zero] at this
    have h2 := this.step (g' := fun k => partsyncref21_Check.l2 k logs logs logs.length i) fun k => by
      show partsyncref21_Check.l2 (k + 1) logs logs logs.length i = _
      rw [partsyncref21_Check.l2, if_pos (by omega), if_pos (by omega), if_pos (by omega), rdL]; rfl
    by_cases h : ∀ s ∈ logs.getD i [], ∀ j', i < j' → j' < logs.length → agree s (logs.getD j' [])
    · rw [if_pos h] at h2
      have e : (∀ i', i ≤ i' → i' < logs.length → ∀ s ∈ logs.getD i' [], ∀ j', i' < j' → j' < logs.length → agree s (logs.getD j' [])) ↔ (∀ i', i + 1 ≤ i' → i' < logs.length → ∀ s ∈ logs.getD i' [], ∀ j', i' < j' → j' < logs.length → agree s (logs.getD j' [])) :=
        ⟨fun g j h1 h2 => g j (by omega) h2, fun g j h1 h2 => by rcases Nat.eq_or_lt_of_le h1 with rfl | q; exact h; exact g j q h2⟩
      simp only [e]; exact h2
    · rw [if_neg h] at h2
      rw [if_neg (fun g => h (g i (Nat.le_refl _) (by omega)))]
      exact h2
theorem rcheck_ev (b : Int) (logs : List (List S50)) : Evt (fun k => partsyncref21_Check.f k b logs) (checkV b logs) := by
  have fin : (b < 0 ∨ 1073741824 < b ∨ logs.length = 0 ∨ 4 < logs.length) → Evt (fun k => partsyncref21_Check.j0 k b logs true) (checkV b logs) := fun h => by
    unfold checkV; rw [if_pos h]
    exact Evt.one fun k => by rw [partsyncref21_Check.j0, if_pos rfl]
  unfold partsyncref21_Check.f
  by_cases h1 : b < 0
  · exact Evt.pos h1 (fin (.inl h1))
  · by_cases h2 : b > 1073741824
    · exact Evt.neg h1 (Evt.pos h2 (fin (.inr (.inl h2))))
    · by_cases h3 : (logs.length : Int) < 1
      · exact Evt.neg h1 (Evt.neg h2 (Evt.pos h3 (fin (.inr (.inr (.inl (by omega)))))))
      · by_cases h4 : (logs.length : Int) > 4
        · rw [decide_eq_true h4]
          exact Evt.neg h1 (Evt.neg h2 (Evt.neg h3 (fin (.inr (.inr (.inr (by omega)))))))
        · rw [decide_eq_false h4]
          refine Evt.neg h1 (Evt.neg h2 (Evt.neg h3 ?_))
          have go : Evt (fun k => partsyncref21_Check.l0 k b logs logs logs.length (0 : Nat)) (checkV b logs) := by
            unfold checkV
            rw [if_neg (by omega)]
            by_cases hg : ∀ j, 0 ≤ j → j < logs.length → goodL logs.length j b (logs.getD j [])
            · have hok : ∀ j, j < logs.length → (logs.getD j []).Pairwise (fun s t => s.f0 < t.f0) ∧ (logs.getD j []).length ≤ 1073741824 ∧ ∀ s ∈ logs.getD j [], s.f1.length ≤ 4 := fun j hj => by
                obtain ⟨g1, g2⟩ := (goodL_iff _ _ _ _).1 (hg j (Nat.zero_le _) hj)
                have := asc_len b 1073741824 _ b (Int.le_refl _) g1 (fun s hs => ⟨(g2 s hs).1, (g2 s hs).2.1⟩)
                refine ⟨g1, ?_, fun s hs => ?_⟩
                · split at this <;> omega
                · have := shOk_len (g2 s hs).2.2; omega
              have := rl0 b logs (by omega) (by omega) (by omega) _ (rl2 logs (by omega) hok logs.length 0 (by omega)) logs.length 0 (by omega)
              rw [if_pos hg] at this
              have e : (∀ i', 0 ≤ i' → i' < logs.length → ∀ s ∈ logs.getD i' [], ∀ j', i' < j' → j' < logs.length → agree s (logs.getD j' [])) ↔ LInv b 1073741824 logs.length logs := by
                constructor
                · intro h
                  have gg := fun j hj => (goodL_iff _ _ _ _).1 (hg j (Nat.zero_le _) hj)
                  refine ⟨rfl, fun j hj => (gg j hj).1, fun j hj s hs => ⟨((gg j hj).2 s hs).1, ((gg j hj).2 s hs).2.1⟩, fun j hj s hs => ((gg j hj).2 s hs).2.2, fun i j hi hj s hs t ht he => ?_⟩
                  rcases Nat.lt_trichotomy i j with g | g | g
                  · exact h i (Nat.zero_le _) hi s hs j g hj t ht he.symm
                  · subst g
                    obtain ⟨a, ha, rfl⟩ := List.mem_iff_getElem.1 hs
                    obtain ⟨c, hc, rfl⟩ := List.mem_iff_getElem.1 ht
                    have hp := List.pairwise_iff_getElem.1 (gg i hi).1
                    rcases Nat.lt_trichotomy a c with g | g | g
                    · have := hp a c ha hc g; omega
                    · subst g; rfl
                    · have := hp c a hc ha g; omega
                  · exact (h j (Nat.zero_le _) hj t ht i g hi s hs he).symm
                · intro h i' _ hi' s hs j' hj hj' t ht he
                  exact h.same i' j' hi' hj' s hs t ht he.symm
              simp only [e] at this
              exact this
            · rw [if_neg (fun h : LInv b 1073741824 logs.length logs => hg fun j _ hj => (goodL_iff _ _ _ _).2 ⟨h.asc j hj, fun s hs => ⟨(h.rng j hj s hs).1, (h.rng j hj s hs).2, h.sh j hj s hs⟩⟩)]
              -- the first list that is not good: whatever phase 2 would say
              have key : ∀ (d i : Nat), i + d = logs.length → ¬ (∀ j, i ≤ j → j < logs.length → goodL logs.length j b (logs.getD j [])) → Evt (fun k => partsyncref21_Check.l0 k b logs logs logs.length i) 210 := by
                intro d
                induction d with
                | zero => intro i hi hng; exact absurd (fun j h1 h2 => by omega) hng
                | succ d ih =>
                  intro i hi hng
                  by_cases hgi : goodL logs.length i b (logs.getD i [])
                  · have ih2 := ih (i + 1) (by omega) (fun g => hng fun j h1 h2 => by rcases Nat.eq_or_lt_of_le h1 with rfl | q; exact hgi; exact g j q h2)
                    have := rl1 b logs i (by omega) (by omega) (by omega) (logs.getD i []) 210 (logs.getD i []).length 0 b (by omega) (by omega) (by omega) (fun _ => ih2)
                    rw [ite_self] at this
                    exact this.step fun k => by
                      rw [partsyncref21_Check.l0, if_pos (by omega), if_pos (by omega), if_pos (by omega), rdL]; rfl
                  · have := rl1 b logs i (by omega) (by omega) (by omega) (logs.getD i []) 210 (logs.getD i []).length 0 b (by omega) (by omega) (by omega) (fun g => by rw [List.drop_zero] at g; exact absurd g hgi)
                    rw [ite_self] at this
                    exact this.step fun k => by
                      rw [partsyncref21_Check.l0, if_pos (by omega), if_pos (by omega), if_pos (by omega), rdL]; rfl
              exact key logs.length 0 (by omega) hg
          refine go.step (g' := fun k => partsyncref21_Check.j0 k b logs false) fun k => ?_
          rw [partsyncref21_Check.j0, if_neg (by decide)]; rfl
end Go.Proofs.Ytkhiglincdognaa.PA

namespace Go.Proofs.Ytkhiglincdognaa.PA
open Go.RowKit Go.Proofs.YtkhiglincdognaaW.PrintWords Go.Proofs.YtkhiglincdognaaW.PrintLast Go.Proofs.YtkhiglincdognaaW.PrintMore
set_option linter.unusedVariables false
set_option linter.unusedSimpArgs false
open Classical

/-! Compare -/
theorem pair_l (a b : List Int) (hl : a.length = b.length) (hb : a.length < 4611686018427387904) : ∀ (d i : Nat), i + d = a.length → (∀ j, j < i → 0 ≤ a.getD j 0 ∧ 0 ≤ b.getD j 0) →
    Evt (fun k => partsyncref21_pair.l0 k a b a.length i) (if fitsV a b = true then 0 else 1)
  | 0, i, hi, hp => by
    rw [if_pos ((fitsV_iff a b).2 ⟨hl, fun j hj => hp j (by omega)⟩)]
    exact Evt.one fun k => by rw [partsyncref21_pair.l0, if_neg (by omega)]
  | d + 1, i, hi, hp => by
    have no : ¬ (0 ≤ a.getD i 0 ∧ 0 ≤ b.getD i 0) → ¬ fitsV a b = true := fun h g => h (((fitsV_iff a b).1 g).2 i (by omega))
    by_cases h1 : a.getD i 0 < 0
    · rw [if_neg (no fun h => by omega)]
      exact Evt.one fun k => by rw [partsyncref21_pair.l0, if_pos (by omega), if_pos (by omega), if_pos (by omega), rdN, if_pos h1]
    · by_cases h2 : b.getD i 0 < 0
      · rw [if_neg (no fun h => by omega)]
        exact Evt.one fun k => by rw [partsyncref21_pair.l0, if_pos (by omega), if_pos (by omega), if_pos (by omega), rdN, if_neg h1, if_pos (by omega), rdN, if_pos h2]
      · refine (pair_l a b hl hb d (i + 1) (by omega) (fun j hj => by rcases Nat.lt_or_ge j i with h | h; exact hp j h; obtain rfl : j = i := (by omega); omega)).step fun k => ?_
        rw [partsyncref21_pair.l0, if_pos (by omega), if_pos (by omega), if_pos (by omega), rdN, if_neg h1, if_pos (by omega), rdN, if_neg h2, w1 i (by omega)]
theorem pair_ev (a b : List Int) (hb : a.length < 4611686018427387904) : Evt (fun k => partsyncref21_pair.f k a b) (if fitsV a b = true then 0 else 1) := by
  unfold partsyncref21_pair.f
  by_cases hl : a.length = b.length
  · exact Evt.pos (by omega) (pair_l a b hl hb a.length 0 (by omega) (fun j hj => by omega))
  · rw [if_neg (fun h => hl ((fitsV_iff a b).1 h).1)]
    exact Evt.neg (by omega) (Evt.ret _)
end Go.Proofs.Ytkhiglincdognaa.PA

namespace Go.Proofs.Ytkhiglincdognaa.PA
open Go.RowKit Go.Proofs.YtkhiglincdognaaW.PrintWords Go.Proofs.YtkhiglincdognaaW.PrintLast Go.Proofs.YtkhiglincdognaaW.PrintMore
set_option linter.unusedVariables false
set_option linter.unusedSimpArgs false
open Classical

/-! the error of a cut -/
theorem rplace_l (logs : List (List S50)) (c : List Int) (hl : c.length = logs.length) (hb : logs.length ≤ 1000) : ∀ (d i : Nat), i + d = c.length → (∀ j, j < i → 0 ≤ c.getD j 0 ∧ c.getD j 0 ≤ ((logs.getD j []).length : Int)) →
    Evt (fun k => partsyncref21_place.l0 k logs c c.length i) (if isCut logs c then 0 else 1)
  | 0, i, hi, hp => by
    rw [if_pos ⟨hl, fun j hj => hp j (by omega)⟩]
    exact Evt.one fun k => by rw [partsyncref21_place.l0, if_neg (by omega)]
  | d + 1, i, hi, hp => by
    by_cases h1 : c.getD i 0 < 0
    · rw [if_neg (fun h => by have := (h.2 i (by omega)).1; omega)]
      exact Evt.one fun k => by rw [partsyncref21_place.l0, if_pos (by omega), if_pos (by omega), if_pos (by omega), rdN, if_pos h1]
    · by_cases h2 : c.getD i 0 > ((logs.getD i []).length : Int)
      · rw [if_neg (fun h => by have := (h.2 i (by omega)).2; omega)]
        exact Evt.one fun k => by rw [partsyncref21_place.l0, if_pos (by omega), if_pos (by omega), if_pos (by omega), rdN, if_neg h1, if_pos (by omega), rdL, if_pos h2]
      · refine (rplace_l logs c hl hb d (i + 1) (by omega) (fun j hj => by rcases Nat.lt_or_ge j i with g | g; exact hp j g; obtain rfl : j = i := (by omega); omega)).step fun k => ?_
        rw [partsyncref21_place.l0, if_pos (by omega), if_pos (by omega), if_pos (by omega), rdN, if_neg h1, if_pos (by omega), rdL, if_neg h2, w1 i (by omega)]
theorem rplace_ev (b : Int) (logs : List (List S50)) (c : List Int) : Evt (fun k => partsyncref21_place.f k b logs c) (placeV b logs c) := by
  unfold partsyncref21_place.f placeV
  refine Evt.bind (rcheck_ev b logs) ?_
  by_cases h : checkV b logs = 0
  · rw [if_pos h]
    refine Evt.pos h ?_
    have hn := (checkV_ok.1 h).n1
    by_cases hl : c.length = logs.length
    · exact Evt.pos (by omega) (rplace_l logs c hl (by omega) c.length 0 (by omega) (fun j hj => by omega))
    · rw [if_neg (fun g => hl g.1)]
      exact Evt.neg (by omega) (Evt.ret _)
  · rw [if_neg h]
    exact Evt.neg h (Evt.ret _)

/-! Whole -/
theorem find_has {b : Int} {logs : List (List S50)} (hv : Valid b logs) (j : Nat) (hj : j < logs.length) (m : Int) : (has logs j m ∧ ∃ a : Nat, a < (logs.getD j []).length ∧ ((logs.getD j []).getD a z50).f0 = m ∧ Evt (fun k => partsyncref21_find.f k (logs.getD j []) m) (a : Int)) ∨ (¬ has logs j m ∧ Evt (fun k => partsyncref21_find.f k (logs.getD j []) m) (-1)) := by
  rcases find_ev (logs.getD j []) m (hv.short j hj) with ⟨a, h1, h2, h3⟩ | ⟨h1, h2⟩
  · exact .inl ⟨⟨_, getD_mem _ a h1, h2⟩, a, h1, h2, h3⟩
  · exact .inr ⟨fun ⟨s, hs, he⟩ => h1 s hs he, h2⟩
end Go.Proofs.Ytkhiglincdognaa.PA
