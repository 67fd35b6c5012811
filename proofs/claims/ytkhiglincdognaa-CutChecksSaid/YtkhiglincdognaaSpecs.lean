/-
The printed functions over lists of numbers: what they answer.
The cases: numbers, bools, cuts and logs are drawn from any codes, and the logs are valid.
cut.Check: what it answers, of any logs.
cut.Closed and cut.Close: what they answer.
What several texts share: a stamp of a list.
Conditions: as each theorem states.
-/
import Derived.Test.YtkhiglincdognaaPAx3
import Derived.Test.YtkhiglincdognaaHLogs
import Derived.Test.YtkhiglincdognaaHMaps
import Derived.Test.YtkhiglincdognaaClosed
namespace Go.Proofs.Ytkhiglincdognaa.PA
open Go.RowKit Go.Proofs.YtkhiglincdognaaW.PrintWords Go.Proofs.YtkhiglincdognaaW.PrintLast Go.Proofs.YtkhiglincdognaaW.PrintMore
set_option linter.unusedVariables false
set_option linter.unusedSimpArgs false

/-- From some number of rounds on the answer is r. -/
def Evt {α : Type} (g : Nat → Option α) (r : α) : Prop := ∃ K, ∀ k, K ≤ k → g k = some r
theorem Evt.of {α : Type} {g : Nat → Option α} {r : α} (K : Nat) (h : ∀ k, K ≤ k → g k = some r) : Evt g r := ⟨K, h⟩
theorem Evt.ret {α : Type} (r : α) : Evt (fun _ => some r) r := ⟨0, fun _ _ => rfl⟩
theorem Evt.bind {α β : Type} {g : Nat → Option α} {h : α → Nat → Option β} {a : α} {r : β} (h1 : Evt g a) (h2 : Evt (h a) r) : Evt (fun k => (g k).bind (fun x => h x k)) r := by
  obtain ⟨K1, h1⟩ := h1
  obtain ⟨K2, h2⟩ := h2
  refine ⟨K1 + K2, fun k hk => ?_⟩
  show (g k).bind (fun x => h x k) = some r
  rw [h1 k (by omega), Option.bind_some]
  exact h2 k (by omega)
theorem Evt.pos {α : Type} {c : Prop} [Decidable c] {f g : Nat → Option α} {r : α} (h : c) (e : Evt f r) : Evt (fun k => if c then f k else g k) r := by simp only [if_pos h]; exact e
theorem Evt.neg {α : Type} {c : Prop} [Decidable c] {f g : Nat → Option α} {r : α} (h : ¬ c) (e : Evt g r) : Evt (fun k => if c then f k else g k) r := by simp only [if_neg h]; exact e
theorem Evt.congr {α : Type} {g g' : Nat → Option α} {r : α} (h : Evt g r) (e : ∀ k, g k = g' k) : Evt g' r := by
  obtain ⟨K, h⟩ := h
  exact ⟨K, fun k hk => (e k).symm.trans (h k hk)⟩
theorem Evt.step {α : Type} {g : Nat → Option α} {g' : Nat → Option α} {r : α} (h : Evt g r) (e : ∀ k, g' (k + 1) = g k) : Evt g' r := by
  obtain ⟨K, h⟩ := h
  refine ⟨K + 1, fun k hk => ?_⟩
  obtain ⟨j, rfl⟩ : ∃ j, k = j + 1 := ⟨k - 1, by omega⟩
  exact (e j).trans (h j (by omega))
theorem Evt.get {α : Type} {g : Nat → Option α} {r : α} (h : Evt g r) : ∃ k, g k = some r := by
  obtain ⟨K, h⟩ := h
  exact ⟨K, h K (Nat.le_refl _)⟩

theorem w1 (i : Nat) (h : i < 4611686018427387904) : wrap64 ((i : Int) + 1) = ((i + 1 : Nat) : Int) := by unfold wrap64; omega
theorem rdN (xs : List Int) (i : Nat) : rd xs (i : Int) = xs.getD i 0 := by unfold rd; rw [Int.toNat_natCast]

/-! numbers that can be compared -/
def fitsV (a b : List Int) : Bool := decide (a.length = b.length) && decide (∀ i, i < a.length → 0 ≤ a.getD i 0 ∧ 0 ≤ b.getD i 0)
theorem fitsV_iff (a b : List Int) : fitsV a b = true ↔ a.length = b.length ∧ ∀ i, i < a.length → 0 ≤ a.getD i 0 ∧ 0 ≤ b.getD i 0 := by simp [fitsV]
theorem fits_l (a b : List Int) (hl : a.length = b.length) (hb : a.length < 4611686018427387904) : ∀ (d i : Nat), i + d = a.length → (∀ j, j < i → 0 ≤ a.getD j 0 ∧ 0 ≤ b.getD j 0) →
    Evt (fun k => cut_fits.l0 k a b a.length i) (fitsV a b)
  | 0, i, hi, hp => by
    refine .of 1 fun k hk => ?_
    obtain ⟨k, rfl⟩ : ∃ j, k = j + 1 := ⟨k - 1, by omega⟩
    have : fitsV a b = true := (fitsV_iff a b).2 ⟨hl, fun j hj => hp j (by omega)⟩
    rw [cut_fits.l0, if_neg (by omega), this]
  | d + 1, i, hi, hp => by
    by_cases h1 : a.getD i 0 < 0
    · have : fitsV a b = false := by
        cases h : fitsV a b with
        | false => rfl
        | true => have := ((fitsV_iff a b).1 h).2 i (by omega); omega
      refine .of 1 fun k hk => ?_
      obtain ⟨k, rfl⟩ : ∃ j, k = j + 1 := ⟨k - 1, by omega⟩
      rw [cut_fits.l0, if_pos (by omega), if_pos (by omega), if_pos (by omega), rdN, if_pos h1, this]
    · by_cases h2 : b.getD i 0 < 0
      · have : fitsV a b = false := by
          cases h : fitsV a b with
          | false => rfl
          | true => have := ((fitsV_iff a b).1 h).2 i (by omega); omega
        refine .of 1 fun k hk => ?_
        obtain ⟨k, rfl⟩ : ∃ j, k = j + 1 := ⟨k - 1, by omega⟩
        rw [cut_fits.l0, if_pos (by omega), if_pos (by omega), if_pos (by omega), rdN, if_neg h1, if_pos (by omega), rdN, if_pos h2, this]
      · refine (fits_l a b hl hb d (i + 1) (by omega) (fun j hj => by rcases Nat.lt_or_ge j i with h | h; exact hp j h; obtain rfl : j = i := (by omega); omega)).step fun k => ?_
        rw [cut_fits.l0, if_pos (by omega), if_pos (by omega), if_pos (by omega), rdN, if_neg h1, if_pos (by omega), rdN, if_neg h2, w1 i (by omega)]
theorem fits_ev (a b : List Int) (hb : a.length < 4611686018427387904) : Evt (fun k => cut_fits.f k a b) (fitsV a b) := by
  by_cases hl : a.length = b.length
  · refine (fits_l a b hl hb a.length 0 (by omega) (fun j hj => by omega)).congr fun k => ?_
    unfold cut_fits.f
    rw [if_pos (by omega)]; rfl
  · have : fitsV a b = false := by simp [fitsV, hl]
    refine .of 0 fun k _ => ?_
    unfold cut_fits.f
    rw [if_neg (by omega), this]

/-! Compare -/
def cmpR (L G : Bool) : Int := if L = true ∧ G = true then 3 else if L = true then 1 else if G = true then 2 else 0
def anyLt (a b : List Int) (i : Nat) : Bool := (List.range a.length).any fun j => decide (i ≤ j) && decide (a.getD j 0 < b.getD j 0)
def anyGt (a b : List Int) (i : Nat) : Bool := (List.range a.length).any fun j => decide (i ≤ j) && decide (b.getD j 0 < a.getD j 0)
theorem anyLt_iff (a b : List Int) (i : Nat) : anyLt a b i = true ↔ ∃ j, i ≤ j ∧ j < a.length ∧ a.getD j 0 < b.getD j 0 := by
  unfold anyLt; rw [List.any_eq_true]
  constructor
  · rintro ⟨j, hj, h⟩; simp only [Bool.and_eq_true, decide_eq_true_eq] at h; exact ⟨j, h.1, List.mem_range.1 hj, h.2⟩
  · rintro ⟨j, h1, h2, h3⟩; exact ⟨j, List.mem_range.2 h2, by simp only [Bool.and_eq_true, decide_eq_true_eq]; exact ⟨h1, h3⟩⟩
theorem anyGt_iff (a b : List Int) (i : Nat) : anyGt a b i = true ↔ ∃ j, i ≤ j ∧ j < a.length ∧ b.getD j 0 < a.getD j 0 := by
  unfold anyGt; rw [List.any_eq_true]
  constructor
  · rintro ⟨j, hj, h⟩; simp only [Bool.and_eq_true, decide_eq_true_eq] at h; exact ⟨j, h.1, List.mem_range.1 hj, h.2⟩
  · rintro ⟨j, h1, h2, h3⟩; exact ⟨j, List.mem_range.2 h2, by simp only [Bool.and_eq_true, decide_eq_true_eq]; exact ⟨h1, h3⟩⟩
theorem anyLt_step (a b : List Int) (i : Nat) (hi : i < a.length) : anyLt a b i = (decide (a.getD i 0 < b.getD i 0) || anyLt a b (i + 1)) := by
  rw [Bool.eq_iff_iff]
  simp only [Bool.or_eq_true, decide_eq_true_eq, anyLt_iff]
  constructor
  · rintro ⟨j, h1, h2, h3⟩
    rcases Nat.eq_or_lt_of_le h1 with rfl | h
    · exact .inl h3
    · exact .inr ⟨j, h, h2, h3⟩
  · rintro (h | ⟨j, h1, h2, h3⟩)
    · exact ⟨i, Nat.le_refl _, hi, h⟩
    · exact ⟨j, by omega, h2, h3⟩
theorem anyGt_step (a b : List Int) (i : Nat) (hi : i < a.length) : anyGt a b i = (decide (b.getD i 0 < a.getD i 0) || anyGt a b (i + 1)) := by
  rw [Bool.eq_iff_iff]
  simp only [Bool.or_eq_true, decide_eq_true_eq, anyGt_iff]
  constructor
  · rintro ⟨j, h1, h2, h3⟩
    rcases Nat.eq_or_lt_of_le h1 with rfl | h
    · exact .inl h3
    · exact .inr ⟨j, h, h2, h3⟩
  · rintro (h | ⟨j, h1, h2, h3⟩)
    · exact ⟨i, Nat.le_refl _, hi, h⟩
    · exact ⟨j, by omega, h2, h3⟩
theorem anyLt_end (a b : List Int) : anyLt a b a.length = false := by
  cases h : anyLt a b a.length with
  | false => rfl
  | true => obtain ⟨j, h1, h2, _⟩ := (anyLt_iff a b _).1 h; omega
theorem anyGt_end (a b : List Int) : anyGt a b a.length = false := by
  cases h : anyGt a b a.length with
  | false => rfl
  | true => obtain ⟨j, h1, h2, _⟩ := (anyGt_iff a b _).1 h; omega
theorem compare_l (a b : List Int) (hl : a.length = b.length) (hb : a.length < 4611686018427387904) : ∀ (d i : Nat) (L G : Bool), i + d = a.length →
    Evt (fun k => cut_Compare.l0 k a b L G a.length i) (cmpR (L || anyLt a b i) (G || anyGt a b i), 0)
  | 0, i, L, G, hi => by
    obtain rfl : i = a.length := by omega
    rw [anyLt_end, anyGt_end, Bool.or_false, Bool.or_false]
    refine .of 2 fun k hk => ?_
    obtain ⟨k, rfl⟩ : ∃ j, k = j + 2 := ⟨k - 2, by omega⟩
    rw [cut_Compare.l0, if_neg (by omega)]
    cases L <;> cases G <;> simp [cut_Compare.j1, cmpR]
  | d + 1, i, L, G, hi => by
    have hlt : i < a.length := by omega
    rw [anyLt_step a b i hlt, anyGt_step a b i hlt, ← Bool.or_assoc, ← Bool.or_assoc]
    refine (compare_l a b hl hb d (i + 1) (L || decide (a.getD i 0 < b.getD i 0)) (G || decide (b.getD i 0 < a.getD i 0)) (by omega)).step fun k => ?_
    rw [cut_Compare.l0, if_pos (by omega)]
    cases L <;> cases G <;> simp only [if_true, Bool.false_eq_true, if_false, Bool.true_or, Bool.false_or, w1 i (by omega), rdN, if_pos (show (0 : Int) ≤ (i : Int) by omega), if_pos (show (i : Int) < (a.length : Int) by omega), if_pos (show (i : Int) < (b.length : Int) by omega), gt_iff_lt]
def cmpV (a b : List Int) : Int × Int := if fitsV a b = true then (cmpR (anyLt a b 0) (anyGt a b 0), 0) else (0, 1)
theorem compare_ev (a b : List Int) (hb : a.length < 4611686018427387904) : Evt (fun k => cut_Compare.f k a b) (cmpV a b) := by
  unfold cut_Compare.f cmpV
  refine Evt.bind (fits_ev a b hb) ?_
  by_cases h : fitsV a b = true
  · rw [if_pos h]
    refine Evt.pos h ?_
    have := compare_l a b ((fitsV_iff a b).1 h).1 hb a.length 0 false false (by omega)
    rw [Bool.false_or, Bool.false_or] at this
    exact this
  · rw [if_neg h]; exact Evt.neg h (Evt.ret _)
def leV (a b : List Int) : Bool := fitsV a b && !anyGt a b 0
theorem leV_iff (a b : List Int) : leV a b = true ↔ fitsV a b = true ∧ ∀ i, i < a.length → a.getD i 0 ≤ b.getD i 0 := by
  unfold leV
  rw [Bool.and_eq_true, Bool.not_eq_true']
  refine and_congr_right fun _ => ?_
  constructor
  · intro h i hi
    by_cases hx : b.getD i 0 < a.getD i 0
    · exact absurd ((anyGt_iff a b 0).2 ⟨i, Nat.zero_le _, hi, hx⟩) (by rw [h]; decide)
    · omega
  · intro h
    cases hx : anyGt a b 0 with
    | false => rfl
    | true => obtain ⟨j, _, hj, hj2⟩ := (anyGt_iff a b 0).1 hx; have := h j hj; omega
theorem under_ev (a b : List Int) (hb : a.length < 4611686018427387904) : Evt (fun k => partsynclaw21_under.f k a b) (leV a b) := by
  unfold partsynclaw21_under.f
  refine Evt.bind (compare_ev a b hb) ?_
  unfold cmpV leV
  cases fitsV a b <;> cases hL : anyLt a b 0 <;> cases hG : anyGt a b 0 <;> simp [cmpR] <;> exact Evt.ret _

/-! Join, Meet, Equal -/
theorem zip_getD (f : Int → Int → Int) (a b : List Int) (i : Nat) (h1 : i < a.length) (h2 : i < b.length) : (List.zipWith f a b).getD i 0 = f (a.getD i 0) (b.getD i 0) := by
  have hl : i < (List.zipWith f a b).length := by rw [List.length_zipWith]; omega
  simp only [List.getD_eq_getElem?_getD, List.getElem?_eq_getElem h1, List.getElem?_eq_getElem h2, List.getElem?_eq_getElem hl, Option.getD_some, List.getElem_zipWith]
theorem zip_drop (f : Int → Int → Int) (a b : List Int) (i : Nat) (h1 : i < a.length) (h2 : i < b.length) : (List.zipWith f a b).drop i = f (a.getD i 0) (b.getD i 0) :: (List.zipWith f a b).drop (i + 1) := by
  have hl : i < (List.zipWith f a b).length := by rw [List.length_zipWith]; omega
  rw [List.drop_eq_getElem_cons hl, ← zip_getD f a b i h1 h2]
  congr 1
  simp only [List.getD_eq_getElem?_getD, List.getElem?_eq_getElem hl, Option.getD_some]
theorem join_l (a b : List Int) (hl : a.length = b.length) (hb : a.length < 17592186044416) : ∀ (d i : Nat) (out : List Int), i + d = a.length → out.length = i →
    Evt (fun k => cut_Join.l0 k a b out a.length i) (out ++ (List.zipWith mx a b).drop i, 0)
  | 0, i, out, hi, ho => by
    refine .of 1 fun k hk => ?_
    obtain ⟨k, rfl⟩ : ∃ j, k = j + 1 := ⟨k - 1, by omega⟩
    rw [cut_Join.l0, if_neg (by omega), List.drop_of_length_le (by rw [List.length_zipWith]; omega), List.append_nil]
  | d + 1, i, out, hi, ho => by
    rw [zip_drop mx a b i (by omega) (by omega)]
    have := (join_l a b hl hb d (i + 1) (out ++ [mx (a.getD i 0) (b.getD i 0)]) (by omega) (by simp [ho])).step (g' := fun k => cut_Join.l0 k a b out a.length i) fun k => by
      show cut_Join.l0 (k + 1) a b out a.length i = _
      rw [cut_Join.l0, if_pos (by omega), if_pos (by omega), if_pos (by omega), if_pos (by omega), if_pos (by omega), rdN, rdN, w1 i (by omega)]
    rwa [List.append_assoc] at this
theorem meet_l (a b : List Int) (hl : a.length = b.length) (hb : a.length < 17592186044416) : ∀ (d i : Nat) (out : List Int), i + d = a.length → out.length = i →
    Evt (fun k => cut_Meet.l0 k a b out a.length i) (out ++ (List.zipWith mn a b).drop i, 0)
  | 0, i, out, hi, ho => by
    refine .of 1 fun k hk => ?_
    obtain ⟨k, rfl⟩ : ∃ j, k = j + 1 := ⟨k - 1, by omega⟩
    rw [cut_Meet.l0, if_neg (by omega), List.drop_of_length_le (by rw [List.length_zipWith]; omega), List.append_nil]
  | d + 1, i, out, hi, ho => by
    rw [zip_drop mn a b i (by omega) (by omega)]
    have := (meet_l a b hl hb d (i + 1) (out ++ [mn (a.getD i 0) (b.getD i 0)]) (by omega) (by simp [ho])).step (g' := fun k => cut_Meet.l0 k a b out a.length i) fun k => by
      show cut_Meet.l0 (k + 1) a b out a.length i = _
      rw [cut_Meet.l0, if_pos (by omega), if_pos (by omega), if_pos (by omega), if_pos (by omega), if_pos (by omega), rdN, rdN, w1 i (by omega)]
    rwa [List.append_assoc] at this
def joinV (a b : List Int) : List Int × Int := if fitsV a b = true then (List.zipWith mx a b, 0) else ([], 1)
def meetV (a b : List Int) : List Int × Int := if fitsV a b = true then (List.zipWith mn a b, 0) else ([], 1)
theorem join_ev (a b : List Int) (hb : a.length < 17592186044416) : Evt (fun k => cut_Join.f k a b) (joinV a b) := by
  unfold cut_Join.f joinV
  refine Evt.bind (fits_ev a b (by omega)) ?_
  by_cases h : fitsV a b = true
  · rw [if_pos h]
    refine Evt.pos h ?_
    exact join_l a b ((fitsV_iff a b).1 h).1 hb a.length 0 [] (by omega) rfl
  · rw [if_neg h]; exact Evt.neg h (Evt.ret _)
theorem meet_ev (a b : List Int) (hb : a.length < 17592186044416) : Evt (fun k => cut_Meet.f k a b) (meetV a b) := by
  unfold cut_Meet.f meetV
  refine Evt.bind (fits_ev a b (by omega)) ?_
  by_cases h : fitsV a b = true
  · rw [if_pos h]
    refine Evt.pos h ?_
    exact meet_l a b ((fitsV_iff a b).1 h).1 hb a.length 0 [] (by omega) rfl
  · rw [if_neg h]; exact Evt.neg h (Evt.ret _)
theorem ext_getD (a b : List Int) (hl : a.length = b.length) (h : ∀ i, i < a.length → a.getD i 0 = b.getD i 0) : a = b := by
  apply List.ext_getElem hl
  intro i h1 h2
  have := h i h1
  simpa [List.getD_eq_getElem?_getD, List.getElem?_eq_getElem h1, List.getElem?_eq_getElem h2] using this
theorem equal_l (a b : List Int) (hl : a.length = b.length) (hb : a.length < 4611686018427387904) : ∀ (d i : Nat), i + d = a.length → (∀ j, j < i → a.getD j 0 = b.getD j 0) →
    Evt (fun k => slices_Equal_int_int.l0 k a b a.length i) (decide (a = b))
  | 0, i, hi, hp => by
    refine .of 1 fun k hk => ?_
    obtain ⟨k, rfl⟩ : ∃ j, k = j + 1 := ⟨k - 1, by omega⟩
    have : a = b := ext_getD a b hl (fun j hj => hp j (by omega))
    rw [slices_Equal_int_int.l0, if_neg (by omega), decide_eq_true this]
  | d + 1, i, hi, hp => by
    by_cases h1 : a.getD i 0 = b.getD i 0
    · refine (equal_l a b hl hb d (i + 1) (by omega) (fun j hj => by rcases Nat.lt_or_ge j i with h | h; exact hp j h; obtain rfl : j = i := (by omega); exact h1)).step fun k => ?_
      rw [slices_Equal_int_int.l0, if_pos (by omega), if_pos (by omega), if_pos (by omega), if_pos (by omega), rdN, rdN, if_pos h1, w1 i (by omega)]
    · refine .of 1 fun k hk => ?_
      obtain ⟨k, rfl⟩ : ∃ j, k = j + 1 := ⟨k - 1, by omega⟩
      have : a ≠ b := fun e => h1 (by rw [e])
      rw [slices_Equal_int_int.l0, if_pos (by omega), if_pos (by omega), if_pos (by omega), if_pos (by omega), rdN, rdN, if_neg h1, decide_eq_false this]
theorem equal_ev (a b : List Int) (hb : a.length < 4611686018427387904) : Evt (fun k => slices_Equal_int_int.f k a b) (decide (a = b)) := by
  by_cases hl : a.length = b.length
  · refine (equal_l a b hl hb a.length 0 (by omega) (fun j hj => by omega)).congr fun k => ?_
    unfold slices_Equal_int_int.f
    rw [if_pos (by omega)]; rfl
  · have : a ≠ b := fun e => hl (by rw [e])
    refine .of 0 fun k _ => ?_
    unfold slices_Equal_int_int.f
    rw [if_neg (by omega), decide_eq_false this]
end Go.Proofs.Ytkhiglincdognaa.PA

namespace Go.Proofs.Ytkhiglincdognaa.PA
open Go.RowKit Go.Proofs.YtkhiglincdognaaW.PrintWords Go.Proofs.YtkhiglincdognaaW.PrintLast Go.Proofs.YtkhiglincdognaaW.PrintMore
set_option linter.unusedVariables false
set_option linter.unusedSimpArgs false

def codesOk (cs : List Int) : Prop := (∀ x ∈ cs, 0 ≤ x ∧ x < 256) ∧ cs.length ≤ 1000
theorem int_tot {cs : List Int} (h : codesOk cs) (p n : Int) (hp : 0 ≤ p) : ∃ v q, partsynccase_Case_Int.f cs p n = some (v, q) ∧ 0 ≤ v ∧ (v < n ∨ v = 0) ∧ 0 ≤ q := by
  suffices hs : ∃ v q, partsynccase_Case_Int.f cs p n = some (v, q) by
    obtain ⟨v, q, e⟩ := hs
    exact ⟨v, q, e, int_bound h.1 hp h.2 e⟩
  have hl := h.2
  unfold partsynccase_Case_Int.f
  by_cases h1 : p ≥ (cs.length : Int)
  · rw [if_pos h1]; exact ⟨_, _, rfl⟩
  · have e1 : wrap64 (p + 1) = p + 1 := by unfold wrap64; omega
    have e2 : wrap64 (wrap64 (p + 1) - 1) = p := by rw [e1]; unfold wrap64; omega
    rw [if_neg h1, e2, if_pos hp]
    by_cases h2 : n < 1
    · rw [if_pos h2]; exact ⟨_, _, rfl⟩
    · rw [if_neg h2, if_pos (by omega), if_neg (by omega)]; exact ⟨_, _, rfl⟩
theorem bool_tot {cs : List Int} (h : codesOk cs) (p n : Int) (hp : 0 ≤ p) : ∃ b q, partsynccase_Case_Bool.f cs p n = some (b, q) ∧ 0 ≤ q := by
  obtain ⟨v, q, e, h1, h2, h3⟩ := int_tot h p n hp
  exact ⟨_, q, by unfold partsynccase_Case_Bool.f; rw [e, Option.bind_some], h3⟩

/-- c is a cut of the logs. -/
def isCut (logs : List (List S50)) (c : List Int) : Prop := c.length = logs.length ∧ ∀ i, i < logs.length → 0 ≤ c.getD i 0 ∧ c.getD i 0 ≤ ((logs.getD i []).length : Int)
theorem rdL (xs : List (List S50)) (i : Nat) : rd_L4 xs (i : Int) = xs.getD i [] := by unfold rd_L4; rw [Int.toNat_natCast]
theorem rdT (xs : List S50) (i : Nat) : rd_T50 xs (i : Int) = xs.getD i z50 := by unfold rd_T50; rw [Int.toNat_natCast]
theorem getD_set_self {α : Type} (l : List α) (i : Nat) (v d : α) (h : i < l.length) : (l.set i v).getD i d = v := by
  simp only [List.getD_eq_getElem?_getD, List.getElem?_set_self h, Option.getD_some]
theorem getD_set_ne {α : Type} (l : List α) (i j : Nat) (v d : α) (h : i ≠ j) : (l.set i v).getD j d = l.getD j d := by
  simp only [List.getD_eq_getElem?_getD, List.getElem?_set_ne h]
theorem cut_l {cs : List Int} (hc : codesOk cs) (logs : List (List S50)) (hn : logs.length ≤ 1000) (hs : ∀ i, i < logs.length → (logs.getD i []).length ≤ 1000000) : ∀ (d i : Nat) (c : List Int) (p : Int), i + d = logs.length → 0 ≤ p → c.length = logs.length →
    (∀ j, j < i → 0 ≤ c.getD j 0 ∧ c.getD j 0 ≤ ((logs.getD j []).length : Int)) → ∃ c' q, Evt (fun k => partsynccase_Case_Cut.l0 k logs c logs.length i cs p) (c', q) ∧ isCut logs c' ∧ 0 ≤ q
  | 0, i, c, p, hi, hp, hl, hb => by
    refine ⟨c, p, .of 1 fun k hk => ?_, ⟨hl, fun j hj => hb j (by omega)⟩, hp⟩
    obtain ⟨k, rfl⟩ : ∃ j, k = j + 1 := ⟨k - 1, by omega⟩
    rw [partsynccase_Case_Cut.l0, if_neg (by omega)]
  | d + 1, i, c, p, hi, hp, hl, hb => by
    have hsi := hs i (by omega)
    obtain ⟨v, q, e, h1, h2, h3⟩ := int_tot hc p (((logs.getD i []).length : Int) + 1) hp
    have ew : wrap64 (((logs.getD i []).length : Int) + 1) = ((logs.getD i []).length : Int) + 1 := by unfold wrap64; omega
    obtain ⟨c', q', h4, h5, h6⟩ := cut_l hc logs hn hs d (i + 1) (c.set i v) q (by omega) h3 (by simp [hl]) (fun j hj => by
      by_cases hji : j = i
      · subst hji; rw [getD_set_self _ _ _ _ (by omega)]; omega
      · rw [getD_set_ne _ _ _ _ _ (Ne.symm hji)]; exact hb j (by omega))
    refine ⟨c', q', h4.step fun k => ?_, h5, h6⟩
    rw [partsynccase_Case_Cut.l0, if_pos (by omega), if_pos (by omega), if_pos (by omega), rdL, ew, e, Option.bind_some, if_pos (by omega), w1 i (by omega), Int.toNat_natCast]
theorem cut_tot {cs : List Int} (hc : codesOk cs) (logs : List (List S50)) (hn : logs.length ≤ 1000) (hs : ∀ i, i < logs.length → (logs.getD i []).length ≤ 1000000) (p : Int) (hp : 0 ≤ p) :
    ∃ c q, Evt (fun k => partsynccase_Case_Cut.f k cs p logs) (c, q) ∧ isCut logs c ∧ 0 ≤ q := by
  obtain ⟨c, q, h1, h2, h3⟩ := cut_l hc logs hn hs logs.length 0 (List.replicate logs.length 0) p (by omega) hp (by simp) (fun j hj => by omega)
  refine ⟨c, q, h1.congr fun k => ?_, h2, h3⟩
  unfold partsynccase_Case_Cut.f
  rw [if_pos (by omega), if_pos (by omega), Int.toNat_natCast]; rfl
theorem num_l {cs : List Int} (hc : codesOk cs) (n : Nat) (hn : n ≤ 1000) : ∀ (d i : Nat) (c : List Int) (p : Int), i + d = n → 0 ≤ p → c.length = n →
    (∀ j, j < i → 0 ≤ c.getD j 0 ∧ c.getD j 0 ≤ 4) → ∃ c' q, Evt (fun k => partsynccase_Case_Numbers.l0 k c n i cs p) (c', q) ∧ (c'.length = n ∧ ∀ j, j < n → 0 ≤ c'.getD j 0 ∧ c'.getD j 0 ≤ 4) ∧ 0 ≤ q
  | 0, i, c, p, hi, hp, hl, hb => by
    refine ⟨c, p, .of 1 fun k hk => ?_, ⟨hl, fun j hj => hb j (by omega)⟩, hp⟩
    obtain ⟨k, rfl⟩ : ∃ j, k = j + 1 := ⟨k - 1, by omega⟩
    rw [partsynccase_Case_Numbers.l0, if_neg (by omega)]
  | d + 1, i, c, p, hi, hp, hl, hb => by
    obtain ⟨v, q, e, h1, h2, h3⟩ := int_tot hc p 5 hp
    obtain ⟨c', q', h4, h5, h6⟩ := num_l hc n hn d (i + 1) (c.set i v) q (by omega) h3 (by simp [hl]) (fun j hj => by
      by_cases hji : j = i
      · subst hji; rw [getD_set_self _ _ _ _ (by omega)]; omega
      · rw [getD_set_ne _ _ _ _ _ (Ne.symm hji)]; exact hb j (by omega))
    refine ⟨c', q', h4.step fun k => ?_, h5, h6⟩
    rw [partsynccase_Case_Numbers.l0, if_pos (by omega), e, Option.bind_some, if_pos (by omega), if_pos (by omega), w1 i (by omega), Int.toNat_natCast]
theorem num_tot {cs : List Int} (hc : codesOk cs) (n : Nat) (hn : n ≤ 1000) (p : Int) (hp : 0 ≤ p) :
    ∃ c q, Evt (fun k => partsynccase_Case_Numbers.f k cs p n) (c, q) ∧ (c.length = n ∧ ∀ j, j < n → 0 ≤ c.getD j 0 ∧ c.getD j 0 ≤ 4) ∧ 0 ≤ q := by
  obtain ⟨c, q, h1, h2, h3⟩ := num_l hc n hn n 0 (List.replicate n 0) p (by omega) hp (by simp) (fun j hj => by omega)
  refine ⟨c, q, h1.congr fun k => ?_, h2, h3⟩
  unfold partsynccase_Case_Numbers.f
  rw [if_pos (by omega), if_pos (by omega), Int.toNat_natCast, Option.bind_some, List.length_replicate]; rfl

/-! the logs -/
def shOk (n : Nat) (own : Int) (l : List Int) : Prop := l.Pairwise (· < ·) ∧ (∀ x ∈ l, 0 ≤ x ∧ x < n) ∧ own ∈ l
structure LInv (b c : Int) (n : Nat) (rows : List (List S50)) : Prop where
  len : rows.length = n
  asc : ∀ i, i < n → (rows.getD i []).Pairwise (fun s t => s.f0 < t.f0)
  rng : ∀ i, i < n → ∀ s ∈ rows.getD i [], b < s.f0 ∧ s.f0 ≤ c
  sh : ∀ i, i < n → ∀ s ∈ rows.getD i [], shOk n i s.f1
  same : ∀ i j, i < n → j < n → ∀ s ∈ rows.getD i [], ∀ t ∈ rows.getD j [], s.f0 = t.f0 → s.f1 = t.f1
theorem LInv.weaken {b c c' : Int} {n : Nat} {rows : List (List S50)} (h : LInv b c n rows) (hc : c ≤ c') : LInv b c' n rows := ⟨h.len, h.asc, fun i hi s hs => ⟨(h.rng i hi s hs).1, by have := (h.rng i hi s hs).2; omega⟩, h.sh, h.same⟩
theorem put_tot {cs : List Int} (hc : codesOk cs) (b c : Int) (n : Nat) (all : List Int) : ∀ (r : List Int) (rows : List (List S50)) (p : Int) (L : Nat), 0 ≤ p → LInv b (c + 1) n rows → b ≤ c →
    (∀ i, i < n → ∀ s ∈ rows.getD i [], s.f0 = c + 1 → s.f1 = all) → (∀ i ∈ r, 0 ≤ i ∧ i < n ∧ shOk n i all) → r.Pairwise (· < ·) → (∀ i ∈ r, ∀ s ∈ rows.getD i.toNat [], s.f0 ≤ c) → (∀ i, i < n → (rows.getD i []).length ≤ L) → L + r.length ≤ 999 →
    ∃ rows' q, lgPut cs all (c + 1) r rows p = some (rows', q) ∧ LInv b (c + 1) n rows' ∧ 0 ≤ q ∧ ∀ i, i < n → (rows'.getD i []).length ≤ L + r.length
  | [], rows, p, L, hp, hI, hbc, h1, h2, h3, h4, h5, h6 => ⟨rows, p, rfl, hI, hp, fun i hi => by have := h5 i hi; rw [List.length_nil]; omega⟩
  | i :: r, rows, p, L, hp, hI, hbc, h1, h2, h3, h4, h5, h6 => by
    obtain ⟨bb, q, e, hq⟩ := bool_tot hc p 14 hp
    obtain ⟨i0, i1, hsh⟩ := h2 i (by simp)
    obtain ⟨x, rfl⟩ : ∃ x : Nat, i = x := ⟨i.toNat, by omega⟩
    have hx : x < n := by omega
    have hlx := h5 x hx
    rw [List.length_cons] at h6
    have h4x := h4 x (by simp)
    rw [Int.toNat_natCast] at h4x
    have hpw := List.pairwise_cons.1 h3
    have hgd : (0 : Int) ≤ (x : Int) ∧ (x : Int) < (rows.length : Int) ∧ (rows.getD x []).length < 1000 := ⟨i0, by rw [hI.len]; omega, by omega⟩
    have hgo : ∀ rows2 : List (List S50), LInv b (c + 1) n rows2 → (∀ i, i < n → ∀ s ∈ rows2.getD i [], s.f0 = c + 1 → s.f1 = all) → (∀ i ∈ r, ∀ s ∈ rows2.getD i.toNat [], s.f0 ≤ c) → (∀ i, i < n → (rows2.getD i []).length ≤ L + 1) →
        ∃ rows' q', lgPut cs all (c + 1) r rows2 q = some (rows', q') ∧ LInv b (c + 1) n rows' ∧ 0 ≤ q' ∧ ∀ i, i < n → (rows'.getD i []).length ≤ L + (r.length + 1) := fun rows2 k1 k2 k3 k4 => by
      obtain ⟨rows', q', a1, a2, a3, a4⟩ := put_tot hc b c n all r rows2 q (L + 1) hq k1 hbc k2 (fun i hi => h2 i (List.mem_cons_of_mem _ hi)) hpw.2 k3 k4 (by omega)
      exact ⟨rows', q', a1, a2, a3, fun i hi => by have := a4 i hi; omega⟩
    have hun : lgPut cs all (c + 1) ((x : Int) :: r) rows p = lgPut cs all (c + 1) r (if bb = true then rows else rows.set x (rows.getD x [] ++ [⟨c + 1, all⟩])) q := by
      rw [lgPut, e, Option.bind_some, Int.toNat_natCast, if_pos hgd]
    rw [hun]
    cases bb with
    | true => exact hgo rows hI h1 (fun i hi => h4 i (List.mem_cons_of_mem _ hi)) (fun i hi => by have := h5 i hi; omega)
    | false =>
      rw [if_neg (show ¬ (false = true) by decide)]
      have gself : (rows.set x (rows.getD x [] ++ [⟨c + 1, all⟩])).getD x [] = rows.getD x [] ++ [⟨c + 1, all⟩] := getD_set_self _ _ _ _ (by rw [hI.len]; exact hx)
      have gne : ∀ j, j ≠ x → (rows.set x (rows.getD x [] ++ [⟨c + 1, all⟩])).getD j [] = rows.getD j [] := fun j hj => getD_set_ne _ _ _ _ _ (Ne.symm hj)
      have mem : ∀ j, j < n → ∀ s ∈ (rows.set x (rows.getD x [] ++ [⟨c + 1, all⟩])).getD j [], s ∈ rows.getD j [] ∨ (j = x ∧ s = ⟨c + 1, all⟩) := fun j hj s hs => by
        by_cases hjx : j = x
        · subst hjx
          rw [gself] at hs
          rcases List.mem_append.1 hs with h | h
          · exact .inl h
          · exact .inr ⟨rfl, by simpa using h⟩
        · rw [gne j hjx] at hs; exact .inl hs
      refine hgo _ ⟨by simp [hI.len], fun j hj => ?_, fun j hj s hs => ?_, fun j hj s hs => ?_, fun j j' hj hj' s hs t ht he => ?_⟩ (fun j hj s hs he => ?_) (fun j hj s hs => ?_) (fun j hj => ?_)
      · by_cases hjx : j = x
        · subst hjx
          rw [gself, List.pairwise_append]
          refine ⟨hI.asc j hj, by simp, fun s hs t ht => ?_⟩
          have := h4x s hs
          simp at ht
          subst ht
          show s.f0 < c + 1
          omega
        · rw [gne j hjx]; exact hI.asc j hj
      · rcases mem j hj s hs with h | ⟨_, rfl⟩
        · exact hI.rng j hj s h
        · exact ⟨by show b < c + 1; omega, by show c + 1 ≤ c + 1; omega⟩
      · rcases mem j hj s hs with h | ⟨rfl, rfl⟩
        · exact hI.sh j hj s h
        · exact hsh
      · rcases mem j hj s hs with h | ⟨_, rfl⟩ <;> rcases mem j' hj' t ht with h' | ⟨_, rfl⟩
        · exact hI.same j j' hj hj' s h t h' he
        · exact h1 j hj s h he
        · exact (h1 j' hj' t h' he.symm).symm
        · rfl
      · rcases mem j hj s hs with h | ⟨_, rfl⟩
        · exact h1 j hj s h he
        · rfl
      · have hlt := hpw.1 j hj
        obtain ⟨j0, j1, _⟩ := h2 j (List.mem_cons_of_mem _ hj)
        rw [gne j.toNat (by omega)] at hs
        exact h4 j (List.mem_cons_of_mem _ hj) s hs
      · by_cases hjx : j = x
        · subst hjx; rw [gself, List.length_append, List.length_singleton]; omega
        · rw [gne j hjx]; have := h5 j hj; omega
theorem shards_ok (n : Nat) (st : Int) : (lgShards n st).Pairwise (· < ·) ∧ ∀ x ∈ lgShards n st, 0 ≤ x ∧ x < n := by
  refine ⟨?_, fun x hx => lgShards_lt n st x hx⟩
  unfold lgShards
  rw [List.pairwise_map]
  refine List.Pairwise.imp (fun {a b} (h : a < b) => ?_) (List.pairwise_lt_range.sublist List.filter_sublist)
  show Int.ofNat a < Int.ofNat b
  exact Int.ofNat_lt.2 h
theorem fill_tot {cs : List Int} (hc : codesOk cs) (b : Int) (n : Nat) (hn : n ≤ 4) : ∀ (m : Nat) (c : Int) (rows : List (List S50)) (p : Int) (L : Nat), 0 ≤ p → LInv b c n rows → b ≤ c → (∀ i, i < n → (rows.getD i []).length ≤ L) → L + 4 * m ≤ 900 → c ≤ 1073741824 →
    ∃ rows' q, lgFill cs n m c rows p = some (rows', q) ∧ LInv b (min (c + m) 1073741824) n rows' ∧ 0 ≤ q ∧ ∀ i, i < n → (rows'.getD i []).length ≤ L + 4 * m
  | 0, c, rows, p, L, hp, hI, hbc, h5, h6, h7 => ⟨rows, p, rfl, hI.weaken (by omega), hp, fun i hi => by have := h5 i hi; omega⟩
  | m + 1, c, rows, p, L, hp, hI, hbc, h5, h6, h7 => by
    by_cases hc1 : c < 1073741824
    · obtain ⟨bb, q, e, hq⟩ := bool_tot hc p 12 hp
      cases bb with
      | true =>
        obtain ⟨rows', q', a1, a2, a3, a4⟩ := fill_tot hc b n hn m (c + 1) rows q L hq (hI.weaken (by omega)) (by omega) h5 (by omega) (by omega)
        refine ⟨rows', q', ?_, a2.weaken (by omega), a3, fun i hi => by have := a4 i hi; omega⟩
        rw [lgFill, if_pos hc1, e, Option.bind_some, if_pos rfl, a1]
      | false =>
        obtain ⟨s, q2, e2, hs1, hs2, hq2⟩ := int_tot hc q (2 ^ n - 1) hq
        obtain ⟨k1, k2⟩ := shards_ok n (1 + s)
        have hlen := lgShards_len n (1 + s)
        obtain ⟨rows2, q3, a1, a2, a3, a4⟩ := put_tot hc b c n (lgShards n (1 + s)) (lgShards n (1 + s)) rows q2 L hq2 (hI.weaken (by omega)) hbc
          (fun i hi t ht he => by have := (hI.rng i hi t ht).2; omega) (fun i hi => ⟨(k2 i hi).1, (k2 i hi).2, k1, k2, hi⟩) k1
          (fun i hi t ht => by have h := k2 i hi; exact (hI.rng i.toNat (by omega) t ht).2) h5 (by omega)
        obtain ⟨rows', q', b1, b2, b3, b4⟩ := fill_tot hc b n hn m (c + 1) rows2 q3 (L + 4) a3 a2 (by omega) (fun i hi => by have := a4 i hi; omega) (by omega) (by omega)
        refine ⟨rows', q', ?_, b2.weaken (by omega), b3, fun i hi => by have := b4 i hi; omega⟩
        rw [lgFill, if_pos hc1, e, Option.bind_some, if_neg (by simp), e2, Option.bind_some, a1, Option.bind_some, b1]
    · exact ⟨rows, p, by rw [lgFill, if_neg hc1], hI.weaken (by omega), hp, fun i hi => by have := h5 i hi; omega⟩
theorem LInv.take {b c : Int} {n : Nat} {rows : List (List S50)} (h : LInv b c n rows) (i m : Nat) (hi : i < n) : LInv b c n (rows.set i ((rows.getD i []).take m)) := by
  have sub : ∀ j, ((rows.set i ((rows.getD i []).take m)).getD j []).Sublist (rows.getD j []) := fun j => by
    by_cases hji : j = i
    · subst hji; rw [getD_set_self _ _ _ _ (by rw [h.len]; exact hi)]; exact List.take_sublist _ _
    · rw [getD_set_ne _ _ _ _ _ (Ne.symm hji)]; exact List.Sublist.refl _
  exact ⟨by simp [h.len], fun j hj => (h.asc j hj).sublist (sub j), fun j hj s hs => h.rng j hj s ((sub j).subset hs), fun j hj s hs => h.sh j hj s ((sub j).subset hs), fun j j' hj hj' s hs t ht => h.same j j' hj hj' s ((sub j).subset hs) t ((sub j').subset ht)⟩
theorem lcut_tot {cs : List Int} (hc : codesOk cs) (b c : Int) (n : Nat) : ∀ (m i : Nat) (rows : List (List S50)) (p : Int), i + m = n → 0 ≤ p → LInv b c n rows → (∀ j, j < n → (rows.getD j []).length ≤ 999) →
    ∃ rows' q, lgCut cs m i rows p = some (rows', q) ∧ LInv b c n rows' ∧ 0 ≤ q ∧ ∀ j, j < n → (rows'.getD j []).length ≤ 999
  | 0, i, rows, p, hi, hp, hI, hl => ⟨rows, p, rfl, hI, hp, hl⟩
  | m + 1, i, rows, p, hi, hp, hI, hl => by
    obtain ⟨bb, q, e, hq⟩ := bool_tot hc p 5 hp
    have hli := hl i (by omega)
    cases bb with
    | false =>
      obtain ⟨rows', q', a⟩ := lcut_tot hc b c n m (i + 1) rows q (by omega) hq hI hl
      refine ⟨rows', q', ?_, a.2⟩
      rw [lgCut, e, Option.bind_some, if_neg (by simp), a.1]
    | true =>
      obtain ⟨s, q2, e2, hs1, hs2, hq2⟩ := int_tot hc q (((rows.getD i []).length : Int) + 1) hq
      obtain ⟨rows', q', a⟩ := lcut_tot hc b c n m (i + 1) (rows.set i ((rows.getD i []).take s.toNat)) q2 (by omega) hq2 (hI.take i _ (by omega)) (fun j hj => by
        by_cases hji : j = i
        · subst hji; rw [getD_set_self _ _ _ _ (by rw [hI.len]; omega), List.length_take]; omega
        · rw [getD_set_ne _ _ _ _ _ (Ne.symm hji)]; exact hl j hj)
      refine ⟨rows', q', ?_, a.2⟩
      rw [lgCut, e, Option.bind_some, if_pos rfl, if_pos (by omega), e2, Option.bind_some, a.1]
/-- Valid logs. -/
structure Valid (b : Int) (logs : List (List S50)) : Prop where
  b0 : 0 ≤ b
  b1 : b ≤ 1073741824
  n0 : 1 ≤ logs.length
  n1 : logs.length ≤ 4
  inv : LInv b 1073741824 logs.length logs
theorem logs_tot {cs : List Int} (hc : codesOk cs) : ∃ b logs q, partsynccase_Case_Logs.f cs 0 = some (b, logs, q) ∧ Valid b logs ∧ b ≤ 1073741820 ∧ LInv b (b + 8) logs.length logs ∧ 0 ≤ q ∧ ∀ j, j < logs.length → (logs.getD j []).length ≤ 999 := by
  obtain ⟨b0, q1, e1, h1, h1', h1''⟩ := int_tot hc 0 3 (Int.le_refl _)
  obtain ⟨b1, q2, e2, h2⟩ := bool_tot hc q1 12 h1''
  obtain ⟨n, q3, e3, h3, h3', h3''⟩ := int_tot hc q2 4 h2
  obtain ⟨m, q4, e4, h4, h4', h4''⟩ := int_tot hc q3 9 h3''
  obtain ⟨b, hb⟩ : ∃ b : Int, b = if b1 = true then 1073741820 else b0 := ⟨_, rfl⟩
  have hbb : 0 ≤ b ∧ b ≤ 1073741820 := by rw [hb]; split <;> omega
  obtain ⟨nn, hnn⟩ : ∃ nn : Nat, (1 + n).toNat = nn := ⟨_, rfl⟩
  obtain ⟨mm, hmm⟩ : ∃ mm : Nat, m.toNat = mm := ⟨_, rfl⟩
  have hrep : ∀ i : Nat, (List.replicate nn ([] : List S50)).getD i [] = [] := fun i => by
    rw [List.getD_eq_getElem?_getD, List.getElem?_replicate]; split <;> rfl
  have hI0 : LInv b b nn (List.replicate nn []) := ⟨by simp, fun i _ => by rw [hrep]; exact List.Pairwise.nil, fun i _ s hs => by rw [hrep] at hs; simp at hs, fun i _ s hs => by rw [hrep] at hs; simp at hs, fun i j _ _ s hs => by rw [hrep] at hs; simp at hs⟩
  obtain ⟨rows, q5, e5, h5, h5', h5''⟩ := fill_tot hc b nn (by omega) mm b (List.replicate nn []) q4 0 h4'' hI0 (Int.le_refl _) (fun i _ => by rw [hrep]; simp) (by omega) (by omega)
  obtain ⟨rows2, q6, e6, h6, h6', h6''⟩ := lcut_tot hc b _ nn nn 0 rows q5 (by omega) h5' h5 (fun j hj => by have := h5'' j hj; omega)
  have hl := h6.len
  refine ⟨b, rows2, q6, ?_, ⟨hbb.1, by omega, by omega, by omega, by rw [hl]; exact h6.weaken (by omega)⟩, hbb.2, by rw [hl]; exact h6.weaken (by omega), h6', by rw [hl]; exact h6''⟩
  unfold partsynccase_Case_Logs.f
  rw [if_pos ⟨hc.1, Int.le_refl _, hc.2⟩, e1, Option.bind_some, e2, Option.bind_some, e3, Option.bind_some, e4, Option.bind_some]
  simp only [hnn, hmm, ← hb, e5, e6, Option.bind_some]
end Go.Proofs.Ytkhiglincdognaa.PA

namespace Go.Proofs.Ytkhiglincdognaa.PA
open Go.RowKit Go.Proofs.YtkhiglincdognaaW.PrintWords Go.Proofs.YtkhiglincdognaaW.PrintLast Go.Proofs.YtkhiglincdognaaW.PrintMore
set_option linter.unusedVariables false
set_option linter.unusedSimpArgs false
open Classical

/-! shards -/
theorem asc_ge (l : List Int) (h : ∀ i, i < l.length → 0 ≤ l.getD i 0) (i : Nat) (hp : ∀ j, 0 < j → j < i → l.getD (j - 1) 0 < l.getD j 0) : ∀ j, j < i → j < l.length → (j : Int) ≤ l.getD j 0
  | 0, _, hl => by have := h 0 hl; omega
  | j + 1, hj, hl => by
    have h1 := asc_ge l h i hp j (by omega) (by omega)
    have h2 := hp (j + 1) (by omega) hj
    simp only [Nat.add_sub_cancel] at h2
    omega
def upTo (l : List Int) (n : Nat) (i : Nat) : Prop := ∀ j, j < i → 0 ≤ l.getD j 0 ∧ l.getD j 0 < n ∧ (0 < j → l.getD (j - 1) 0 < l.getD j 0)
theorem upTo_ge {l : List Int} {n i : Nat} (h : upTo l n i) : ∀ j, j < i → (j : Int) ≤ l.getD j 0
  | 0, hj => (h 0 hj).1
  | j + 1, hj => by
    have h1 := upTo_ge h j (by omega)
    have h2 := (h (j + 1) hj).2.2 (by omega)
    simp only [Nat.add_sub_cancel] at h2
    omega
theorem upTo_le {l : List Int} {n i : Nat} (h : upTo l n i) : i ≤ n := by
  rcases Nat.eq_zero_or_pos i with rfl | hi
  · omega
  · have h1 := upTo_ge h (i - 1) (by omega)
    have h2 := (h (i - 1) (by omega)).2.1
    omega
theorem upTo_iff (l : List Int) (n : Nat) (own : Int) : shOk n own l ↔ upTo l n l.length ∧ own ∈ l := by
  unfold shOk upTo
  have g : ∀ j (hj : j < l.length), l.getD j 0 = l[j] := fun j hj => by simp [List.getD_eq_getElem?_getD, List.getElem?_eq_getElem hj]
  constructor
  · rintro ⟨h1, h2, h3⟩
    refine ⟨fun j hj => ?_, h3⟩
    rw [g j hj]
    refine ⟨(h2 _ (List.getElem_mem _)).1, (h2 _ (List.getElem_mem _)).2, fun h0 => ?_⟩
    rw [g (j - 1) (by omega)]
    exact List.pairwise_iff_getElem.1 h1 (j - 1) j (by omega) hj (by omega)
  · rintro ⟨h1, h3⟩
    refine ⟨?_, fun x hx => ?_, h3⟩
    · rw [List.pairwise_iff_getElem]
      have : ∀ (d i : Nat) (hi : i < l.length) (hd : i + d + 1 < l.length), l[i] < l[i + d + 1] := fun d => by
        induction d with
        | zero =>
          intro i hi hd
          have := (h1 (i + 0 + 1) hd).2.2 (by omega)
          rw [g _ hd] at this
          simp only [Nat.add_zero, Nat.add_sub_cancel] at this
          rw [g i hi] at this
          simpa using this
        | succ d ih =>
          intro i hi hd
          have a := ih i hi (by omega)
          have b := (h1 (i + (d + 1) + 1) hd).2.2 (by omega)
          rw [g _ hd] at b
          have e : i + (d + 1) + 1 - 1 = i + d + 1 := by omega
          rw [e, g _ (by omega)] at b
          omega
      intro i j hi hj hij
      obtain ⟨d, rfl⟩ : ∃ d, j = i + d + 1 := ⟨j - i - 1, by omega⟩
      exact this d i hi hj
    · obtain ⟨j, hj, rfl⟩ := List.mem_iff_getElem.1 hx
      have := h1 j hj
      rw [g j hj] at this
      exact ⟨this.1, this.2.1⟩
theorem index_l (l : List Int) (x : Int) (hb : l.length < 4611686018427387904) : ∀ (d i : Nat), i + d = l.length → (∀ j, j < i → l.getD j 0 ≠ x) → ∃ r, Evt (fun k => slices_Index_int_int.l0 k l x l.length i) r ∧ (0 ≤ r ↔ x ∈ l)
  | 0, i, hi, hp => by
    refine ⟨-1, .of 1 fun k hk => ?_, ⟨fun h => absurd h (by decide), fun h => ?_⟩⟩
    · obtain ⟨k, rfl⟩ : ∃ j, k = j + 1 := ⟨k - 1, by omega⟩
      rw [slices_Index_int_int.l0, if_neg (by omega)]
    · obtain ⟨j, hj, rfl⟩ := List.mem_iff_getElem.1 h
      exact absurd (by simp [List.getD_eq_getElem?_getD, List.getElem?_eq_getElem hj]) (hp j (by omega))
  | d + 1, i, hi, hp => by
    by_cases h : x = l.getD i 0
    · refine ⟨i, .of 1 fun k hk => ?_, ⟨fun _ => ?_, fun _ => by omega⟩⟩
      · obtain ⟨k, rfl⟩ : ∃ j, k = j + 1 := ⟨k - 1, by omega⟩
        rw [slices_Index_int_int.l0, if_pos (by omega), if_pos (by omega), if_pos (by omega), rdN, if_pos h]
      · rw [h, List.getD_eq_getElem?_getD, List.getElem?_eq_getElem (show i < l.length by omega)]
        exact List.getElem_mem _
    · obtain ⟨r, h1, h2⟩ := index_l l x hb d (i + 1) (by omega) (fun j hj => by rcases Nat.lt_or_ge j i with g | g; exact hp j g; obtain rfl : j = i := (by omega); exact fun e => h e.symm)
      refine ⟨r, h1.step fun k => ?_, h2⟩
      rw [slices_Index_int_int.l0, if_pos (by omega), if_pos (by omega), if_pos (by omega), rdN, if_neg h, w1 i (by omega)]
theorem contains_ev (l : List Int) (x : Int) (hb : l.length < 4611686018427387904) : Evt (fun k => slices_Contains_int_int.f k l x) (decide (x ∈ l)) := by
  obtain ⟨r, h1, h2⟩ := index_l l x hb l.length 0 (by omega) (fun j hj => by omega)
  unfold slices_Contains_int_int.f
  refine Evt.bind (a := r) ?_ ?_
  · exact h1
  · have : decide (r ≥ 0) = decide (x ∈ l) := decide_eq_decide.2 h2
    rw [this]; exact Evt.ret _
theorem fit_l (l : List Int) (n : Nat) (own : Int) (hn : n ≤ 4) : ∀ (d i : Nat), i + d = 5 → i ≤ l.length → upTo l n i → Evt (fun k => cut_shardsFit.l0 k l n own l l.length i) (decide (shOk n own l))
  | 0, i, hi, hil, hu => by have := upTo_le hu; omega
  | d + 1, i, hi, hil, hu => by
    have hin := upTo_le hu
    by_cases hlt : i < l.length
    · have bad : ¬ upTo l n (i + 1) → decide (shOk n own l) = false := fun hb => decide_eq_false fun h => hb fun j hj => ((upTo_iff l n own).1 h).1 j (by omega)
      have at1 : ∀ r, (∀ k, cut_shardsFit.l0 (k + 1) l n own l l.length i = some r) → Evt (fun k => cut_shardsFit.l0 k l n own l l.length i) r := fun r h => .of 1 fun k hk => by
        obtain ⟨k, rfl⟩ : ∃ j, k = j + 1 := ⟨k - 1, by omega⟩
        exact h k
      by_cases h1 : l.getD i 0 < 0
      · rw [bad fun h => by have := (h i (by omega)).1; omega]
        exact at1 _ fun k => by rw [cut_shardsFit.l0, if_pos (by omega), if_pos (by omega), if_pos (by omega), rdN, if_pos h1]
      · by_cases h2 : l.getD i 0 ≥ (n : Int)
        · rw [bad fun h => by have := (h i (by omega)).2.1; omega]
          exact at1 _ fun k => by rw [cut_shardsFit.l0, if_pos (by omega), if_pos (by omega), if_pos (by omega), rdN, if_neg h1, if_pos h2]
        · by_cases h0 : i = 0
          · subst h0
            refine (fit_l l n own hn d 1 (by omega) (by omega) (fun j hj => by obtain rfl : j = 0 := (by omega); exact ⟨by omega, by omega, fun h => by omega⟩)).step fun k => ?_
            rw [cut_shardsFit.l0, if_pos (by omega), if_pos (by omega), if_pos (by omega), rdN, if_neg h1, if_neg h2, if_neg (by omega), w1 0 (by omega)]
          · have ew : wrap64 ((i : Int) - 1) = ((i - 1 : Nat) : Int) := by unfold wrap64; omega
            by_cases h3 : l.getD i 0 ≤ l.getD (i - 1) 0
            · rw [bad fun h => by have := (h i (by omega)).2.2 (by omega); omega]
              exact at1 _ fun k => by rw [cut_shardsFit.l0, if_pos (by omega), if_pos (by omega), if_pos (by omega), rdN, if_neg h1, if_neg h2, if_pos (by omega), ew, if_pos (by omega), if_pos (by omega), rdN, if_pos h3]
            · refine (fit_l l n own hn d (i + 1) (by omega) (by omega) (fun j hj => by
                rcases Nat.lt_or_ge j i with h | h
                · exact hu j h
                · obtain rfl : j = i := (by omega); exact ⟨by omega, by omega, fun h => by omega⟩)).step fun k => ?_
              rw [cut_shardsFit.l0, if_pos (by omega), if_pos (by omega), if_pos (by omega), rdN, if_neg h1, if_neg h2, if_pos (by omega), ew, if_pos (by omega), if_pos (by omega), rdN, if_neg h3, w1 i (by omega)]
    · obtain rfl : i = l.length := by omega
      have e : decide (shOk n own l) = decide (own ∈ l) := decide_eq_decide.2 ((upTo_iff l n own).trans ⟨fun h => h.2, fun h => ⟨hu, h⟩⟩)
      rw [e]
      refine (contains_ev l own (by omega)).step fun k => ?_
      rw [cut_shardsFit.l0, if_neg (by omega)]
      cases slices_Contains_int_int.f k l own <;> rfl
theorem fit_ev (l : List Int) (n : Nat) (own : Int) (hn : n ≤ 4) : Evt (fun k => cut_shardsFit.f k l n own) (decide (shOk n own l)) := by
  unfold cut_shardsFit.f
  exact fit_l l n own hn 5 0 (by omega) (by omega) (fun j hj => by omega)
theorem shOk_len {n : Nat} {own : Int} {l : List Int} (h : shOk n own l) : l.length ≤ n := upTo_le ((upTo_iff l n own).1 h).1

/-! Check -/
/-- A list is good behind the stamps P. -/
def good1 (n : Nat) (own : Int) (l : List S50) (last : Int) (P : List S50) : Prop :=
  l.Pairwise (fun s t => s.f0 < t.f0) ∧ (∀ s ∈ l, last < s.f0 ∧ s.f0 ≤ 1073741824 ∧ shOk n own s.f1 ∧ ∀ t ∈ P, t.f0 = s.f0 → t.f1 = s.f1)
def seenOk (seen : Seen) (P : List S50) : Prop := (∀ s ∈ P, seen s.f0 = some s.f1) ∧ ∀ j v, seen j = some v → ∃ s ∈ P, s.f0 = j
theorem good1_cons (n : Nat) (own : Int) (st : S50) (l : List S50) (last : Int) (P : List S50) :
    good1 n own (st :: l) last P ↔ (last < st.f0 ∧ st.f0 ≤ 1073741824 ∧ shOk n own st.f1 ∧ ∀ t ∈ P, t.f0 = st.f0 → t.f1 = st.f1) ∧ good1 n own l st.f0 (P ++ [st]) := by
  unfold good1
  rw [List.pairwise_cons]
  constructor
  · rintro ⟨⟨h1, h2⟩, h3⟩
    refine ⟨h3 st (by simp), h2, fun s hs => ⟨h1 s hs, (h3 s (by simp [hs])).2.1, (h3 s (by simp [hs])).2.2.1, fun t ht he => ?_⟩⟩
    rcases List.mem_append.1 ht with h | h
    · exact (h3 s (by simp [hs])).2.2.2 t h he
    · simp at h; subst h; have := h1 s hs; omega
  · rintro ⟨h1, h2, h3⟩
    refine ⟨⟨fun s hs => (h3 s hs).1, h2⟩, fun s hs => ?_⟩
    rcases List.mem_cons.1 hs with rfl | hs
    · exact h1
    · exact ⟨by have := (h3 s hs).1; omega, (h3 s hs).2.1, (h3 s hs).2.2.1, fun t ht he => (h3 s hs).2.2.2 t (by simp [ht]) he⟩
theorem seenOk_upd {seen : Seen} {P : List S50} {st : S50} (h : seenOk seen P) (hs : ∀ t ∈ P, t.f0 = st.f0 → t.f1 = st.f1) : seenOk (upd seen st.f0 st.f1) (P ++ [st]) := by
  refine ⟨fun s hm => ?_, fun j v hj => ?_⟩
  · unfold upd
    rcases List.mem_append.1 hm with g | g
    · by_cases e : s.f0 = st.f0
      · rw [if_pos e, hs s g e]
      · rw [if_neg e]; exact h.1 s g
    · simp at g; subst g; rw [if_pos rfl]
  · unfold upd at hj
    split at hj
    · rename_i e; exact ⟨st, by simp, e.symm⟩
    · obtain ⟨s, h1, h2⟩ := h.2 j v hj
      exact ⟨s, by simp [h1], h2⟩
theorem chk1_ev (n : Nat) (own : Int) (hn : n ≤ 4) : ∀ (l : List S50) (last : Int) (seen : Seen) (P : List S50), seenOk seen P → (∀ t ∈ P, t.f1.length ≤ 4) →
    (good1 n own l last P → ∃ s', Evt (fun k => chk1 k n own l last seen) (some s') ∧ seenOk s' (P ++ l)) ∧ (¬ good1 n own l last P → Evt (fun k => chk1 k n own l last seen) none)
  | [], last, seen, P, hs, hP => ⟨fun _ => ⟨seen, Evt.ret _, by simpa using hs⟩, fun h => absurd ⟨List.Pairwise.nil, fun s hs => by simp at hs⟩ h⟩
  | st :: l, last, seen, P, hs, hP => by
    rw [good1_cons]
    by_cases h1 : st.f0 ≤ last
    · refine ⟨fun h => by omega, fun _ => ?_⟩
      simp only [chk1, if_pos h1]; exact Evt.ret _
    · by_cases h2 : st.f0 > 1073741824
      · refine ⟨fun h => by omega, fun _ => ?_⟩
        simp only [chk1, if_neg h1, if_pos h2]; exact Evt.ret _
      · by_cases h3 : shOk n own st.f1
        · have ih := fun (hh : ∀ t ∈ P, t.f0 = st.f0 → t.f1 = st.f1) => chk1_ev n own hn l st.f0 (upd seen st.f0 st.f1) (P ++ [st]) (seenOk_upd hs hh) (fun t ht => by
            rcases List.mem_append.1 ht with g | g
            · exact hP t g
            · simp at g; subst g; have := shOk_len h3; omega)
          have hfe := fit_ev st.f1 n own hn
          rw [decide_eq_true h3] at hfe
          cases hsn : seen st.f0 with
          | none =>
            have hh : ∀ t ∈ P, t.f0 = st.f0 → t.f1 = st.f1 := fun t ht he => by
              have := hs.1 t ht
              rw [he, hsn] at this
              simp at this
            obtain ⟨i1, i2⟩ := ih hh
            have pass : ∀ r, Evt (fun k => chk1 k n own l st.f0 (upd seen st.f0 st.f1)) r → Evt (fun k => chk1 k n own (st :: l) last seen) r := fun r h => by
              simp only [chk1, if_neg h1, if_neg h2, hsn]
              exact Evt.bind hfe (Evt.pos rfl h)
            refine ⟨fun h => ?_, fun h => pass _ (i2 fun g => h ⟨⟨by omega, by omega, h3, hh⟩, g⟩)⟩
            obtain ⟨s', k1, k2⟩ := i1 h.2
            exact ⟨s', pass _ k1, by simpa using k2⟩
          | some o =>
            have ho : o.length ≤ 4 := by
              obtain ⟨t, ht, he⟩ := hs.2 _ _ hsn
              have := hs.1 t ht
              rw [he, hsn] at this
              injection this with this
              rw [this]; exact hP t ht
            by_cases ho2 : o = st.f1
            · have hh : ∀ t ∈ P, t.f0 = st.f0 → t.f1 = st.f1 := fun t ht he => by
                have := hs.1 t ht
                rw [he, hsn] at this
                injection this with this
                rw [← this, ho2]
              obtain ⟨i1, i2⟩ := ih hh
              have hq := equal_ev o st.f1 (by omega)
              rw [decide_eq_true ho2] at hq
              have pass : ∀ r, Evt (fun k => chk1 k n own l st.f0 (upd seen st.f0 st.f1)) r → Evt (fun k => chk1 k n own (st :: l) last seen) r := fun r h => by
                simp only [chk1, if_neg h1, if_neg h2, hsn]
                exact Evt.bind hfe (Evt.pos rfl (Evt.bind hq (Evt.pos rfl h)))
              refine ⟨fun h => ?_, fun h => pass _ (i2 fun g => h ⟨⟨by omega, by omega, h3, hh⟩, g⟩)⟩
              obtain ⟨s', k1, k2⟩ := i1 h.2
              exact ⟨s', pass _ k1, by simpa using k2⟩
            · have hq := equal_ev o st.f1 (by omega)
              rw [decide_eq_false ho2] at hq
              refine ⟨fun h => ?_, fun _ => ?_⟩
              · obtain ⟨t, ht, he⟩ := hs.2 _ _ hsn
                have e2 := hs.1 t ht
                rw [he, hsn] at e2
                injection e2 with e2
                exact absurd (e2.trans (h.1.2.2.2 t ht he)) ho2
              · simp only [chk1, if_neg h1, if_neg h2, hsn]
                exact Evt.bind hfe (Evt.pos rfl (Evt.bind hq (Evt.neg (by decide) (Evt.ret _))))
        · have hfe := fit_ev st.f1 n own hn
          rw [decide_eq_false h3] at hfe
          refine ⟨fun h => absurd h.1.2.2.1 h3, fun _ => ?_⟩
          simp only [chk1, if_neg h1, if_neg h2]
          exact Evt.bind hfe (Evt.neg (by decide) (Evt.ret _))
/-- The lists from list i on are good behind the stamps P. -/
def good0 (n : Nat) (base : Int) : List (List S50) → Int → List S50 → Prop
  | [], _, _ => True
  | l :: ls, i, P => good1 n i l base P ∧ good0 n base ls (i + 1) (P ++ l)
theorem chk0_ev (n : Nat) (base : Int) (hn : n ≤ 4) : ∀ (ls : List (List S50)) (i : Int) (seen : Seen) (P : List S50), seenOk seen P → (∀ t ∈ P, t.f1.length ≤ 4) →
    Evt (fun k => chk0 k n base ls i seen) (if good0 n base ls i P then 0 else 210)
  | [], i, seen, P, hs, hP => by
    rw [if_pos (show good0 n base [] i P from trivial)]
    exact Evt.ret _
  | l :: ls, i, seen, P, hs, hP => by
    obtain ⟨i1, i2⟩ := chk1_ev n i hn l base seen P hs hP
    by_cases h : good1 n i l base P
    · obtain ⟨s', k1, k2⟩ := i1 h
      have := chk0_ev n base hn ls (i + 1) s' (P ++ l) k2 (fun t ht => by
        rcases List.mem_append.1 ht with g | g
        · exact hP t g
        · have := shOk_len (h.2 t g).2.2.1; omega)
      have e : good0 n base (l :: ls) i P ↔ good0 n base ls (i + 1) (P ++ l) := ⟨fun g => g.2, fun g => ⟨h, g⟩⟩
      simp only [chk0, e]
      exact Evt.bind k1 this
    · have e : ¬ good0 n base (l :: ls) i P := fun g => h g.1
      rw [if_neg e]
      simp only [chk0]
      exact Evt.bind (i2 h) (Evt.ret _)
theorem good0_iff (n : Nat) (base : Int) : ∀ (ls : List (List S50)) (i : Nat) (P : List S50), good0 n base ls i P ↔
    (∀ x, x < ls.length → (ls.getD x []).Pairwise (fun s t => s.f0 < t.f0) ∧ ∀ s ∈ ls.getD x [], base < s.f0 ∧ s.f0 ≤ 1073741824 ∧ shOk n ((i + x : Nat) : Int) s.f1 ∧ (∀ t ∈ P, t.f0 = s.f0 → t.f1 = s.f1) ∧ ∀ y, y < x → ∀ t ∈ ls.getD y [], t.f0 = s.f0 → t.f1 = s.f1)
  | [], i, P => ⟨fun _ x hx => by simp at hx, fun _ => trivial⟩
  | l :: ls, i, P => by
    have ih := good0_iff n base ls (i + 1) (P ++ l)
    have ec : ((i : Int) + 1) = ((i + 1 : Nat) : Int) := by omega
    unfold good0
    rw [ec, ih]
    constructor
    · rintro ⟨⟨h1, h2⟩, h3⟩ x hx
      cases x with
      | zero => exact ⟨h1, fun s hs => ⟨(h2 s hs).1, (h2 s hs).2.1, (h2 s hs).2.2.1, (h2 s hs).2.2.2, fun y hy => by omega⟩⟩
      | succ x =>
        obtain ⟨g1, g2⟩ := h3 x (by simpa using hx)
        refine ⟨g1, fun s hs => ?_⟩
        obtain ⟨a1, a2, a3, a4, a5⟩ := g2 s hs
        refine ⟨a1, a2, by have e : i + (x + 1) = i + 1 + x := (by omega); rw [e]; exact a3, fun t ht => a4 t (by simp [ht]), fun y hy t ht => ?_⟩
        cases y with
        | zero => exact a4 t (by simp only [List.mem_append]; exact .inr ht)
        | succ y => exact a5 y (by omega) t ht
    · intro h
      refine ⟨?_, fun x hx => ?_⟩
      · obtain ⟨g1, g2⟩ := h 0 (by simp)
        exact ⟨g1, fun s hs => ⟨(g2 s hs).1, (g2 s hs).2.1, (g2 s hs).2.2.1, (g2 s hs).2.2.2.1⟩⟩
      · obtain ⟨g1, g2⟩ := h (x + 1) (by simpa using hx)
        refine ⟨g1, fun s hs => ?_⟩
        obtain ⟨a1, a2, a3, a4, a5⟩ := g2 s hs
        refine ⟨a1, a2, by have e : i + (x + 1) = i + 1 + x := (by omega); rw [← e]; exact a3, fun t ht => ?_, fun y hy t ht => a5 (y + 1) (by omega) t ht⟩
        rcases List.mem_append.1 ht with g | g
        · exact a4 t g
        · exact a5 0 (by omega) t g
theorem good0_valid (base : Int) (ls : List (List S50)) : good0 ls.length base ls 0 [] ↔ LInv base 1073741824 ls.length ls := by
  have := good0_iff ls.length base ls 0 []
  rw [show ((0 : Nat) : Int) = 0 from rfl] at this
  rw [this]
  constructor
  · intro h
    refine ⟨rfl, fun i hi => (h i hi).1, fun i hi s hs => ⟨((h i hi).2 s hs).1, ((h i hi).2 s hs).2.1⟩, fun i hi s hs => by have := ((h i hi).2 s hs).2.2.1; simpa using this, fun i j hi hj s hs t ht he => ?_⟩
    rcases Nat.lt_trichotomy i j with g | g | g
    · exact (((h j hj).2 t ht).2.2.2.2 i g s hs he)
    · subst g
      -- the same list: the same stamp
      obtain ⟨a, ha, rfl⟩ := List.mem_iff_getElem.1 hs
      obtain ⟨b, hb, rfl⟩ := List.mem_iff_getElem.1 ht
      have hp := List.pairwise_iff_getElem.1 (h i hi).1
      rcases Nat.lt_trichotomy a b with g | g | g
      · have := hp a b ha hb g; omega
      · subst g; rfl
      · have := hp b a hb ha g; omega
    · exact (((h i hi).2 s hs).2.2.2.2 j g t ht he.symm).symm
  · intro h x hx
    refine ⟨h.asc x hx, fun s hs => ⟨(h.rng x hx s hs).1, (h.rng x hx s hs).2, by have := h.sh x hx s hs; simpa using this, fun t ht => by simp at ht, fun y hy t ht he => h.same y x (by omega) hx t ht s hs he⟩⟩
noncomputable def checkV (b : Int) (logs : List (List S50)) : Int := if b < 0 ∨ 1073741824 < b ∨ logs.length = 0 ∨ 4 < logs.length then 1 else if LInv b 1073741824 logs.length logs then 0 else 210
theorem check_ev (b : Int) (logs : List (List S50)) : Evt (fun k => cut_Check.f k b logs) (checkV b logs) := by
  unfold cut_Check.f checkV
  by_cases h1 : b < 0
  · simp only [if_pos h1, h1, true_or, if_true]; exact Evt.ret _
  · by_cases h2 : b > 1073741824
    · rw [if_pos (.inr (.inl h2))]; simp only [if_neg h1, if_pos h2]; exact Evt.ret _
    · by_cases h3 : logs.length = 0
      · rw [if_pos (.inr (.inr (.inl h3)))]; simp only [if_neg h1, if_neg h2, if_pos h3]; exact Evt.ret _
      · by_cases h4 : logs.length > 4
        · rw [if_pos (.inr (.inr (.inr h4)))]; simp only [if_neg h1, if_neg h2, if_neg h3, if_pos h4]; exact Evt.ret _
        · rw [if_neg (by omega)]; simp only [if_neg h1, if_neg h2, if_neg h3, if_neg h4]
          have := chk0_ev logs.length b (by omega) logs 0 (fun _ => none) [] ⟨fun s hs => by simp at hs, fun j v h => by simp at h⟩ (fun t ht => by simp at ht)
          simp only [good0_valid] at this
          exact this
theorem checkV_ok {b : Int} {logs : List (List S50)} : checkV b logs = 0 ↔ Valid b logs := by
  unfold checkV
  constructor
  · intro h
    split at h
    · simp at h
    · split at h
      · rename_i h1 h2; exact ⟨by omega, by omega, by omega, by omega, h2⟩
      · simp at h
  · intro h
    rw [if_neg (by have := h.b0; have := h.b1; have := h.n0; have := h.n1; omega), if_pos h.inv]
end Go.Proofs.Ytkhiglincdognaa.PA

namespace Go.Proofs.Ytkhiglincdognaa.PA
open Go.RowKit Go.Proofs.YtkhiglincdognaaW.PrintWords Go.Proofs.YtkhiglincdognaaW.PrintLast Go.Proofs.YtkhiglincdognaaW.PrintMore
set_option linter.unusedVariables false
set_option linter.unusedSimpArgs false
open Classical

theorem asc_len (b c : Int) : ∀ (l : List S50) (b' : Int), b ≤ b' → l.Pairwise (fun s t => s.f0 < t.f0) → (∀ s ∈ l, b' < s.f0 ∧ s.f0 ≤ c) → (l.length : Int) ≤ if l = [] then 0 else c - b'
  | [], b', _, _, _ => by simp
  | s :: l, b', hb, h1, h2 => by
    rw [if_neg (by simp)]
    have h3 := h2 s (by simp)
    have ih := asc_len b c l s.f0 (by omega) (List.pairwise_cons.1 h1).2 (fun t ht => ⟨(List.pairwise_cons.1 h1).1 t ht, (h2 t (by simp [ht])).2⟩)
    rw [List.length_cons]
    split at ih <;> omega
theorem Valid.short {b : Int} {logs : List (List S50)} (h : Valid b logs) (i : Nat) (hi : i < logs.length) : (logs.getD i []).length ≤ 1073741824 := by
  have h1 := asc_len b 1073741824 (logs.getD i []) b (Int.le_refl _) (h.inv.asc i hi) (h.inv.rng i hi)
  have := h.b0
  split at h1 <;> omega

noncomputable def placeV (b : Int) (logs : List (List S50)) (c : List Int) : Int := if checkV b logs = 0 then (if isCut logs c then 0 else 1) else checkV b logs
theorem placeV_ok {b : Int} {logs : List (List S50)} {c : List Int} : placeV b logs c = 0 ↔ Valid b logs ∧ isCut logs c := by
  unfold placeV
  constructor
  · intro h
    split at h
    · rename_i h1
      split at h
      · rename_i h2; exact ⟨checkV_ok.1 h1, h2⟩
      · simp at h
    · contradiction
  · rintro ⟨h1, h2⟩
    rw [if_pos (checkV_ok.2 h1), if_pos h2]
theorem place_l (logs : List (List S50)) (c : List Int) (hl : c.length = logs.length) (hb : logs.length ≤ 1000) : ∀ (d i : Nat), i + d = c.length → (∀ j, j < i → 0 ≤ c.getD j 0 ∧ c.getD j 0 ≤ ((logs.getD j []).length : Int)) →
    Evt (fun k => cut_checkCut.l0 k logs c c.length i) (if isCut logs c then 0 else 1)
  | 0, i, hi, hp => by
    refine .of 1 fun k hk => ?_
    obtain ⟨k, rfl⟩ : ∃ j, k = j + 1 := ⟨k - 1, by omega⟩
    rw [cut_checkCut.l0, if_neg (by omega), if_pos ⟨hl, fun j hj => hp j (by omega)⟩]
  | d + 1, i, hi, hp => by
    have at1 : ∀ r, (∀ k, cut_checkCut.l0 (k + 1) logs c c.length i = some r) → Evt (fun k => cut_checkCut.l0 k logs c c.length i) r := fun r h => .of 1 fun k hk => by
      obtain ⟨k, rfl⟩ : ∃ j, k = j + 1 := ⟨k - 1, by omega⟩
      exact h k
    by_cases h1 : c.getD i 0 < 0
    · rw [if_neg (fun h => by have := (h.2 i (by omega)).1; omega)]
      exact at1 _ fun k => by rw [cut_checkCut.l0, if_pos (by omega), if_pos (by omega), if_pos (by omega), rdN, if_pos h1]
    · by_cases h2 : c.getD i 0 > ((logs.getD i []).length : Int)
      · rw [if_neg (fun h => by have := (h.2 i (by omega)).2; omega)]
        exact at1 _ fun k => by rw [cut_checkCut.l0, if_pos (by omega), if_pos (by omega), if_pos (by omega), rdN, if_neg h1, if_pos (by omega), rdL, if_pos h2]
      · refine (place_l logs c hl hb d (i + 1) (by omega) (fun j hj => by rcases Nat.lt_or_ge j i with g | g; exact hp j g; obtain rfl : j = i := (by omega); omega)).step fun k => ?_
        rw [cut_checkCut.l0, if_pos (by omega), if_pos (by omega), if_pos (by omega), rdN, if_neg h1, if_pos (by omega), rdL, if_neg h2, w1 i (by omega)]
theorem place_ev (b : Int) (logs : List (List S50)) (c : List Int) : Evt (fun k => cut_checkCut.f k b logs c) (placeV b logs c) := by
  unfold cut_checkCut.f placeV
  refine Evt.bind (check_ev b logs) ?_
  by_cases h : checkV b logs = 0
  · rw [if_pos h]
    refine Evt.pos h ?_
    have hn := (checkV_ok.1 h).n1
    by_cases hl : c.length = logs.length
    · refine Evt.pos (by omega) ?_
      exact place_l logs c hl (by omega) c.length 0 (by omega) (fun j hj => by omega)
    · rw [if_neg (fun g => hl g.1)]
      exact Evt.neg (by omega) (Evt.ret _)
  · rw [if_neg h]
    exact Evt.neg h (Evt.ret _)

/-! open -/
theorem open_ok {b : Int} {logs : List (List S50)} {c : List Int} (hv : Valid b logs) (hc : isCut logs c) : openOk logs c = true := by
  unfold openOk
  simp only [Bool.and_eq_true, decide_eq_true_eq, List.all_eq_true, List.mem_range]
  refine ⟨⟨hc.1, by have := hv.n1; omega⟩, fun i hi => ⟨⟨(hc.2 i hi).1, (hc.2 i hi).2, by have := hv.short i hi; omega⟩, fun s hs => ⟨by have h1 := hv.inv.rng i hi s hs; have := hv.b0; omega, fun x hx => (hv.inv.sh i hi s hs).2.1 x hx⟩⟩⟩
theorem open_ev {b : Int} {logs : List (List S50)} {c : List Int} (hv : Valid b logs) (hc : isCut logs c) : Evt (fun k => cut_open.f k logs c) (opn logs c logs.length 0) := by
  unfold cut_open.f
  simp only [open_ok hv hc, if_true]
  exact Evt.ret _
theorem opn_spec (logs : List (List S50)) (c : List Int) : ∀ (m i : Nat),
    (∃ i' k : Nat, opn logs c m i = ((i' : Int), (k : Int), true) ∧ i ≤ i' ∧ i' < i + m ∧ k < (cutOf logs c i').length ∧ badSt logs c ((cutOf logs c i').getD k z50) = true) ∨
    (opn logs c m i = (0, 0, false) ∧ ∀ i', i ≤ i' → i' < i + m → ∀ st ∈ cutOf logs c i', badSt logs c st = false)
  | 0, i => .inr ⟨rfl, fun i' h1 h2 => by omega⟩
  | m + 1, i => by
    unfold opn
    cases hf : (cutOf logs c i).findIdx? (badSt logs c) with
    | some k =>
      obtain ⟨hk, hb, _⟩ := List.findIdx?_eq_some_iff_getElem.1 hf
      refine .inl ⟨i, k, rfl, Nat.le_refl _, by omega, hk, ?_⟩
      rw [List.getD_eq_getElem?_getD, List.getElem?_eq_getElem hk]; exact hb
    | none =>
      have hn := List.findIdx?_eq_none_iff.1 hf
      rcases opn_spec logs c m (i + 1) with ⟨i', k, h1, h2, h3, h4⟩ | ⟨h1, h2⟩
      · exact .inl ⟨i', k, h1, by omega, by omega, h4⟩
      · refine .inr ⟨h1, fun i' g1 g2 st hst => ?_⟩
        rcases Nat.eq_or_lt_of_le g1 with rfl | g
        · simpa using hn st hst
        · exact h2 i' g (by omega) st hst
def closedP (logs : List (List S50)) (c : List Int) : Prop := ∀ i, i < logs.length → ∀ st ∈ cutOf logs c i, badSt logs c st = false
noncomputable def closedV (b : Int) (logs : List (List S50)) (c : List Int) : Bool × Int := if placeV b logs c = 0 then (decide (closedP logs c), 0) else (false, placeV b logs c)
theorem opn_closed (logs : List (List S50)) (c : List Int) : (!(opn logs c logs.length 0).2.2) = decide (closedP logs c) := by
  rcases opn_spec logs c logs.length 0 with ⟨i', k, h1, h2, h3, h4, h5⟩ | ⟨h1, h2⟩
  · rw [h1]
    refine (decide_eq_false fun h => ?_).symm
    have := h i' (by omega) ((cutOf logs c i').getD k z50) (by rw [List.getD_eq_getElem?_getD, List.getElem?_eq_getElem h4]; exact List.getElem_mem _)
    rw [this] at h5; cases h5
  · rw [h1]
    have hcl : closedP logs c := fun i hi => h2 i (Nat.zero_le _) (by omega)
    rw [decide_eq_true hcl]; rfl
theorem closed_ev (b : Int) (logs : List (List S50)) (c : List Int) : Evt (fun k => cut_Closed.f k b logs c) (closedV b logs c) := by
  unfold cut_Closed.f closedV
  refine Evt.bind (place_ev b logs c) ?_
  by_cases h : placeV b logs c = 0
  · obtain ⟨hv, hc⟩ := placeV_ok.1 h
    rw [if_pos h]
    refine Evt.pos h ?_
    refine Evt.bind (open_ev hv hc) ?_
    rw [opn_closed]
    exact Evt.ret _
  · rw [if_neg h]
    exact Evt.neg h (Evt.ret _)

/-! Close -/
def leC (logs : List (List S50)) (p q : List Int) : Prop := ∀ i, i < logs.length → p.getD i 0 ≤ q.getD i 0
theorem sum_set (l : List Nat) (i v : Nat) (h : i < l.length) : (l.set i v).sum + l.getD i 0 = l.sum + v := by
  induction l generalizing i with
  | nil => simp at h
  | cons a l ih =>
    cases i with
    | zero => simp; omega
    | succ i =>
      have := ih i (by simpa using h)
      simp at this ⊢
      omega
theorem cutOf_sub {logs : List (List S50)} {p q : List Int} (x : Nat) (h : p.getD x 0 ≤ q.getD x 0) {st : S50} (hs : st ∈ cutOf logs p x) : st ∈ cutOf logs q x := by
  unfold cutOf at hs ⊢
  have e : ((logs.getD x []).take (p.getD x 0).toNat) = ((logs.getD x []).take (q.getD x 0).toNat).take (p.getD x 0).toNat := by rw [List.take_take]; congr 1; omega
  rw [e] at hs
  exact List.mem_of_mem_take hs
theorem isIn_iff (S : List S50) (n : Int) : isIn S n = true ↔ ∃ s ∈ S, s.f0 = n := by
  unfold isIn; rw [List.any_eq_true]; simp
theorem badSt_iff (logs : List (List S50)) (c : List Int) (st : S50) : badSt logs c st = false ↔ ∀ x ∈ st.f1, ∃ s ∈ cutOf logs c x.toNat, s.f0 = st.f0 := by
  unfold badSt
  rw [List.any_eq_false]
  refine forall_congr' fun x => forall_congr' fun hx => ?_
  rw [← isIn_iff]
  simp
theorem mem_take_getD (L : List S50) (k n : Nat) (h1 : k < n) (h2 : k < L.length) : L.getD k z50 ∈ L.take n := by
  have hk : k < (L.take n).length := by rw [List.length_take]; omega
  have h := List.getElem_mem hk
  rw [List.getElem_take] at h
  rwa [List.getD_eq_getElem?_getD, List.getElem?_eq_getElem h2, Option.getD_some]
theorem close_l {b : Int} {logs : List (List S50)} (hv : Valid b logs) : ∀ (N : Nat) (c : List Int), isCut logs c → (c.map Int.toNat).sum ≤ N →
    ∃ p, Evt (fun k => cut_Close.l0 k logs c) (p, 0) ∧ isCut logs p ∧ closedP logs p ∧ leC logs p c ∧ ∀ q, isCut logs q → closedP logs q → leC logs q c → leC logs q p := by
  intro N
  induction N with
  | zero =>
    intro c hc hN
    rcases opn_spec logs c logs.length 0 with ⟨i', k, h1, h2, h3, h4, h5⟩ | ⟨h1, h2⟩
    · have hi : i' < logs.length := by omega
      have hk : (k : Int) < c.getD i' 0 := by
        unfold cutOf at h4; rw [List.length_take] at h4; omega
      have hz := sum_set (c.map Int.toNat) i' 0 (by simp [hc.1]; exact hi)
      have hg : (c.map Int.toNat).getD i' 0 = (c.getD i' 0).toNat := by simp [List.getD_eq_getElem?_getD, List.getElem?_eq_getElem (show i' < c.length by rw [hc.1]; exact hi)]
      omega
    · refine ⟨c, Evt.step (g := fun k => some (c, 0)) (Evt.ret _) fun k => ?_, hc, fun i hi => h2 i (by omega) (by omega), fun i hi => Int.le_refl _, fun q _ _ h => h⟩
      rw [cut_Close.l0, cut_open.f, if_pos (open_ok hv hc), Option.bind_some, h1, if_neg (by decide)]
  | succ N ih =>
    intro c hc hN
    rcases opn_spec logs c logs.length 0 with ⟨i', k, h1, h2, h3, h4, h5⟩ | ⟨h1, h2⟩
    · have hi : i' < logs.length := by omega
      have hic : i' < c.length := by rw [hc.1]; exact hi
      have hkl := h4
      unfold cutOf at hkl
      rw [List.length_take] at hkl
      have hk : (k : Int) < c.getD i' 0 := by omega
      have hz := sum_set (c.map Int.toNat) i' k (by simpa using hic)
      have hg : (c.map Int.toNat).getD i' 0 = (c.getD i' 0).toNat := by simp [List.getD_eq_getElem?_getD, List.getElem?_eq_getElem hic]
      have hm : (c.set i' (k : Int)).map Int.toNat = (c.map Int.toNat).set i' k := by rw [List.map_set]; rfl
      have hc2 : isCut logs (c.set i' (k : Int)) := ⟨by simp [hc.1], fun j hj => by
        by_cases hji : j = i'
        · subst hji; rw [getD_set_self _ _ _ _ hic]; omega
        · rw [getD_set_ne _ _ _ _ _ (Ne.symm hji)]; exact hc.2 j hj⟩
      obtain ⟨p, g1, g2, g3, g4, g5⟩ := ih (c.set i' (k : Int)) hc2 (by rw [hm]; omega)
      refine ⟨p, g1.step fun k2 => ?_, g2, g3, fun j hj => ?_, fun q q1 q2 q3 => g5 q q1 q2 fun j hj => ?_⟩
      · rw [cut_Close.l0, cut_open.f, if_pos (open_ok hv hc), Option.bind_some, h1]
        rw [if_pos rfl, if_pos (by omega), if_pos (by omega), Int.toNat_natCast]
      · have := g4 j hj
        by_cases hji : j = i'
        · subst hji; rw [getD_set_self _ _ _ _ hic] at this; omega
        · rw [getD_set_ne _ _ _ _ _ (Ne.symm hji)] at this; exact this
      · by_cases hji : j = i'
        · subst hji
          rw [getD_set_self _ _ _ _ hic]
          refine Int.not_lt.1 fun hlt => ?_
          have hst : (cutOf logs c j).getD k z50 ∈ cutOf logs q j := by
            have e1 : (cutOf logs c j).getD k z50 = (logs.getD j []).getD k z50 := by
              unfold cutOf
              rw [List.getD_eq_getElem?_getD, List.getElem?_take_of_lt (by omega), ← List.getD_eq_getElem?_getD]
            have hq2 := q1.2 j hj
            rw [e1]
            exact mem_take_getD _ k _ (by omega) (by omega)
          have hbad := q2 j hj _ hst
          rw [badSt_iff] at hbad
          have : badSt logs c ((cutOf logs c j).getD k z50) = false := (badSt_iff _ _ _).2 fun x hx => by
            obtain ⟨s, hs1, hs2⟩ := hbad x hx
            have hxs : x.toNat < logs.length := by
              have hmem : (cutOf logs c j).getD k z50 ∈ logs.getD j [] := by
                have : (cutOf logs c j).getD k z50 ∈ cutOf logs c j := by rw [List.getD_eq_getElem?_getD, List.getElem?_eq_getElem h4]; exact List.getElem_mem _
                exact List.mem_of_mem_take this
              have := (hv.inv.sh j hj _ hmem).2.1 x hx
              omega
            exact ⟨s, cutOf_sub _ (q3 _ hxs) hs1, hs2⟩
          rw [this] at h5; cases h5
        · rw [getD_set_ne _ _ _ _ _ (Ne.symm hji)]; exact q3 j hj
    · refine ⟨c, Evt.step (g := fun k => some (c, 0)) (Evt.ret _) fun k => ?_, hc, fun i hi => h2 i (by omega) (by omega), fun i hi => Int.le_refl _, fun q _ _ h => h⟩
      rw [cut_Close.l0, cut_open.f, if_pos (open_ok hv hc), Option.bind_some, h1, if_neg (by decide)]
theorem close_ev {b : Int} {logs : List (List S50)} (hv : Valid b logs) {c : List Int} (hc : isCut logs c) :
    ∃ p, Evt (fun k => cut_Close.f k b logs c) (p, 0) ∧ isCut logs p ∧ closedP logs p ∧ leC logs p c ∧ ∀ q, isCut logs q → closedP logs q → leC logs q c → leC logs q p := by
  obtain ⟨p, h1, h2⟩ := close_l hv _ c hc (Nat.le_refl _)
  refine ⟨p, ?_, h2⟩
  unfold cut_Close.f
  have hp := place_ev b logs c
  rw [placeV_ok.2 ⟨hv, hc⟩] at hp
  refine Evt.bind hp (Evt.pos rfl ?_)
  refine Evt.bind (a := c) ?_ h1
  have := hc.1
  have := hv.n1
  unfold slices_Clone_int_int.f
  exact Evt.pos (by omega) (Evt.ret _)
end Go.Proofs.Ytkhiglincdognaa.PA

namespace Go.Proofs.Ytkhiglincdognaa.PA
open Go.RowKit Go.Proofs.YtkhiglincdognaaW.PrintWords Go.Proofs.YtkhiglincdognaaW.PrintLast Go.Proofs.YtkhiglincdognaaW.PrintMore
set_option linter.unusedVariables false
set_option linter.unusedSimpArgs false
open Classical

def has (logs : List (List S50)) (j : Nat) (m : Int) : Prop := ∃ s ∈ logs.getD j [], s.f0 = m
theorem getD_mem (L : List S50) (k : Nat) (h : k < L.length) : L.getD k z50 ∈ L := by
  rw [List.getD_eq_getElem?_getD, List.getElem?_eq_getElem h]; exact List.getElem_mem _

theorem getD_get (L : List S50) (k : Nat) (h : k < L.length) : L.getD k z50 = L[k] := by rw [List.getD_eq_getElem?_getD, List.getElem?_eq_getElem h]; rfl
end Go.Proofs.Ytkhiglincdognaa.PA
