/-
The printed functions over lists of numbers: what they answer.
Conditions: lists shorter than 2^62 (rounds enough).
-/
import Derived.Test.YtkhiglincdognaaPAx3
namespace Go.Proofs.Ytkhiglincdognaa.PA
open Go.RowKit Go.Proofs.YtkhiglincdognaaW.PrintWords Go.Proofs.YtkhiglincdognaaW.PrintLast Go.Proofs.YtkhiglincdognaaW.PrintMore
set_option linter.unusedVariables false
set_option linter.unusedSimpArgs false

/-- From some number of rounds on the answer is r. -/
def Evt {α : Type} (g : Nat → Option α) (r : α) : Prop := ∃ K, ∀ k, K ≤ k → g k = some r
theorem Evt.of {α : Type} {g : Nat → Option α} {r : α} (K : Nat) (h : ∀ k, K ≤ k → g k = some r) : Evt g r := ⟨K, h⟩
theorem Evt.ret {α : Type} (r : α) : Evt (fun _ => some r) r := ⟨0, fun _ _ => rfl⟩
theorem Evt.bind {α β : Type} {g : Nat → Option α} {h : α → Nat → Option β} {a : α} {r : β} (h1 : Evt g a) (h2 : Evt (h a) r) : Evt (fun k => (g k).bind (fun x => h x k)) r := by
  obtain ⟨K1, h1⟩ := h1
  obtain ⟨K2, h2⟩ := h2
  refine ⟨K1 + K2, fun k hk => ?_⟩
  show (g k).bind (fun x => h x k) = some r
  rw [h1 k (by omega), Option.bind_some]
  exact h2 k (by omega)
theorem Evt.pos {α : Type} {c : Prop} [Decidable c] {f g : Nat → Option α} {r : α} (h : c) (e : Evt f r) : Evt (fun k => if c then f k else g k) r := by simp only [if_pos h]; exact e
theorem Evt.neg {α : Type} {c : Prop} [Decidable c] {f g : Nat → Option α} {r : α} (h : ¬ c) (e : Evt g r) : Evt (fun k => if c then f k else g k) r := by simp only [if_neg h]; exact e
theorem Evt.congr {α : Type} {g g' : Nat → Option α} {r : α} (h : Evt g r) (e : ∀ k, g k = g' k) : Evt g' r := by
  obtain ⟨K, h⟩ := h
  exact ⟨K, fun k hk => (e k).symm.trans (h k hk)⟩
theorem Evt.step {α : Type} {g : Nat → Option α} {g' : Nat → Option α} {r : α} (h : Evt g r) (e : ∀ k, g' (k + 1) = g k) : Evt g' r := by
  obtain ⟨K, h⟩ := h
  refine ⟨K + 1, fun k hk => ?_⟩
  obtain ⟨j, rfl⟩ : ∃ j, k = j + 1 := ⟨k - 1, by omega⟩
  exact (e j).trans (h j (by omega))
theorem Evt.get {α : Type} {g : Nat → Option α} {r : α} (h : Evt g r) : ∃ k, g k = some r := by
  obtain ⟨K, h⟩ := h
  exact ⟨K, h K (Nat.le_refl _)⟩

theorem w1 (i : Nat) (h : i < 4611686018427387904) : wrap64 ((i : Int) + 1) = ((i + 1 : Nat) : Int) := by unfold wrap64; omega
theorem rdN (xs : List Int) (i : Nat) : rd xs (i : Int) = xs.getD i 0 := by unfold rd; rw [Int.toNat_natCast]

/-! numbers that can be compared -/
def fitsV (a b : List Int) : Bool := decide (a.length = b.length) && decide (∀ i, i < a.length → 0 ≤ a.getD i 0 ∧ 0 ≤ b.getD i 0)
theorem fitsV_iff (a b : List Int) : fitsV a b = true ↔ a.length = b.length ∧ ∀ i, i < a.length → 0 ≤ a.getD i 0 ∧ 0 ≤ b.getD i 0 := by simp [fitsV]
theorem fits_l (a b : List Int) (hl : a.length = b.length) (hb : a.length < 4611686018427387904) : ∀ (d i : Nat), i + d = a.length → (∀ j, j < i → 0 ≤ a.getD j 0 ∧ 0 ≤ b.getD j 0) →
    Evt (fun k => cut_fits.l0 k a b a.length i) (fitsV a b)
  | 0, i, hi, hp => by
    refine .of 1 fun k hk => ?_
    obtain ⟨k, rfl⟩ : ∃ j, k = j + 1 := ⟨k - 1, by omega⟩
    have : fitsV a b = true := (fitsV_iff a b).2 ⟨hl, fun j hj => hp j (by omega)⟩
    rw [cut_fits.l0, if_neg (by omega), this]
  | d + 1, i, hi, hp => by
    by_cases h1 : a.getD i 0 < 0
    · have : fitsV a b = false := by
        cases h : fitsV a b with
        | false => rfl
        | true => have := ((fitsV_iff a b).1 h).2 i (by omega); omega
      refine .of 1 fun k hk => ?_
      obtain ⟨k, rfl⟩ : ∃ j, k = j + 1 := ⟨k - 1, by omega⟩
      rw [cut_fits.l0, if_pos (by omega), if_pos (by omega), if_pos (by omega), rdN, if_pos h1, this]
    · by_cases h2 : b.getD i 0 < 0
      · have : fitsV a b = false := by
          cases h : fitsV a b with
          | false => rfl
          | true => have := ((fitsV_iff a b).1 h).2 i (by omega); omega
        refine .of 1 fun k hk => ?_
        obtain ⟨k, rfl⟩ : ∃ j, k = j + 1 := ⟨k - 1, by omega⟩
        rw [cut_fits.l0, if_pos (by omega), if_pos (by omega), if_pos (by omega), rdN, if_neg h1, if_pos (by omega), rdN, if_pos h2, this]
      · refine (fits_l a b hl hb d (i + 1) (by omega) (fun j hj => by rcases Nat.lt_or_ge j i with h | h; exact hp j h; obtain rfl : j = i := (by omega); omega)).step fun k => ?_
        rw [cut_fits.l0, if_pos (by omega), if_pos (by omega), if_pos (by omega), rdN, if_neg h1, if_pos (by omega), rdN, if_neg h2, w1 i (by omega)]
theorem fits_ev (a b : List Int) (hb : a.length < 4611686018427387904) : Evt (fun k => cut_fits.f k a b) (fitsV a b) := by
  by_cases hl : a.length = b.length
  · refine (fits_l a b hl hb a.length 0 (by omega) (fun j hj => by omega)).congr fun k => ?_
    unfold cut_fits.f
    rw [if_pos (by omega)]; rfl
  · have : fitsV a b = false := by simp [fitsV, hl]
    refine .of 0 fun k _ => ?_
    unfold cut_fits.f
    rw [if_neg (by omega), this]

/-! Compare -/
def cmpR (L G : Bool) : Int := if L = true ∧ G = true then 3 else if L = true then 1 else if G = true then 2 else 0
def anyLt (a b : List Int) (i : Nat) : Bool := (List.range a.length).any fun j => decide (i ≤ j) && decide (a.getD j 0 < b.getD j 0)
def anyGt (a b : List Int) (i : Nat) : Bool := (List.range a.length).any fun j => decide (i ≤ j) && decide (b.getD j 0 < a.getD j 0)
theorem anyLt_iff (a b : List Int) (i : Nat) : anyLt a b i = true ↔ ∃ j, i ≤ j ∧ j < a.length ∧ a.getD j 0 < b.getD j 0 := by
  unfold anyLt; rw [List.any_eq_true]
  constructor
  · rintro ⟨j, hj, h⟩; simp only [Bool.and_eq_true, decide_eq_true_eq] at h; exact ⟨j, h.1, List.mem_range.1 hj, h.2⟩
  · rintro ⟨j, h1, h2, h3⟩; exact ⟨j, List.mem_range.2 h2, by simp only [Bool.and_eq_true, decide_eq_true_eq]; exact ⟨h1, h3⟩⟩
theorem anyGt_iff (a b : List Int) (i : Nat) : anyGt a b i = true ↔ ∃ j, i ≤ j ∧ j < a.length ∧ b.getD j 0 < a.getD j 0 := by
  unfold anyGt; rw [List.any_eq_true]
  constructor
  · rintro ⟨j, hj, h⟩; simp only [Bool.and_eq_true, decide_eq_true_eq] at h; exact ⟨j, h.1, List.mem_range.1 hj, h.2⟩
  · rintro ⟨j, h1, h2, h3⟩; exact ⟨j, List.mem_range.2 h2, by simp only [Bool.and_eq_true, decide_eq_true_eq]; exact ⟨h1, h3⟩⟩
theorem anyLt_step (a b : List Int) (i : Nat) (hi : i < a.length) : anyLt a b i = (decide (a.getD i 0 < b.getD i 0) || anyLt a b (i + 1)) := by
  rw [Bool.eq_iff_iff]
  simp only [Bool.or_eq_true, decide_eq_true_eq, anyLt_iff]
  constructor
  · rintro ⟨j, h1, h2, h3⟩
    rcases Nat.eq_or_lt_of_le h1 with rfl | h
    · exact .inl h3
    · exact .inr ⟨j, h, h2, h3⟩
  · rintro (h | ⟨j, h1, h2, h3⟩)
    · exact ⟨i, Nat.le_refl _, hi, h⟩
    · exact ⟨j, by omega, h2, h3⟩
theorem anyGt_step (a b : List Int) (i : Nat) (hi : i < a.length) : anyGt a b i = (decide (b.getD i 0 < a.getD i 0) || anyGt a b (i + 1)) := by
  rw [Bool.eq_iff_iff]
  simp only [Bool.or_eq_true, decide_eq_true_eq, anyGt_iff]
  constructor
  · rintro ⟨j, h1, h2, h3⟩
    rcases Nat.eq_or_lt_of_le h1 with rfl | h
    · exact .inl h3
    · exact .inr ⟨j, h, h2, h3⟩
  · rintro (h | ⟨j, h1, h2, h3⟩)
    · exact ⟨i, Nat.le_refl _, hi, h⟩
    · exact ⟨j, by omega, h2, h3⟩
theorem anyLt_end (a b : List Int) : anyLt a b a.length = false := by
  cases h : anyLt a b a.length with
  | false => rfl
  | true => obtain ⟨j, h1, h2, _⟩ := (anyLt_iff a b _).1 h; omega
theorem anyGt_end (a b : List Int) : anyGt a b a.length = false := by
  cases h : anyGt a b a.length with
  | false => rfl
  | true => obtain ⟨j, h1, h2, _⟩ := (anyGt_iff a b _).1 h; omega
theorem compare_l (a b : List Int) (hl : a.length = b.length) (hb : a.length < 4611686018427387904) : ∀ (d i : Nat) (L G : Bool), i + d = a.length →
    Evt (fun k => cut_Compare.l0 k a b L G a.length i) (cmpR (L || anyLt a b i) (G || anyGt a b i), 0)
  | 0, i, L, G, hi => by
    obtain rfl : i = a.length := by omega
    rw [anyLt_end, anyGt_end, Bool.or_false, Bool.or_false]
    refine .of 2 fun k hk => ?_
    obtain ⟨k, rfl⟩ : ∃ j, k = j + 2 := ⟨k - 2, by omega⟩
    rw [cut_Compare.l0, if_neg (by omega)]
    cases L <;> cases G <;> simp [cut_Compare.j1, cmpR]
  | d + 1, i, L, G, hi => by
    have hlt : i < a.length := by omega
    rw [anyLt_step a b i hlt, anyGt_step a b i hlt, ← Bool.or_assoc, ← Bool.or_assoc]
    refine (compare_l a b hl hb d (i + 1) (L || decide (a.getD i 0 < b.getD i 0)) (G || decide (b.getD i 0 < a.getD i 0)) (by omega)).step fun k => ?_
    rw [cut_Compare.l0, if_pos (by omega)]
    cases L <;> cases G <;> simp only [if_true, Bool.false_eq_true, if_false, Bool.true_or, Bool.false_or, w1 i (by omega), rdN, if_pos (show (0 : Int) ≤ (i : Int) by omega), if_pos (show (i : Int) < (a.length : Int) by omega), if_pos (show (i : Int) < (b.length : Int) by omega), gt_iff_lt]
def cmpV (a b : List Int) : Int × Int := if fitsV a b = true then (cmpR (anyLt a b 0) (anyGt a b 0), 0) else (0, 1)
theorem compare_ev (a b : List Int) (hb : a.length < 4611686018427387904) : Evt (fun k => cut_Compare.f k a b) (cmpV a b) := by
  unfold cut_Compare.f cmpV
  refine Evt.bind (fits_ev a b hb) ?_
  by_cases h : fitsV a b = true
  · rw [if_pos h]
    refine Evt.pos h ?_
    have := compare_l a b ((fitsV_iff a b).1 h).1 hb a.length 0 false false (by omega)
    rw [Bool.false_or, Bool.false_or] at this
    exact this
  · rw [if_neg h]; exact Evt.neg h (Evt.ret _)
def leV (a b : List Int) : Bool := fitsV a b && !anyGt a b 0
theorem leV_iff (a b : List Int) : leV a b = true ↔ fitsV a b = true ∧ ∀ i, i < a.length → a.getD i 0 ≤ b.getD i 0 := by
  unfold leV
  rw [Bool.and_eq_true, Bool.not_eq_true']
  refine and_congr_right fun _ => ?_
  constructor
  · intro h i hi
    by_cases hx : b.getD i 0 < a.getD i 0
    · exact absurd ((anyGt_iff a b 0).2 ⟨i, Nat.zero_le _, hi, hx⟩) (by rw [h]; decide)
    · omega
  · intro h
    cases hx : anyGt a b 0 with
    | false => rfl
    | true => obtain ⟨j, _, hj, hj2⟩ := (anyGt_iff a b 0).1 hx; have := h j hj; omega
theorem under_ev (a b : List Int) (hb : a.length < 4611686018427387904) : Evt (fun k => partsynclaw21_under.f k a b) (leV a b) := by
  unfold partsynclaw21_under.f
  refine Evt.bind (compare_ev a b hb) ?_
  unfold cmpV leV
  cases fitsV a b <;> cases hL : anyLt a b 0 <;> cases hG : anyGt a b 0 <;> simp [cmpR] <;> exact Evt.ret _

/-! Join, Meet, Equal -/
theorem zip_getD (f : Int → Int → Int) (a b : List Int) (i : Nat) (h1 : i < a.length) (h2 : i < b.length) : (List.zipWith f a b).getD i 0 = f (a.getD i 0) (b.getD i 0) := by
  have hl : i < (List.zipWith f a b).length := by rw [List.length_zipWith]; omega
  simp only [List.getD_eq_getElem?_getD, List.getElem?_eq_getElem h1, List.getElem?_eq_getElem h2, List.getElem?_eq_getElem hl, Option.getD_some, List.getElem_zipWith]
theorem zip_drop (f : Int → Int → Int) (a b : List Int) (i : Nat) (h1 : i < a.length) (h2 : i < b.length) : (List.zipWith f a b).drop i = f (a.getD i 0) (b.getD i 0) :: (List.zipWith f a b).drop (i + 1) := by
  have hl : i < (List.zipWith f a b).length := by rw [List.length_zipWith]; omega
  rw [List.drop_eq_getElem_cons hl, ← zip_getD f a b i h1 h2]
  congr 1
  simp only [List.getD_eq_getElem?_getD, List.getElem?_eq_getElem hl, Option.getD_some]
theorem join_l (a b : List Int) (hl : a.length = b.length) (hb : a.length < 17592186044416) : ∀ (d i : Nat) (out : List Int), i + d = a.length → out.length = i →
    Evt (fun k => cut_Join.l0 k a b out a.length i) (out ++ (List.zipWith mx a b).drop i, 0)
  | 0, i, out, hi, ho => by
    refine .of 1 fun k hk => ?_
    obtain ⟨k, rfl⟩ : ∃ j, k = j + 1 := ⟨k - 1, by omega⟩
    rw [cut_Join.l0, if_neg (by omega), List.drop_of_length_le (by rw [List.length_zipWith]; omega), List.append_nil]
  | d + 1, i, out, hi, ho => by
    rw [zip_drop mx a b i (by omega) (by omega)]
    have := (join_l a b hl hb d (i + 1) (out ++ [mx (a.getD i 0) (b.getD i 0)]) (by omega) (by simp [ho])).step (g' := fun k => cut_Join.l0 k a b out a.length i) fun k => by
      show cut_Join.l0 (k + 1) a b out a.length i = _
      rw [cut_Join.l0, if_pos (by omega), if_pos (by omega), if_pos (by omega), if_pos (by omega), if_pos (by omega), rdN, rdN, w1 i (by omega)]
    rwa [List.append_assoc] at this
theorem meet_l (a b : List Int) (hl : a.length = b.length) (hb : a.length < 17592186044416) : ∀ (d i : Nat) (out : List Int), i + d = a.length → out.length = i →
    Evt (fun k => cut_Meet.l0 k a b out a.length i) (out ++ (List.zipWith mn a b).drop i, 0)
  | 0, i, out, hi, ho => by
    refine .of 1 fun k hk => ?_
    obtain ⟨k, rfl⟩ : ∃ j, k = j + 1 := ⟨k - 1, by omega⟩
    rw [cut_Meet.l0, if_neg (by omega), List.drop_of_length_le (by rw [List.length_zipWith]; omega), List.append_nil]
  | d + 1, i, out, hi, ho => by
    rw [zip_drop mn a b i (by omega) (by omega)]
    have := (meet_l a b hl hb d (i + 1) (out ++ [mn (a.getD i 0) (b.getD i 0)]) (by omega) (by simp [ho])).step (g' := fun k => cut_Meet.l0 k a b out a.length i) fun k => by
      show cut_Meet.l0 (k + 1) a b out a.length i = _
      rw [cut_Meet.l0, if_pos (by omega), if_pos (by omega), if_pos (by omega), if_pos (by omega), if_pos (by omega), rdN, rdN, w1 i (by omega)]
    rwa [List.append_assoc] at this
def joinV (a b : List Int) : List Int × Int := if fitsV a b = true then (List.zipWith mx a b, 0) else ([], 1)
def meetV (a b : List Int) : List Int × Int := if fitsV a b = true then (List.zipWith mn a b, 0) else ([], 1)
theorem join_ev (a b : List Int) (hb : a.length < 17592186044416) : Evt (fun k => cut_Join.f k a b) (joinV a b) := by
  unfold cut_Join.f joinV
  refine Evt.bind (fits_ev a b (by omega)) ?_
  by_cases h : fitsV a b = true
  · rw [if_pos h]
    refine Evt.pos h ?_
    exact join_l a b ((fitsV_iff a b).1 h).1 hb a.length 0 [] (by omega) rfl
  · rw [if_neg h]; exact Evt.neg h (Evt.ret _)
theorem meet_ev (a b : List Int) (hb : a.length < 17592186044416) : Evt (fun k => cut_Meet.f k a b) (meetV a b) := by
  unfold cut_Meet.f meetV
  refine Evt.bind (fits_ev a b (by omega)) ?_
  by_cases h : fitsV a b = true
  · rw [if_pos h]
    refine Evt.pos h ?_
    exact meet_l a b ((fitsV_iff a b).1 h).1 hb a.length 0 [] (by omega) rfl
  · rw [if_neg h]; exact Evt.neg h (Evt.ret _)
theorem ext_getD (a b : List Int) (hl : a.length = b.length) (h : ∀ i, i < a.length → a.getD i 0 = b.getD i 0) : a = b := by
  apply List.ext_getElem hl
  intro i h1 h2
  have := h i h1
  simpa [List.getD_eq_getElem?_getD, List.getElem?_eq_getElem h1, List.getElem?_eq_getElem h2] using this
theorem equal_l (a b : List Int) (hl : a.length = b.length) (hb : a.length < 4611686018427387904) : ∀ (d i : Nat), i + d = a.length → (∀ j, j < i → a.getD j 0 = b.getD j 0) →
    Evt (fun k => slices_Equal_int_int.l0 k a b a.length i) (decide (a = b))
  | 0, i, hi, hp => by
    refine .of 1 fun k hk => ?_
    obtain ⟨k, rfl⟩ : ∃ j, k = j + 1 := ⟨k - 1, by omega⟩
    have : a = b := ext_getD a b hl (fun j hj => hp j (by omega))
    rw [slices_Equal_int_int.l0, if_neg (by omega), decide_eq_true this]
  | d + 1, i, hi, hp => by
    by_cases h1 : a.getD i 0 = b.getD i 0
    · refine (equal_l a b hl hb d (i + 1) (by omega) (fun j hj => by rcases Nat.lt_or_ge j i with h | h; exact hp j h; obtain rfl : j = i := (by omega); exact h1)).step fun k => ?_
      rw [slices_Equal_int_int.l0, if_pos (by omega), if_pos (by omega), if_pos (by omega), if_pos (by omega), rdN, rdN, if_pos h1, w1 i (by omega)]
    · refine .of 1 fun k hk => ?_
      obtain ⟨k, rfl⟩ : ∃ j, k = j + 1 := ⟨k - 1, by omega⟩
      have : a ≠ b := fun e => h1 (by rw [e])
      rw [slices_Equal_int_int.l0, if_pos (by omega), if_pos (by omega), if_pos (by omega), if_pos (by omega), rdN, rdN, if_neg h1, decide_eq_false this]
theorem equal_ev (a b : List Int) (hb : a.length < 4611686018427387904) : Evt (fun k => slices_Equal_int_int.f k a b) (decide (a = b)) := by
  by_cases hl : a.length = b.length
  · refine (equal_l a b hl hb a.length 0 (by omega) (fun j hj => by omega)).congr fun k => ?_
    unfold slices_Equal_int_int.f
    rw [if_pos (by omega)]; rfl
  · have : a ≠ b := fun e => hl (by rw [e])
    refine .of 0 fun k _ => ?_
    unfold slices_Equal_int_int.f
    rw [if_neg (by omega), decide_eq_false this]
end Go.Proofs.Ytkhiglincdognaa.PA
