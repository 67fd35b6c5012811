/-
cut.Check: what it answers, of any logs.
Conditions: none.
-/
import Derived.Test.YtkhiglincdognaaSpec2
import Derived.Test.YtkhiglincdognaaHCheck
namespace Go.Proofs.Ytkhiglincdognaa.PA
open Go.RowKit Go.Proofs.YtkhiglincdognaaW.PrintWords Go.Proofs.YtkhiglincdognaaW.PrintLast Go.Proofs.YtkhiglincdognaaW.PrintMore
set_option linter.unusedVariables false
set_option linter.unusedSimpArgs false
open Classical

/-! shards -/
theorem asc_ge (l : List Int) (h : ∀ i, i < l.length → 0 ≤ l.getD i 0) (i : Nat) (hp : ∀ j, 0 < j → j < i → l.getD (j - 1) 0 < l.getD j 0) : ∀ j, j < i → j < l.length → (j : Int) ≤ l.getD j 0
  | 0, _, hl => by have := h 0 hl; omega
  | j + 1, hj, hl => by
    have h1 := asc_ge l h i hp j (by omega) (by omega)
    have h2 := hp (j + 1) (by omega) hj
    simp only [Nat.add_sub_cancel] at h2
    omega
def upTo (l : List Int) (n : Nat) (i : Nat) : Prop := ∀ j, j < i → 0 ≤ l.getD j 0 ∧ l.getD j 0 < n ∧ (0 < j → l.getD (j - 1) 0 < l.getD j 0)
theorem upTo_ge {l : List Int} {n i : Nat} (h : upTo l n i) : ∀ j, j < i → (j : Int) ≤ l.getD j 0
  | 0, hj => (h 0 hj).1
  | j + 1, hj => by
    have h1 := upTo_ge h j (by omega)
    have h2 := (h (j + 1) hj).2.2 (by omega)
    simp only [Nat.add_sub_cancel] at h2
    omega
theorem upTo_le {l : List Int} {n i : Nat} (h : upTo l n i) : i ≤ n := by
  rcases Nat.eq_zero_or_pos i with rfl | hi
  · omega
  · have h1 := upTo_ge h (i - 1) (by omega)
    have h2 := (h (i - 1) (by omega)).2.1
    omega
theorem upTo_iff (l : List Int) (n : Nat) (own : Int) : shOk n own l ↔ upTo l n l.length ∧ own ∈ l := by
  unfold shOk upTo
  have g : ∀ j (hj : j < l.length), l.getD j 0 = l[j] := fun j hj => by simp [List.getD_eq_getElem?_getD, List.getElem?_eq_getElem hj]
  constructor
  · rintro ⟨h1, h2, h3⟩
    refine ⟨fun j hj => ?_, h3⟩
    rw [g j hj]
    refine ⟨(h2 _ (List.getElem_mem _)).1, (h2 _ (List.getElem_mem _)).2, fun h0 => ?_⟩
    rw [g (j - 1) (by omega)]
    exact List.pairwise_iff_getElem.1 h1 (j - 1) j (by omega) hj (by omega)
  · rintro ⟨h1, h3⟩
    refine ⟨?_, fun x hx => ?_, h3⟩
    · rw [List.pairwise_iff_getElem]
      have : ∀ (d i : Nat) (hi : i < l.length) (hd : i + d + 1 < l.length), l[i] < l[i + d + 1] := fun d => by
        induction d with
        | zero =>
          intro i hi hd
          have := (h1 (i + 0 + 1) hd).2.2 (by omega)
          rw [g _ hd] at this
          simp only [Nat.add_zero, Nat.add_sub_cancel] at this
          rw [g i hi] at this
          simpa using this
        | succ d ih =>
          intro i hi hd
          have a := ih i hi (by omega)
          have b := (h1 (i + (d + 1) + 1) hd).2.2 (by omega)
          rw [g _ hd] at b
          have e : i + (d + 1) + 1 - 1 = i + d + 1 := by omega
          rw [e, g _ (by omega)] at b
          omega
      intro i j hi hj hij
      obtain ⟨d, rfl⟩ : ∃ d, j = i + d + 1 := ⟨j - i - 1, by omega⟩
      exact this d i hi hj
    · obtain ⟨j, hj, rfl⟩ := List.mem_iff_getElem.1 hx
      have := h1 j hj
      rw [g j hj] at this
      exact ⟨this.1, this.2.1⟩
theorem index_l (l : List Int) (x : Int) (hb : l.length < 4611686018427387904) : ∀ (d i : Nat), i + d = l.length → (∀ j, j < i → l.getD j 0 ≠ x) → ∃ r, Evt (fun k => slices_Index_int_int.l0 k l x l.length i) r ∧ (0 ≤ r ↔ x ∈ l)
  | 0, i, hi, hp => by
    refine ⟨-1, .of 1 fun k hk => ?_, ⟨fun h => absurd h (by decide), fun h => ?_⟩⟩
    · obtain ⟨k, rfl⟩ : ∃ j, k = j + 1 := ⟨k - 1, by omega⟩
      rw [slices_Index_int_int.l0, if_neg (by omega)]
    · obtain ⟨j, hj, rfl⟩ := List.mem_iff_getElem.1 h
      exact absurd (by simp [List.getD_eq_getElem?_getD, List.getElem?_eq_getElem hj]) (hp j (by omega))
  | d + 1, i, hi, hp => by
    by_cases h : x = l.getD i 0
    · refine ⟨i, .of 1 fun k hk => ?_, ⟨fun _ => ?_, fun _ => by omega⟩⟩
      · obtain ⟨k, rfl⟩ : ∃ j, k = j + 1 := ⟨k - 1, by omega⟩
        rw [slices_Index_int_int.l0, if_pos (by omega), if_pos (by omega), if_pos (by omega), rdN, if_pos h]
      · rw [h, List.getD_eq_getElem?_getD, List.getElem?_eq_getElem (show i < l.length by omega)]
        exact List.getElem_mem _
    · obtain ⟨r, h1, h2⟩ := index_l l x hb d (i + 1) (by omega) (fun j hj => by rcases Nat.lt_or_ge j i with g | g; exact hp j g; obtain rfl : j = i := (by omega); exact fun e => h e.symm)
      refine ⟨r, h1.step fun k => ?_, h2⟩
      rw [slices_Index_int_int.l0, if_pos (by omega), if_pos (by omega), if_pos (by omega), rdN, if_neg h, w1 i (by omega)]
theorem contains_ev (l : List Int) (x : Int) (hb : l.length < 4611686018427387904) : Evt (fun k => slices_Contains_int_int.f k l x) (decide (x ∈ l)) := by
  obtain ⟨r, h1, h2⟩ := index_l l x hb l.length 0 (by omega) (fun j hj => by omega)
  unfold slices_Contains_int_int.f
  refine Evt.bind (a := r) ?_ ?_
  · exact h1
  · have : decide (r ≥ 0) = decide (x ∈ l) := decide_eq_decide.2 h2
    rw [this]; exact Evt.ret _
theorem fit_l (l : List Int) (n : Nat) (own : Int) (hn : n ≤ 4) : ∀ (d i : Nat), i + d = 5 → i ≤ l.length → upTo l n i → Evt (fun k => cut_shardsFit.l0 k l n own l l.length i) (decide (shOk n own l))
  | 0, i, hi, hil, hu => by have := upTo_le hu; omega
  | d + 1, i, hi, hil, hu => by
    have hin := upTo_le hu
    by_cases hlt : i < l.length
    · have bad : ¬ upTo l n (i + 1) → decide (shOk n own l) = false := fun hb => decide_eq_false fun h => hb fun j hj => ((upTo_iff l n own).1 h).1 j (by omega)
      have at1 : ∀ r, (∀ k, cut_shardsFit.l0 (k + 1) l n own l l.length i = some r) → Evt (fun k => cut_shardsFit.l0 k l n own l l.length i) r := fun r h => .of 1 fun k hk => by
        obtain ⟨k, rfl⟩ : ∃ j, k = j + 1 := ⟨k - 1, by omega⟩
        exact h k
      by_cases h1 : l.getD i 0 < 0
      · rw [bad fun h => by have := (h i (by omega)).1; omega]
        exact at1 _ fun k => by rw [cut_shardsFit.l0, if_pos (by omega), if_pos (by omega), if_pos (by omega), rdN, if_pos h1]
      · by_cases h2 : l.getD i 0 ≥ (n : Int)
        · rw [bad fun h => by have := (h i (by omega)).2.1; omega]
          exact at1 _ fun k => by rw [cut_shardsFit.l0, if_pos (by omega), if_pos (by omega), if_pos (by omega), rdN, if_neg h1, if_pos h2]
        · by_cases h0 : i = 0
          · subst h0
            refine (fit_l l n own hn d 1 (by omega) (by omega) (fun j hj => by obtain rfl : j = 0 := (by omega); exact ⟨by omega, by omega, fun h => by omega⟩)).step fun k => ?_
            rw [cut_shardsFit.l0, if_pos (by omega), if_pos (by omega), if_pos (by omega), rdN, if_neg h1, if_neg h2, if_neg (by omega), w1 0 (by omega)]
          · have ew : wrap64 ((i : Int) - 1) = ((i - 1 : Nat) : Int) := by unfold wrap64; omega
            by_cases h3 : l.getD i 0 ≤ l.getD (i - 1) 0
            · rw [bad fun h => by have := (h i (by omega)).2.2 (by omega); omega]
              exact at1 _ fun k => by rw [cut_shardsFit.l0, if_pos (by omega), if_pos (by omega), if_pos (by omega), rdN, if_neg h1, if_neg h2, if_pos (by omega), ew, if_pos (by omega), if_pos (by omega), rdN, if_pos h3]
            · refine (fit_l l n own hn d (i + 1) (by omega) (by omega) (fun j hj => by
                rcases Nat.lt_or_ge j i with h | h
                · exact hu j h
                · obtain rfl : j = i := (by omega); exact ⟨by omega, by omega, fun h => by omega⟩)).step fun k => ?_
              rw [cut_shardsFit.l0, if_pos (by omega), if_pos (by omega), if_pos (by omega), rdN, if_neg h1, if_neg h2, if_pos (by omega), ew, if_pos (by omega), if_pos (by omega), rdN, if_neg h3, w1 i (by omega)]
    · obtain rfl : i = l.length := by omega
      have e : decide (shOk n own l) = decide (own ∈ l) := decide_eq_decide.2 ((upTo_iff l n own).trans ⟨fun h => h.2, fun h => ⟨hu, h⟩⟩)
      rw [e]
      refine (contains_ev l own (by omega)).step fun k => ?_
      rw [cut_shardsFit.l0, if_neg (by omega)]
      cases slices_Contains_int_int.f k l own <;> rfl
theorem fit_ev (l : List Int) (n : Nat) (own : Int) (hn : n ≤ 4) : Evt (fun k => cut_shardsFit.f k l n own) (decide (shOk n own l)) := by
  unfold cut_shardsFit.f
  exact fit_l l n own hn 5 0 (by omega) (by omega) (fun j hj => by omega)
theorem shOk_len {n : Nat} {own : Int} {l : List Int} (h : shOk n own l) : l.length ≤ n := upTo_le ((upTo_iff l n own).1 h).1

/-! Check -/
/-- A list is good behind the stamps P. -/
def good1 (n : Nat) (own : Int) (l : List S50) (last : Int) (P : List S50) : Prop :=
  l.Pairwise (fun s t => s.f0 < t.f0) ∧ (∀ s ∈ l, last < s.f0 ∧ s.f0 ≤ 1073741824 ∧ shOk n own s.f1 ∧ ∀ t ∈ P, t.f0 = s.f0 → t.f1 = s.f1)
def seenOk (seen : Seen) (P : List S50) : Prop := (∀ s ∈ P, seen s.f0 = some s.f1) ∧ ∀ j v, seen j = some v → ∃ s ∈ P, s.f0 = j
theorem good1_cons (n : Nat) (own : Int) (st : S50) (l : List S50) (last : Int) (P : List S50) :
    good1 n own (st :: l) last P ↔ (last < st.f0 ∧ st.f0 ≤ 1073741824 ∧ shOk n own st.f1 ∧ ∀ t ∈ P, t.f0 = st.f0 → t.f1 = st.f1) ∧ good1 n own l st.f0 (P ++ [st]) := by
  unfold good1
  rw [List.pairwise_cons]
  constructor
  · rintro ⟨⟨h1, h2⟩, h3⟩
    refine ⟨h3 st (by simp), h2, fun s hs => ⟨h1 s hs, (h3 s (by simp [hs])).2.1, (h3 s (by simp [hs])).2.2.1, fun t ht he => ?_⟩⟩
    rcases List.mem_append.1 ht with h | h
    · exact (h3 s (by simp [hs])).2.2.2 t h he
    · simp at h; subst h; have := h1 s hs; omega
  · rintro ⟨h1, h2, h3⟩
    refine ⟨⟨fun s hs => (h3 s hs).1, h2⟩, fun s hs => ?_⟩
    rcases List.mem_cons.1 hs with rfl | hs
    · exact h1
    · exact ⟨by have := (h3 s hs).1; omega, (h3 s hs).2.1, (h3 s hs).2.2.1, fun t ht he => (h3 s hs).2.2.2 t (by simp [ht]) he⟩
theorem seenOk_upd {seen : Seen} {P : List S50} {st : S50} (h : seenOk seen P) (hs : ∀ t ∈ P, t.f0 = st.f0 → t.f1 = st.f1) : seenOk (upd seen st.f0 st.f1) (P ++ [st]) := by
  refine ⟨fun s hm => ?_, fun j v hj => ?_⟩
  · unfold upd
    rcases List.mem_append.1 hm with g | g
    · by_cases e : s.f0 = st.f0
      · rw [if_pos e, hs s g e]
      · rw [if_neg e]; exact h.1 s g
    · simp at g; subst g; rw [if_pos rfl]
  · unfold upd at hj
    split at hj
    · rename_i e; exact ⟨st, by simp, e.symm⟩
    · obtain ⟨s, h1, h2⟩ := h.2 j v hj
      exact ⟨s, by simp [h1], h2⟩
theorem chk1_ev (n : Nat) (own : Int) (hn : n ≤ 4) : ∀ (l : List S50) (last : Int) (seen : Seen) (P : List S50), seenOk seen P → (∀ t ∈ P, t.f1.length ≤ 4) →
    (good1 n own l last P → ∃ s', Evt (fun k => chk1 k n own l last seen) (some s') ∧ seenOk s' (P ++ l)) ∧ (¬ good1 n own l last P → Evt (fun k => chk1 k n own l last seen) none)
  | [], last, seen, P, hs, hP => ⟨fun _ => ⟨seen, Evt.ret _, by simpa using hs⟩, fun h => absurd ⟨List.Pairwise.nil, fun s hs => by simp at hs⟩ h⟩
  | st :: l, last, seen, P, hs, hP => by
    rw [good1_cons]
    by_cases h1 : st.f0 ≤ last
    · refine ⟨fun h => by omega, fun _ => ?_⟩
      simp only [chk1, if_pos h1]; exact Evt.ret _
    · by_cases h2 : st.f0 > 1073741824
      · refine ⟨fun h => by omega, fun _ => ?_⟩
        simp only [chk1, if_neg h1, if_pos h2]; exact Evt.ret _
      · by_cases h3 : shOk n own st.f1
        · have ih := fun (hh : ∀ t ∈ P, t.f0 = st.f0 → t.f1 = st.f1) => chk1_ev n own hn l st.f0 (upd seen st.f0 st.f1) (P ++ [st]) (seenOk_upd hs hh) (fun t ht => by
            rcases List.mem_append.1 ht with g | g
            · exact hP t g
            · simp at g; subst g; have := shOk_len h3; omega)
          have hfe := fit_ev st.f1 n own hn
          rw [decide_eq_true h3] at hfe
          cases hsn : seen st.f0 with
          | none =>
            have hh : ∀ t ∈ P, t.f0 = st.f0 → t.f1 = st.f1 := fun t ht he => by
              have := hs.1 t ht
              rw [he, hsn] at this
              simp at this
            obtain ⟨i1, i2⟩ := ih hh
            have pass : ∀ r, Evt (fun k => chk1 k n own l st.f0 (upd seen st.f0 st.f1)) r → Evt (fun k => chk1 k n own (st :: l) last seen) r := fun r h => by
              simp only [chk1, if_neg h1, if_neg h2, hsn]
              exact Evt.bind hfe (Evt.pos rfl h)
            refine ⟨fun h => ?_, fun h => pass _ (i2 fun g => h ⟨⟨by omega, by omega, h3, hh⟩, g⟩)⟩
            obtain ⟨s', k1, k2⟩ := i1 h.2
            exact ⟨s', pass _ k1, by simpa using k2⟩
          | some o =>
            have ho : o.length ≤ 4 := by
              obtain ⟨t, ht, he⟩ := hs.2 _ _ hsn
              have := hs.1 t ht
              rw [he, hsn] at this
              injection this with this
              rw [this]; exact hP t ht
            by_cases ho2 : o = st.f1
            · have hh : ∀ t ∈ P, t.f0 = st.f0 → t.f1 = st.f1 := fun t ht he => by
                have := hs.1 t ht
                rw [he, hsn] at this
                injection this with this
                rw [← this, ho2]
              obtain ⟨i1, i2⟩ := ih hh
              have hq := equal_ev o st.f1 (by omega)
              rw [decide_eq_true ho2] at hq
              have pass : ∀ r, Evt (fun k => chk1 k n own l st.f0 (upd seen st.f0 st.f1)) r → Evt (fun k => chk1 k n own (st :: l) last seen) r := fun r h => by
                simp only [chk1, if_neg h1, if_neg h2, hsn]
                exact Evt.bind hfe (Evt.pos rfl (Evt.bind hq (Evt.pos rfl h)))
              refine ⟨fun h => ?_, fun h => pass _ (i2 fun g => h ⟨⟨by omega, by omega, h3, hh⟩, g⟩)⟩
              obtain ⟨s', k1, k2⟩ := i1 h.2
              exact ⟨s', pass _ k1, by simpa using k2⟩
            · have hq := equal_ev o st.f1 (by omega)
              rw [decide_eq_false ho2] at hq
              refine ⟨fun h => ?_, fun _ => ?_⟩
              · obtain ⟨t, ht, he⟩ := hs.2 _ _ hsn
                have e2 := hs.1 t ht
                rw [he, hsn] at e2
                injection e2 with e2
                exact absurd (e2.trans (h.1.2.2.2 t ht he)) ho2
              · simp only [chk1, if_neg h1, if_neg h2, hsn]
                exact Evt.bind hfe (Evt.pos rfl (Evt.bind hq (Evt.neg (by decide) (Evt.ret _))))
        · have hfe := fit_ev st.f1 n own hn
          rw [decide_eq_false h3] at hfe
          refine ⟨fun h => absurd h.1.2.2.1 h3, fun _ => ?_⟩
          simp only [chk1, if_neg h1, if_neg h2]
          exact Evt.bind hfe (Evt.neg (by decide) (Evt.ret _))
/-- The lists from list i on are good behind the stamps P. -/
def good0 (n : Nat) (base : Int) : List (List S50) → Int → List S50 → Prop
  | [], _, _ => True
  | l :: ls, i, P => good1 n i l base P ∧ good0 n base ls (i + 1) (P ++ l)
theorem chk0_ev (n : Nat) (base : Int) (hn : n ≤ 4) : ∀ (ls : List (List S50)) (i : Int) (seen : Seen) (P : List S50), seenOk seen P → (∀ t ∈ P, t.f1.length ≤ 4) →
    Evt (fun k => chk0 k n base ls i seen) (if good0 n base ls i P then 0 else 210)
  | [], i, seen, P, hs, hP => by
    rw [if_pos (show good0 n base [] i P from trivial)]
    exact Evt.ret _
  | l :: ls, i, seen, P, hs, hP => by
    obtain ⟨i1, i2⟩ := chk1_ev n i hn l base seen P hs hP
    by_cases h : good1 n i l base P
    · obtain ⟨s', k1, k2⟩ := i1 h
      have := chk0_ev n base hn ls (i + 1) s' (P ++ l) k2 (fun t ht => by
        rcases List.mem_append.1 ht with g | g
        · exact hP t g
        · have := shOk_len (h.2 t g).2.2.1; omega)
      have e : good0 n base (l :: ls) i P ↔ good0 n base ls (i + 1) (P ++ l) := ⟨fun g => g.2, fun g => ⟨h, g⟩⟩
      simp only [chk0, e]
      exact Evt.bind k1 this
    · have e : ¬ good0 n base (l :: ls) i P := fun g => h g.1
      rw [if_neg e]
      simp only [chk0]
      exact Evt.bind (i2 h) (Evt.ret _)
theorem good0_iff (n : Nat) (base : Int) : ∀ (ls : List (List S50)) (i : Nat) (P : List S50), good0 n base ls i P ↔
    (∀ x, x < ls.length → (ls.getD x []).Pairwise (fun s t => s.f0 < t.f0) ∧ ∀ s ∈ ls.getD x [], base < s.f0 ∧ s.f0 ≤ 1073741824 ∧ shOk n ((i + x : Nat) : Int) s.f1 ∧ (∀ t ∈ P, t.f0 = s.f0 → t.f1 = s.f1) ∧ ∀ y, y < x → ∀ t ∈ ls.getD y [], t.f0 = s.f0 → t.f1 = s.f1)
  | [], i, P => ⟨fun _ x hx => by simp at hx, fun _ => trivial⟩
  | l :: ls, i, P => by
    have ih := good0_iff n base ls (i + 1) (P ++ l)
    have ec : ((i : Int) + 1) = ((i + 1 : Nat) : Int) := by omega
    unfold good0
    rw [ec, ih]
    constructor
    · rintro ⟨⟨h1, h2⟩, h3⟩ x hx
      cases x with
      | zero => exact ⟨h1, fun s hs => ⟨(h2 s hs).1, (h2 s hs).2.1, (h2 s hs).2.2.1, (h2 s hs).2.2.2, fun y hy => by omega⟩⟩
      | succ x =>
        obtain ⟨g1, g2⟩ := h3 x (by simpa using hx)
        refine ⟨g1, fun s hs => ?_⟩
        obtain ⟨a1, a2, a3, a4, a5⟩ := g2 s hs
        refine ⟨a1, a2, by have e : i + (x + 1) = i + 1 + x := (by omega); rw [e]; exact a3, fun t ht => a4 t (by simp [ht]), fun y hy t ht => ?_⟩
        cases y with
        | zero => exact a4 t (by simp only [List.mem_append]; exact .inr ht)
        | succ y => exact a5 y (by omega) t ht
    · intro h
      refine ⟨?_, fun x hx => ?_⟩
      · obtain ⟨g1, g2⟩ := h 0 (by simp)
        exact ⟨g1, fun s hs => ⟨(g2 s hs).1, (g2 s hs).2.1, (g2 s hs).2.2.1, (g2 s hs).2.2.2.1⟩⟩
      · obtain ⟨g1, g2⟩ := h (x + 1) (by simpa using hx)
        refine ⟨g1, fun s hs => ?_⟩
        obtain ⟨a1, a2, a3, a4, a5⟩ := g2 s hs
        refine ⟨a1, a2, by have e : i + (x + 1) = i + 1 + x := (by omega); rw [← e]; exact a3, fun t ht => ?_, fun y hy t ht => a5 (y + 1) (by omega) t ht⟩
        rcases List.mem_append.1 ht with g | g
        · exact a4 t g
        · exact a5 0 (by omega) t g
theorem good0_valid (base : Int) (ls : List (List S50)) : good0 ls.length base ls 0 [] ↔ LInv base 1073741824 ls.length ls := by
  have := good0_iff ls.length base ls 0 []
  rw [show ((0 : Nat) : Int) = 0 from rfl] at this
  rw [this]
  constructor
  · intro h
    refine ⟨rfl, fun i hi => (h i hi).1, fun i hi s hs => ⟨((h i hi).2 s hs).1, ((h i hi).2 s hs).2.1⟩, fun i hi s hs => by have := ((h i hi).2 s hs).2.2.1; simpa using this, fun i j hi hj s hs t ht he => ?_⟩
    rcases Nat.lt_trichotomy i j with g | g | g
    · exact (((h j hj).2 t ht).2.2.2.2 i g s hs he)
    · subst g
      -- the same list: the same stamp
      obtain ⟨a, ha, rfl⟩ := List.mem_iff_getElem.1 hs
      obtain ⟨b, hb, rfl⟩ := List.mem_iff_getElem.1 ht
      have hp := List.pairwise_iff_getElem.1 (h i hi).1
      rcases Nat.lt_trichotomy a b with g | g | g
      · have := hp a b ha hb g; omega
      · subst g; rfl
      · have := hp b a hb ha g; omega
    · exact (((h i hi).2 s hs).2.2.2.2 j g t ht he.symm).symm
  · intro h x hx
    refine ⟨h.asc x hx, fun s hs => ⟨(h.rng x hx s hs).1, (h.rng x hx s hs).2, by have := h.sh x hx s hs; simpa using this, fun t ht => by simp at ht, fun y hy t ht he => h.same y x (by omega) hx t ht s hs he⟩⟩
noncomputable def checkV (b : Int) (logs : List (List S50)) : Int := if b < 0 ∨ 1073741824 < b ∨ logs.length = 0 ∨ 4 < logs.length then 1 else if LInv b 1073741824 logs.length logs then 0 else 210
theorem check_ev (b : Int) (logs : List (List S50)) : Evt (fun k => cut_Check.f k b logs) (checkV b logs) := by
  unfold cut_Check.f checkV
  by_cases h1 : b < 0
  · simp only [if_pos h1, h1, true_or, if_true]; exact Evt.ret _
  · by_cases h2 : b > 1073741824
    · rw [if_pos (.inr (.inl h2))]; simp only [if_neg h1, if_pos h2]; exact Evt.ret _
    · by_cases h3 : logs.length = 0
      · rw [if_pos (.inr (.inr (.inl h3)))]; simp only [if_neg h1, if_neg h2, if_pos h3]; exact Evt.ret _
      · by_cases h4 : logs.length > 4
        · rw [if_pos (.inr (.inr (.inr h4)))]; simp only [if_neg h1, if_neg h2, if_neg h3, if_pos h4]; exact Evt.ret _
        · rw [if_neg (by omega)]; simp only [if_neg h1, if_neg h2, if_neg h3, if_neg h4]
          have := chk0_ev logs.length b (by omega) logs 0 (fun _ => none) [] ⟨fun s hs => by simp at hs, fun j v h => by simp at h⟩ (fun t ht => by simp at ht)
          simp only [good0_valid] at this
          exact this
theorem checkV_ok {b : Int} {logs : List (List S50)} : checkV b logs = 0 ↔ Valid b logs := by
  unfold checkV
  constructor
  · intro h
    split at h
    · simp at h
    · split at h
      · rename_i h1 h2; exact ⟨by omega, by omega, by omega, by omega, h2⟩
      · simp at h
  · intro h
    rw [if_neg (by have := h.b0; have := h.b1; have := h.n0; have := h.n1; omega), if_pos h.inv]
end Go.Proofs.Ytkhiglincdognaa.PA
