/-
cut.Whole and cut.Floor: what they answer of valid logs.
Conditions: none (of logs that are not valid: their error).
-/
import Derived.Test.YtkhiglincdognaaSpecs
import Derived.Test.YtkhiglincdognaaPAx6
namespace Go.Proofs.Ytkhiglincdognaa.PA
open Go.RowKit Go.Proofs.YtkhiglincdognaaW.PrintWords Go.Proofs.YtkhiglincdognaaW.PrintLast Go.Proofs.YtkhiglincdognaaW.PrintMore
set_option linter.unusedVariables false
set_option linter.unusedSimpArgs false
open Classical

theorem nodup_len {l1 l2 : List Nat} (h : l1.Nodup) (hs : ∀ x ∈ l1, x ∈ l2) : l1.length ≤ l2.length := by
  induction l1 generalizing l2 with
  | nil => simp
  | cons a l ih =>
    obtain ⟨h1, h2⟩ := List.nodup_cons.1 h
    have ha := hs a (by simp)
    have := ih (l2 := l2.erase a) h2 (fun x hx => (List.mem_erase_of_ne (fun (e : x = a) => h1 (by rw [← e]; exact hx))).2 (hs x (by simp [hx])))
    rw [List.length_erase_of_mem ha] at this
    have : 0 < l2.length := List.length_pos_of_mem ha
    simp only [List.length_cons]; omega
theorem flat_mem {logs : List (List S50)} {s : S50} : s ∈ logs.flatten ↔ ∃ j, j < logs.length ∧ s ∈ logs.getD j [] := by
  rw [List.mem_flatten]
  constructor
  · rintro ⟨l, hl, hs⟩
    obtain ⟨j, hj, rfl⟩ := List.mem_iff_getElem.1 hl
    exact ⟨j, hj, by rw [List.getD_eq_getElem?_getD, List.getElem?_eq_getElem hj]; exact hs⟩
  · rintro ⟨j, hj, hs⟩
    rw [List.getD_eq_getElem?_getD, List.getElem?_eq_getElem hj] at hs
    exact ⟨_, List.getElem_mem hj, hs⟩
theorem cnt_one (m : Int) : ∀ (l : List S50), l.Pairwise (fun s t => s.f0 < t.f0) → cnt l m = if ∃ s ∈ l, s.f0 = m then 1 else 0
  | [], _ => by simp [cnt]
  | s :: l, h => by
    obtain ⟨h1, h2⟩ := List.pairwise_cons.1 h
    have ih := cnt_one m l h2
    unfold cnt at ih ⊢
    rw [List.countP_cons, ih]
    by_cases hs : s.f0 = m
    · have hn : ¬ ∃ t ∈ l, t.f0 = m := by rintro ⟨t, ht, he⟩; have := h1 t ht; omega
      rw [if_neg hn, if_pos (by simp [hs]), if_pos ⟨s, by simp, hs⟩]
    · rw [if_neg (by simp [hs] : ¬ ((s.f0 == m) = true)), Nat.add_zero]
      by_cases hl : ∃ t ∈ l, t.f0 = m
      · rw [if_pos hl, if_pos (by obtain ⟨t, ht, he⟩ := hl; exact ⟨t, by simp [ht], he⟩)]
      · rw [if_neg hl, if_neg]
        rintro ⟨t, ht, he⟩
        rcases List.mem_cons.1 ht with rfl | ht
        · exact hs he
        · exact hl ⟨t, ht, he⟩
theorem cnt_J (m : Int) : ∀ (ls : List (List S50)), (∀ l ∈ ls, l.Pairwise (fun s t => s.f0 < t.f0)) → cnt ls.flatten m = ((List.range ls.length).filter fun j => decide (has ls j m)).length
  | [], _ => by simp [cnt]
  | l :: ls, h => by
    have ih := cnt_J m ls (fun l' hl' => h l' (by simp [hl']))
    have h1 := cnt_one m l (h l (by simp))
    have e : cnt (l :: ls).flatten m = cnt l m + cnt ls.flatten m := by unfold cnt; rw [List.flatten_cons, List.countP_append]
    rw [e, ih, h1, List.length_cons, List.range_succ_eq_map, List.filter_cons, List.filter_map, ]
    have e2 : ((fun j => decide (has (l :: ls) j m)) ∘ Nat.succ) = fun j => decide (has ls j m) := by
      funext j
      show decide (has (l :: ls) (j + 1) m) = decide (has ls j m)
      rfl
    rw [e2]
    by_cases h0 : ∃ s ∈ l, s.f0 = m
    · have : decide (has (l :: ls) 0 m) = true := decide_eq_true h0
      rw [if_pos h0, if_pos this, List.length_cons, List.length_map]; omega
    · have : decide (has (l :: ls) 0 m) = false := decide_eq_false h0
      rw [if_neg h0, if_neg (by rw [this]; decide), List.length_map]; omega
/-- A commit is whole. -/
def goodW (logs : List (List S50)) (m : Int) : Prop := (∃ j, j < logs.length ∧ has logs j m) ∧ ∀ j, j < logs.length → ∀ s ∈ logs.getD j [], s.f0 = m → ∀ x ∈ s.f1, has logs x.toNat m
def goodC (S : List S50) (m : Int) : Prop := 0 < cnt S m ∧ cnt S m = (par S m).getD 0
theorem good_iff {b c : Int} {logs : List (List S50)} (h : LInv b c logs.length logs) (m : Int) : goodC logs.flatten m ↔ goodW logs m := by
  have hJ := cnt_J m logs (fun l hl => by
    obtain ⟨j, hj, rfl⟩ := List.mem_iff_getElem.1 hl
    have := h.asc j hj
    rwa [List.getD_eq_getElem?_getD, List.getElem?_eq_getElem hj] at this)
  obtain ⟨J, hJd⟩ : ∃ J, J = (List.range logs.length).filter fun j => decide (has logs j m) := ⟨_, rfl⟩
  rw [← hJd] at hJ
  have memJ : ∀ j, j ∈ J ↔ j < logs.length ∧ has logs j m := fun j => by rw [hJd, List.mem_filter, List.mem_range, decide_eq_true_eq]
  have ndJ : J.Nodup := by rw [hJd]; exact List.Nodup.sublist List.filter_sublist List.nodup_range
  have key : ∀ s ∈ logs.flatten, s.f0 = m → (J.length = s.f1.length ↔ ∀ x ∈ s.f1, has logs x.toNat m) := by
    intro s hs hm
    obtain ⟨j0, hj0, hs0⟩ := flat_mem.1 hs
    have hsh := h.sh j0 hj0 s hs0
    obtain ⟨N, hN⟩ : ∃ N : List Nat, N = s.f1.map Int.toNat := ⟨_, rfl⟩
    have lenN : N.length = s.f1.length := by rw [hN, List.length_map]
    have ndN : N.Nodup := by
      rw [hN, List.Nodup, List.pairwise_map]
      refine List.Pairwise.imp_of_mem (fun {a b} ha hb hab => ?_) hsh.1
      have := hsh.2.1 a ha
      have := hsh.2.1 b hb
      omega
    have JN : ∀ j ∈ J, j ∈ N := fun j hj => by
      obtain ⟨hj1, t, ht, he⟩ := (memJ j).1 hj
      have hsame := h.same j j0 hj1 hj0 t ht s hs0 (by omega)
      have := (h.sh j hj1 t ht).2.2
      rw [hsame] at this
      rw [hN]
      exact List.mem_map.2 ⟨(j : Int), this, by simp⟩
    rw [← lenN]
    constructor
    · intro hl x hx
      have hxN : x.toNat ∈ N := by rw [hN]; exact List.mem_map.2 ⟨x, hx, rfl⟩
      by_cases hxJ : x.toNat ∈ J
      · exact ((memJ _).1 hxJ).2
      · exfalso
        have := nodup_len (l1 := x.toNat :: J) (l2 := N) (List.nodup_cons.2 ⟨hxJ, ndJ⟩) (fun y hy => by
          rcases List.mem_cons.1 hy with rfl | hy
          · exact hxN
          · exact JN y hy)
        simp only [List.length_cons] at this
        omega
    · intro hall
      have h1 := nodup_len ndJ JN
      have h2 := nodup_len ndN (l2 := J) (fun y hy => by
        rw [hN] at hy
        obtain ⟨x, hx, rfl⟩ := List.mem_map.1 hy
        have := hsh.2.1 x hx
        exact (memJ _).2 ⟨by omega, hall x hx⟩)
      omega
  unfold goodC goodW
  rw [hJ]
  constructor
  · rintro ⟨h1, h2⟩
    obtain ⟨j, hj⟩ := List.exists_mem_of_length_pos h1
    obtain ⟨hj1, s, hs, hm⟩ := (memJ j).1 hj
    refine ⟨⟨j, hj1, s, hs, hm⟩, fun j' hj' s' hs' hm' => ?_⟩
    refine (key s' (flat_mem.2 ⟨j', hj', hs'⟩) hm').1 ?_
    rw [h2]
    have hsf := flat_mem.2 ⟨j, hj1, hs⟩
    unfold par
    cases hf : logs.flatten.reverse.find? (fun st => st.f0 == m) with
    | none =>
      have := List.find?_eq_none.1 hf s (by simpa using hsf)
      simp [hm] at this
    | some t =>
      have ht1 := List.mem_of_find?_eq_some hf
      have ht2 := List.find?_some hf
      simp only [List.mem_reverse] at ht1
      simp only [beq_iff_eq] at ht2
      obtain ⟨jt, hjt, htt⟩ := flat_mem.1 ht1
      simp only [Option.map_some, Option.getD_some]
      rw [h.same jt j' hjt hj' t htt s' hs' (by omega)]
  · rintro ⟨⟨j, hj, s, hs, hm⟩, hall⟩
    have hjJ := (memJ j).2 ⟨hj, s, hs, hm⟩
    refine ⟨List.length_pos_of_mem hjJ, ?_⟩
    have hsf := flat_mem.2 ⟨j, hj, hs⟩
    unfold par
    cases hf : logs.flatten.reverse.find? (fun st => st.f0 == m) with
    | none =>
      have := List.find?_eq_none.1 hf s (by simpa using hsf)
      simp [hm] at this
    | some t =>
      have ht1 := List.mem_of_find?_eq_some hf
      have ht2 := List.find?_some hf
      simp only [List.mem_reverse] at ht1
      simp only [beq_iff_eq] at ht2
      obtain ⟨jt, hjt, htt⟩ := flat_mem.1 ht1
      simp only [Option.map_some, Option.getD_some]
      exact (key t ht1 ht2).2 (hall jt hjt t htt ht2)
/-- n is the greatest up to which all commits behind b are whole. -/
def isWhole (b : Int) (logs : List (List S50)) (n : Int) : Prop := b ≤ n ∧ n ≤ 1073741824 ∧ (∀ m, b < m → m ≤ n → goodW logs m) ∧ ¬ goodW logs (n + 1)
theorem isWhole_uniq {b n n' : Int} {logs : List (List S50)} (h : isWhole b logs n) (h' : isWhole b logs n') : n = n' := by
  obtain ⟨h1, _, h3, h4⟩ := h
  obtain ⟨g1, _, g3, g4⟩ := h'
  rcases Int.lt_trichotomy n n' with g | g | g
  · exact absurd (g3 (n + 1) (by omega) (by omega)) h4
  · exact g
  · exact absurd (h3 (n' + 1) (by omega) (by omega)) g4
theorem good_le {b c : Int} {logs : List (List S50)} (h : LInv b c logs.length logs) {m : Int} (hg : goodW logs m) : b < m ∧ m ≤ c := by
  obtain ⟨⟨j, hj, s, hs, rfl⟩, _⟩ := hg
  exact h.rng j hj s hs
theorem whl_l {b : Int} {logs : List (List S50)} (hv : LInv b 1073741824 logs.length logs) : ∀ (d : Nat) (n : Int), n + d = 1073741825 → b ≤ n → n ≤ 1073741824 → (∀ m, b < m → m ≤ n → goodW logs m) → ∃ r, Evt (fun k => whl logs.flatten k n) r ∧ isWhole b logs r
  | 0, n, hd, hb, hn, hg => by omega
  | d + 1, n, hd, hb, hn, hg => by
    by_cases h : goodW logs (n + 1)
    · have hle := (good_le hv h).2
      obtain ⟨r, h1, h2⟩ := whl_l hv d (n + 1) (by omega) (by omega) hle (fun m h1 h2 => by rcases Int.lt_or_eq_of_le h2 with g | rfl; exact hg m h1 (by omega); exact h)
      obtain ⟨g1, g2⟩ := (good_iff hv (n + 1)).2 h
      exact ⟨r, h1.step fun k => by rw [whl, if_pos g1, if_pos g2], h2⟩
    · refine ⟨n, Evt.step (g := fun _ => some n) (Evt.ret n) fun k => ?_, hb, hn, hg, h⟩
      rw [whl]
      by_cases g1 : 0 < cnt logs.flatten (n + 1)
      · rw [if_pos g1, if_neg (fun g2 => h ((good_iff hv (n + 1)).1 ⟨g1, g2⟩))]
      · rw [if_neg g1]
theorem flat_len : ∀ (ls : List (List S50)) (B : Nat), (∀ l ∈ ls, l.length ≤ B) → ls.flatten.length ≤ ls.length * B
  | [], B, _ => by simp
  | l :: ls, B, h => by
    have := flat_len ls B (fun l' hl' => h l' (by simp [hl']))
    have := h l (by simp)
    rw [List.flatten_cons, List.length_append, List.length_cons, Nat.add_mul]
    omega
theorem whole_f {b : Int} {logs : List (List S50)} (hv : Valid b logs) : ∃ r, Evt (fun k => cut_whole.f k b logs) r ∧ isWhole b logs r := by
  obtain ⟨r, h1, h2⟩ := whl_l hv.inv (1073741825 - b).toNat b (by have := hv.b1; omega) (Int.le_refl _) hv.b1 (fun m h1 h2 => by omega)
  refine ⟨r, ?_, h2⟩
  unfold cut_whole.f
  refine Evt.pos ⟨hv.b0, hv.b1, ?_, ?_⟩ h1
  · have := flat_len logs 1073741824 (fun l hl => by
      obtain ⟨j, hj, rfl⟩ := List.mem_iff_getElem.1 hl
      have := hv.short j hj
      rwa [List.getD_eq_getElem?_getD, List.getElem?_eq_getElem hj] at this)
    have := hv.n1
    have : logs.length * 1073741824 ≤ 4 * 1073741824 := Nat.mul_le_mul_right _ this
    omega
  · rw [List.all_eq_true]
    intro s hs
    obtain ⟨j, hj, hsj⟩ := flat_mem.1 hs
    have := hv.inv.rng j hj s hsj
    have := hv.b0
    simp only [decide_eq_true_eq]; omega
theorem whole_ev {b : Int} {logs : List (List S50)} (hv : Valid b logs) : ∃ r, Evt (fun k => cut_Whole.f k b logs) (r, 0) ∧ isWhole b logs r := by
  obtain ⟨r, h1, h2⟩ := whole_f hv
  refine ⟨r, ?_, h2⟩
  unfold cut_Whole.f
  have hc := check_ev b logs
  rw [checkV_ok.2 hv] at hc
  exact Evt.bind hc (Evt.pos rfl (Evt.bind h1 (Evt.ret _)))
theorem whole_err {b : Int} {logs : List (List S50)} (hv : ¬ Valid b logs) : Evt (fun k => cut_Whole.f k b logs) (0, checkV b logs) := by
  unfold cut_Whole.f
  exact Evt.bind (check_ev b logs) (Evt.neg (fun h => hv (checkV_ok.1 h)) (Evt.ret _))


/-! Floor -/
/-- n is the least of w and of what stands ahead of each stamp that the cut's ends leave out. -/
def isFloor (logs : List (List S50)) (c : List Int) (w n : Int) : Prop :=
  n ≤ w ∧ (∀ i, i < logs.length → c.getD i 0 < ((logs.getD i []).length : Int) → n ≤ ((logs.getD i []).getD (c.getD i 0).toNat z50).f0 - 1) ∧
    (n = w ∨ ∃ i, i < logs.length ∧ c.getD i 0 < ((logs.getD i []).length : Int) ∧ n = ((logs.getD i []).getD (c.getD i 0).toNat z50).f0 - 1)
theorem floor_l {b : Int} {logs : List (List S50)} (hv : Valid b logs) {c : List Int} (hc : isCut logs c) (w : Int) : ∀ (d i : Nat) (n : Int), i + d = logs.length → n ≤ w → (∀ j, j < i → c.getD j 0 < ((logs.getD j []).length : Int) → n ≤ ((logs.getD j []).getD (c.getD j 0).toNat z50).f0 - 1) →
    (n = w ∨ ∃ j, j < logs.length ∧ c.getD j 0 < ((logs.getD j []).length : Int) ∧ n = ((logs.getD j []).getD (c.getD j 0).toNat z50).f0 - 1) → ∃ r, Evt (fun k => cut_Floor.l0 k c n logs logs.length i) (r, 0) ∧ isFloor logs c w r
  | 0, i, n, hi, h1, h2, h3 => by
    refine ⟨n, Evt.step (g := fun _ => some (n, 0)) (Evt.ret _) fun k => ?_, h1, fun j hj => h2 j (by omega), h3⟩
    rw [cut_Floor.l0, if_neg (by omega)]
  | d + 1, i, n, hi, h1, h2, h3 => by
    have hn := hv.n1
    have hcl := hc.1
    have hci := hc.2 i (by omega)
    by_cases hlt : c.getD i 0 < ((logs.getD i []).length : Int)
    · obtain ⟨f, hf⟩ : ∃ f, f = ((logs.getD i []).getD (c.getD i 0).toNat z50).f0 := ⟨_, rfl⟩
      have hfm : (logs.getD i []).getD (c.getD i 0).toNat z50 ∈ logs.getD i [] := by
        exact getD_mem _ _ (by omega)
      have hfr := hv.inv.rng i (by omega) _ hfm
      rw [← hf] at hfr
      have hb0 := hv.b0
      have ew : wrap64 (f - 1) = f - 1 := by unfold wrap64; omega
      have hmn : mn n (f - 1) ≤ n ∧ mn n (f - 1) ≤ f - 1 ∧ (mn n (f - 1) = n ∨ mn n (f - 1) = f - 1) := by unfold mn; split <;> omega
      obtain ⟨r, k1, k2⟩ := floor_l hv hc w d (i + 1) (mn n (f - 1)) (by omega) (by omega) (fun j hj hjl => by
        rcases Nat.lt_or_ge j i with g | g
        · have := h2 j g hjl; omega
        · obtain rfl : j = i := by omega
          rw [← hf]; exact hmn.2.1) (by
        rcases hmn.2.2 with e | e <;> rw [e]
        · exact h3
        · exact .inr ⟨i, by omega, hlt, by rw [← hf]⟩)
      refine ⟨r, k1.step fun k => ?_, k2⟩
      rw [cut_Floor.l0, if_pos (by omega), if_pos (by omega), if_pos (by omega), if_pos (by omega), rdN, rdL, if_pos hlt, if_pos hci.1, w1 i (by omega)]
      have er : rd_T50 (logs.getD i []) (c.getD i 0) = (logs.getD i []).getD (c.getD i 0).toNat z50 := rfl
      rw [er, ← hf, ew]
    · obtain ⟨r, k1, k2⟩ := floor_l hv hc w d (i + 1) n (by omega) h1 (fun j hj hjl => by
        rcases Nat.lt_or_ge j i with g | g
        · exact h2 j g hjl
        · obtain rfl : j = i := by omega
          exact absurd hjl hlt) h3
      refine ⟨r, k1.step fun k => ?_, k2⟩
      rw [cut_Floor.l0, if_pos (by omega), if_pos (by omega), if_pos (by omega), if_pos (by omega), rdN, rdL, if_neg hlt, w1 i (by omega)]
theorem floor_ev {b : Int} {logs : List (List S50)} (hv : Valid b logs) {c : List Int} (hc : isCut logs c) : ∃ w r, isWhole b logs w ∧ Evt (fun k => cut_Floor.f k b logs c) (r, 0) ∧ isFloor logs c w r := by
  obtain ⟨w, h1, h2⟩ := whole_f hv
  obtain ⟨r, k1, k2⟩ := floor_l hv hc w logs.length 0 w (by omega) (Int.le_refl _) (fun j hj => by omega) (.inl rfl)
  refine ⟨w, r, h2, ?_, k2⟩
  unfold cut_Floor.f
  have hp := place_ev b logs c
  rw [placeV_ok.2 ⟨hv, hc⟩] at hp
  exact Evt.bind hp (Evt.pos rfl (Evt.bind h1 k1))
theorem floor_err {b : Int} {logs : List (List S50)} {c : List Int} (h : placeV b logs c ≠ 0) : Evt (fun k => cut_Floor.f k b logs c) (0, placeV b logs c) := by
  unfold cut_Floor.f
  exact Evt.bind (place_ev b logs c) (Evt.neg h (Evt.ret _))
end Go.Proofs.Ytkhiglincdognaa.PA
