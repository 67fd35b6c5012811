/-
The cases: numbers, bools, cuts and logs are drawn from any codes, and the logs are valid.
Conditions: the codes are bytes, at most 1000.
-/
import Derived.Test.YtkhiglincdognaaSpec1
import Derived.Test.YtkhiglincdognaaLogs0
namespace Go.Proofs.Ytkhiglincdognaa.PA
open Go.RowKit Go.Proofs.YtkhiglincdognaaW.PrintWords Go.Proofs.YtkhiglincdognaaW.PrintLast Go.Proofs.YtkhiglincdognaaW.PrintMore
set_option linter.unusedVariables false
set_option linter.unusedSimpArgs false

def codesOk (cs : List Int) : Prop := (∀ x ∈ cs, 0 ≤ x ∧ x < 256) ∧ cs.length ≤ 1000
theorem int_tot {cs : List Int} (h : codesOk cs) (p n : Int) (hp : 0 ≤ p) : ∃ v q, partsynccase_Case_Int.f cs p n = some (v, q) ∧ 0 ≤ v ∧ (v < n ∨ v = 0) ∧ 0 ≤ q := by
  suffices hs : ∃ v q, partsynccase_Case_Int.f cs p n = some (v, q) by
    obtain ⟨v, q, e⟩ := hs
    exact ⟨v, q, e, int_bound h.1 hp h.2 e⟩
  have hl := h.2
  unfold partsynccase_Case_Int.f
  by_cases h1 : p ≥ (cs.length : Int)
  · rw [if_pos h1]; exact ⟨_, _, rfl⟩
  · have e1 : wrap64 (p + 1) = p + 1 := by unfold wrap64; omega
    have e2 : wrap64 (wrap64 (p + 1) - 1) = p := by rw [e1]; unfold wrap64; omega
    rw [if_neg h1, e2, if_pos hp]
    by_cases h2 : n < 1
    · rw [if_pos h2]; exact ⟨_, _, rfl⟩
    · rw [if_neg h2, if_pos (by omega), if_neg (by omega)]; exact ⟨_, _, rfl⟩
theorem bool_tot {cs : List Int} (h : codesOk cs) (p n : Int) (hp : 0 ≤ p) : ∃ b q, partsynccase_Case_Bool.f cs p n = some (b, q) ∧ 0 ≤ q := by
  obtain ⟨v, q, e, h1, h2, h3⟩ := int_tot h p n hp
  exact ⟨_, q, by unfold partsynccase_Case_Bool.f; rw [e, Option.bind_some], h3⟩

/-- c is a cut of the logs. -/
def isCut (logs : List (List S50)) (c : List Int) : Prop := c.length = logs.length ∧ ∀ i, i < logs.length → 0 ≤ c.getD i 0 ∧ c.getD i 0 ≤ ((logs.getD i []).length : Int)
theorem rdL (xs : List (List S50)) (i : Nat) : rd_L4 xs (i : Int) = xs.getD i [] := by unfold rd_L4; rw [Int.toNat_natCast]
theorem rdT (xs : List S50) (i : Nat) : rd_T50 xs (i : Int) = xs.getD i z50 := by unfold rd_T50; rw [Int.toNat_natCast]
theorem getD_set_self {α : Type} (l : List α) (i : Nat) (v d : α) (h : i < l.length) : (l.set i v).getD i d = v := by
  simp only [List.getD_eq_getElem?_getD, List.getElem?_set_self h, Option.getD_some]
theorem getD_set_ne {α : Type} (l : List α) (i j : Nat) (v d : α) (h : i ≠ j) : (l.set i v).getD j d = l.getD j d := by
  simp only [List.getD_eq_getElem?_getD, List.getElem?_set_ne h]
theorem cut_l {cs : List Int} (hc : codesOk cs) (logs : List (List S50)) (hn : logs.length ≤ 1000) (hs : ∀ i, i < logs.length → (logs.getD i []).length ≤ 1000000) : ∀ (d i : Nat) (c : List Int) (p : Int), i + d = logs.length → 0 ≤ p → c.length = logs.length →
    (∀ j, j < i → 0 ≤ c.getD j 0 ∧ c.getD j 0 ≤ ((logs.getD j []).length : Int)) → ∃ c' q, Evt (fun k => partsynccase_Case_Cut.l0 k logs c logs.length i cs p) (c', q) ∧ isCut logs c' ∧ 0 ≤ q
  | 0, i, c, p, hi, hp, hl, hb => by
    refine ⟨c, p, .of 1 fun k hk => ?_, ⟨hl, fun j hj => hb j (by omega)⟩, hp⟩
    obtain ⟨k, rfl⟩ : ∃ j, k = j + 1 := ⟨k - 1, by omega⟩
    rw [partsynccase_Case_Cut.l0, if_neg (by omega)]
  | d + 1, i, c, p, hi, hp, hl, hb => by
    have hsi := hs i (by omega)
    obtain ⟨v, q, e, h1, h2, h3⟩ := int_tot hc p (((logs.getD i []).length : Int) + 1) hp
    have ew : wrap64 (((logs.getD i []).length : Int) + 1) = ((logs.getD i []).length : Int) + 1 := by unfold wrap64; omega
    obtain ⟨c', q', h4, h5, h6⟩ := cut_l hc logs hn hs d (i + 1) (c.set i v) q (by omega) h3 (by simp [hl]) (fun j hj => by
      by_cases hji : j = i
      · subst hji; rw [getD_set_self _ _ _ _ (by omega)]; omega
      · rw [getD_set_ne _ _ _ _ _ (Ne.symm hji)]; exact hb j (by omega))
    refine ⟨c', q', h4.step fun k => ?_, h5, h6⟩
    rw [partsynccase_Case_Cut.l0, if_pos (by omega), if_pos (by omega), if_pos (by omega), rdL, ew, e, Option.bind_some, if_pos (by omega), w1 i (by omega), Int.toNat_natCast]
theorem cut_tot {cs : List Int} (hc : codesOk cs) (logs : List (List S50)) (hn : logs.length ≤ 1000) (hs : ∀ i, i < logs.length → (logs.getD i []).length ≤ 1000000) (p : Int) (hp : 0 ≤ p) :
    ∃ c q, Evt (fun k => partsynccase_Case_Cut.f k cs p logs) (c, q) ∧ isCut logs c ∧ 0 ≤ q := by
  obtain ⟨c, q, h1, h2, h3⟩ := cut_l hc logs hn hs logs.length 0 (List.replicate logs.length 0) p (by omega) hp (by simp) (fun j hj => by omega)
  refine ⟨c, q, h1.congr fun k => ?_, h2, h3⟩
  unfold partsynccase_Case_Cut.f
  rw [if_pos (by omega), if_pos (by omega), Int.toNat_natCast]; rfl
theorem num_l {cs : List Int} (hc : codesOk cs) (n : Nat) (hn : n ≤ 1000) : ∀ (d i : Nat) (c : List Int) (p : Int), i + d = n → 0 ≤ p → c.length = n →
    (∀ j, j < i → 0 ≤ c.getD j 0 ∧ c.getD j 0 ≤ 4) → ∃ c' q, Evt (fun k => partsynccase_Case_Numbers.l0 k c n i cs p) (c', q) ∧ (c'.length = n ∧ ∀ j, j < n → 0 ≤ c'.getD j 0 ∧ c'.getD j 0 ≤ 4) ∧ 0 ≤ q
  | 0, i, c, p, hi, hp, hl, hb => by
    refine ⟨c, p, .of 1 fun k hk => ?_, ⟨hl, fun j hj => hb j (by omega)⟩, hp⟩
    obtain ⟨k, rfl⟩ : ∃ j, k = j + 1 := ⟨k - 1, by omega⟩
    rw [partsynccase_Case_Numbers.l0, if_neg (by omega)]
  | d + 1, i, c, p, hi, hp, hl, hb => by
    obtain ⟨v, q, e, h1, h2, h3⟩ := int_tot hc p 5 hp
    obtain ⟨c', q', h4, h5, h6⟩ := num_l hc n hn d (i + 1) (c.set i v) q (by omega) h3 (by simp [hl]) (fun j hj => by
      by_cases hji : j = i
      · subst hji; rw [getD_set_self _ _ _ _ (by omega)]; omega
      · rw [getD_set_ne _ _ _ _ _ (Ne.symm hji)]; exact hb j (by omega))
    refine ⟨c', q', h4.step fun k => ?_, h5, h6⟩
    rw [partsynccase_Case_Numbers.l0, if_pos (by omega), e, Option.bind_some, if_pos (by omega), if_pos (by omega), w1 i (by omega), Int.toNat_natCast]
theorem num_tot {cs : List Int} (hc : codesOk cs) (n : Nat) (hn : n ≤ 1000) (p : Int) (hp : 0 ≤ p) :
    ∃ c q, Evt (fun k => partsynccase_Case_Numbers.f k cs p n) (c, q) ∧ (c.length = n ∧ ∀ j, j < n → 0 ≤ c.getD j 0 ∧ c.getD j 0 ≤ 4) ∧ 0 ≤ q := by
  obtain ⟨c, q, h1, h2, h3⟩ := num_l hc n hn n 0 (List.replicate n 0) p (by omega) hp (by simp) (fun j hj => by omega)
  refine ⟨c, q, h1.congr fun k => ?_, h2, h3⟩
  unfold partsynccase_Case_Numbers.f
  rw [if_pos (by omega), if_pos (by omega), Int.toNat_natCast, Option.bind_some, List.length_replicate]; rfl

/-! the logs -/
def shOk (n : Nat) (own : Int) (l : List Int) : Prop := l.Pairwise (· < ·) ∧ (∀ x ∈ l, 0 ≤ x ∧ x < n) ∧ own ∈ l
structure LInv (b c : Int) (n : Nat) (rows : List (List S50)) : Prop where
  len : rows.length = n
  asc : ∀ i, i < n → (rows.getD i []).Pairwise (fun s t => s.f0 < t.f0)
  rng : ∀ i, i < n → ∀ s ∈ rows.getD i [], b < s.f0 ∧ s.f0 ≤ c
  sh : ∀ i, i < n → ∀ s ∈ rows.getD i [], shOk n i s.f1
  same : ∀ i j, i < n → j < n → ∀ s ∈ rows.getD i [], ∀ t ∈ rows.getD j [], s.f0 = t.f0 → s.f1 = t.f1
theorem LInv.weaken {b c c' : Int} {n : Nat} {rows : List (List S50)} (h : LInv b c n rows) (hc : c ≤ c') : LInv b c' n rows := ⟨h.len, h.asc, fun i hi s hs => ⟨(h.rng i hi s hs).1, by have := (h.rng i hi s hs).2; omega⟩, h.sh, h.same⟩
theorem put_tot {cs : List Int} (hc : codesOk cs) (b c : Int) (n : Nat) (all : List Int) : ∀ (r : List Int) (rows : List (List S50)) (p : Int) (L : Nat), 0 ≤ p → LInv b (c + 1) n rows → b ≤ c →
    (∀ i, i < n → ∀ s ∈ rows.getD i [], s.f0 = c + 1 → s.f1 = all) → (∀ i ∈ r, 0 ≤ i ∧ i < n ∧ shOk n i all) → r.Pairwise (· < ·) → (∀ i ∈ r, ∀ s ∈ rows.getD i.toNat [], s.f0 ≤ c) → (∀ i, i < n → (rows.getD i []).length ≤ L) → L + r.length ≤ 999 →
    ∃ rows' q, lgPut cs all (c + 1) r rows p = some (rows', q) ∧ LInv b (c + 1) n rows' ∧ 0 ≤ q ∧ ∀ i, i < n → (rows'.getD i []).length ≤ L + r.length
  | [], rows, p, L, hp, hI, hbc, h1, h2, h3, h4, h5, h6 => ⟨rows, p, rfl, hI, hp, fun i hi => by have := h5 i hi; rw [List.length_nil]; omega⟩
  | i :: r, rows, p, L, hp, hI, hbc, h1, h2, h3, h4, h5, h6 => by
    obtain ⟨bb, q, e, hq⟩ := bool_tot hc p 14 hp
    obtain ⟨i0, i1, hsh⟩ := h2 i (by simp)
    obtain ⟨x, rfl⟩ : ∃ x : Nat, i = x := ⟨i.toNat, by omega⟩
    have hx : x < n := by omega
    have hlx := h5 x hx
    rw [List.length_cons] at h6
    have h4x := h4 x (by simp)
    rw [Int.toNat_natCast] at h4x
    have hpw := List.pairwise_cons.1 h3
    have hgd : (0 : Int) ≤ (x : Int) ∧ (x : Int) < (rows.length : Int) ∧ (rows.getD x []).length < 1000 := ⟨i0, by rw [hI.len]; omega, by omega⟩
    have hgo : ∀ rows2 : List (List S50), LInv b (c + 1) n rows2 → (∀ i, i < n → ∀ s ∈ rows2.getD i [], s.f0 = c + 1 → s.f1 = all) → (∀ i ∈ r, ∀ s ∈ rows2.getD i.toNat [], s.f0 ≤ c) → (∀ i, i < n → (rows2.getD i []).length ≤ L + 1) →
        ∃ rows' q', lgPut cs all (c + 1) r rows2 q = some (rows', q') ∧ LInv b (c + 1) n rows' ∧ 0 ≤ q' ∧ ∀ i, i < n → (rows'.getD i []).length ≤ L + (r.length + 1) := fun rows2 k1 k2 k3 k4 => by
      obtain ⟨rows', q', a1, a2, a3, a4⟩ := put_tot hc b c n all r rows2 q (L + 1) hq k1 hbc k2 (fun i hi => h2 i (List.mem_cons_of_mem _ hi)) hpw.2 k3 k4 (by omega)
      exact ⟨rows', q', a1, a2, a3, fun i hi => by have := a4 i hi; omega⟩
    have hun : lgPut cs all (c + 1) ((x : Int) :: r) rows p = lgPut cs all (c + 1) r (if bb = true then rows else rows.set x (rows.getD x [] ++ [⟨c + 1, all⟩])) q := by
      rw [lgPut, e, Option.bind_some, Int.toNat_natCast, if_pos hgd]
    rw [hun]
    cases bb with
    | true => exact hgo rows hI h1 (fun i hi => h4 i (List.mem_cons_of_mem _ hi)) (fun i hi => by have := h5 i hi; omega)
    | false =>
      rw [if_neg (show ¬ (false = true) by decide)]
      have gself : (rows.set x (rows.getD x [] ++ [⟨c + 1, all⟩])).getD x [] = rows.getD x [] ++ [⟨c + 1, all⟩] := getD_set_self _ _ _ _ (by rw [hI.len]; exact hx)
      have gne : ∀ j, j ≠ x → (rows.set x (rows.getD x [] ++ [⟨c + 1, all⟩])).getD j [] = rows.getD j [] := fun j hj => getD_set_ne _ _ _ _ _ (Ne.symm hj)
      have mem : ∀ j, j < n → ∀ s ∈ (rows.set x (rows.getD x [] ++ [⟨c + 1, all⟩])).getD j [], s ∈ rows.getD j [] ∨ (j = x ∧ s = ⟨c + 1, all⟩) := fun j hj s hs => by
        by_cases hjx : j = x
        · subst hjx
          rw [gself] at hs
          rcases List.mem_append.1 hs with h | h
          · exact .inl h
          · exact .inr ⟨rfl, by simpa using h⟩
        · rw [gne j hjx] at hs; exact .inl hs
      refine hgo _ ⟨by simp [hI.len], fun j hj => ?_, fun j hj s hs => ?_, fun j hj s hs => ?_, fun j j' hj hj' s hs t ht he => ?_⟩ (fun j hj s hs he => ?_) (fun j hj s hs => ?_) (fun j hj => ?_)
      · by_cases hjx : j = x
        · subst hjx
          rw [gself, List.pairwise_append]
          refine ⟨hI.asc j hj, by simp, fun s hs t ht => ?_⟩
          have := h4x s hs
          simp at ht
          subst ht
          show s.f0 < c + 1
          omega
        · rw [gne j hjx]; exact hI.asc j hj
      · rcases mem j hj s hs with h | ⟨_, rfl⟩
        · exact hI.rng j hj s h
        · exact ⟨by show b < c + 1; omega, by show c + 1 ≤ c + 1; omega⟩
      · rcases mem j hj s hs with h | ⟨rfl, rfl⟩
        · exact hI.sh j hj s h
        · exact hsh
      · rcases mem j hj s hs with h | ⟨_, rfl⟩ <;> rcases mem j' hj' t ht with h' | ⟨_, rfl⟩
        · exact hI.same j j' hj hj' s h t h' he
        · exact h1 j hj s h he
        · exact (h1 j' hj' t h' he.symm).symm
        · rfl
      · rcases mem j hj s hs with h | ⟨_, rfl⟩
        · exact h1 j hj s h he
        · rfl
      · have hlt := hpw.1 j hj
        obtain ⟨j0, j1, _⟩ := h2 j (List.mem_cons_of_mem _ hj)
        rw [gne j.toNat (by omega)] at hs
        exact h4 j (List.mem_cons_of_mem _ hj) s hs
      · by_cases hjx : j = x
        · subst hjx; rw [gself, List.length_append, List.length_singleton]; omega
        · rw [gne j hjx]; have := h5 j hj; omega
theorem shards_ok (n : Nat) (st : Int) : (lgShards n st).Pairwise (· < ·) ∧ ∀ x ∈ lgShards n st, 0 ≤ x ∧ x < n := by
  refine ⟨?_, fun x hx => lgShards_lt n st x hx⟩
  unfold lgShards
  rw [List.pairwise_map]
  refine List.Pairwise.imp (fun {a b} (h : a < b) => ?_) (List.pairwise_lt_range.sublist List.filter_sublist)
  show Int.ofNat a < Int.ofNat b
  exact Int.ofNat_lt.2 h
theorem fill_tot {cs : List Int} (hc : codesOk cs) (b : Int) (n : Nat) (hn : n ≤ 4) : ∀ (m : Nat) (c : Int) (rows : List (List S50)) (p : Int) (L : Nat), 0 ≤ p → LInv b c n rows → b ≤ c → (∀ i, i < n → (rows.getD i []).length ≤ L) → L + 4 * m ≤ 900 → c ≤ 1073741824 →
    ∃ rows' q, lgFill cs n m c rows p = some (rows', q) ∧ LInv b (min (c + m) 1073741824) n rows' ∧ 0 ≤ q ∧ ∀ i, i < n → (rows'.getD i []).length ≤ L + 4 * m
  | 0, c, rows, p, L, hp, hI, hbc, h5, h6, h7 => ⟨rows, p, rfl, hI.weaken (by omega), hp, fun i hi => by have := h5 i hi; omega⟩
  | m + 1, c, rows, p, L, hp, hI, hbc, h5, h6, h7 => by
    by_cases hc1 : c < 1073741824
    · obtain ⟨bb, q, e, hq⟩ := bool_tot hc p 12 hp
      cases bb with
      | true =>
        obtain ⟨rows', q', a1, a2, a3, a4⟩ := fill_tot hc b n hn m (c + 1) rows q L hq (hI.weaken (by omega)) (by omega) h5 (by omega) (by omega)
        refine ⟨rows', q', ?_, a2.weaken (by omega), a3, fun i hi => by have := a4 i hi; omega⟩
        rw [lgFill, if_pos hc1, e, Option.bind_some, if_pos rfl, a1]
      | false =>
        obtain ⟨s, q2, e2, hs1, hs2, hq2⟩ := int_tot hc q (2 ^ n - 1) hq
        obtain ⟨k1, k2⟩ := shards_ok n (1 + s)
        have hlen := lgShards_len n (1 + s)
        obtain ⟨rows2, q3, a1, a2, a3, a4⟩ := put_tot hc b c n (lgShards n (1 + s)) (lgShards n (1 + s)) rows q2 L hq2 (hI.weaken (by omega)) hbc
          (fun i hi t ht he => by have := (hI.rng i hi t ht).2; omega) (fun i hi => ⟨(k2 i hi).1, (k2 i hi).2, k1, k2, hi⟩) k1
          (fun i hi t ht => by have h := k2 i hi; exact (hI.rng i.toNat (by omega) t ht).2) h5 (by omega)
        obtain ⟨rows', q', b1, b2, b3, b4⟩ := fill_tot hc b n hn m (c + 1) rows2 q3 (L + 4) a3 a2 (by omega) (fun i hi => by have := a4 i hi; omega) (by omega) (by omega)
        refine ⟨rows', q', ?_, b2.weaken (by omega), b3, fun i hi => by have := b4 i hi; omega⟩
        rw [lgFill, if_pos hc1, e, Option.bind_some, if_neg (by simp), e2, Option.bind_some, a1, Option.bind_some, b1]
    · exact ⟨rows, p, by rw [lgFill, if_neg hc1], hI.weaken (by omega), hp, fun i hi => by have := h5 i hi; omega⟩
theorem LInv.take {b c : Int} {n : Nat} {rows : List (List S50)} (h : LInv b c n rows) (i m : Nat) (hi : i < n) : LInv b c n (rows.set i ((rows.getD i []).take m)) := by
  have sub : ∀ j, ((rows.set i ((rows.getD i []).take m)).getD j []).Sublist (rows.getD j []) := fun j => by
    by_cases hji : j = i
    · subst hji; rw [getD_set_self _ _ _ _ (by rw [h.len]; exact hi)]; exact List.take_sublist _ _
    · rw [getD_set_ne _ _ _ _ _ (Ne.symm hji)]; exact List.Sublist.refl _
  exact ⟨by simp [h.len], fun j hj => (h.asc j hj).sublist (sub j), fun j hj s hs => h.rng j hj s ((sub j).subset hs), fun j hj s hs => h.sh j hj s ((sub j).subset hs), fun j j' hj hj' s hs t ht => h.same j j' hj hj' s ((sub j).subset hs) t ((sub j').subset ht)⟩
theorem lcut_tot {cs : List Int} (hc : codesOk cs) (b c : Int) (n : Nat) : ∀ (m i : Nat) (rows : List (List S50)) (p : Int), i + m = n → 0 ≤ p → LInv b c n rows → (∀ j, j < n → (rows.getD j []).length ≤ 999) →
    ∃ rows' q, lgCut cs m i rows p = some (rows', q) ∧ LInv b c n rows' ∧ 0 ≤ q ∧ ∀ j, j < n → (rows'.getD j []).length ≤ 999
  | 0, i, rows, p, hi, hp, hI, hl => ⟨rows, p, rfl, hI, hp, hl⟩
  | m + 1, i, rows, p, hi, hp, hI, hl => by
    obtain ⟨bb, q, e, hq⟩ := bool_tot hc p 5 hp
    have hli := hl i (by omega)
    cases bb with
    | false =>
      obtain ⟨rows', q', a⟩ := lcut_tot hc b c n m (i + 1) rows q (by omega) hq hI hl
      refine ⟨rows', q', ?_, a.2⟩
      rw [lgCut, e, Option.bind_some, if_neg (by simp), a.1]
    | true =>
      obtain ⟨s, q2, e2, hs1, hs2, hq2⟩ := int_tot hc q (((rows.getD i []).length : Int) + 1) hq
      obtain ⟨rows', q', a⟩ := lcut_tot hc b c n m (i + 1) (rows.set i ((rows.getD i []).take s.toNat)) q2 (by omega) hq2 (hI.take i _ (by omega)) (fun j hj => by
        by_cases hji : j = i
        · subst hji; rw [getD_set_self _ _ _ _ (by rw [hI.len]; omega), List.length_take]; omega
        · rw [getD_set_ne _ _ _ _ _ (Ne.symm hji)]; exact hl j hj)
      refine ⟨rows', q', ?_, a.2⟩
      rw [lgCut, e, Option.bind_some, if_pos rfl, if_pos (by omega), e2, Option.bind_some, a.1]
/-- Valid logs. -/
structure Valid (b : Int) (logs : List (List S50)) : Prop where
  b0 : 0 ≤ b
  b1 : b ≤ 1073741824
  n0 : 1 ≤ logs.length
  n1 : logs.length ≤ 4
  inv : LInv b 1073741824 logs.length logs
theorem logs_tot {cs : List Int} (hc : codesOk cs) : ∃ b logs q, partsynccase_Case_Logs.f cs 0 = some (b, logs, q) ∧ Valid b logs ∧ b ≤ 1073741820 ∧ LInv b (b + 8) logs.length logs ∧ 0 ≤ q ∧ ∀ j, j < logs.length → (logs.getD j []).length ≤ 999 := by
  obtain ⟨b0, q1, e1, h1, h1', h1''⟩ := int_tot hc 0 3 (Int.le_refl _)
  obtain ⟨b1, q2, e2, h2⟩ := bool_tot hc q1 12 h1''
  obtain ⟨n, q3, e3, h3, h3', h3''⟩ := int_tot hc q2 4 h2
  obtain ⟨m, q4, e4, h4, h4', h4''⟩ := int_tot hc q3 9 h3''
  obtain ⟨b, hb⟩ : ∃ b : Int, b = if b1 = true then 1073741820 else b0 := ⟨_, rfl⟩
  have hbb : 0 ≤ b ∧ b ≤ 1073741820 := by rw [hb]; split <;> omega
  obtain ⟨nn, hnn⟩ : ∃ nn : Nat, (1 + n).toNat = nn := ⟨_, rfl⟩
  obtain ⟨mm, hmm⟩ : ∃ mm : Nat, m.toNat = mm := ⟨_, rfl⟩
  have hrep : ∀ i : Nat, (List.replicate nn ([] : List S50)).getD i [] = [] := fun i => by
    rw [List.getD_eq_getElem?_getD, List.getElem?_replicate]; split <;> rfl
  have hI0 : LInv b b nn (List.replicate nn []) := ⟨by simp, fun i _ => by rw [hrep]; exact List.Pairwise.nil, fun i _ s hs => by rw [hrep] at hs; simp at hs, fun i _ s hs => by rw [hrep] at hs; simp at hs, fun i j _ _ s hs => by rw [hrep] at hs; simp at hs⟩
  obtain ⟨rows, q5, e5, h5, h5', h5''⟩ := fill_tot hc b nn (by omega) mm b (List.replicate nn []) q4 0 h4'' hI0 (Int.le_refl _) (fun i _ => by rw [hrep]; simp) (by omega) (by omega)
  obtain ⟨rows2, q6, e6, h6, h6', h6''⟩ := lcut_tot hc b _ nn nn 0 rows q5 (by omega) h5' h5 (fun j hj => by have := h5'' j hj; omega)
  have hl := h6.len
  refine ⟨b, rows2, q6, ?_, ⟨hbb.1, by omega, by omega, by omega, by rw [hl]; exact h6.weaken (by omega)⟩, hbb.2, by rw [hl]; exact h6.weaken (by omega), h6', by rw [hl]; exact h6''⟩
  unfold partsynccase_Case_Logs.f
  rw [if_pos ⟨hc.1, Int.le_refl _, hc.2⟩, e1, Option.bind_some, e2, Option.bind_some, e3, Option.bind_some, e4, Option.bind_some]
  simp only [hnn, hmm, ← hb, e5, e6, Option.bind_some]
end Go.Proofs.Ytkhiglincdognaa.PA
