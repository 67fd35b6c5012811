/-
cut.Closed and cut.Close: what they answer.
Conditions: none (of logs that are not valid: their error).
-/
import Derived.Test.YtkhiglincdognaaSpec3
import Derived.Test.YtkhiglincdognaaClosed
namespace Go.Proofs.Ytkhiglincdognaa.PA
open Go.RowKit Go.Proofs.YtkhiglincdognaaW.PrintWords Go.Proofs.YtkhiglincdognaaW.PrintLast Go.Proofs.YtkhiglincdognaaW.PrintMore
set_option linter.unusedVariables false
set_option linter.unusedSimpArgs false
open Classical

theorem asc_len (b c : Int) : ∀ (l : List S50) (b' : Int), b ≤ b' → l.Pairwise (fun s t => s.f0 < t.f0) → (∀ s ∈ l, b' < s.f0 ∧ s.f0 ≤ c) → (l.length : Int) ≤ if l = [] then 0 else c - b'
  | [], b', _, _, _ => by simp
  | s :: l, b', hb, h1, h2 => by
    rw [if_neg (by simp)]
    have h3 := h2 s (by simp)
    have ih := asc_len b c l s.f0 (by omega) (List.pairwise_cons.1 h1).2 (fun t ht => ⟨(List.pairwise_cons.1 h1).1 t ht, (h2 t (by simp [ht])).2⟩)
    rw [List.length_cons]
    split at ih <;> omega
theorem Valid.short {b : Int} {logs : List (List S50)} (h : Valid b logs) (i : Nat) (hi : i < logs.length) : (logs.getD i []).length ≤ 1073741824 := by
  have h1 := asc_len b 1073741824 (logs.getD i []) b (Int.le_refl _) (h.inv.asc i hi) (h.inv.rng i hi)
  have := h.b0
  split at h1 <;> omega

noncomputable def placeV (b : Int) (logs : List (List S50)) (c : List Int) : Int := if checkV b logs = 0 then (if isCut logs c then 0 else 1) else checkV b logs
theorem placeV_ok {b : Int} {logs : List (List S50)} {c : List Int} : placeV b logs c = 0 ↔ Valid b logs ∧ isCut logs c := by
  unfold placeV
  constructor
  · intro h
    split at h
    · rename_i h1
      split at h
      · rename_i h2; exact ⟨checkV_ok.1 h1, h2⟩
      · simp at h
    · contradiction
  · rintro ⟨h1, h2⟩
    rw [if_pos (checkV_ok.2 h1), if_pos h2]
theorem place_l (logs : List (List S50)) (c : List Int) (hl : c.length = logs.length) (hb : logs.length ≤ 1000) : ∀ (d i : Nat), i + d = c.length → (∀ j, j < i → 0 ≤ c.getD j 0 ∧ c.getD j 0 ≤ ((logs.getD j []).length : Int)) →
    Evt (fun k => cut_checkCut.l0 k logs c c.length i) (if isCut logs c then 0 else 1)
  | 0, i, hi, hp => by
    refine .of 1 fun k hk => ?_
    obtain ⟨k, rfl⟩ : ∃ j, k = j + 1 := ⟨k - 1, by omega⟩
    rw [cut_checkCut.l0, if_neg (by omega), if_pos ⟨hl, fun j hj => hp j (by omega)⟩]
  | d + 1, i, hi, hp => by
    have at1 : ∀ r, (∀ k, cut_checkCut.l0 (k + 1) logs c c.length i = some r) → Evt (fun k => cut_checkCut.l0 k logs c c.length i) r := fun r h => .of 1 fun k hk => by
      obtain ⟨k, rfl⟩ : ∃ j, k = j + 1 := ⟨k - 1, by omega⟩
      exact h k
    by_cases h1 : c.getD i 0 < 0
    · rw [if_neg (fun h => by have := (h.2 i (by omega)).1; omega)]
      exact at1 _ fun k => by rw [cut_checkCut.l0, if_pos (by omega), if_pos (by omega), if_pos (by omega), rdN, if_pos h1]
    · by_cases h2 : c.getD i 0 > ((logs.getD i []).length : Int)
      · rw [if_neg (fun h => by have := (h.2 i (by omega)).2; omega)]
        exact at1 _ fun k => by rw [cut_checkCut.l0, if_pos (by omega), if_pos (by omega), if_pos (by omega), rdN, if_neg h1, if_pos (by omega), rdL, if_pos h2]
      · refine (place_l logs c hl hb d (i + 1) (by omega) (fun j hj => by rcases Nat.lt_or_ge j i with g | g; exact hp j g; obtain rfl : j = i := (by omega); omega)).step fun k => ?_
        rw [cut_checkCut.l0, if_pos (by omega), if_pos (by omega), if_pos (by omega), rdN, if_neg h1, if_pos (by omega), rdL, if_neg h2, w1 i (by omega)]
theorem place_ev (b : Int) (logs : List (List S50)) (c : List Int) : Evt (fun k => cut_checkCut.f k b logs c) (placeV b logs c) := by
  unfold cut_checkCut.f placeV
  refine Evt.bind (check_ev b logs) ?_
  by_cases h : checkV b logs = 0
  · rw [if_pos h]
    refine Evt.pos h ?_
    have hn := (checkV_ok.1 h).n1
    by_cases hl : c.length = logs.length
    · refine Evt.pos (by omega) ?_
      exact place_l logs c hl (by omega) c.length 0 (by omega) (fun j hj => by omega)
    · rw [if_neg (fun g => hl g.1)]
      exact Evt.neg (by omega) (Evt.ret _)
  · rw [if_neg h]
    exact Evt.neg h (Evt.ret _)

/-! open -/
theorem open_ok {b : Int} {logs : List (List S50)} {c : List Int} (hv : Valid b logs) (hc : isCut logs c) : openOk logs c = true := by
  unfold openOk
  simp only [Bool.and_eq_true, decide_eq_true_eq, List.all_eq_true, List.mem_range]
  refine ⟨⟨hc.1, by have := hv.n1; omega⟩, fun i hi => ⟨⟨(hc.2 i hi).1, (hc.2 i hi).2, by have := hv.short i hi; omega⟩, fun s hs => ⟨by have h1 := hv.inv.rng i hi s hs; have := hv.b0; omega, fun x hx => (hv.inv.sh i hi s hs).2.1 x hx⟩⟩⟩
theorem open_ev {b : Int} {logs : List (List S50)} {c : List Int} (hv : Valid b logs) (hc : isCut logs c) : Evt (fun k => cut_open.f k logs c) (opn logs c logs.length 0) := by
  unfold cut_open.f
  simp only [open_ok hv hc, if_true]
  exact Evt.ret _
theorem opn_spec (logs : List (List S50)) (c : List Int) : ∀ (m i : Nat),
    (∃ i' k : Nat, opn logs c m i = ((i' : Int), (k : Int), true) ∧ i ≤ i' ∧ i' < i + m ∧ k < (cutOf logs c i').length ∧ badSt logs c ((cutOf logs c i').getD k z50) = true) ∨
    (opn logs c m i = (0, 0, false) ∧ ∀ i', i ≤ i' → i' < i + m → ∀ st ∈ cutOf logs c i', badSt logs c st = false)
  | 0, i => .inr ⟨rfl, fun i' h1 h2 => by omega⟩
  | m + 1, i => by
    unfold opn
    cases hf : (cutOf logs c i).findIdx? (badSt logs c) with
    | some k =>
      obtain ⟨hk, hb, _⟩ := List.findIdx?_eq_some_iff_getElem.1 hf
      refine .inl ⟨i, k, rfl, Nat.le_refl _, by omega, hk, ?_⟩
      rw [List.getD_eq_getElem?_getD, List.getElem?_eq_getElem hk]; exact hb
    | none =>
      have hn := List.findIdx?_eq_none_iff.1 hf
      rcases opn_spec logs c m (i + 1) with ⟨i', k, h1, h2, h3, h4⟩ | ⟨h1, h2⟩
      · exact .inl ⟨i', k, h1, by omega, by omega, h4⟩
      · refine .inr ⟨h1, fun i' g1 g2 st hst => ?_⟩
        rcases Nat.eq_or_lt_of_le g1 with rfl | g
        · simpa using hn st hst
        · exact h2 i' g (by omega) st hst
def closedP (logs : List (List S50)) (c : List Int) : Prop := ∀ i, i < logs.length → ∀ st ∈ cutOf logs c i, badSt logs c st = false
noncomputable def closedV (b : Int) (logs : List (List S50)) (c : List Int) : Bool × Int := if placeV b logs c = 0 then (decide (closedP logs c), 0) else (false, placeV b logs c)
theorem opn_closed (logs : List (List S50)) (c : List Int) : (!(opn logs c logs.length 0).2.2) = decide (closedP logs c) := by
  rcases opn_spec logs c logs.length 0 with ⟨i', k, h1, h2, h3, h4, h5⟩ | ⟨h1, h2⟩
  · rw [h1]
    refine (decide_eq_false fun h => ?_).symm
    have := h i' (by omega) ((cutOf logs c i').getD k z50) (by rw [List.getD_eq_getElem?_getD, List.getElem?_eq_getElem h4]; exact List.getElem_mem _)
    rw [this] at h5; cases h5
  · rw [h1]
    have hcl : closedP logs c := fun i hi => h2 i (Nat.zero_le _) (by omega)
    rw [decide_eq_true hcl]; rfl
theorem closed_ev (b : Int) (logs : List (List S50)) (c : List Int) : Evt (fun k => cut_Closed.f k b logs c) (closedV b logs c) := by
  unfold cut_Closed.f closedV
  refine Evt.bind (place_ev b logs c) ?_
  by_cases h : placeV b logs c = 0
  · obtain ⟨hv, hc⟩ := placeV_ok.1 h
    rw [if_pos h]
    refine Evt.pos h ?_
    refine Evt.bind (open_ev hv hc) ?_
    rw [opn_closed]
    exact Evt.ret _
  · rw [if_neg h]
    exact Evt.neg h (Evt.ret _)

/-! Close -/
def leC (logs : List (List S50)) (p q : List Int) : Prop := ∀ i, i < logs.length → p.getD i 0 ≤ q.getD i 0
theorem sum_set (l : List Nat) (i v : Nat) (h : i < l.length) : (l.set i v).sum + l.getD i 0 = l.sum + v := by
  induction l generalizing i with
  | nil => simp at h
  | cons a l ih =>
    cases i with
    | zero => simp; omega
    | succ i =>
      have := ih i (by simpa using h)
      simp at this ⊢
      omega
theorem cutOf_sub {logs : List (List S50)} {p q : List Int} (x : Nat) (h : p.getD x 0 ≤ q.getD x 0) {st : S50} (hs : st ∈ cutOf logs p x) : st ∈ cutOf logs q x := by
  unfold cutOf at hs ⊢
  have e : ((logs.getD x []).take (p.getD x 0).toNat) = ((logs.getD x []).take (q.getD x 0).toNat).take (p.getD x 0).toNat := by rw [List.take_take]; congr 1; omega
  rw [e] at hs
  exact List.mem_of_mem_take hs
theorem isIn_iff (S : List S50) (n : Int) : isIn S n = true ↔ ∃ s ∈ S, s.f0 = n := by
  unfold isIn; rw [List.any_eq_true]; simp
theorem badSt_iff (logs : List (List S50)) (c : List Int) (st : S50) : badSt logs c st = false ↔ ∀ x ∈ st.f1, ∃ s ∈ cutOf logs c x.toNat, s.f0 = st.f0 := by
  unfold badSt
  rw [List.any_eq_false]
  refine forall_congr' fun x => forall_congr' fun hx => ?_
  rw [← isIn_iff]
  simp
theorem mem_take_getD (L : List S50) (k n : Nat) (h1 : k < n) (h2 : k < L.length) : L.getD k z50 ∈ L.take n := by
  have hk : k < (L.take n).length := by rw [List.length_take]; omega
  have h := List.getElem_mem hk
  rw [List.getElem_take] at h
  rwa [List.getD_eq_getElem?_getD, List.getElem?_eq_getElem h2, Option.getD_some]
theorem close_l {b : Int} {logs : List (List S50)} (hv : Valid b logs) : ∀ (N : Nat) (c : List Int), isCut logs c → (c.map Int.toNat).sum ≤ N →
    ∃ p, Evt (fun k => cut_Close.l0 k logs c) (p, 0) ∧ isCut logs p ∧ closedP logs p ∧ leC logs p c ∧ ∀ q, isCut logs q → closedP logs q → leC logs q c → leC logs q p := by
  intro N
  induction N with
  | zero =>
    intro c hc hN
    rcases opn_spec logs c logs.length 0 with ⟨i', k, h1, h2, h3, h4, h5⟩ | ⟨h1, h2⟩
    · have hi : i' < logs.length := by omega
      have hk : (k : Int) < c.getD i' 0 := by
        unfold cutOf at h4; rw [List.length_take] at h4; omega
      have hz := sum_set (c.map Int.toNat) i' 0 (by simp [hc.1]; exact hi)
      have hg : (c.map Int.toNat).getD i' 0 = (c.getD i' 0).toNat := by simp [List.getD_eq_getElem?_getD, List.getElem?_eq_getElem (show i' < c.length by rw [hc.1]; exact hi)]
      omega
    · refine ⟨c, Evt.step (g := fun k => some (c, 0)) (Evt.ret _) fun k => ?_, hc, fun i hi => h2 i (by omega) (by omega), fun i hi => Int.le_refl _, fun q _ _ h => h⟩
      rw [cut_Close.l0, cut_open.f, if_pos (open_ok hv hc), Option.bind_some, h1, if_neg (by decide)]
  | succ N ih =>
    intro c hc hN
    rcases opn_spec logs c logs.length 0 with ⟨i', k, h1, h2, h3, h4, h5⟩ | ⟨h1, h2⟩
    · have hi : i' < logs.length := by omega
      have hic : i' < c.length := by rw [hc.1]; exact hi
      have hkl := h4
      unfold cutOf at hkl
      rw [List.length_take] at hkl
      have hk : (k : Int) < c.getD i' 0 := by omega
      have hz := sum_set (c.map Int.toNat) i' k (by simpa using hic)
      have hg : (c.map Int.toNat).getD i' 0 = (c.getD i' 0).toNat := by simp [List.getD_eq_getElem?_getD, List.getElem?_eq_getElem hic]
      have hm : (c.set i' (k : Int)).map Int.toNat = (c.map Int.toNat).set i' k := by rw [List.map_set]; rfl
      have hc2 : isCut logs (c.set i' (k : Int)) := ⟨by simp [hc.1], fun j hj => by
        by_cases hji : j = i'
        · subst hji; rw [getD_set_self _ _ _ _ hic]; omega
        · rw [getD_set_ne _ _ _ _ _ (Ne.symm hji)]; exact hc.2 j hj⟩
      obtain ⟨p, g1, g2, g3, g4, g5⟩ := ih (c.set i' (k : Int)) hc2 (by rw [hm]; omega)
      refine ⟨p, g1.step fun k2 => ?_, g2, g3, fun j hj => ?_, fun q q1 q2 q3 => g5 q q1 q2 fun j hj => ?_⟩
      · rw [cut_Close.l0, cut_open.f, if_pos (open_ok hv hc), Option.bind_some, h1]
        rw [if_pos rfl, if_pos (by omega), if_pos (by omega), Int.toNat_natCast]
      · have := g4 j hj
        by_cases hji : j = i'
        · subst hji; rw [getD_set_self _ _ _ _ hic] at this; omega
        · rw [getD_set_ne _ _ _ _ _ (Ne.symm hji)] at this; exact this
      · by_cases hji : j = i'
        · subst hji
          rw [getD_set_self _ _ _ _ hic]
          refine Int.not_lt.1 fun hlt => ?_
          have hst : (cutOf logs c j).getD k z50 ∈ cutOf logs q j := by
            have e1 : (cutOf logs c j).getD k z50 = (logs.getD j []).getD k z50 := by
              unfold cutOf
              rw [List.getD_eq_getElem?_getD, List.getElem?_take_of_lt (by omega), ← List.getD_eq_getElem?_getD]
            have hq2 := q1.2 j hj
            rw [e1]
            exact mem_take_getD _ k _ (by omega) (by omega)
          have hbad := q2 j hj _ hst
          rw [badSt_iff] at hbad
          have : badSt logs c ((cutOf logs c j).getD k z50) = false := (badSt_iff _ _ _).2 fun x hx => by
            obtain ⟨s, hs1, hs2⟩ := hbad x hx
            have hxs : x.toNat < logs.length := by
              have hmem : (cutOf logs c j).getD k z50 ∈ logs.getD j [] := by
                have : (cutOf logs c j).getD k z50 ∈ cutOf logs c j := by rw [List.getD_eq_getElem?_getD, List.getElem?_eq_getElem h4]; exact List.getElem_mem _
                exact List.mem_of_mem_take this
              have := (hv.inv.sh j hj _ hmem).2.1 x hx
              omega
            exact ⟨s, cutOf_sub _ (q3 _ hxs) hs1, hs2⟩
          rw [this] at h5; cases h5
        · rw [getD_set_ne _ _ _ _ _ (Ne.symm hji)]; exact q3 j hj
    · refine ⟨c, Evt.step (g := fun k => some (c, 0)) (Evt.ret _) fun k => ?_, hc, fun i hi => h2 i (by omega) (by omega), fun i hi => Int.le_refl _, fun q _ _ h => h⟩
      rw [cut_Close.l0, cut_open.f, if_pos (open_ok hv hc), Option.bind_some, h1, if_neg (by decide)]
theorem close_ev {b : Int} {logs : List (List S50)} (hv : Valid b logs) {c : List Int} (hc : isCut logs c) :
    ∃ p, Evt (fun k => cut_Close.f k b logs c) (p, 0) ∧ isCut logs p ∧ closedP logs p ∧ leC logs p c ∧ ∀ q, isCut logs q → closedP logs q → leC logs q c → leC logs q p := by
  obtain ⟨p, h1, h2⟩ := close_l hv _ c hc (Nat.le_refl _)
  refine ⟨p, ?_, h2⟩
  unfold cut_Close.f
  have hp := place_ev b logs c
  rw [placeV_ok.2 ⟨hv, hc⟩] at hp
  refine Evt.bind hp (Evt.pos rfl ?_)
  refine Evt.bind (a := c) ?_ h1
  have := hc.1
  have := hv.n1
  unfold slices_Clone_int_int.f
  exact Evt.pos (by omega) (Evt.ret _)
end Go.Proofs.Ytkhiglincdognaa.PA
