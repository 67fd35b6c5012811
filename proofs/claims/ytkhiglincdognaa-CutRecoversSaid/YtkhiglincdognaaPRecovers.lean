/-
CutRecovers' plain law: over any codes its function answers true.
Conditions: the codes are bytes, at most 1000.
-/
import Derived.Test.YtkhiglincdognaaPBase
import Derived.Test.YtkhiglincdognaaSpec5
import Derived.Test.YtkhiglincdognaaPAx19
namespace Go.Proofs.Ytkhiglincdognaa.PA
open Go.RowKit Go.Proofs.YtkhiglincdognaaW.PrintWords Go.Proofs.YtkhiglincdognaaW.PrintLast Go.Proofs.YtkhiglincdognaaW.PrintMore
set_option linter.unusedVariables false
set_option linter.unusedSimpArgs false
open Classical

theorem LInv.sub {b c : Int} {n : Nat} {rows rows' : List (List S50)} (h : LInv b c n rows) (hl : rows'.length = n) (sub : ∀ j, j < n → (rows'.getD j []).Sublist (rows.getD j [])) : LInv b c n rows' :=
  ⟨hl, fun j hj => (h.asc j hj).sublist (sub j hj), fun j hj s hs => h.rng j hj s ((sub j hj).subset hs), fun j hj s hs => h.sh j hj s ((sub j hj).subset hs), fun j j' hj hj' s hs t ht => h.same j j' hj hj' s ((sub j hj).subset hs) t ((sub j' hj').subset ht)⟩
/-- The stamps of list i whose commits are at most n: those ahead of a stamp. -/
theorem asc_take {l : List S50} (h : l.Pairwise (fun s t => s.f0 < t.f0)) (k : Nat) (hk : k < l.length) {s : S50} (hs : s ∈ l) : s ∈ l.take k ↔ s.f0 < (l.getD k z50).f0 := by
  obtain ⟨a, ha, rfl⟩ := List.mem_iff_getElem.1 hs
  have hp := List.pairwise_iff_getElem.1 h
  have e : l.getD k z50 = l[k] := by rw [List.getD_eq_getElem?_getD, List.getElem?_eq_getElem hk]; rfl
  rw [e]
  constructor
  · intro hm
    obtain ⟨c, hc, hce⟩ := List.mem_iff_getElem.1 hm
    rw [List.length_take] at hc
    rw [List.getElem_take] at hce
    rw [← hce]
    exact hp c k (by omega) hk (by omega)
  · intro hlt
    have hak : a < k := by
      rcases Nat.lt_trichotomy a k with g | g | g
      · exact g
      · subst g; omega
      · have := hp k a hk ha g; omega
    have := mem_take_getD l a k hak ha
    rwa [List.getD_eq_getElem?_getD, List.getElem?_eq_getElem ha] at this
theorem left_whole {b : Int} {logs left : List (List S50)} (hv : Valid b logs) {c : List Int} (hc : isCut logs c) {w f : Int} (hw : isWhole b logs w) (hf : isFloor logs c w f) (hl : left.length = logs.length) (hcut : ∀ j, j < logs.length → left.getD j [] = cutOf logs c j) : isWhole b left f := by
  have hb0 := hv.b0
  -- below the ends, and behind them
  have inl : ∀ j, j < logs.length → ∀ s ∈ logs.getD j [], (s ∈ left.getD j [] ↔ ¬ (c.getD j 0 < ((logs.getD j []).length : Int) ∧ ((logs.getD j []).getD (c.getD j 0).toNat z50).f0 ≤ s.f0)) := fun j hj s hs => by
    rw [hcut j hj]
    unfold cutOf
    by_cases h : c.getD j 0 < ((logs.getD j []).length : Int)
    · have := hc.2 j hj
      rw [asc_take (hv.inv.asc j hj) _ (by omega) hs]
      constructor
      · intro g; omega
      · intro g; exact Int.not_le.1 fun q => g ⟨h, q⟩
    · have := hc.2 j hj
      rw [List.take_of_length_le (by omega)]
      exact ⟨fun _ g => h g.1, fun _ => hs⟩
  have subm : ∀ j, j < logs.length → ∀ s ∈ left.getD j [], s ∈ logs.getD j [] := fun j hj s hs => by rw [hcut j hj] at hs; exact List.mem_of_mem_take hs
  have has_iff : ∀ m, (∀ j, j < logs.length → c.getD j 0 < ((logs.getD j []).length : Int) → m < ((logs.getD j []).getD (c.getD j 0).toNat z50).f0) → ∀ j, j < logs.length → ∀ s, s.f0 = m → (s ∈ left.getD j [] ↔ s ∈ logs.getD j []) := fun m hm j hj s hs =>
    ⟨subm j hj s, fun h => (inl j hj s h).2 fun g => by have := hm j hj g.1; omega⟩
  have good_same : ∀ m, (∀ j, j < logs.length → c.getD j 0 < ((logs.getD j []).length : Int) → m < ((logs.getD j []).getD (c.getD j 0).toNat z50).f0) → (goodW left m ↔ goodW logs m) := fun m hm => by
    have hs := has_iff m hm
    have hh : ∀ j, j < logs.length → (has left j m ↔ has logs j m) := fun j hj =>
      ⟨fun ⟨s, h1, h2⟩ => ⟨s, (hs j hj s h2).1 h1, h2⟩, fun ⟨s, h1, h2⟩ => ⟨s, (hs j hj s h2).2 h1, h2⟩⟩
    unfold goodW
    rw [hl]
    constructor
    · rintro ⟨⟨j, hj, h1⟩, h2⟩
      refine ⟨⟨j, hj, (hh j hj).1 h1⟩, fun j' hj' s hs' hm' x hx => ?_⟩
      have hx2 := (hv.inv.sh j' hj' s hs').2.1 x hx
      exact (hh _ (by omega)).1 (h2 j' hj' s ((hs j' hj' s hm').2 hs') hm' x hx)
    · rintro ⟨⟨j, hj, h1⟩, h2⟩
      refine ⟨⟨j, hj, (hh j hj).2 h1⟩, fun j' hj' s hs' hm' x hx => ?_⟩
      have hs2 := (hs j' hj' s hm').1 hs'
      have hx2 := (hv.inv.sh j' hj' s hs2).2.1 x hx
      exact (hh _ (by omega)).2 (h2 j' hj' s hs2 hm' x hx)
  obtain ⟨w1, w2, w3, w4⟩ := hw
  obtain ⟨f1, f2, f3⟩ := hf
  have hbf : b ≤ f := by
    rcases f3 with rfl | ⟨i, hi, hil, rfl⟩
    · exact w1
    · have := hc.2 i hi
      have := hv.inv.rng i hi _ (getD_mem (logs.getD i []) (c.getD i 0).toNat (by omega))
      omega
  refine ⟨hbf, by omega, fun m hm1 hm2 => ?_, fun hg => ?_⟩
  · exact (good_same m fun j hj hjl => by have := f2 j hj hjl; omega).2 (w3 m hm1 (by omega))
  · by_cases hex : ∃ i, i < logs.length ∧ c.getD i 0 < ((logs.getD i []).length : Int) ∧ f + 1 = ((logs.getD i []).getD (c.getD i 0).toNat z50).f0
    · obtain ⟨i, hi, hil, he⟩ := hex
      have hci := hc.2 i hi
      have htm := getD_mem (logs.getD i []) (c.getD i 0).toNat (by omega)
      obtain ⟨⟨j, hj, s, hs, hsm⟩, hall⟩ := hg
      rw [hl] at hj
      have hs2 := subm j hj s hs
      have hsame := hv.inv.same j i hj hi s hs2 _ htm (by omega)
      have hown := (hv.inv.sh i hi _ htm).2.2
      rw [← hsame] at hown
      obtain ⟨t, ht, htm2⟩ := hall j (by rw [hl]; exact hj) s hs hsm i hown
      simp only [Int.toNat_natCast] at ht
      exact (inl i hi t (subm i hi t ht)).1 ht ⟨hil, by omega⟩
    · have h3 := (good_same (f + 1) fun j hj hjl => by
        have := f2 j hj hjl
        have : f + 1 ≠ ((logs.getD j []).getD (c.getD j 0).toNat z50).f0 := fun e => hex ⟨j, hj, hjl, e⟩
        omega).1 hg
      rcases f3 with rfl | ⟨i, hi, hil, he⟩
      · exact w4 h3
      · exact hex ⟨i, hi, hil, by omega⟩
theorem left_l {b : Int} {logs : List (List S50)} (hn : logs.length ≤ 4) {c : List Int} (hc : isCut logs c) (cs : List Int) (q : Int) (r : Bool × Int) (tail : List (List S50) → Nat → Option (Bool × Int))
    (htl : ∀ left k i, ¬ (i : Int) < (logs.length : Int) → partsynclaw21_CutRecovers.l0 (k + 1) b logs c left logs.length i cs q = tail left k)
    (hT : ∀ left, left.length = logs.length → (∀ j, j < logs.length → left.getD j [] = cutOf logs c j) → Evt (tail left) r) : ∀ (d i : Nat) (left : List (List S50)), i + d = logs.length → left.length = logs.length → (∀ j, j < i → left.getD j [] = cutOf logs c j) →
    Evt (fun k => partsynclaw21_CutRecovers.l0 k b logs c left logs.length i cs q) r
  | 0, i, left, hi, hl, hp => (hT left hl fun j hj => hp j (by omega)).step fun k => htl left k i (by omega)
  | d + 1, i, left, hi, hl, hp => by
    have hci := hc.2 i (by omega)
    have hcl := hc.1
    refine (left_l hn hc cs q r tail htl hT d (i + 1) (left.set i (cutOf logs c i)) (by omega) (by simp [hl]) (fun j hj => by
      by_cases hji : j = i
      · subst hji; rw [getD_set_self _ _ _ _ (by omega)]
      · rw [getD_set_ne _ _ _ _ _ (Ne.symm hji)]; exact hp j (by omega))).step fun k => ?_
    rw [partsynclaw21_CutRecovers.l0, if_pos (by omega), if_pos (by omega), if_pos (by omega), if_pos (by omega), rdN, if_pos hci.1, rdL, if_pos hci.2, if_pos (by omega), w1 i (by omega), Int.toNat_natCast]
    rfl
theorem recovers_plain (cs : List Int) (hc : codesOk cs) : ∃ q, Evt (fun k => partsynclaw21_CutRecovers.f k cs 0) (true, q) := by
  obtain ⟨b, logs, q1, e1, hv, hb, _, hq1, hsh⟩ := logs_tot hc
  have hn := hv.n1
  obtain ⟨x, q2, e2, hx, hq2⟩ := cut_tot hc logs (by omega) (fun i hi => by have := hsh i hi; omega) q1 hq1
  obtain ⟨w, f, hw, hfe, hf⟩ := floor_ev hv hx
  refine ⟨q2, ?_⟩
  unfold partsynclaw21_CutRecovers.f
  simp only [e1, Option.bind_some]
  refine Evt.bind e2 (Evt.pos (by omega) (Evt.pos (by omega) ?_))
  rw [Int.toNat_natCast]
  refine left_l hn hx cs q2 (true, q2) _ (fun left k i hi => by rw [partsynclaw21_CutRecovers.l0, if_neg hi]) (fun left hl hcut => ?_) logs.length 0 (List.replicate logs.length []) (by omega) (by simp) (fun j hj => by omega)
  have hv2 : Valid b left := ⟨hv.b0, hv.b1, by rw [hl]; exact hv.n0, by rw [hl]; exact hv.n1, by rw [hl]; exact hv.inv.sub hl (fun j hj => by rw [hcut j hj]; exact List.take_sublist _ _)⟩
  obtain ⟨r, hr, hrw⟩ := whole_ev hv2
  have hrf : r = f := isWhole_uniq hrw (left_whole hv hx hw hf hl hcut)
  exact Evt.bind hr (Evt.bind hfe (Evt.pos rfl (Evt.pos rfl (Evt.pos hrf (Evt.bind begun_ev (Evt.ret _))))))
theorem recovers_walk (l0 : List Int) (A : Option Addr) (cap : Nat) (W : World) (hC : (Kd.int .u8).C W A l0.length l0) (hc : l0.length ≤ cap) (hG : ∀ x ∈ l0, (Lit.int .u8 x).wf = true) :
    Calls Try.prog 7 #[.slice A l0.length cap] W fun e W' => e = .returned (.bool true) ∧ Below W.heap.size W W' := by
  obtain ⟨q, hq⟩ := recovers_plain _ (codes_ok 90 (by omega) hG)
  obtain ⟨k, hk⟩ := hq.get
  refine (partsynclaw21_CutRecovers.calls k A cap l0 true q W hC hc hk rfl).mono ?_
  rintro e w' ⟨w, w0, g, h1, h2, h3, h4, h5⟩
  exact ⟨h2, below_step h1 h4⟩
end Go.Proofs.Ytkhiglincdognaa.PA
