/-
The reference's Closed and Close: they answer as the program does.
Conditions: none.
-/
import Derived.Test.YtkhiglincdognaaRefA
import Derived.Test.YtkhiglincdognaaPBase
import Derived.Test.YtkhiglincdognaaRClose
namespace Go.Proofs.Ytkhiglincdognaa.PA
open Go.RowKit Go.Proofs.YtkhiglincdognaaW.PrintWords Go.Proofs.YtkhiglincdognaaW.PrintLast Go.Proofs.YtkhiglincdognaaW.PrintMore
set_option linter.unusedVariables false
set_option linter.unusedSimpArgs false
open Classical

theorem isIn_idx {b : Int} {logs : List (List S50)} (hv : Valid b logs) {c : List Int} (hc : isCut logs c) (t : Nat) (ht : t < logs.length) (m : Int) (a : Nat) (ha : a < (logs.getD t []).length) (he : ((logs.getD t []).getD a z50).f0 = m) : isIn (cutOf logs c t) m = true ↔ (a : Int) < c.getD t 0 := by
  rw [isIn_iff]
  have hct := hc.2 t ht
  have hp := List.pairwise_iff_getElem.1 (hv.inv.asc t ht)
  rw [getD_get _ _ ha] at he
  constructor
  · rintro ⟨s, hs, hm⟩
    unfold cutOf at hs
    obtain ⟨x, hx, hxe⟩ := List.mem_iff_getElem.1 hs
    rw [List.length_take] at hx
    rw [List.getElem_take] at hxe
    have hxl : x < (logs.getD t []).length := by omega
    rw [← hxe] at hm
    rcases Nat.lt_trichotomy a x with g | g | g
    · have := hp a x ha hxl g; omega
    · omega
    · have := hp x a hxl ha g; omega
  · intro h
    have := mem_take_getD (logs.getD t []) a (c.getD t 0).toNat (by omega) ha
    rw [getD_get _ _ ha] at this
    exact ⟨_, this, he⟩
theorem rlack_l2 {b : Int} {logs : List (List S50)} (hv : Valid b logs) {c : List Int} (hc : isCut logs c) (i x : Nat) (Y : List S50) (hx : x < 4611686018427387903) (st : S50) (hsh : st.f1.length ≤ 4 ∧ ∀ t ∈ st.f1, 0 ≤ t ∧ t < (logs.length : Int)) (r : Int × Int × Bool) : ∀ (d y : Nat), y + d = st.f1.length →
    ((∀ t ∈ st.f1.drop y, isIn (cutOf logs c t.toNat) st.f0 = true) → Evt (fun k => partsyncref21_lacking.l1 k logs c i logs logs.length i Y Y.length ((x + 1 : Nat) : Int)) r) →
    Evt (fun k => partsyncref21_lacking.l2 k logs c i x logs logs.length i Y Y.length x st.f1 st.f1.length y st.f0 st.f1) (if ∀ t ∈ st.f1.drop y, isIn (cutOf logs c t.toNat) st.f0 = true then r else ((i : Int), (x : Int), true))
  | 0, y, hy, hr => by
    rw [List.drop_of_length_le (by omega)] at hr ⊢
    rw [if_pos (fun t ht => by simp at ht)]
    exact (hr fun t ht => by simp at ht).step fun k => by rw [partsyncref21_lacking.l2, if_neg (by omega), w1 x (by omega)]
  | d + 1, y, hy, hr => by
    have hn := hv.n1
    have hcl := hc.1
    have hyl : y < st.f1.length := by omega
    have eD : st.f1.drop y = st.f1.getD y 0 :: st.f1.drop (y + 1) := by rw [List.drop_eq_getElem_cons hyl, List.getD_eq_getElem?_getD, List.getElem?_eq_getElem hyl]; rfl
    have hm : st.f1.getD y 0 ∈ st.f1 := by rw [List.getD_eq_getElem?_getD, List.getElem?_eq_getElem hyl]; exact List.getElem_mem _
    obtain ⟨v, hv2⟩ : ∃ v : Nat, st.f1.getD y 0 = v := ⟨(st.f1.getD y 0).toNat, by have := hsh.2 _ hm; omega⟩
    have hvn := hsh.2 _ hm
    rw [hv2] at hvn
    have hvl : v < logs.length := by omega
    rw [eD, hv2] at hr ⊢
    have un : ∀ k, partsyncref21_lacking.l2 (k + 1) logs c i x logs logs.length i Y Y.length x st.f1 st.f1.length y st.f0 st.f1 = ((partsyncref21_find.f k (logs.getD v []) st.f0).bind fun t319 => (if t319 < 0 then (some ((i : Int), (x : Int), true)) else (if (v : Int) < (c.length : Int) then (if t319 ≥ (c.getD v 0) then (some ((i : Int), (x : Int), true)) else (partsyncref21_lacking.l2 k logs c i x logs logs.length i Y Y.length x st.f1 st.f1.length ((y + 1 : Nat) : Int) st.f0 st.f1)) else (none)))) := fun k => by
      rw [partsyncref21_lacking.l2, if_pos (by omega), if_pos (by omega), if_pos (by omega), rdN, hv2, if_pos (by omega), if_pos hvn.2, rdL, rdN, w1 y (by omega)]
    have cons : isIn (cutOf logs c v) st.f0 = true → ((∀ t ∈ (v : Int) :: st.f1.drop (y + 1), isIn (cutOf logs c t.toNat) st.f0 = true) ↔ (∀ t ∈ st.f1.drop (y + 1), isIn (cutOf logs c t.toNat) st.f0 = true)) := fun h =>
      ⟨fun g t ht => g t (List.mem_cons_of_mem _ ht), fun g t ht => by rcases List.mem_cons.1 ht with rfl | ht; simpa using h; exact g t ht⟩
    have no : ¬ isIn (cutOf logs c v) st.f0 = true → ¬ (∀ t ∈ (v : Int) :: st.f1.drop (y + 1), isIn (cutOf logs c t.toNat) st.f0 = true) := fun h g => h (by have := g v (by simp); simpa using this)
    rcases find_has hv v hvl st.f0 with ⟨h1, a, ha1, ha2, h2⟩ | ⟨h1, h2⟩
    · have hiff := isIn_idx hv hc v hvl st.f0 a ha1 ha2
      by_cases hin : (a : Int) < c.getD v 0
      · rw [cons (hiff.2 hin)] at hr
        simp only [cons (hiff.2 hin)]
        have ih := rlack_l2 hv hc i x Y hx st hsh r d (y + 1) (by omega) hr
        exact (Evt.bind h2 (Evt.neg (by omega) (Evt.pos (by omega) (Evt.neg (by omega) ih)))).step un
      · rw [if_neg (no fun h => hin (hiff.1 h))]
        exact (Evt.bind h2 (Evt.neg (by omega) (Evt.pos (by omega) (Evt.pos (by omega) (Evt.ret _))))).step un
    · rw [if_neg (no fun h => h1 (by
        obtain ⟨s, hs, hm2⟩ := (isIn_iff _ _).1 h
        exact ⟨s, List.mem_of_mem_take hs, hm2⟩))]
      exact (Evt.bind h2 (Evt.pos (by decide) (Evt.ret _))).step un
theorem badSt_all (logs : List (List S50)) (c : List Int) (st : S50) : (∀ t ∈ st.f1, isIn (cutOf logs c t.toNat) st.f0 = true) ↔ badSt logs c st = false := by
  unfold badSt
  rw [List.any_eq_false]
  exact forall_congr' fun t => forall_congr' fun ht => by simp
theorem rlack_l1 {b : Int} {logs : List (List S50)} (hv : Valid b logs) {c : List Int} (hc : isCut logs c) (i : Nat) (hi : i < logs.length) (Y : List S50) (hY : ∀ s ∈ Y, s ∈ logs.getD i []) (hYl : Y.length ≤ 1073741824) (r : Int × Int × Bool) : ∀ (d x : Nat), x + d = Y.length →
    ((∀ s ∈ Y.drop x, badSt logs c s = false) → Evt (fun k => partsyncref21_lacking.l0 k logs c logs logs.length ((i + 1 : Nat) : Int)) r) →
    Evt (fun k => partsyncref21_lacking.l1 k logs c i logs logs.length i Y Y.length x) (match (Y.drop x).findIdx? (badSt logs c) with | some k => ((i : Int), ((x + k : Nat) : Int), true) | none => r)
  | 0, x, hx, hr => by
    rw [List.drop_of_length_le (by omega)] at hr ⊢
    have hn := hv.n1
    exact (hr fun s hs => by simp at hs).step fun k => by rw [partsyncref21_lacking.l1, if_neg (by omega), w1 i (by omega)]
  | d + 1, x, hx, hr => by
    have hxl : x < Y.length := by omega
    have hm : Y.getD x z50 ∈ Y := getD_mem Y x hxl
    have hsh := hv.inv.sh i hi _ (hY _ hm)
    rw [dropT Y x hxl] at hr ⊢
    rw [List.findIdx?_cons]
    have h2 := rlack_l2 hv hc i x Y (by omega) (Y.getD x z50) ⟨by have := shOk_len hsh; have := hv.n1; omega, hsh.2.1⟩ (match (Y.drop (x + 1)).findIdx? (badSt logs c) with | some k => ((i : Int), ((x + 1 + k : Nat) : Int), true) | none => r) (Y.getD x z50).f1.length 0 (by omega) (fun hall => by
      rw [List.drop_zero, badSt_all] at hall
      exact rlack_l1 hv hc i hi Y hY hYl r d (x + 1) (by omega) (fun g => hr fun s hs => by rcases List.mem_cons.1 hs with rfl | hs; exact hall; exact g s hs))
    rw [List.drop_zero] at h2
    simp only [badSt_all] at h2
    refine Evt.step (g' := fun k => partsyncref21_lacking.l1 k logs c i logs logs.length i Y Y.length x) ?_ (fun k => by
      show partsyncref21_lacking.l1 (k + 1) logs c i logs logs.length i Y Y.length x = partsyncref21_lacking.l2 k logs c i x logs logs.length i Y Y.length x (Y.getD x z50).f1 (Y.getD x z50).f1.length 0 (Y.getD x z50).f0 (Y.getD x z50).f1
      rw [partsyncref21_lacking.l1, if_pos (by omega), if_pos (by omega), if_pos (by omega), rdT])
    cases hb : badSt logs c (Y.getD x z50) with
    | true =>
      rw [hb] at h2
      simpa using h2
    | false =>
      rw [hb] at h2
      simp only [if_true] at h2
      simp only [Bool.false_eq_true, if_false]
      cases hf : (Y.drop (x + 1)).findIdx? (badSt logs c) with
      | none => rw [hf] at h2; simpa using h2
      | some k =>
        rw [hf] at h2
        simp only [Option.map_some]
        have e : x + (k + 1) = x + 1 + k := by omega
        rw [e]; exact h2
theorem rlack_l0 {b : Int} {logs : List (List S50)} (hv : Valid b logs) {c : List Int} (hc : isCut logs c) : ∀ (d i : Nat), i + d = logs.length → Evt (fun k => partsyncref21_lacking.l0 k logs c logs logs.length i) (opn logs c d i)
  | 0, i, hi => Evt.one fun k => by rw [partsyncref21_lacking.l0, if_neg (by omega)]; rfl
  | d + 1, i, hi => by
    have hcl := hc.1
    have hci := hc.2 i (by omega)
    have hsh := hv.short i (by omega)
    have ih := rlack_l0 hv hc d (i + 1) (by omega)
    have h1 := rlack_l1 hv hc i (by omega) (cutOf logs c i) (fun s hs => List.mem_of_mem_take hs) (by unfold cutOf; rw [List.length_take]; omega) _ (cutOf logs c i).length 0 (by omega) (fun _ => ih)
    rw [List.drop_zero] at h1
    have h2 := h1.step (g' := fun k => partsyncref21_lacking.l0 k logs c logs logs.length i) fun k => by
      show partsyncref21_lacking.l0 (k + 1) logs c logs logs.length i = _
      rw [partsyncref21_lacking.l0, if_pos (by omega), if_pos (by omega), if_pos (by omega), if_pos (by omega), rdN, if_pos hci.1, rdL, if_pos hci.2, Option.bind_some]; rfl
    unfold opn
    cases hf : (cutOf logs c i).findIdx? (badSt logs c) with
    | none => rw [hf] at h2; exact h2
    | some k => rw [hf] at h2; simpa using h2
theorem rlack_ev {b : Int} {logs : List (List S50)} (hv : Valid b logs) {c : List Int} (hc : isCut logs c) : Evt (fun k => partsyncref21_lacking.f k logs c) (opn logs c logs.length 0) := by
  unfold partsyncref21_lacking.f
  exact rlack_l0 hv hc logs.length 0 (by omega)
theorem rclosed_ev (b : Int) (logs : List (List S50)) (c : List Int) : Evt (fun k => partsyncref21_Closed.f k b logs c) (closedV b logs c) := by
  unfold partsyncref21_Closed.f closedV
  refine Evt.bind (rplace_ev b logs c) ?_
  by_cases h : placeV b logs c = 0
  · obtain ⟨hv, hc⟩ := placeV_ok.1 h
    rw [if_pos h]
    refine Evt.pos h (Evt.bind (rlack_ev hv hc) ?_)
    rw [opn_closed]
    exact Evt.ret _
  · rw [if_neg h]
    exact Evt.neg h (Evt.ret _)
theorem rclose_l {b : Int} {logs : List (List S50)} (hv : Valid b logs) : ∀ (N : Nat) (c : List Int), isCut logs c → (c.map Int.toNat).sum ≤ N → ∀ p, Evt (fun k => cut_Close.l0 k logs c) (p, 0) → Evt (fun k => partsyncref21_Close.l0 k logs c) (p, 0) := by
  intro N
  induction N with
  | zero =>
    intro c hc hN p hp
    rcases opn_spec logs c logs.length 0 with ⟨i', k, h1, h2, h3, h4, h5⟩ | ⟨h1, h2⟩
    · have hi : i' < logs.length := by omega
      have hk : (k : Int) < c.getD i' 0 := by unfold cutOf at h4; rw [List.length_take] at h4; omega
      have hz := sum_set (c.map Int.toNat) i' 0 (by simp [hc.1]; exact hi)
      have hg : (c.map Int.toNat).getD i' 0 = (c.getD i' 0).toNat := by simp [List.getD_eq_getElem?_getD, List.getElem?_eq_getElem (show i' < c.length by rw [hc.1]; exact hi)]
      omega
    · have hq : (p, (0 : Int)) = (c, 0) := by
        obtain ⟨K, hK⟩ := hp
        have h := hK (K + 1) (by omega)
        have h : cut_Close.l0 (K + 1) logs c = some (p, 0) := h
        rw [cut_Close.l0, cut_open.f, if_pos (open_ok hv hc), Option.bind_some, h1, if_neg (by decide)] at h
        exact (Option.some.inj h).symm
      have hl := rlack_ev hv hc
      rw [h1] at hl
      rw [hq]
      refine Evt.step (g := ?gA1) ?hA1 ?eA1
      case eA1 => intro k; rw [partsyncref21_Close.l0]
      case hA1 => exact Evt.bind hl (Evt.neg (by simp) (Evt.ret _))
  | succ N ih =>
    intro c hc hN p hp
    have hl := rlack_ev hv hc
    rcases opn_spec logs c logs.length 0 with ⟨i', k, h1, h2, h3, h4, h5⟩ | ⟨h1, h2⟩
    · have hi : i' < logs.length := by omega
      have hic : i' < c.length := by rw [hc.1]; exact hi
      have hkl := h4
      unfold cutOf at hkl
      rw [List.length_take] at hkl
      have hk : (k : Int) < c.getD i' 0 := by omega
      have hz := sum_set (c.map Int.toNat) i' k (by simpa using hic)
      have hg : (c.map Int.toNat).getD i' 0 = (c.getD i' 0).toNat := by simp [List.getD_eq_getElem?_getD, List.getElem?_eq_getElem hic]
      have hm : (c.set i' (k : Int)).map Int.toNat = (c.map Int.toNat).set i' k := by rw [List.map_set]; rfl
      have hc2 : isCut logs (c.set i' (k : Int)) := ⟨by simp [hc.1], fun j hj => by
        by_cases hji : j = i'
        · subst hji; rw [getD_set_self _ _ _ _ hic]; omega
        · rw [getD_set_ne _ _ _ _ _ (Ne.symm hji)]; exact hc.2 j hj⟩
      have hp2 : Evt (fun k2 => cut_Close.l0 k2 logs (c.set i' (k : Int))) (p, 0) := by
        obtain ⟨K, hK⟩ := hp
        refine ⟨K, fun k2 hk2 => ?_⟩
        have h : cut_Close.l0 (k2 + 1) logs c = some (p, 0) := hK (k2 + 1) (by omega)
        rw [cut_Close.l0, cut_open.f, if_pos (open_ok hv hc), Option.bind_some, h1] at h
        rw [if_pos rfl, if_pos (by omega), if_pos (by omega), Int.toNat_natCast] at h
        exact h
      have h3' := ih (c.set i' (k : Int)) hc2 (by rw [hm]; omega) p hp2
      rw [h1] at hl
      refine Evt.step (g := ?gB) ?hB ?eB
      case eB => intro k2; rw [partsyncref21_Close.l0]
      case hB =>
        refine Evt.bind hl (Evt.pos rfl (Evt.pos ?_ (Evt.pos ?_ ?_)))
        · show (0 : Int) ≤ (i' : Int); omega
        · show (i' : Int) < (c.length : Int); omega
        · simp only [Int.toNat_natCast]
          exact h3'
    · have hq : (p, (0 : Int)) = (c, 0) := by
        obtain ⟨K, hK⟩ := hp
        have h : cut_Close.l0 (K + 1) logs c = some (p, 0) := hK (K + 1) (by omega)
        rw [cut_Close.l0, cut_open.f, if_pos (open_ok hv hc), Option.bind_some, h1, if_neg (by decide)] at h
        exact (Option.some.inj h).symm
      rw [h1] at hl
      rw [hq]
      refine Evt.step (g := ?gA2) ?hA2 ?eA2
      case eA2 => intro k; rw [partsyncref21_Close.l0]
      case hA2 => exact Evt.bind hl (Evt.neg (by simp) (Evt.ret _))
theorem close_both (b : Int) (logs : List (List S50)) (c : List Int) : ∃ r : List Int × Int, r.1.length ≤ 4 ∧ Evt (fun k => cut_Close.f k b logs c) r ∧ Evt (fun k => partsyncref21_Close.f k b logs c) r := by
  by_cases hp : placeV b logs c = 0
  · obtain ⟨hv, hc⟩ := placeV_ok.1 hp
    obtain ⟨p, h1, h2, _⟩ := close_l hv _ c hc (Nat.le_refl _)
    have h3 := rclose_l hv _ c hc (Nat.le_refl _) p h1
    have e1 := place_ev b logs c
    have e2 := rplace_ev b logs c
    rw [hp] at e1 e2
    have hl := hc.1
    have hn := hv.n1
    refine ⟨(p, 0), isCut_len hv h2, ?_, ?_⟩
    · unfold cut_Close.f
      refine Evt.bind e1 (Evt.pos rfl (Evt.bind (a := c) ?_ h1))
      unfold slices_Clone_int_int.f
      exact Evt.pos (by omega) (Evt.ret _)
    · unfold partsyncref21_Close.f
      refine Evt.bind e2 (Evt.pos rfl ?_)
      simp only [Option.bind_some, List.length_nil, Nat.zero_add, List.nil_append]
      exact Evt.pos (by omega) h3
  · refine ⟨([], placeV b logs c), Nat.zero_le _, ?_, ?_⟩
    · unfold cut_Close.f; exact Evt.bind (place_ev b logs c) (Evt.neg hp (Evt.ret _))
    · unfold partsyncref21_Close.f; exact Evt.bind (rplace_ev b logs c) (Evt.neg hp (Evt.ret _))
end Go.Proofs.Ytkhiglincdognaa.PA
