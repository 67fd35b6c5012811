/-
The reference's Whole answers as the program's.
Conditions: none.
-/
import Derived.Test.YtkhiglincdognaaRefA
import Derived.Test.YtkhiglincdognaaSpec5
import Derived.Test.YtkhiglincdognaaPAx12
namespace Go.Proofs.Ytkhiglincdognaa.PA
open Go.RowKit Go.Proofs.YtkhiglincdognaaW.PrintWords Go.Proofs.YtkhiglincdognaaW.PrintLast Go.Proofs.YtkhiglincdognaaW.PrintMore
set_option linter.unusedVariables false
set_option linter.unusedSimpArgs false
open Classical

theorem rwhole_l1 {b : Int} {logs : List (List S50)} (hv : Valid b logs) (m : Int) (i : Nat) (hi : i < logs.length) (sh : List Int) (hsh : sh.length ≤ 4 ∧ ∀ x ∈ sh, 0 ≤ x ∧ x < (logs.length : Int)) (r : Bool) : ∀ (d x : Nat), x + d = sh.length →
    ((∀ y ∈ sh.drop x, has logs y.toNat m) → Evt (fun k => partsyncref21_whole.l0 k logs m true logs logs.length ((i + 1 : Nat) : Int)) r) →
    Evt (fun k => partsyncref21_whole.l1 k logs m true logs logs.length i sh sh.length x) (if ∀ y ∈ sh.drop x, has logs y.toNat m then r else false)
  | 0, x, hx, hr => by
    rw [List.drop_of_length_le (by omega)] at hr ⊢
    rw [if_pos (fun y hy => by simp at hy)]
    have hn := hv.n1
    exact (hr fun y hy => by simp at hy).step fun k => by rw [partsyncref21_whole.l1, if_neg (by omega), w1 i (by omega)]
  | d + 1, x, hx, hr => by
    have hxl : x < sh.length := by omega
    have eD : sh.drop x = sh.getD x 0 :: sh.drop (x + 1) := by rw [List.drop_eq_getElem_cons hxl, List.getD_eq_getElem?_getD, List.getElem?_eq_getElem hxl]; rfl
    have hm : sh.getD x 0 ∈ sh := by rw [List.getD_eq_getElem?_getD, List.getElem?_eq_getElem hxl]; exact List.getElem_mem _
    obtain ⟨v, hv2⟩ : ∃ v : Nat, sh.getD x 0 = v := ⟨(sh.getD x 0).toNat, by have := hsh.2 _ hm; omega⟩
    have hvn := hsh.2 _ hm
    rw [hv2] at hvn
    rw [eD, hv2] at hr ⊢
    have un : ∀ k, partsyncref21_whole.l1 (k + 1) logs m true logs logs.length i sh sh.length x = ((partsyncref21_find.f k (logs.getD v []) m).bind fun t169 => if t169 < 0 then some false else partsyncref21_whole.l1 k logs m true logs logs.length i sh sh.length ((x + 1 : Nat) : Int)) := fun k => by
      rw [partsyncref21_whole.l1, if_pos (by omega), if_pos (by omega), if_pos (by omega), rdN, hv2, if_pos (by omega), if_pos hvn.2, rdL, w1 x (by omega)]
    rcases find_has hv v (by omega) m with ⟨h1, a, ha1, ha2, h2⟩ | ⟨h1, h2⟩
    · have e : (∀ y ∈ (v : Int) :: sh.drop (x + 1), has logs y.toNat m) ↔ (∀ y ∈ sh.drop (x + 1), has logs y.toNat m) := ⟨fun g y hy => g y (List.mem_cons_of_mem _ hy), fun g y hy => by rcases List.mem_cons.1 hy with rfl | hy; simpa using h1; exact g y hy⟩
      rw [e] at hr
      simp only [e]
      have ih := rwhole_l1 hv m i hi sh hsh r d (x + 1) (by omega) hr
      exact (Evt.bind h2 (Evt.neg (by omega) ih)).step un
    · rw [if_neg (fun g => h1 (by have := g v (by simp); simpa using this))]
      exact (Evt.bind h2 (Evt.pos (by decide) (Evt.ret _))).step un
theorem rwhole_l0 {b : Int} {logs : List (List S50)} (hv : Valid b logs) (m : Int) : ∀ (d i : Nat) (f : Bool), i + d = logs.length → (f = true ↔ ∃ j, j < i ∧ has logs j m) → (∀ j, j < i → ∀ s ∈ logs.getD j [], s.f0 = m → ∀ x ∈ s.f1, has logs x.toNat m) →
    Evt (fun k => partsyncref21_whole.l0 k logs m f logs logs.length i) (decide (goodW logs m))
  | 0, i, f, hi, hf, hg => by
    have e : decide (goodW logs m) = f := by
      rw [Bool.eq_iff_iff, decide_eq_true_eq, hf]
      exact ⟨fun h => by obtain ⟨j, hj, h1⟩ := h.1; exact ⟨j, by omega, h1⟩, fun ⟨j, hj, h1⟩ => ⟨⟨j, by omega, h1⟩, fun j' hj' => hg j' (by omega)⟩⟩
    rw [e]
    exact Evt.one fun k => by rw [partsyncref21_whole.l0, if_neg (by omega)]
  | d + 1, i, f, hi, hf, hg => by
    have hn := hv.n1
    have un : ∀ k, partsyncref21_whole.l0 (k + 1) logs m f logs logs.length i = ((partsyncref21_find.f k (logs.getD i []) m).bind fun t165 => (if t165 ≥ 0 then (if 0 ≤ t165 then (if t165 < ((logs.getD i []).length : Int) then (partsyncref21_whole.l1 k logs m true logs logs.length i ((rd_T50 (logs.getD i []) t165).f1) (((rd_T50 (logs.getD i []) t165).f1).length : Int) 0) else (none)) else (none)) else (partsyncref21_whole.l0 k logs m f logs logs.length ((i + 1 : Nat) : Int)))) := fun k => by
      rw [partsyncref21_whole.l0, if_pos (by omega), if_pos (by omega), if_pos (by omega), rdL, w1 i (by omega)]
    rcases find_has hv i (by omega) m with ⟨h1, a, ha1, ha2, h2⟩ | ⟨h1, h2⟩
    · have hmem := getD_mem (logs.getD i []) a ha1
      have hsh := hv.inv.sh i (by omega) _ hmem
      have sole : ∀ s ∈ logs.getD i [], s.f0 = m → s.f1 = ((logs.getD i []).getD a z50).f1 := fun s hs he => hv.inv.same i i (by omega) (by omega) s hs _ hmem (by omega)
      have ih := rwhole_l1 hv m i (by omega) ((logs.getD i []).getD a z50).f1 ⟨by have := shOk_len hsh; omega, hsh.2.1⟩ (decide (goodW logs m)) ((logs.getD i []).getD a z50).f1.length 0 (by omega) (fun hall => by
        rw [List.drop_zero] at hall
        exact rwhole_l0 hv m d (i + 1) true (by omega) ⟨fun _ => ⟨i, by omega, h1⟩, fun _ => rfl⟩ (fun j hj => by
          rcases Nat.lt_or_ge j i with g | g
          · exact hg j g
          · obtain rfl : j = i := by omega
            intro s hs he x hx
            rw [sole s hs he] at hx
            exact hall x hx))
      rw [List.drop_zero] at ih
      have e : (if ∀ y ∈ ((logs.getD i []).getD a z50).f1, has logs y.toNat m then decide (goodW logs m) else false) = decide (goodW logs m) := by
        split
        · rfl
        · rename_i hno
          exact (decide_eq_false fun h => hno fun y hy => h.2 i (by omega) _ hmem ha2 y hy).symm
      rw [e] at ih
      refine Evt.step (Evt.bind h2 (Evt.pos (by omega) (Evt.pos (by omega) (Evt.pos (by omega) ?_)))) un
      rw [rdT]
      exact ih
    · have ih := rwhole_l0 hv m d (i + 1) f (by omega) (hf.trans ⟨fun ⟨j, hj, h⟩ => ⟨j, by omega, h⟩, fun ⟨j, hj, h⟩ => by
        rcases Nat.lt_or_ge j i with g | g
        · exact ⟨j, g, h⟩
        · obtain rfl : j = i := by omega
          exact absurd h h1⟩) (fun j hj => by
        rcases Nat.lt_or_ge j i with g | g
        · exact hg j g
        · obtain rfl : j = i := by omega
          intro s hs he
          exact absurd ⟨s, hs, he⟩ h1)
      exact (Evt.bind h2 (Evt.neg (by decide) ih)).step un
theorem rwhole_f {b : Int} {logs : List (List S50)} (hv : Valid b logs) (m : Int) : Evt (fun k => partsyncref21_whole.f k logs m) (decide (goodW logs m)) := by
  unfold partsyncref21_whole.f
  exact rwhole_l0 hv m logs.length 0 false (by omega) ⟨fun h => by simp at h, fun ⟨j, hj, _⟩ => by omega⟩ (fun j hj => by omega)
theorem last_l {b : Int} {logs : List (List S50)} (hv : Valid b logs) : ∀ (d : Nat) (n : Int), n + d = 1073741824 → b ≤ n → (∀ m, b < m → m ≤ n → goodW logs m) → ∃ r, Evt (fun k => partsyncref21_last.l0 k logs n) r ∧ isWhole b logs r
  | 0, n, hd, hb, hg => by
    refine ⟨n, Evt.one fun k => by rw [partsyncref21_last.l0, if_neg (by omega)], hb, by omega, hg, fun h => ?_⟩
    have := (good_le hv.inv h).2; omega
  | d + 1, n, hd, hb, hg => by
    have hb0 := hv.b0
    have ew : wrap64 (n + 1) = n + 1 := by unfold wrap64; omega
    have un : ∀ k, partsyncref21_last.l0 (k + 1) logs n = ((partsyncref21_whole.f k logs (n + 1)).bind fun t299 => (if t299 = true then (partsyncref21_last.l0 k logs (n + 1)) else (some n))) := fun k => by rw [partsyncref21_last.l0, if_pos (by omega), ew]
    have hf := rwhole_f hv (n + 1)
    by_cases h : goodW logs (n + 1)
    · obtain ⟨r, h1, h2⟩ := last_l hv d (n + 1) (by omega) (by omega) (fun m h1 h2 => by rcases Int.lt_or_eq_of_le h2 with g | rfl; exact hg m h1 (by omega); exact h)
      exact ⟨r, (Evt.bind hf (Evt.pos (decide_eq_true h) h1)).step un, h2⟩
    · exact ⟨n, (Evt.bind hf (Evt.neg (by simp [h]) (Evt.ret _))).step un, hb, by omega, hg, h⟩
theorem rlast_ev {b w : Int} {logs : List (List S50)} (hv : Valid b logs) (hw : isWhole b logs w) : Evt (fun k => partsyncref21_last.f k b logs) w := by
  obtain ⟨r, h1, h2⟩ := last_l hv (1073741824 - b).toNat b (by have := hv.b1; omega) (Int.le_refl _) (fun m h1 h2 => by omega)
  rw [isWhole_uniq hw h2]
  exact h1
theorem rWhole_ev {b w : Int} {logs : List (List S50)} (hv : Valid b logs) (hw : isWhole b logs w) : Evt (fun k => partsyncref21_Whole.f k b logs) (w, 0) := by
  unfold partsyncref21_Whole.f
  have hc := rcheck_ev b logs
  rw [checkV_ok.2 hv] at hc
  exact Evt.bind hc (Evt.pos rfl (Evt.bind (rlast_ev hv hw) (Evt.ret _)))
theorem rWhole_err {b : Int} {logs : List (List S50)} (hv : ¬ Valid b logs) : Evt (fun k => partsyncref21_Whole.f k b logs) (0, checkV b logs) := by
  unfold partsyncref21_Whole.f
  exact Evt.bind (rcheck_ev b logs) (Evt.neg (fun h => hv (checkV_ok.1 h)) (Evt.ret _))
theorem whole_both (b : Int) (logs : List (List S50)) : ∃ r, Evt (fun k => cut_Whole.f k b logs) r ∧ Evt (fun k => partsyncref21_Whole.f k b logs) r := by
  by_cases hv : Valid b logs
  · obtain ⟨w, h1, h2⟩ := whole_ev hv
    exact ⟨_, h1, rWhole_ev hv h2⟩
  · exact ⟨_, whole_err hv, rWhole_err hv⟩
end Go.Proofs.Ytkhiglincdognaa.PA
