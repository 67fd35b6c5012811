/-
What the laws' plain proofs share: cuts, joined and met, closed ones.
Conditions: the codes are bytes, at most 1000.
-/
import Derived.Test.YtkhiglincdognaaSpecs
import Derived.Test.YtkhiglincdognaaHNew
namespace Go.Proofs.Ytkhiglincdognaa.PA
open Go.RowKit Go.Proofs.YtkhiglincdognaaW.PrintWords Go.Proofs.YtkhiglincdognaaW.PrintLast Go.Proofs.YtkhiglincdognaaW.PrintMore
set_option linter.unusedVariables false
set_option linter.unusedSimpArgs false
open Classical

theorem begun_ev : Evt (fun k => partsynclaw21_begun.f k) true := by
  refine ⟨40, fun k hk => ?_⟩
  obtain ⟨d, rfl⟩ : ∃ d, k = 40 + d := ⟨k - 40, by omega⟩
  induction d with
  | zero => exact begun_true
  | succ d ih => exact partsynclaw21_begun.mono (40 + d) _ (ih (by omega))
theorem isCut_len {b : Int} {logs : List (List S50)} {c : List Int} (hv : Valid b logs) (hc : isCut logs c) : c.length ≤ 4 := by have := hc.1; have := hv.n1; omega
theorem cuts_fit {logs : List (List S50)} {p q : List Int} (hp : isCut logs p) (hq : isCut logs q) : fitsV p q = true :=
  (fitsV_iff p q).2 ⟨hp.1.trans hq.1.symm, fun i hi => ⟨(hp.2 i (by rw [← hp.1]; exact hi)).1, (hq.2 i (by rw [← hp.1]; exact hi)).1⟩⟩
theorem mx_cut {logs : List (List S50)} {p q : List Int} (hp : isCut logs p) (hq : isCut logs q) : isCut logs (List.zipWith mx p q) ∧ ∀ i, i < logs.length → (List.zipWith mx p q).getD i 0 = p.getD i 0 ∨ (List.zipWith mx p q).getD i 0 = q.getD i 0 := by
  have h1 := hp.1
  have h2 := hq.1
  have key : ∀ i, i < logs.length → (List.zipWith mx p q).getD i 0 = p.getD i 0 ∨ (List.zipWith mx p q).getD i 0 = q.getD i 0 := fun i hi => by
    rw [zip_getD mx p q i (by omega) (by omega)]; unfold mx; split
    · exact .inr rfl
    · exact .inl rfl
  refine ⟨⟨by rw [List.length_zipWith]; omega, fun i hi => ?_⟩, key⟩
  rcases key i hi with e | e <;> rw [e]
  · exact hp.2 i hi
  · exact hq.2 i hi
theorem mn_cut {logs : List (List S50)} {p q : List Int} (hp : isCut logs p) (hq : isCut logs q) : isCut logs (List.zipWith mn p q) ∧ ∀ i, i < logs.length → (List.zipWith mn p q).getD i 0 = p.getD i 0 ∨ (List.zipWith mn p q).getD i 0 = q.getD i 0 := by
  have h1 := hp.1
  have h2 := hq.1
  have key : ∀ i, i < logs.length → (List.zipWith mn p q).getD i 0 = p.getD i 0 ∨ (List.zipWith mn p q).getD i 0 = q.getD i 0 := fun i hi => by
    rw [zip_getD mn p q i (by omega) (by omega)]; unfold mn; split
    · exact .inr rfl
    · exact .inl rfl
  refine ⟨⟨by rw [List.length_zipWith]; omega, fun i hi => ?_⟩, key⟩
  rcases key i hi with e | e <;> rw [e]
  · exact hp.2 i hi
  · exact hq.2 i hi
theorem mx_ge {p q : List Int} (i : Nat) (h1 : i < p.length) (h2 : i < q.length) : p.getD i 0 ≤ (List.zipWith mx p q).getD i 0 ∧ q.getD i 0 ≤ (List.zipWith mx p q).getD i 0 := by
  rw [zip_getD mx p q i h1 h2]; unfold mx; split <;> omega
theorem mn_le {p q : List Int} (i : Nat) (h1 : i < p.length) (h2 : i < q.length) : (List.zipWith mn p q).getD i 0 ≤ p.getD i 0 ∧ (List.zipWith mn p q).getD i 0 ≤ q.getD i 0 := by
  rw [zip_getD mn p q i h1 h2]; unfold mn; split <;> omega
theorem cutOf_eq {logs : List (List S50)} {p q : List Int} (i : Nat) (h : p.getD i 0 = q.getD i 0) : cutOf logs p i = cutOf logs q i := by unfold cutOf; rw [h]
theorem sh_lt {b : Int} {logs : List (List S50)} (hv : Valid b logs) {c : List Int} {i : Nat} (hi : i < logs.length) {st : S50} (hs : st ∈ cutOf logs c i) {x : Int} (hx : x ∈ st.f1) : x.toNat < logs.length := by
  have := (hv.inv.sh i hi st (List.mem_of_mem_take hs)).2.1 x hx
  omega
theorem join_closed {b : Int} {logs : List (List S50)} (hv : Valid b logs) {p q : List Int} (hp : isCut logs p) (hq : isCut logs q) (cp : closedP logs p) (cq : closedP logs q) : closedP logs (List.zipWith mx p q) := by
  intro i hi st hs
  rw [badSt_iff]
  intro x hx
  have hxl := sh_lt hv hi hs hx
  have h1 := hp.1
  have h2 := hq.1
  rcases (mx_cut hp hq).2 i hi with e | e
  · rw [cutOf_eq i e] at hs
    obtain ⟨s, k1, k2⟩ := (badSt_iff _ _ _).1 (cp i hi st hs) x hx
    exact ⟨s, cutOf_sub _ (mx_ge x.toNat (by omega) (by omega)).1 k1, k2⟩
  · rw [cutOf_eq i e] at hs
    obtain ⟨s, k1, k2⟩ := (badSt_iff _ _ _).1 (cq i hi st hs) x hx
    exact ⟨s, cutOf_sub _ (mx_ge x.toNat (by omega) (by omega)).2 k1, k2⟩
theorem meet_closed {b : Int} {logs : List (List S50)} (hv : Valid b logs) {p q : List Int} (hp : isCut logs p) (hq : isCut logs q) (cp : closedP logs p) (cq : closedP logs q) : closedP logs (List.zipWith mn p q) := by
  intro i hi st hs
  rw [badSt_iff]
  intro x hx
  have hxl := sh_lt hv hi hs hx
  have h1 := hp.1
  have h2 := hq.1
  have l := mn_le (p := p) (q := q) i (by omega) (by omega)
  obtain ⟨s, k1, k2⟩ := (badSt_iff _ _ _).1 (cp i hi st (cutOf_sub i l.1 hs)) x hx
  obtain ⟨t, j1, j2⟩ := (badSt_iff _ _ _).1 (cq i hi st (cutOf_sub i l.2 hs)) x hx
  rcases (mn_cut hp hq).2 x.toNat hxl with e | e
  · rw [cutOf_eq x.toNat e]; exact ⟨s, k1, k2⟩
  · rw [cutOf_eq x.toNat e]; exact ⟨t, j1, j2⟩
theorem closed_true {b : Int} {logs : List (List S50)} (hv : Valid b logs) {c : List Int} (hc : isCut logs c) : Evt (fun k => cut_Closed.f k b logs c) (decide (closedP logs c), 0) := by
  have := closed_ev b logs c
  unfold closedV at this
  rwa [if_pos (placeV_ok.2 ⟨hv, hc⟩)] at this
theorem codes_ok {l : List Int} (most : Nat) (hm : most ≤ 1000) (h : ∀ x ∈ l, (Lit.int .u8 x).wf = true) : codesOk (l.take most) := by
  refine ⟨fun x hx => ?_, by rw [List.length_take]; omega⟩
  have := h x (List.mem_of_mem_take hx)
  simp [Lit.wf, IntKind.min, IntKind.max, IntKind.signed, IntKind.bits] at this
  omega
end Go.Proofs.Ytkhiglincdognaa.PA
