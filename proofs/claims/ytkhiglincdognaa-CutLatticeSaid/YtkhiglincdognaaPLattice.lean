/-
CutLattice's plain law: over any codes its function answers true.
Conditions: the codes are bytes, at most 1000.
-/
import Derived.Test.YtkhiglincdognaaPBase
import Derived.Test.YtkhiglincdognaaLattice
namespace Go.Proofs.Ytkhiglincdognaa.PA
open Go.RowKit Go.Proofs.YtkhiglincdognaaW.PrintWords Go.Proofs.YtkhiglincdognaaW.PrintLast Go.Proofs.YtkhiglincdognaaW.PrintMore
set_option linter.unusedVariables false
set_option linter.unusedSimpArgs false
open Classical

def nnL (n : Nat) (c : List Int) : Prop := c.length = n ∧ ∀ j, j < n → 0 ≤ c.getD j 0
theorem nn_fit {n : Nat} {a b : List Int} (ha : nnL n a) (hb : nnL n b) : fitsV a b = true :=
  (fitsV_iff a b).2 ⟨ha.1.trans hb.1.symm, fun i hi => ⟨ha.2 i (by rw [← ha.1]; exact hi), hb.2 i (by rw [← ha.1]; exact hi)⟩⟩
theorem nn_le {n : Nat} {a b : List Int} (ha : nnL n a) (hb : nnL n b) : leV a b = true ↔ ∀ i, i < n → a.getD i 0 ≤ b.getD i 0 := by
  rw [leV_iff]
  exact ⟨fun h i hi => h.2 i (by rw [ha.1]; exact hi), fun h => ⟨nn_fit ha hb, fun i hi => h i (by rw [← ha.1]; exact hi)⟩⟩
theorem nn_get {n : Nat} (f : Int → Int → Int) {a b : List Int} (ha : nnL n a) (hb : nnL n b) (i : Nat) (hi : i < n) : (List.zipWith f a b).getD i 0 = f (a.getD i 0) (b.getD i 0) :=
  zip_getD f a b i (by rw [ha.1]; exact hi) (by rw [hb.1]; exact hi)
theorem nn_zip {n : Nat} (f : Int → Int → Int) {a b : List Int} (ha : nnL n a) (hb : nnL n b) (hf : ∀ x y, 0 ≤ x → 0 ≤ y → 0 ≤ f x y) : nnL n (List.zipWith f a b) :=
  ⟨by rw [List.length_zipWith, ha.1, hb.1, Nat.min_self], fun i hi => by rw [nn_get f ha hb i hi]; exact hf _ _ (ha.2 i hi) (hb.2 i hi)⟩
theorem nn_ext {n : Nat} {a b : List Int} (ha : nnL n a) (hb : nnL n b) (h : ∀ i, i < n → a.getD i 0 = b.getD i 0) : a = b := ext_getD a b (ha.1.trans hb.1.symm) fun i hi => h i (by rw [← ha.1]; exact hi)
theorem mx_nn : ∀ x y : Int, 0 ≤ x → 0 ≤ y → 0 ≤ mx x y := fun x y hx hy => by unfold mx; split <;> omega
theorem mn_nn : ∀ x y : Int, 0 ≤ x → 0 ≤ y → 0 ≤ mn x y := fun x y hx hy => by unfold mn; split <;> omega
theorem lattice_plain (cs : List Int) (hc : codesOk cs) : ∃ q, Evt (fun k => partsynclaw21_CutLattice.f k cs 0) (true, q) := by
  obtain ⟨nn, q1, e1, h1, h2, h3⟩ := int_tot hc 0 5 (Int.le_refl _)
  obtain ⟨n, rfl⟩ : ∃ n : Nat, nn = n := ⟨nn.toNat, by omega⟩
  obtain ⟨p, q2, e2, hp, hq2⟩ := num_tot hc n (by omega) q1 h3
  obtain ⟨q, q3, e3, hq, hq3⟩ := num_tot hc n (by omega) q2 hq2
  obtain ⟨r, q4, e4, hr, hq4⟩ := num_tot hc n (by omega) q3 hq3
  have np : nnL n p := ⟨hp.1, fun j hj => (hp.2 j hj).1⟩
  have nq : nnL n q := ⟨hq.1, fun j hj => (hq.2 j hj).1⟩
  have nr : nnL n r := ⟨hr.1, fun j hj => (hr.2 j hj).1⟩
  obtain ⟨j, hj⟩ : ∃ j, j = List.zipWith mx p q := ⟨_, rfl⟩
  obtain ⟨m, hm⟩ : ∃ m, m = List.zipWith mn p q := ⟨_, rfl⟩
  have nj : nnL n j := hj ▸ nn_zip mx np nq mx_nn
  have nm : nnL n m := hm ▸ nn_zip mn np nq mn_nn
  have gj : ∀ i, i < n → j.getD i 0 = mx (p.getD i 0) (q.getD i 0) := fun i hi => by rw [hj]; exact nn_get mx np nq i hi
  have gm : ∀ i, i < n → m.getD i 0 = mn (p.getD i 0) (q.getD i 0) := fun i hi => by rw [hm]; exact nn_get mn np nq i hi
  have small : ∀ {a : List Int}, nnL n a → a.length < 17592186044416 := fun ha => by rw [ha.1]; omega
  have small2 : ∀ {a : List Int}, nnL n a → a.length < 4611686018427387904 := fun ha => by rw [ha.1]; omega
  have J : ∀ {a b : List Int}, nnL n a → nnL n b → Evt (fun k => cut_Join.f k a b) (List.zipWith mx a b, 0) := fun {a b} ha hb => by
    have := join_ev a b (small ha); unfold joinV at this; rwa [if_pos (nn_fit ha hb)] at this
  have M : ∀ {a b : List Int}, nnL n a → nnL n b → Evt (fun k => cut_Meet.f k a b) (List.zipWith mn a b, 0) := fun {a b} ha hb => by
    have := meet_ev a b (small ha); unfold meetV at this; rwa [if_pos (nn_fit ha hb)] at this
  have U : ∀ {a b : List Int}, nnL n a → nnL n b → Evt (fun k => partsynclaw21_under.f k a b) (leV a b) := fun {a b} ha hb => under_ev a b (small2 ha)
  have UT : ∀ {a b : List Int}, nnL n a → nnL n b → (∀ i, i < n → a.getD i 0 ≤ b.getD i 0) → Evt (fun k => partsynclaw21_under.f k a b) true := fun {a b} ha hb h => by have := U ha hb; rwa [(nn_le ha hb).2 h] at this
  have E : ∀ {a : List Int} (b : List Int), nnL n a → Evt (fun k => slices_Equal_int_int.f k a b) (decide (a = b)) := fun {a} b ha => equal_ev a b (small2 ha)
  have ET : ∀ {a b : List Int}, nnL n a → a = b → Evt (fun k => slices_Equal_int_int.f k a b) true := fun {a b} ha h => by have := E b ha; rwa [decide_eq_true h] at this
  have cj : List.zipWith mx q p = j := nn_ext (nn_zip mx nq np mx_nn) nj fun i hi => by rw [nn_get mx nq np i hi, gj i hi]; unfold mx; split <;> split <;> omega
  have cm : List.zipWith mn q p = m := nn_ext (nn_zip mn nq np mn_nn) nm fun i hi => by rw [nn_get mn nq np i hi, gm i hi]; unfold mn; split <;> split <;> omega
  have a1 : List.zipWith mx p m = p := nn_ext (nn_zip mx np nm mx_nn) np fun i hi => by rw [nn_get mx np nm i hi, gm i hi]; unfold mx mn; split <;> split <;> omega
  have a2 : List.zipWith mn p j = p := nn_ext (nn_zip mn np nj mn_nn) np fun i hi => by rw [nn_get mn np nj i hi, gj i hi]; unfold mx mn; split <;> split <;> omega
  have hJ : leV j r = (leV p r && leV q r) := by
    rw [Bool.eq_iff_iff, Bool.and_eq_true, nn_le nj nr, nn_le np nr, nn_le nq nr]
    constructor
    · intro h; exact ⟨fun i hi => by have := h i hi; rw [gj i hi] at this; unfold mx at this; split at this <;> omega, fun i hi => by have := h i hi; rw [gj i hi] at this; unfold mx at this; split at this <;> omega⟩
    · rintro ⟨h, h'⟩ i hi; have := h i hi; have := h' i hi; rw [gj i hi]; unfold mx; split <;> omega
  have hM : leV r m = (leV r p && leV r q) := by
    rw [Bool.eq_iff_iff, Bool.and_eq_true, nn_le nr nm, nn_le nr np, nn_le nr nq]
    constructor
    · intro h; exact ⟨fun i hi => by have := h i hi; rw [gm i hi] at this; unfold mn at this; split at this <;> omega, fun i hi => by have := h i hi; rw [gm i hi] at this; unfold mn at this; split at this <;> omega⟩
    · rintro ⟨h, h'⟩ i hi; have := h i hi; have := h' i hi; rw [gm i hi]; unfold mn; split <;> omega
  have hE : leV p q = decide (j = q) := by
    rw [Bool.eq_iff_iff, decide_eq_true_eq, nn_le np nq]
    constructor
    · intro h; exact nn_ext nj nq fun i hi => by have := h i hi; rw [gj i hi]; unfold mx; split <;> omega
    · intro h i hi; have := gj i hi; rw [h] at this; unfold mx at this; split at this <;> omega
  have jp : ∀ i, i < n → p.getD i 0 ≤ j.getD i 0 := fun i hi => by rw [gj i hi]; unfold mx; split <;> omega
  have jq : ∀ i, i < n → q.getD i 0 ≤ j.getD i 0 := fun i hi => by rw [gj i hi]; unfold mx; split <;> omega
  have mp : ∀ i, i < n → m.getD i 0 ≤ p.getD i 0 := fun i hi => by rw [gm i hi]; unfold mn; split <;> omega
  have mq : ∀ i, i < n → m.getD i 0 ≤ q.getD i 0 := fun i hi => by rw [gm i hi]; unfold mn; split <;> omega
  have j1 := J np nq
  have j2 := J nq np
  have m1 := M np nq
  have m2 := M nq np
  rw [← hj] at j1
  rw [cj] at j2
  rw [← hm] at m1
  rw [cm] at m2
  have ja := J np nm
  have mb := M np nj
  rw [a1] at ja
  rw [a2] at mb
  have u1 := U nj nr
  have u2 := U np nr
  have u3 := U nq nr
  have u4 := U nr nm
  have u5 := U nr np
  have u6 := U nr nq
  have u7 := U np nq
  have u8 := E q nj
  rw [hJ] at u1
  rw [hM] at u4
  rw [hE] at u7
  refine ⟨q4, ?_⟩
  unfold partsynclaw21_CutLattice.f
  simp only [e1, Option.bind_some]
  refine Evt.bind e2 (Evt.bind e3 (Evt.bind e4 (Evt.bind j1 (Evt.bind j2 (Evt.bind m1 (Evt.bind m2 (Evt.pos rfl (Evt.pos rfl (Evt.pos rfl (Evt.pos rfl (Evt.bind (ET nj rfl) (Evt.pos rfl (Evt.bind (ET nm rfl) ?_)))))))))))))
  refine Evt.step (g := ?g) ?h ?e
  case e => intro k; rw [partsynclaw21_CutLattice.j0, if_neg (by simp)]
  case h =>
    refine Evt.bind ja (Evt.bind mb (Evt.bind (ET np rfl) (Evt.pos rfl (Evt.bind (ET np rfl) (Evt.pos rfl (Evt.bind (UT np nj jp) (Evt.pos rfl (Evt.bind (UT nq nj jq) (Evt.pos rfl (Evt.bind (UT nm np mp) (Evt.pos rfl (Evt.bind (UT nm nq mq) (Evt.pos rfl (Evt.bind u1 (Evt.bind u2 ?_)))))))))))))))
    have tail : ∀ (x : Bool), x = true → Evt (fun k => (partsynclaw21_under.f k p q).bind fun t406 => ((slices_Equal_int_int.f k j q).bind fun t407 => (if (t406 == t407) = true then ((partsynclaw21_begun.f k).bind fun t408 => (some (t408, q4))) else (some (false, q4))))) (x, q4) := fun x hx => by
      subst hx
      exact Evt.bind u7 (Evt.bind u8 (Evt.pos (by simp) (Evt.bind begun_ev (Evt.ret _))))
    have mid : Evt (fun k => (partsynclaw21_under.f k r m).bind fun t403 => ((partsynclaw21_under.f k r p).bind fun t404 => (if t404 = true then ((partsynclaw21_under.f k r q).bind fun t405 => (if (t403 == t405) = true then ((partsynclaw21_under.f k p q).bind fun t406 => ((slices_Equal_int_int.f k j q).bind fun t407 => (if (t406 == t407) = true then ((partsynclaw21_begun.f k).bind fun t408 => (some (t408, q4))) else (some (false, q4))))) else (some (false, q4)))) else (if (t403 == false) = true then ((partsynclaw21_under.f k p q).bind fun t409 => ((slices_Equal_int_int.f k j q).bind fun t410 => (if (t409 == t410) = true then ((partsynclaw21_begun.f k).bind fun t411 => (some (t411, q4))) else (some (false, q4))))) else (some (false, q4)))))) (true, q4) := by
      refine Evt.bind u4 (Evt.bind u5 ?_)
      by_cases h : leV r p = true
      · refine Evt.pos h (Evt.bind u6 (Evt.pos (by simp [h]) (tail true rfl)))
      · refine Evt.neg h (Evt.pos (by simp [h]) (tail true rfl))
    by_cases h : leV p r = true
    · exact Evt.pos h (Evt.bind u3 (Evt.pos (by simp [h]) mid))
    · exact Evt.neg h (Evt.pos (by simp [h]) mid)
theorem lattice_walk (l0 : List Int) (A : Option Addr) (cap : Nat) (W : World) (hC : (Kd.int .u8).C W A l0.length l0) (hc : l0.length ≤ cap) (hG : ∀ x ∈ l0, (Lit.int .u8 x).wf = true) :
    Calls Try.prog 3 #[.slice A l0.length cap] W fun e W' => e = .returned (.bool true) ∧ Below W.heap.size W W' := by
  obtain ⟨q, hq⟩ := lattice_plain _ (codes_ok 30 (by omega) hG)
  obtain ⟨k, hk⟩ := hq.get
  refine (partsynclaw21_CutLattice.calls k A cap l0 true q W hC hc hk rfl).mono ?_
  rintro e w' ⟨w, w0, g, h1, h2, h3, h4, h5⟩
  exact ⟨h2, below_step h1 h4⟩
end Go.Proofs.Ytkhiglincdognaa.PA
