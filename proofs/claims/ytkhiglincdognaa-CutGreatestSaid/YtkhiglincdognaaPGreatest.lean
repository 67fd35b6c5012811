/-
CutGreatest's plain law: over any codes its function answers true.
Conditions: the codes are bytes, at most 1000.
-/
import Derived.Test.YtkhiglincdognaaPBase
import Derived.Test.YtkhiglincdognaaPAx23
namespace Go.Proofs.Ytkhiglincdognaa.PA
open Go.RowKit Go.Proofs.YtkhiglincdognaaW.PrintWords Go.Proofs.YtkhiglincdognaaW.PrintLast Go.Proofs.YtkhiglincdognaaW.PrintMore
set_option linter.unusedVariables false
set_option linter.unusedSimpArgs false
open Classical

theorem cuts_le {logs : List (List S50)} {p q : List Int} (hp : isCut logs p) (hq : isCut logs q) (h : leC logs p q) : leV p q = true :=
  (leV_iff p q).2 ⟨cuts_fit hp hq, fun i hi => h i (by rw [← hp.1]; exact hi)⟩
theorem cuts_eq {logs : List (List S50)} {p q : List Int} (hp : isCut logs p) (hq : isCut logs q) (h : leC logs p q) (h' : leC logs q p) : p = q :=
  ext_getD p q (hp.1.trans hq.1.symm) fun i hi => by have := h i (by rw [← hp.1]; exact hi); have := h' i (by rw [← hp.1]; exact hi); omega
theorem under_true {b : Int} {logs : List (List S50)} (hv : Valid b logs) {p q : List Int} (hp : isCut logs p) (hq : isCut logs q) (h : leC logs p q) : Evt (fun k => partsynclaw21_under.f k p q) true := by
  have := under_ev p q (by have := isCut_len hv hp; omega)
  rwa [cuts_le hp hq h] at this
theorem greatest_plain (cs : List Int) (hc : codesOk cs) : ∃ q, Evt (fun k => partsynclaw21_CutGreatest.f k cs 0) (true, q) := by
  obtain ⟨b, logs, q1, e1, hv, hb, _, hq1, hsh⟩ := logs_tot hc
  have hn := hv.n1
  obtain ⟨x, q2, e2, hx, hq2⟩ := cut_tot hc logs (by omega) (fun i hi => by have := hsh i hi; omega) q1 hq1
  obtain ⟨y, q3, e3, hy, hq3⟩ := cut_tot hc logs (by omega) (fun i hi => by have := hsh i hi; omega) q2 hq2
  have hxl := isCut_len hv hx
  have hM := meet_ev x y (by omega)
  unfold meetV at hM
  rw [if_pos (cuts_fit hx hy)] at hM
  obtain ⟨hz, _⟩ := mn_cut hx hy
  have hzx : leC logs (List.zipWith mn x y) x := fun i hi => (mn_le i (by rw [hx.1]; exact hi) (by rw [hy.1]; exact hi)).1
  obtain ⟨z, hzz⟩ : ∃ z, z = List.zipWith mn x y := ⟨_, rfl⟩
  rw [← hzz] at hM hz hzx
  obtain ⟨p, e4, hp, hpc, hpx, hpg⟩ := close_ev hv hx
  obtain ⟨q, e5, hq, hqc, hqz, hqg⟩ := close_ev hv hz
  have c1 := closed_true hv hx
  have c2 := closed_true hv hp
  have c3 := closed_true hv hz
  rw [decide_eq_true hpc] at c2
  have u1 := under_true hv hp hx hpx
  have u2 := under_true hv hq hp (hpg q hq hqc fun i hi => Int.le_trans (hqz i hi) (hzx i hi))
  have q1 := equal_ev p x (by have := isCut_len hv hp; omega)
  have hiff : closedP logs x ↔ p = x := ⟨fun h => cuts_eq hp hx hpx (hpg x hx h fun i hi => Int.le_refl _), fun h => h ▸ hpc⟩
  refine ⟨q3, ?_⟩
  unfold partsynclaw21_CutGreatest.f
  simp only [e1, Option.bind_some]
  refine Evt.bind e2 (Evt.bind e3 (Evt.bind hM (Evt.bind e4 (Evt.bind e5 (Evt.pos rfl ?_)))))
  refine Evt.step (g := ?g) ?h ?e
  case e =>
    intro k
    rw [partsynclaw21_CutGreatest.j0, if_neg (by simp)]
  case h =>
    refine Evt.bind c1 (Evt.bind c2 (Evt.bind c3 (Evt.pos rfl (Evt.bind u1 (Evt.pos rfl (Evt.bind q1 (Evt.pos ?_ (Evt.bind u2 (Evt.pos rfl ?_)))))))))
    · by_cases h : p = x
      · simp [hiff, h]
      · simp [hiff, h]
    · by_cases h : closedP logs z
      · refine Evt.pos (by simp [h]) (Evt.bind (under_true hv hz hp (hpg z hz h hzx)) (Evt.pos rfl (Evt.bind begun_ev (Evt.ret _))))
      · exact Evt.neg (by simp [h]) (Evt.bind begun_ev (Evt.ret _))
theorem greatest_walk (l0 : List Int) (A : Option Addr) (cap : Nat) (W : World) (hC : (Kd.int .u8).C W A l0.length l0) (hc : l0.length ≤ cap) (hG : ∀ x ∈ l0, (Lit.int .u8 x).wf = true) :
    Calls Try.prog 11 #[.slice A l0.length cap] W fun e W' => e = .returned (.bool true) ∧ Below W.heap.size W W' := by
  obtain ⟨q, hq⟩ := greatest_plain _ (codes_ok 90 (by omega) hG)
  obtain ⟨k, hk⟩ := hq.get
  refine (partsynclaw21_CutGreatest.calls k A cap l0 true q W hC hc hk rfl).mono ?_
  rintro e w' ⟨w, w0, g, h1, h2, h3, h4, h5⟩
  exact ⟨h2, below_step h1 h4⟩
end Go.Proofs.Ytkhiglincdognaa.PA
