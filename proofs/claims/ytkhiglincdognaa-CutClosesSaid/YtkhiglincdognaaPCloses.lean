/-
CutCloses' plain law: over any codes, logs and cuts its function answers true.
Conditions: the codes are bytes, at most 1000.
-/
import Derived.Test.YtkhiglincdognaaRef4
import Derived.Test.YtkhiglincdognaaPAx20
namespace Go.Proofs.Ytkhiglincdognaa.PA
open Go.RowKit Go.Proofs.YtkhiglincdognaaW.PrintWords Go.Proofs.YtkhiglincdognaaW.PrintLast Go.Proofs.YtkhiglincdognaaW.PrintMore
set_option linter.unusedVariables false
set_option linter.unusedSimpArgs false
open Classical

theorem rdM2 (xs : List (List Int)) (i : Nat) : rd_L2 xs (i : Int) = xs.getD i [] := by unfold rd_L2; rw [Int.toNat_natCast]
theorem closes_l (a0 : Int) (l1 : List (List S50)) (l2 : List Int) (b : Int) (logs : List (List S50)) (cs : List Int) (q : Int) (xs : List (List Int)) (hx : xs.length ≤ 100) : ∀ (d i : Nat), i + d = xs.length → Evt (fun k => partsynclaw21_CutCloses.l0 k a0 l1 l2 b logs xs xs.length i cs q) (true, q)
  | 0, i, hi => by
    obtain ⟨r, hl, h3, h4⟩ := close_both a0 l1 l2
    have he := equal_ev r.1 r.1 (by omega)
    rw [decide_eq_true rfl] at he
    refine Evt.step (g := ?gA) ?hA ?eA
    case eA => intro k; rw [partsynclaw21_CutCloses.l0, if_neg (by omega)]
    case hA => exact Evt.bind (closed_ev a0 l1 l2) (Evt.bind (rclosed_ev a0 l1 l2) (Evt.bind h3 (Evt.bind h4 (Evt.pos (by simp) (Evt.pos rfl (Evt.bind he (Evt.pos rfl (Evt.pos rfl (Evt.bind begun_ev (Evt.ret _))))))))))
  | d + 1, i, hi => by
    obtain ⟨r, hl, h3, h4⟩ := close_both b logs (xs.getD i [])
    have he := equal_ev r.1 r.1 (by omega)
    rw [decide_eq_true rfl] at he
    have ih := closes_l a0 l1 l2 b logs cs q xs hx d (i + 1) (by omega)
    refine Evt.step (g := ?gB) ?hB ?eB
    case eB => intro k; rw [partsynclaw21_CutCloses.l0, if_pos (by omega), if_pos (by omega), if_pos (by omega), rdM2, w1 i (by omega)]
    case hB => exact Evt.bind (closed_ev b logs (xs.getD i [])) (Evt.bind (rclosed_ev b logs (xs.getD i [])) (Evt.bind h3 (Evt.bind h4 (Evt.neg (by simp) (Evt.pos rfl (Evt.bind he (Evt.pos rfl (Evt.pos rfl ih))))))))
theorem closes_plain (a0 : Int) (l1 : List (List S50)) (l2 : List Int) (cs : List Int) (hc : codesOk cs) : ∃ q, Evt (fun k => partsynclaw21_CutCloses.f k a0 l1 l2 cs 0) (true, q) := by
  obtain ⟨b, logs, q1, e1, hv, hb, _, hq1, hsh⟩ := logs_tot hc
  have hn := hv.n1
  obtain ⟨x, q2, e2, hx, hq2⟩ := cut_tot hc logs (by omega) (fun i hi => by have := hsh i hi; omega) q1 hq1
  obtain ⟨y, q3, e3, hy, hq3⟩ := cut_tot hc logs (by omega) (fun i hi => by have := hsh i hi; omega) q2 hq2
  refine ⟨q3, ?_⟩
  unfold partsynclaw21_CutCloses.f
  simp only [e1, Option.bind_some]
  refine Evt.bind e2 (Evt.bind e3 (Evt.pos (by omega) (Evt.pos (by omega) ?_)))
  exact closes_l a0 l1 l2 b logs cs q3 [x, y, l2, List.replicate ((logs.length : Int)).toNat 0] (by simp) 4 0 rfl
theorem closes_walk (a0 : Int) (l1 : List (List S50)) (A1 : Option Addr) (c1 : Nat) (l2 : List Int) (A2 : Option Addr) (c2 : Nat) (l0 : List Int) (A : Option Addr) (cap : Nat) (W : World) (hr1 : (Kd.slice 50 k50).C W A1 l1.length l1) (hc1 : l1.length ≤ c1) (hr2 : (Kd.int .i64).C W A2 l2.length l2) (hc2 : l2.length ≤ c2) (hC : (Kd.int .u8).C W A l0.length l0) (hc : l0.length ≤ cap) (hG : ∀ x ∈ l0, (Lit.int .u8 x).wf = true) :
    Calls Try.prog 8 #[.int .i64 a0, .slice A1 l1.length c1, .slice A2 l2.length c2, .slice A l0.length cap] W fun e W' => e = .returned (.bool true) ∧ Below W.heap.size W W' := by
  obtain ⟨q, hq⟩ := closes_plain a0 l1 l2 _ (codes_ok 90 (by omega) hG)
  obtain ⟨k, hk⟩ := hq.get
  refine (partsynclaw21_CutCloses.calls k a0 A1 c1 l1 A2 c2 l2 A cap l0 true q W hr1 hc1 hr2 hc2 hC hc hk rfl).mono ?_
  rintro e w' ⟨w, w0, g, h1, h2, h3, h4, h5⟩
  exact ⟨h2, below_step h1 h4⟩
end Go.Proofs.Ytkhiglincdognaa.PA
