/-
CutOfs' plain law: over any codes, logs and numbers its function answers true.
Conditions: the codes are bytes, at most 1000.
-/
import Derived.Test.YtkhiglincdognaaRefOf
import Derived.Test.YtkhiglincdognaaPAx21
namespace Go.Proofs.Ytkhiglincdognaa.PA
open Go.RowKit Go.Proofs.YtkhiglincdognaaW.PrintWords Go.Proofs.YtkhiglincdognaaW.PrintLast Go.Proofs.YtkhiglincdognaaW.PrintMore
set_option linter.unusedVariables false
set_option linter.unusedSimpArgs false
open Classical

theorem ofs_l (a0 : Int) (l1 : List (List S50)) (a2 b : Int) (logs : List (List S50)) (cs : List Int) (q : Int) (xs : List Int) (hx : xs.length ≤ 100) : ∀ (d i : Nat), i + d = xs.length → Evt (fun k => partsynclaw21_CutOfs.l0 k a0 l1 a2 b logs xs xs.length i cs q) (true, q)
  | 0, i, hi => by
    obtain ⟨r, hl, h1, h2⟩ := of_both a0 a2 l1
    have he := equal_ev r.1 r.1 (by omega)
    rw [decide_eq_true rfl] at he
    refine Evt.step (g := ?gA) ?hA ?eA
    case eA => intro k; rw [partsynclaw21_CutOfs.l0, if_neg (by omega)]
    case hA => exact Evt.bind h1 (Evt.bind h2 (Evt.bind he (Evt.pos rfl (Evt.pos rfl (Evt.bind begun_ev (Evt.ret _))))))
  | d + 1, i, hi => by
    obtain ⟨r, hl, h1, h2⟩ := of_both b (xs.getD i 0) logs
    have he := equal_ev r.1 r.1 (by omega)
    rw [decide_eq_true rfl] at he
    have ih := ofs_l a0 l1 a2 b logs cs q xs hx d (i + 1) (by omega)
    refine Evt.step (g := ?gB) ?hB ?eB
    case eB => intro k; rw [partsynclaw21_CutOfs.l0, if_pos (by omega), if_pos (by omega), if_pos (by omega), rdN, w1 i (by omega)]
    case hB => exact Evt.bind h1 (Evt.bind h2 (Evt.bind he (Evt.pos rfl (Evt.pos rfl ih))))
theorem ofs_plain (a0 : Int) (l1 : List (List S50)) (a2 : Int) (cs : List Int) (hc : codesOk cs) : ∃ q, Evt (fun k => partsynclaw21_CutOfs.f k a0 l1 a2 cs 0) (true, q) := by
  obtain ⟨b, logs, q1, e1, hv, hb, _, hq1, hsh⟩ := logs_tot hc
  refine ⟨q1, ?_⟩
  unfold partsynclaw21_CutOfs.f
  simp only [e1, Option.bind_some]
  exact ofs_l a0 l1 a2 b logs cs q1 _ (by simp) 7 0 rfl
theorem ofs_walk (a0 : Int) (l1 : List (List S50)) (A1 : Option Addr) (c1 : Nat) (a2 : Int) (l0 : List Int) (A : Option Addr) (cap : Nat) (W : World) (hr1 : (Kd.slice 50 k50).C W A1 l1.length l1) (hc1 : l1.length ≤ c1) (hC : (Kd.int .u8).C W A l0.length l0) (hc : l0.length ≤ cap) (hG : ∀ x ∈ l0, (Lit.int .u8 x).wf = true) :
    Calls Try.prog 9 #[.int .i64 a0, .slice A1 l1.length c1, .int .i64 a2, .slice A l0.length cap] W fun e W' => e = .returned (.bool true) ∧ Below W.heap.size W W' := by
  obtain ⟨q, hq⟩ := ofs_plain a0 l1 a2 _ (codes_ok 80 (by omega) hG)
  obtain ⟨k, hk⟩ := hq.get
  refine (partsynclaw21_CutOfs.calls k a0 A1 c1 l1 a2 A cap l0 true q W hr1 hc1 hC hc hk rfl).mono ?_
  rintro e w' ⟨w, w0, g, h1, h2, h3, h4, h5⟩
  exact ⟨h2, below_step h1 h4⟩
end Go.Proofs.Ytkhiglincdognaa.PA
