/-
sort.Search over a closure that reads alone; the closure of cut.Of.
Conditions: the places below r say no, those from r on yes.
-/
import Derived.Test.YtkhiglincdognaaPAx0
import Derived.WalkMore
import Derived.Deep.RegionLaw
import Derived.StillTailTactics
namespace Go.Proofs.Ytkhiglincdognaa.PA
open Go.RowKit Go.Proofs.YtkhiglincdognaaW.PrintWords Go.Proofs.YtkhiglincdognaaW.PrintLast Go.Proofs.YtkhiglincdognaaW.PrintMore
set_option linter.unusedVariables false
set_option linter.unusedSimpArgs false

set_option maxHeartbeats 4000000 in
set_option maxRecDepth 1000000 in
theorem search_any (cb : Array Value) (n r : Nat) (p : Nat → Bool) (w : World) (hsz : n < 4611686018427387904) (hr : r ≤ n)
    (hf : ∀ (m i : Nat), i < n → Calls Try.prog 44 (#[.int .i64 i] ++ cb) (w.drewN m) fun e w' => e = .returned (.bool (p i)) ∧ ∃ q, w' = (w.drewN m).drewN q)
    (h0 : ∀ t, t < r → p t = false) (h1 : ∀ t, r ≤ t → t < n → p t = true) :
    Calls Try.prog 43 #[.int .i64 n, .func (.func 44) #[] cb] w fun e w' => e = .returned (.int .i64 r) ∧ ∃ q, w' = w.drewN q := by
  have HF := Aside0.mk hf
  have P0 := Aside0.mk h0
  have P1 := Aside0.mk h1
  clear hf h0 h1
  go_enter Try.func43, Try.ntmps43
  go_wp2
  go_loopg [5, 6] n (fun kx s5 s6 wr => ∃ (lo hi q : Nat), s5 = .int .i64 lo ∧ s6 = .int .i64 hi ∧ lo ≤ r ∧ r ≤ hi ∧ hi ≤ n ∧ hi - lo ≤ kx ∧ wr = w.drewN q)
  case atStart => exact ⟨0, n, 0, rfl, rfl, Nat.zero_le _, hr, Nat.le_refl _, by omega, rfl⟩
  case round =>
    obtain ⟨lo, hi, q, rfl, rfl, hlr, hrh, hin, hg, rfl⟩ := hrel
    by_cases hlt : lo < hi
    · have hc := HF.out q ((lo + hi) / 2) (by omega)
      rw [show (((lo + hi) / 2 : Nat) : Int) = ((lo : Int) + (hi : Int)) / 2 by omega] at hc
      cases hp : p ((lo + hi) / 2) <;> rw [hp] at hc
      · have hlo : (lo + hi) / 2 < r := by
          refine Nat.lt_of_not_le fun h => ?_
          rw [P1.out _ h (by omega)] at hp; cases hp
        clear hp
        go_wp2_with (go_at_call 44; refine hc.mono ?_; rintro e w' ⟨rfl, nq, rfl⟩)
        go_roundg (hi - ((lo + hi) / 2 + 1))
        case measure => omega
        case rel => exact ⟨(lo + hi) / 2 + 1, hi, q + nq, by rw [show ((lo : Int) + (hi : Int)) / 2 + 1 = (((lo + hi) / 2 + 1 : Nat) : Int) by omega], rfl, by omega, hrh, hin, Nat.le_refl _, rfl⟩
      · have hlo : r ≤ (lo + hi) / 2 := by
          refine Nat.le_of_not_lt fun h => ?_
          rw [P0.out _ h] at hp; cases hp
        clear hp
        go_wp2_with (go_at_call 44; refine hc.mono ?_; rintro e w' ⟨rfl, nq, rfl⟩)
        go_roundg ((lo + hi) / 2 - lo)
        case measure => omega
        case rel => exact ⟨lo, (lo + hi) / 2, q + nq, rfl, by rw [show ((lo : Int) + (hi : Int)) / 2 = (((lo + hi) / 2 : Nat) : Int) by omega], hlr, hlo, by omega, Nat.le_refl _, rfl⟩
    · obtain rfl : lo = r := by omega
      obtain rfl : hi = lo := by omega
      go_wp2
      go_ret
      exact ⟨rfl, q, rfl⟩

set_option maxHeartbeats 2000000 in
/-- 'func(i int) bool { return list[i].Commit > n }': list and n in their boxes. -/
theorem closure44 (ba bx : Nat) (ad : Addr) (cap : Nat) (l : List S50) (n : Int) (i : Nat) (W : World) (hi : i < l.length)
    (ha : W.cell? ⟨ba, 0, none⟩ = some (.slice (some ad) l.length cap)) (hx : W.cell? ⟨bx, 0, none⟩ = some (.int .i64 n)) (hc : W.cell? (ad.add (i * 2)) = some (.int .i64 (l.getD i z50).f0)) :
    Calls Try.prog 44 (#[.int .i64 i] ++ #[.pointer (some ⟨ba, 0, none⟩), .pointer (some ⟨bx, 0, none⟩)]) W fun e w' => e = .returned (.bool (decide ((l.getD i z50).f0 > n))) ∧ ∃ q, w' = W.drewN q := by
  generalize (l.getD i z50).f0 = y at hc ⊢
  have hiz : (i : Int) < (l.length : Int) := by omega
  go_enter Try.func44, Try.ntmps44
  go_wp2
  go_quiet (fail)
  go_wp2
  go_ret
  exact ⟨rfl, _, rfl⟩
end Go.Proofs.Ytkhiglincdognaa.PA
