/-
SamePackets answers true at equal lists; what either network does leaves the other as it was.
Conditions: each theorem states what it asks.
-/
import Derived.Test.YtcjeideiigdidaaRef1
import Derived.Test.YtcjeideiigdidaaKeeps
namespace Go.Proofs.Ytcjeideiigdidaa.Net
open Go.RowKit Go.Proofs.YtcjeideiigdidaaW.PrintWords Go.Proofs.YtcjeideiigdidaaW.PrintLast Go.Proofs.YtcjeideiigdidaaW.PrintMore
set_option linter.unusedVariables false
set_option linter.unusedSimpArgs false

theorem at_37 {w : World} {A : Option Addr} {n : Nat} {xs : List S37} (h : k37.C w A n xs) (i : Nat) (h1 : i < n) : ∃ ad A1 c1, A = some ad ∧ w.cell? (ad.add (i * 2)) = some (.int .i64 (xs.getD i z37).f0) ∧ w.cell? ⟨(ad.add (i * 2)).block, (ad.add (i * 2)).off + 1, none⟩ = some (.slice A1 (xs.getD i z37).f1.length c1) ∧
    (Kd.int .u8).C w A1 (xs.getD i z37).f1.length (xs.getD i z37).f1 := by
  obtain ⟨ad, c, e, _, hK, hc0⟩ := Kd.C_get h z37 i (by omega) (by omega)
  have hc : ∀ j u, c[j]? = some u → w.cell? (ad.add ((i : Int).toNat * 2 + j)) = some u := hc0
  obtain ⟨A1, c1, rfl, l1, g1⟩ := k37_open hK
  rw [Int.toNat_natCast] at l1 g1 hc
  exact ⟨ad, A1, c1, e, hc 0 _ rfl, (add_cell ad (i * 2) 0) ▸ hc 1 _ rfl, g1⟩

set_option maxHeartbeats 2000000 in
theorem same_packets (xs : List S37) (A B : Option Addr) (cA cB : Nat) (w : World) (hA : k37.C w A xs.length xs) (hB : k37.C w B xs.length xs) :
    Calls Try.prog 24 #[.slice A xs.length cA, .slice B xs.length cB] w fun e w' => e = .returned (.bool true) ∧ Below w.heap.size w w' := by
  have HA := Aside0.mk hA
  have HB := Aside0.mk hB
  have hxl : xs.length ≤ 9223372036854775807 := hA.2.1
  clear hA hB
  go_enter Try.func24, Try.ntmps24
  go_wp2_with fail
  go_loopg [13] xs.length (fun gk i wr => ∃ k : Nat, i = .int .i64 k ∧ Aside0 (k + gk = xs.length) ∧ Aside0 (Below w.heap.size w wr))
  case atStart => exact ⟨0, rfl, ⟨by omega⟩, ⟨Below.refl _ _⟩⟩
  case round =>
    obtain ⟨k, rfl, HK, HW⟩ := hrel
    by_cases hk6 : k < xs.length
    · have hlt : (k : Int) < xs.length := by omega
      have h00 : (0 : Int) ≤ (k : Int) := by omega
      obtain ⟨gk, rfl⟩ : ∃ g, gk = g + 1 := ⟨gk - 1, by have := HK.out; omega⟩
      obtain ⟨ad, A1, c1, rfl, q0, q1, qc⟩ := at_37 (Kd.C_below HA.out HW.out) k hk6
      obtain ⟨bd, B1, d1, rfl, r0, r1, rc⟩ := at_37 (Kd.C_below HB.out HW.out) k hk6
      generalize xs.getD k z37 = x at *
      have s1 := fun n_ => Kd.C_string (P := Try.prog) (c := c1) Try.underlying34 Try.underlying5 Try.underlying9 (Kd.C_below qc (pw_below_drewN (Below.refl _ _) n_))
      have s2 := fun n_ => Kd.C_string (P := Try.prog) (c := d1) Try.underlying34 Try.underlying5 Try.underlying9 (Kd.C_below rc (pw_below_drewN (Below.refl _ _) n_))
      clear qc rc
      go_wp2
      go_quiet (fail)
      go_wp2
      go_roundg gk
      case measure => omega
      case rel => exact ⟨k + 1, by go_num, ⟨by have := HK.out; omega⟩, ⟨by first | exact HW.out | exact pw_below_drewN HW.out _⟩⟩
    · have hge : ¬ ((k : Int) < xs.length) := by omega
      go_wp2
      go_ret
      exact ⟨rfl, HW.out⟩

/-- The reference's network is apart from the network's work. -/
theorem RNet.apart {w w' : World} {r b base base' : Nat} {ok ok' : Nat → Prop} {svR sv sv' : Value} {ys xs : List S37} {room lost room' lost' : Int} (n : RNet w r base ok svR ys room lost) (m : Net w b base' ok' sv xs room' lost') (s : Step w w' b sv sv')
    (hne : ∀ k, sv.ownBlock = some k → svR.ownBlock ≠ some k) : RNet w' r base ok svR ys room lost ∧ ∀ k, sv'.ownBlock = some k → svR.ownBlock ≠ some k := by
  have hty := Kd.R_typed m.2.1
  have hrb : r ≠ b := fun e => by
    have h1 := n.1
    rw [e, m.1] at h1
    injection h1 with h1
    injection h1 with _ h1
    exact absurd h1 (by decide)
  refine ⟨⟨(s.keep.2 r (blk_lt n.1) hrb (fun e => ?_)).trans n.1, list_keep n.2.1 s.keep m.1 (by decide) hty hne, n.2.2⟩, fun k hk e => ?_⟩
  · obtain ⟨cells, hc⟩ := hty r e.symm
    rw [n.1] at hc
    injection hc with hc
    injection hc with _ hc
    exact absurd hc (by decide)
  · rcases s.at_ with h | ⟨k', h, hk'⟩
    · exact hne k (h ▸ hk) e
    · rw [h] at hk; injection hk with hk
      have := Kd.R_lt n.2.1 k e
      omega
theorem Net.apart {w w' : World} {r b base base' : Nat} {ok ok' : Nat → Prop} {svR sv svR' : Value} {ys xs : List S37} {room lost room' lost' : Int} (n : RNet w r base ok svR ys room lost) (m : Net w b base' ok' sv xs room' lost') (s : Step w w' r svR svR')
    (hne : ∀ k, sv.ownBlock = some k → svR.ownBlock ≠ some k) : Net w' b base' ok' sv xs room' lost' ∧ ∀ k, sv.ownBlock = some k → svR'.ownBlock ≠ some k := by
  have hty := Kd.R_typed n.2.1
  have hrb : b ≠ r := fun e => by
    have h1 := n.1
    rw [← e, m.1] at h1
    injection h1 with h1
    injection h1 with _ h1
    exact absurd h1 (by decide)
  refine ⟨⟨(s.keep.2 b (blk_lt m.1) hrb (fun e => ?_)).trans m.1, list_keep m.2.1 s.keep n.1 (by decide) hty (fun k hk e => hne k e hk), m.2.2⟩, fun k hk e => ?_⟩
  · obtain ⟨cells, hc⟩ := hty b e.symm
    rw [m.1] at hc
    injection hc with hc
    injection hc with _ hc
    exact absurd hc (by decide)
  · rcases s.at_ with h | ⟨k', h, hk'⟩
    · exact hne k hk (h ▸ e)
    · rw [h] at e; injection e with e
      have := Kd.R_lt m.2.1 k hk
      omega
end Go.Proofs.Ytcjeideiigdidaa.Net
