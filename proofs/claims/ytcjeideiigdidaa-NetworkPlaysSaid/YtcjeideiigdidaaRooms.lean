/-
NetworkRooms answers true at every room: the walk.
Conditions: none.
-/
import Derived.Test.YtcjeideiigdidaaNet4
namespace Go.Proofs.Ytcjeideiigdidaa.Net
open Go.RowKit Go.Proofs.YtcjeideiigdidaaW.PrintWords Go.Proofs.YtcjeideiigdidaaW.PrintLast Go.Proofs.YtcjeideiigdidaaW.PrintMore
set_option linter.unusedVariables false
set_option linter.unusedSimpArgs false

theorem rnew_ok (room : Int) (w : World) (h1 : 1 ≤ room) (h2 : room ≤ 256) :
    Calls Try.prog 9 #[.int .i64 room] w fun e w' => e = .returned (.tuple #[.pointer (some ⟨w.heap.size, 0, none⟩), .int .i64 0]) ∧ w' = w.alloc (.cells #[.int .i64 room, .slice none 0 0, .int .i64 0] 50) := by
  have e1 : decide (room < 1) = false := by simp; omega
  have e2 : decide (256 < room) = false := by simp; omega
  go_enter Try.func9, Try.ntmps9
  go_wp2
  go_ret2
  exact ⟨rfl, rfl⟩
theorem rnew_bad (room : Int) (w : World) (h : room < 1 ∨ 256 < room) :
    Calls Try.prog 9 #[.int .i64 room] w fun e w' => e = .returned (.tuple #[.pointer none, .int .i64 1]) ∧ w = w' := by
  by_cases h1 : room < 1
  · have e1 : decide (room < 1) = true := by simpa using h1
    clear h
    go_enter Try.func9, Try.ntmps9
    go_wp2
    go_ret2
    exact ⟨rfl, rfl⟩
  · have e1 : decide (room < 1) = false := by simpa using h1
    have e2 : decide (256 < room) = true := by simp; omega
    clear h
    go_enter Try.func9, Try.ntmps9
    go_wp2
    go_ret2
    exact ⟨rfl, rfl⟩

set_option maxHeartbeats 4000000 in
theorem rooms_walk (room : Int) (w : World) : Calls Try.prog 3 #[.int .i64 room] w fun e w' => e = .returned (.bool true) ∧ Below w.heap.size w w' := by
  obtain ⟨zs, hzs⟩ : ∃ zs : List Int, zs = [room, 0, 1, 256, 257, -1] := ⟨_, rfl⟩
  have hlen : zs.length = 6 := by rw [hzs]; rfl
  obtain ⟨w1, hw1⟩ : ∃ w1 : World, w1 = w.alloc (.cells #[.int .i64 room, .int .i64 0, .int .i64 1, .int .i64 256, .int .i64 257, .int .i64 (-1)] 3) := ⟨_, rfl⟩
  have HC := Aside0.mk (show ∀ k, k < 6 → w1.cell? ⟨w.heap.size, k, none⟩ = some (.int .i64 (zs.getD k 0)) from fun k hk => by
    rw [hw1, cell_of_row _ _ k _ 3 (0, 0) (heap_alloc_new w _), hzs]
    match k, hk with
    | 0, _ => rfl
    | 1, _ => rfl
    | 2, _ => rfl
    | 3, _ => rfl
    | 4, _ => rfl
    | 5, _ => rfl)
  have HB := Aside0.mk (show Below w.heap.size w w1 from hw1 ▸ below_alloc (Below.refl _ _) _)
  have HS := Aside0.mk (show w.heap.size < w1.heap.size by rw [hw1]; simp)
  have HW1 := Aside0.mk hw1
  clear hw1 hzs hlen
  go_enter Try.func3, Try.ntmps3
  go_wp2
  rw [← HW1.out]
  go_loopg [12] 6 (fun gk i wr => ∃ k : Nat, i = .int .i64 k ∧ k + gk = 6 ∧ Below w1.heap.size w1 wr)
  case atStart => exact ⟨0, rfl, rfl, Below.refl _ _⟩
  case round =>
    obtain ⟨k, rfl, hk, hb⟩ := hrel
    have HBr := Aside0.mk hb
    have HK := Aside0.mk hk
    clear hb hk
    by_cases hk6 : k < 6
    · have hlt : (k : Int) < 6 := by omega
      have h00 : (0 : Int) ≤ (k : Int) := by omega
      have hc : wr.cell? ⟨w.heap.size, k, none⟩ = some (.int .i64 (zs.getD k 0)) := (HBr.out.cell (p := ⟨w.heap.size, k, none⟩) HS.out).trans (HC.out k hk6)
      obtain ⟨gk, rfl⟩ : ∃ g, gk = g + 1 := ⟨gk - 1, by have := HK.out; omega⟩
      generalize zs.getD k 0 = x at hc
      by_cases hx : 1 ≤ x ∧ x ≤ 256
      · go_wp2_with fail
        refine (new_ok x _ hx.1 hx.2).mono ?_
        rintro e w2 ⟨rfl, hw2⟩
        have HN2 := Aside0.mk (show Net w2 wr.heap.size wr.heap.size (fun _ => True) (.slice none 0 0) [] x 0 from hw2 ▸ net_new wr _ _ x (Nat.le_refl _))
        have HB2 := Aside0.mk (show Below wr.heap.size wr w2 from hw2 ▸ below_alloc (Below.refl _ _) _)
        clear hw2
        go_wp2_with fail
        refine (rnew_ok x _ hx.1 hx.2).mono ?_
        rintro e w3 ⟨rfl, hw3⟩
        have HB3 := Aside0.mk (show Below w2.heap.size w2 w3 from hw3 ▸ below_alloc (Below.refl _ _) _)
        have HN3 := Aside0.mk (HN2.out.below HB3.out)
        clear hw3
        go_wp2_with fail
        refine (len_any wr.heap.size 0 0 none w3 HN3.out.cell0).mono ?_
        rintro e w4 ⟨rfl, rfl⟩
        go_wp2_with fail
        refine (lost_any wr.heap.size 0 w3 HN3.out.cell2).mono ?_
        rintro e w4 ⟨rfl, rfl⟩
        go_wp2
        go_roundg gk
        case measure => omega
        case rel => exact ⟨k + 1, by go_num, by have := HK.out; omega, (HBr.out.trans (HB2.out.mono HBr.out.size)).trans (HB3.out.mono (Nat.le_trans HBr.out.size HB2.out.size))⟩
      · have hx' : x < 1 ∨ 256 < x := by omega
        go_wp2_with fail
        refine (new_bad x _ hx').mono ?_
        rintro e w2 ⟨rfl, rfl⟩
        go_wp2_with fail
        refine (rnew_bad x _ hx').mono ?_
        rintro e w2 ⟨rfl, rfl⟩
        go_wp2
        go_roundg gk
        case measure => omega
        case rel => exact ⟨k + 1, by go_num, by have := HK.out; omega, HBr.out⟩
    · have hge : ¬ ((k : Int) < 6) := by omega
      go_wp2_with fail
      refine (begun_any _).mono ?_
      rintro e w2 ⟨rfl, hb2⟩
      have HB2 := Aside0.mk hb2
      clear hb2
      go_wp2
      go_ret
      exact ⟨rfl, HB.out.trans ((HBr.out.trans (HB2.out.mono HBr.out.size)).mono HB.out.size)⟩
end Go.Proofs.Ytcjeideiigdidaa.Net
