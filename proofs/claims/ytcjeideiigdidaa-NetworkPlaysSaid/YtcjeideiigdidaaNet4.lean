/-
The law's own example: begun answers true and leaves what was there alone.
Conditions: none.
-/
import Derived.Test.YtcjeideiigdidaaNet3
import Derived.Lib.SlBytesConst
namespace Go.Proofs.Ytcjeideiigdidaa.Net
open Go.RowKit Go.Proofs.YtcjeideiigdidaaW.PrintWords Go.Proofs.YtcjeideiigdidaaW.PrintLast Go.Proofs.YtcjeideiigdidaaW.PrintMore
set_option linter.unusedVariables false
set_option linter.unusedSimpArgs false

theorem byte_lit (W : World) (x : Int) : (Kd.int .u8).C (W.alloc (.cells #[.int .u8 x] 5 (1, 2))) (some ⟨W.heap.size, 0, none⟩) [x].length [x] := by
  refine ⟨rfl, by simp, fun _ => ⟨_, rfl, fun j p hj => ⟨[.int .u8 p], rfl, rfl, fun i u hu => ?_⟩⟩⟩
  have hj0 : j = 0 := by
    have := (List.getElem?_eq_some_iff.1 hj).1
    simpa using this
  subst hj0
  have hi0 : i = 0 := by
    have := (List.getElem?_eq_some_iff.1 hu).1
    simpa using this
  subst hi0
  simp at hj hu
  subst hj; subst hu
  rw [add_plain]
  exact (cell_of_row _ _ 0 #[.int .u8 x] 5 (1, 2) (heap_alloc_new W _)).trans rfl

set_option maxHeartbeats 2000000 in
theorem begun_any (w : World) : Calls Try.prog 12 #[] w fun e w' => e = .returned (.bool true) ∧ Below w.heap.size w w' := by
  have hcv := fun (W : World) (C : Array Value) (n c : Nat) => Lib.run_convert_bytes_const (P := Try.prog) W 34 5 C n c Try.underlying34 Try.underlying5
  go_enter Try.func12, Try.ntmps12
  go_wp2_with fail
  refine (new_ok 1 w (by omega) (by omega)).mono ?_
  rintro e w1 ⟨rfl, hw1⟩
  have HN1 := Aside0.mk (show Net w1 w.heap.size w.heap.size (fun _ => True) (.slice none 0 0) [] 1 0 from hw1 ▸ net_new w _ _ 1 (Nat.le_refl _))
  have HB1 := Aside0.mk (show Below w.heap.size w w1 from hw1 ▸ below_alloc (Below.refl _ _) _)
  clear hw1
  go_wp2_with fail
  have HC1 := Aside0.mk (byte_lit w1 97)
  have HB2 := Aside0.mk (show Below w1.heap.size w1 (w1.alloc (.cells #[.int .u8 97] 5 (1, 2))) from below_alloc (Below.refl _ _) _)
  refine (send_room w.heap.size w.heap.size (fun _ => True) _ [] 1 0 0 _ 1 [97] _ (HN1.out.below HB2.out) (by simp) (by omega) HC1.out (by simp) (Nat.le_trans HB1.out.size HB2.out.size) (fun _ _ => trivial)).mono ?_
  rintro e w3 ⟨rfl, sv3, hn3, hs3⟩
  have HN3 := Aside0.mk (show Net w3 w.heap.size w.heap.size (fun _ => True) sv3 [⟨0, [97]⟩] 1 0 from hn3)
  have HB3 := Aside0.mk (HB1.out.trans ((HB2.out.mono HB1.out.size).trans (hs3.below (HN1.out.below HB2.out))))
  clear hn3 hs3
  go_wp2_with fail
  have HC3 := Aside0.mk (byte_lit w3 98)
  have HB4 := Aside0.mk (show Below w3.heap.size w3 (w3.alloc (.cells #[.int .u8 98] 5 (1, 2))) from below_alloc (Below.refl _ _) _)
  refine (send_full w.heap.size w.heap.size (fun _ => True) _ _ 1 0 1 _ 1 1 _ (HN3.out.below HB4.out) (by simp) (by omega) (by omega)).mono ?_
  rintro e w5 ⟨rfl, hn5, hs5⟩
  have HN5 := Aside0.mk (show Net w5 w.heap.size w.heap.size (fun _ => True) sv3 [⟨0, [97]⟩] 1 1 from hn5)
  have HB5 := Aside0.mk (HB3.out.trans ((HB4.out.mono HB3.out.size).trans (hs5.below (HN3.out.below HB4.out))))
  clear hn5 hs5
  go_wp2_with fail
  refine (lost_any w.heap.size 1 w5 HN5.out.cell2).mono ?_
  rintro e w6 ⟨rfl, rfl⟩
  go_wp2_with fail
  refine (double_full w.heap.size w.heap.size (fun _ => True) _ _ 1 1 0 w5 HN5.out (by simp) (by simp)).mono ?_
  rintro e w6 ⟨rfl, hd6⟩
  have HN6 := Aside0.mk (HN5.out.below hd6.below)
  have HB6 := Aside0.mk (HB5.out.trans (hd6.below.mono HB5.out.size))
  clear hd6
  go_wp2_with fail
  obtain ⟨A6, c6, hv6, _, _⟩ := HN6.out.form
  refine (len_any w.heap.size 1 c6 A6 w6 (by have := HN6.out.cell0; rw [hv6] at this; exact this)).mono ?_
  rintro e w7 ⟨rfl, rfl⟩
  go_wp2
  go_ret
  exact ⟨rfl, HB6.out⟩
end Go.Proofs.Ytcjeideiigdidaa.Net
