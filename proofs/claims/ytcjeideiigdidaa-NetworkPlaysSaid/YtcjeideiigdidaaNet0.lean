/-
The words of the proofs about package network: a packet's cells (k37), a network in memory (Net), and what slices.Clone and copied leave: a row of the call's own.
Conditions: none of its own; each theorem states what it asks.
-/
import Derived.Test.YtcjeideiigdidaaProg
import Derived.WalkKit
import Derived.WalkSpells
import Derived.Deep.RegionHeld3
import Derived.Deep.QuietTactic
import Derived.BigQuiet
import Derived.Deep.LoopGhost
import Derived.Test.YtcjeideiigdidaaWWords
import Derived.Test.YtcjeideiigdidaaWLast
import Derived.Test.YtcjeideiigdidaaWMore
namespace Go.Proofs.Ytcjeideiigdidaa.Net
open Go.RowKit Go.Proofs.YtcjeideiigdidaaW.PrintWords Go.Proofs.YtcjeideiigdidaaW.PrintLast Go.Proofs.YtcjeideiigdidaaW.PrintMore
set_option linter.unusedVariables false
set_option linter.unusedSimpArgs false

structure S37 where
  f0 : Int
  f1 : List Int
def z37 : S37 := ⟨0, []⟩
def k37 : Kd S37 := Kd.iso (Kd.pair (Kd.int .i64) (Kd.slice 5 (Kd.int .u8))) (fun x : S37 => (x.f0, x.f1))
theorem k37_open {w : World} {x : S37} {cs : List Value} (h : k37.K w x cs) : ∃ A1 c1, cs = [.int .i64 x.f0, .slice A1 x.f1.length c1] ∧ x.f1.length ≤ c1 ∧ (Kd.int .u8).C w A1 x.f1.length x.f1 := by
  obtain ⟨_, _, rfl, rfl, ⟨A1, c1, rfl, l1, g1⟩⟩ := h
  exact ⟨A1, c1, rfl, l1, g1⟩
theorem k37_openM {w : World} {base : Nat} {ok : Nat → Prop} {x : S37} {cs : List Value} (h : k37.M w base ok x cs) : ∃ v1, cs = [.int .i64 x.f0, v1] ∧ (Kd.int .u8).R 5 w base ok v1 x.f1 := by
  obtain ⟨_, _, rfl, rfl, ⟨v1, rfl, g1⟩⟩ := h
  exact ⟨v1, rfl, g1⟩
theorem k37_mkM (w : World) (base : Nat) (ok : Nat → Prop) (x : S37) {v1 : Value} (g1 : (Kd.int .u8).R 5 w base ok v1 x.f1) : k37.M w base ok x [.int .i64 x.f0, v1] := ⟨[.int .i64 x.f0], [v1], rfl, rfl, ⟨v1, rfl, g1⟩⟩
theorem info5 : (Try.prog.info? 5).map (fun i => (i.zero, i.size, i.bytes)) = some (some (.int .u8 0), 1, 1) := by kernel_rfl
theorem info37 : (Try.prog.info? 37).map (fun i => (i.zero, i.size, i.bytes)) = some (some (.agg #[.int .i64 0, .slice none 0 0]), 2, 32) := by kernel_rfl

/-- slices.Clone of bytes: a row of the call's own. -/
def Cloned (w : World) (l : List Int) (e : Ending) (w' : World) : Prop := ∃ A c, e = .returned (.slice A l.length c) ∧ (Kd.int .u8).R 5 w' w.heap.size (fun _ => True) (.slice A l.length c) l ∧ Below w.heap.size w w'

set_option maxHeartbeats 1000000 in
theorem clone_nil (c : Nat) (w : World) : Calls Try.prog 28 #[.slice none 0 c] w (Cloned w []) := by
  have he := fun w => Lib.run_eql_slice_nil (P := Try.prog) w 34 5 none 0 c 0 0 Try.underlying34
  go_enter Try.func28, Try.ntmps28
  go_wp2
  go_ret
  exact ⟨none, 0, rfl, Kd.R_nil _ _ _ _ _, Below.refl _ _⟩

set_option maxHeartbeats 1000000 in
theorem clone_some (a : Addr) (c : Nat) (l : List Int) (w : World) (hr : (Kd.int .u8).C w (some a) l.length l) (hl : l.length ≤ 140737488355328) : Calls Try.prog 28 #[.slice (some a) l.length c] w (Cloned w l) := by
  have he := fun w => Lib.run_eql_slice_nil (P := Try.prog) w 34 5 (some a) l.length c 0 0 Try.underlying34
  have HR := Aside0.mk hr
  clear hr
  have HL := Aside0.mk hl
  clear hl
  go_enter Try.func28, Try.ntmps28
  go_wp2_with (first | ((with_reducible refine gate_dst (N := 5) rfl ?_); refine Kd.R_lit (Kd.int .u8) (w0 := w) w.heap.size 5 ?hg (N := 5) ?hd (xs := ([] : List Int)) (inner := []) (ok := fun _ => True) (okp := fun _ => True) ?hr ?hp (fun _ hk => hk) trivial (Below.refl _ _) (Nat.le_refl _) (by simp) ?_; (case hd => rfl); (case hg => rfl); (case hr => first | (go_simp; done) | (go_simp; rfl)); (case hp => exact (Reps.none _ _)); intro v1 w1 ho1 hb1 hg1 hn1; have HO1 := Aside0.mk ho1; have HB1 := Aside0.mk hb1; clear ho1 hb1 hg1 hn1) | ((with_reducible refine gate_dst (N := 7) rfl ?_); go_loud (refine Kd.R_append_row (Value.int .u8) 0 (h1 := fun _ => rfl) (w0 := w) w.heap.size rfl (.tmp 5) (.tmp 6) 34 5 (.int .u8 0) 1 rfl Try.underlying34 info5 rfl (by omega) v1 [] l _ _ _ (fun _ => True) rfl rfl ?aF ?aO ?aR ?aB ?aS ?aL ?_); (case aF => exact (fun _ _ => trivial)); (case aO => exact HO1.out); (case aR => exact Kd.C_below HR.out HB1.out); (case aB => exact HB1.out); (case aS => exact HB1.out.size); (case aL => have := HL.out; simp; omega); intro v2 w2 ho2 hb2 hg2 hat2; have HO2 := Aside0.mk ho2; have HB2 := Aside0.mk hb2; clear ho2 hb2 hg2 hat2))
  go_ret
  obtain ⟨A2, c2, hv⟩ := Kd.R_slice HO2.out
  have ho := HO2.out
  rw [hv] at ho
  exact ⟨A2, c2, by rw [hv]; rfl, ho, HB2.out⟩

theorem clone_any (A : Option Addr) (c : Nat) (l : List Int) (w : World) (hr : (Kd.int .u8).C w A l.length l) (hl : l.length ≤ 140737488355328) : Calls Try.prog 28 #[.slice A l.length c] w (Cloned w l) := by
  cases A with
  | some a => exact clone_some a c l w hr hl
  | none =>
    have h0 : l = [] := by
      rcases Nat.eq_zero_or_pos l.length with h | h
      · exact List.eq_nil_of_length_eq_zero h
      · obtain ⟨ad, e, _⟩ := hr.2.2 h
        cases e
    subst h0
    exact clone_nil c w

/-- copied: the packet with a row of the call's own. -/
def Copied (w : World) (x : S37) (e : Ending) (w' : World) : Prop := ∃ A c, e = .returned (.agg #[.int .i64 x.f0, .slice A x.f1.length c]) ∧ (Kd.int .u8).R 5 w' w.heap.size (fun _ => True) (.slice A x.f1.length c) x.f1 ∧ Below w.heap.size w w'

set_option maxHeartbeats 1000000 in
theorem copied_any (x : S37) (A : Option Addr) (c : Nat) (w : World) (hr : (Kd.int .u8).C w A x.f1.length x.f1) (hl : x.f1.length ≤ 140737488355328) : Calls Try.prog 25 #[.agg #[.int .i64 x.f0, .slice A x.f1.length c]] w (Copied w x) := by
  have HR := Aside0.mk hr
  clear hr
  have HL := Aside0.mk hl
  clear hl
  go_enter Try.func25, Try.ntmps25
  go_wp2_with fail
  have HW2 : ∃ w2 : World, w2 = (w.alloc (.cells #[.int .i64 x.f0, .slice A x.f1.length c] 37)).alloc (.cells #[.int .i64 0, .slice none 0 0] 37) := ⟨_, rfl⟩
  obtain ⟨w2, hw2⟩ := HW2
  have c0 : w2.cell? ⟨w.heap.size, 0, none⟩ = some (.int .i64 x.f0) := by rw [hw2]; go_simp
  have c1 : w2.cell? ⟨w.heap.size, 1, none⟩ = some (.slice A x.f1.length c) := by rw [hw2]; go_simp
  have d0 : w2.cell? ⟨w.heap.size + 1, 0, none⟩ = some (.int .i64 0) := by rw [hw2]; go_simp
  have d1 : w2.cell? ⟨w.heap.size + 1, 1, none⟩ = some (.slice none 0 0) := by rw [hw2]; go_simp
  have g0 : w2.frozen? ⟨w.heap.size + 1, 0, none⟩ = false := by rw [hw2]; go_simp
  have g1 : w2.frozen? ⟨w.heap.size + 1, 1, none⟩ = false := by rw [hw2]; go_simp
  have sz : w2.heap.size = w.heap.size + 2 := by rw [hw2]; simp
  have HB := Aside0.mk (show Below w.heap.size w w2 from by rw [hw2]; exact ((Below.refl _ _).alloc (Nat.le_refl _) _).alloc (by simp) _)
  rw [← hw2]
  clear hw2
  have SZ := Aside0.mk sz
  clear sz
  go_region_held3 (fun w' => w'.cell? ⟨w.heap.size, 0, none⟩ = some (.int .i64 x.f0) ∧ w'.cell? ⟨w.heap.size, 1, none⟩ = some (.slice A x.f1.length c)) (first | exact ⟨k0.out, k1.out⟩ | go_keep) (first | (go_at_call 28; refine (clone_any A c x.f1 _ ?_ ?_).mono ?_; (exact Kd.C_below HR.out (by repeat (first | exact HB.out | apply Below.drew))); (exact HL.out); rintro e w1 ⟨A1, cc1, rfl, ho, hb⟩; have k0 := Aside0.mk ((hb.cell (p := ⟨w.heap.size, 0, none⟩) (by simp [SZ.out])).trans c0); have k1 := Aside0.mk ((hb.cell (p := ⟨w.heap.size, 1, none⟩) (by simp [SZ.out])).trans c1); have j0 := (hb.cell (p := ⟨w.heap.size + 1, 0, none⟩) (by simp [SZ.out])).trans d0; have j1 := (hb.cell (p := ⟨w.heap.size + 1, 1, none⟩) (by simp [SZ.out])).trans d1; have l0 := (hb.frozen (p := ⟨w.heap.size + 1, 0, none⟩) (by simp [SZ.out])).trans g0; have l1 := (hb.frozen (p := ⟨w.heap.size + 1, 1, none⟩) (by simp [SZ.out])).trans g1; have HB1 := Aside0.mk hb; have HO1 := Aside0.mk ho; clear hb ho))
  clear c0 c1 d0 d1 g0 g1 k0 k1
  have hs2 := SZ.out
  have hs1 := HB1.out.size
  have q0 : ((w1.setCell ⟨w.heap.size + 1, 0, none⟩ (.int .i64 x.f0)).setCell ⟨w.heap.size + 1, 1, none⟩ (.slice A1 x.f1.length cc1)).cell? ⟨w.heap.size + 1, 0, none⟩ = some (.int .i64 x.f0) := by go_simp
  have q1 : ((w1.setCell ⟨w.heap.size + 1, 0, none⟩ (.int .i64 x.f0)).setCell ⟨w.heap.size + 1, 1, none⟩ (.slice A1 x.f1.length cc1)).cell? ⟨w.heap.size + 1, 1, none⟩ = some (.slice A1 x.f1.length cc1) := by go_simp
  go_wp2
  refine bodyPost_ret (v := .agg #[.int .i64 x.f0, .slice A1 x.f1.length cc1]) (by simp [results, Try.results25, go_sem, q0, q1]) rfl ⟨A1, cc1, rfl, ?_, ?_⟩
  · have hsz : w.heap.size + 2 ≤ w2.drew.heap.size := by simp [SZ.out]
    have h := Kd.R_lower (Kd.R_mono (Kd.R_bound HO1.out) (ok' := fun k => k ≠ w.heap.size + 1) (fun k hk => by have := hk.2.1; omega)) (show w.heap.size ≤ _ by omega)
    exact Kd.R_mono (Kd.R_far (Kd.R_far h (p := ⟨w.heap.size + 1, 0, none⟩) (fun k hk => hk) _) (p := ⟨w.heap.size + 1, 1, none⟩) (fun k hk => hk) _) (fun _ _ => trivial)
  · have h : Below w.heap.size w w1 := (HB.out.drew).trans (HB1.out.mono (by simp [SZ.out]))
    exact (h.setCell (by simp) _).setCell (by simp) _
end Go.Proofs.Ytcjeideiigdidaa.Net
