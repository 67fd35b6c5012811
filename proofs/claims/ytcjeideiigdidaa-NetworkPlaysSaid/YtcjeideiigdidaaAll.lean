/-
All: the messages under way, in rows of the call's own.
Conditions: the network's list is of less than 1000 packets, each of at most 2^47 bytes.
-/
import Derived.Test.YtcjeideiigdidaaOrders
namespace Go.Proofs.Ytcjeideiigdidaa.Net
open Go.RowKit Go.Proofs.YtcjeideiigdidaaW.PrintWords Go.Proofs.YtcjeideiigdidaaW.PrintLast Go.Proofs.YtcjeideiigdidaaW.PrintMore
set_option linter.unusedVariables false
set_option linter.unusedSimpArgs false

/-- A list of packets of the call's own. -/
def Given (w : World) (xs : List S37) (e : Ending) (w' : World) : Prop := ∃ v, e = .returned v ∧ k37.R 37 w' w.heap.size (fun _ => True) v xs ∧ Below w.heap.size w w'

theorem take_snoc37 (xs : List S37) (k : Nat) (hk : k < xs.length) : xs.take k ++ [xs.getD k z37] = xs.take (k + 1) := by
  rw [List.take_succ_eq_append_getElem hk, List.getD_eq_getElem?_getD, List.getElem?_eq_getElem hk]
  rfl

set_option maxHeartbeats 4000000 in
theorem all_any (b base : Nat) (ok : Nat → Prop) (sv : Value) (xs : List S37) (room lost : Int) (w : World) (hn : Net w b base ok sv xs room lost) (hl : xs.length < 1000) (hll : ∀ x ∈ xs, x.f1.length ≤ 140737488355328) :
    Calls Try.prog 18 #[.pointer (some ⟨b, 0, none⟩)] w (Given w xs) := by
  obtain ⟨A0, c0, rfl, hc0, _⟩ := hn.form
  have h0 := hn.cell0
  have HN := Aside0.mk hn
  have HLL := Aside0.mk hll
  clear hn hll
  go_enter Try.func18, Try.ntmps18
  go_wp2_with fail
  go_loopg [12, 3] xs.length (fun gk i v wr => ∃ k : Nat, i = .int .i64 k ∧ Aside0 (k + gk = xs.length) ∧ Aside0 (Below w.heap.size w wr) ∧ Aside0 (k37.R 37 wr w.heap.size (fun _ => True) v (xs.take k)))
  case atStart => exact ⟨0, rfl, ⟨by omega⟩, ⟨Below.refl _ _⟩, ⟨by simpa using Kd.R_nil (d := k37) 37 _ _ _⟩⟩
  case round =>
    obtain ⟨k, rfl, HK, HB, HR⟩ := hrel
    by_cases hk6 : k < xs.length
    · have hlt : (k : Int) < xs.length := by omega
      have h00 : (0 : Int) ≤ (k : Int) := by omega
      obtain ⟨gk, rfl⟩ : ∃ g, gk = g + 1 := ⟨gk - 1, by have := HK.out; omega⟩
      obtain ⟨g, cA, A1, c1, e0, hcA, q0, q1, hc1, hR⟩ := (HN.out.below HB.out).elem k hk6
      obtain ⟨rfl, -, rfl⟩ := Value.slice.inj e0
      have hC1 := (Kd.R_reads' hR).2.2
      have hx60 : (xs.getD k z37).f1.length ≤ 140737488355328 := HLL.out _ (by rw [List.getD_eq_getElem?_getD, List.getElem?_eq_getElem hk6]; exact List.getElem_mem _)
      have HS := Aside0.mk (take_snoc37 xs k hk6)
      generalize hx : xs.getD k z37 = x at *
      have HC1 := Aside0.mk hC1
      have HL1 := Aside0.mk hx60
      clear hR hx hC1 hx60 e0
      go_wp2_with fail
      refine (copied_any x A1 c1 _ (Kd.C_below HC1.out (below_alloc (Below.refl _ _) _)) HL1.out).mono ?_
      rintro e w1 ⟨A3, c3, rfl, ho, hb⟩
      have HB1 := Aside0.mk (below_step (below_step HB.out (below_alloc (Below.refl _ _) _)) hb)
      have HBs := Aside0.mk (Nat.le_trans (show wr.heap.size ≤ (wr.alloc (Obj.cells #[Value.int IntKind.i64 x.f0, Value.slice A1 x.f1.length c1] 37)).heap.size by simp) hb.size)
      have hb' : Below wr.heap.size wr w1 := below_step (below_alloc (Below.refl _ _) _) hb
      have HR1 := Aside0.mk (Kd.R_below HR.out hb')
      have hM : k37.M w1 w.heap.size (fun k => wr.heap.size < k) x [.int .i64 x.f0, .slice A3 x.f1.length c3] :=
        k37_mkM _ _ _ x (Kd.R_mono (Kd.R_lower (Kd.R_bound ho) (Nat.le_trans HB.out.size (by simp))) (fun k hk => by have := hk.2.1; simp at this; omega))
      have HM := Aside0.mk hM
      have hlt3 := Kd.R_lt HR.out
      have HLT := Aside0.mk hlt3
      clear ho hb hb' hM hlt3
      go_wp2_with (first | (at_builtin; refine Kd.R_append k37 (w0 := w) w.heap.size rfl (.tmp 16) (.tmp 19) 45 37 (.agg #[.int .i64 0, .slice none 0 0]) 32 rfl Try.underlying45 info37 rfl (by decide) (by omega) u3 (xs.take k) x [.int .i64 x.f0, .slice A3 x.f1.length c3] (fun _ => True) (fun k => wr.heap.size < k) rfl rfl HM.out (fun k hk => ⟨trivial, fun e => by have := HLT.out k e.symm; omega⟩) (fun _ _ => trivial) HR1.out HB1.out HB1.out.size (by rw [List.length_take]; omega) ?_; intro v1 w2 hR2 hB2 hg2 hat2))
      rw [HS.out] at hR2
      have HR2 := Aside0.mk hR2
      have HB2 := Aside0.mk hB2
      clear hR2 hB2 hg2 hat2
      go_wp2
      go_roundg gk
      case measure => omega
      case rel => exact ⟨k + 1, by go_num, ⟨by have := HK.out; omega⟩, HB2, HR2⟩
    · have hge : ¬ ((k : Int) < xs.length) := by omega
      have hkq : k = xs.length := by have := HK.out; omega
      subst hkq
      rw [List.take_length] at HR
      go_wp2
      go_ret
      exact ⟨_, rfl, HR.out, HB.out⟩
end Go.Proofs.Ytcjeideiigdidaa.Net
