/-
A map of the call's own, keyed by int, whose elements' values are known exactly: made, looked up, looked up with ok, written.
slices.Clone at []int: a row of the call's own.
cut.Check: what it computes, and its contract.
cut.whole: what it computes, and its contract.
cut.open: what it computes, and its contract.
Conditions: as each theorem states.
-/
import Derived.Test.YtkhiglincdognaaPAx0
import Derived.Maps.Own
import Derived.Maps.Views
import Derived.WalkSpells
import Derived.Test.YtkhiglincdognaaPAx2
import Derived.Test.YtkhiglincdognaaPAx3
import Derived.WalkMore
import Derived.Deep.RegionLaw
import Derived.StillTailTactics
namespace Go.Proofs.Ytkhiglincdognaa.PA
open Go.RowKit Go.Proofs.YtkhiglincdognaaW.PrintWords Go.Proofs.YtkhiglincdognaaW.PrintLast Go.Proofs.YtkhiglincdognaaW.PrintMore
open Go.Maps Go.WideElems
set_option linter.unusedVariables false

/-- An element is told by itself. -/
def asIs (v : Value) : Option (DataW Value × List MemPlace) := some (.held v, [])

/-- Block b of w is a map of at most n entries: f tells what stands at each key. -/
def OMap (w : World) (b n : Nat) (f : Int → Option Value) : Prop :=
  ∃ D : DataW Value, w.ownsMap Try.prog 3 asIs b n D ∧ IsMap D ∧ ∀ i, (Lit.int .i64 i).wf = true → ∀ z, D.atKey (.int .i64 i) z = (match f i with | some v => .held v | none => z)

theorem OMap.made (w : World) : OMap (w.alloc (.map #[] 0)) w.heap.size 0 (fun _ => none) := by
  refine ⟨_, World.ownsMap_made w Try.prog 3 asIs, ?_, fun i hi z => ?_⟩
  · exact ⟨[], rfl⟩
  · exact Go.WideAt.atKey_none z (by simp)
theorem OMap.lt {w : World} {b n : Nat} {f : Int → Option Value} (h : OMap w b n f) : b < w.heap.size := h.choose_spec.1.lt
theorem OMap.mono {w : World} {b n n' : Nat} {f : Int → Option Value} (h : OMap w b n f) (hn : n ≤ n') : OMap w b n' f := by
  obtain ⟨D, h1, h2⟩ := h
  exact ⟨D, h1.mono hn, h2⟩
theorem OMap.kept {w w' : World} {b n : Nat} {f : Int → Option Value} {row : Option Nat} (h : OMap w b n f) (hg : w.grownBy w' row) (hne : some b ≠ row) : OMap w' b n f := by
  obtain ⟨D, h1, h2⟩ := h
  exact ⟨D, h1.kept hg hne, h2⟩
theorem OMap.below {w w' : World} {b n : Nat} {f : Int → Option Value} (h : OMap w b n f) (hb : Below w.heap.size w w') : OMap w' b n f := h.kept (grown_of_below hb none) (by simp)
theorem OMap.drew {w : World} {b n : Nat} {f : Int → Option Value} (h : OMap w b n f) : OMap w.drew b n f := h

theorem key3 {i : Int} (hi : (Lit.int .i64 i).wf = true) : keyOf Try.prog 3 (.int .i64 i) = some (.int .i64 i) := keyOf_int_mk Try.underlying3 hi

theorem OMap.look {w : World} {b n : Nat} {f : Int → Option Value} (h : OMap w b n f) {t e : TypeId} (ht : Try.prog.underlying t = some (.map 3 e)) {z : Value} (hz : (zeroValue e).run Try.prog w = .ok z w) {i : Int} (hi : (Lit.int .i64 i).wf = true) (c : Bool) :
    (Instr.lookup t (.map (some b)) (.int .i64 i) c).run Try.prog w = .ok (if c then .tuple #[(f i).getD z, .bool (f i).isSome] else (f i).getD z) w := by
  obtain ⟨D, ⟨es, clock, hb, F, hs, rfl⟩, hm, hf⟩ := h
  have hfi := hf i hi
  rcases Maps.fit_look c (int_keyed Try.underlying3) ht hz hb F (key3 hi) with ⟨hrun, _, hat⟩ | ⟨e0, y, _, _, hrun, hR, hat, _⟩
  · cases hfv : f i with
    | none => simpa using hrun
    | some v =>
      rw [hfv] at hfi
      have h1 := (hat .nil).symm.trans (hfi .nil)
      cases h1
  · obtain rfl : y = (.held e0.val, []) := (Option.some.inj hR).symm
    cases hfv : f i with
    | none =>
      rw [hfv] at hfi
      have h1 := (hat .nil).symm.trans (hfi .nil)
      cases h1
    | some v =>
      rw [hfv] at hfi
      have h1 := (hat .nil).symm.trans (hfi .nil)
      injection h1 with h1
      subst h1
      simpa using hrun

theorem OMap.put {w : World} {b n : Nat} {f : Int → Option Value} (h : OMap w b n f) {t e : TypeId} (ht : Try.prog.underlying t = some (.map 3 e)) (hn : n < maxLen) {i : Int} (hi : (Lit.int .i64 i).wf = true) (v : Value) :
    ∃ w', (Instr.mapUpdate t (.map (some b)) (.int .i64 i) v).run Try.prog w = .ok () w' ∧ OMap w' b (n + 1) (fun j => if j = i then some v else f j) ∧ w.grownBy w' (some b) := by
  obtain ⟨D, ho, hm, hf⟩ := h
  obtain ⟨w', hrun, ho', hg⟩ := ho.update (int_keyed Try.underlying3) ht hn (key3 hi) (val := v) (d := .held v) (ps := []) rfl
  have hk := (int_keyed (P := Try.prog) Try.underlying3).key (key3 hi)
  refine ⟨w', hrun, ⟨_, ho', ?_, fun j hj z => ?_⟩, hg⟩
  · exact hm.put _ _
  · by_cases hij : j = i
    · subst hij
      rw [atKey_put_same hm hk]
      simp
    · rw [atKey_put_other (by intro e; injection e with e1 e2; exact hij e2)]
      rw [hf j hj z]
      simp [hij]

/-- 'm[i] = v' at the operation. -/
theorem put_law (w : World) {ops : Array Oper} {rest : List Oper} {o : Oper} {a : Act} {Q : Exit → Act → World → Prop} (hgd : o.guard = none) (m x v : Operand) (t : TypeId) (hop : o.op = Op.mapUpdate t m x v) {e : TypeId} (ht : Try.prog.underlying t = some (.map 3 e))
    (b n : Nat) (f : Int → Option Value) (hm : a.eval m = .map (some b)) (ho : OMap w b n f) (hn : n < maxLen) (i : Int) (hi : (Lit.int .i64 i).wf = true) (val : Value) (hx : a.eval x = .int .i64 i) (hv : a.eval v = val)
    (hK : ∀ w', OMap w' b (n + 1) (fun j => if j = i then some val else f j) → w.grownBy w' (some b) → wpList Try.prog ops Q rest (a.put o.dst undef) w') : wpList Try.prog ops Q (o :: rest) a w := by
  refine wpList_plain hgd fun K' hK' => ?_
  obtain ⟨w', hrun, r1, r2⟩ := ho.put ht hn hi val
  unfold Oper.wp
  simp [execOp, hop, hm, hx, hv, hrun, Result.andThen]
  exact hK' _ _ (hK w' r1 r2)

theorem wf3 {i : Int} (h0 : -9223372036854775808 ≤ i) (h1 : i ≤ 9223372036854775807) : (Lit.int .i64 i).wf = true := by
  simp [Lit.wf, IntKind.min, IntKind.max, IntKind.signed, IntKind.bits]
  omega
theorem zero26 (w : World) : (zeroValue 26).run Try.prog w = .ok (.slice none 0 0) w := by
  obtain ⟨i, hi, h⟩ := Option.map_eq_some_iff.1 (show (Try.prog.info? 26).map (fun i => i.zero) = some (some (.slice none 0 0)) from by kernel_rfl)
  simp [zeroValue, typeInfo, hi, h]
theorem zero3 (w : World) : (zeroValue 3).run Try.prog w = .ok (.int .i64 0) w := by
  obtain ⟨i, hi, h⟩ := Option.map_eq_some_iff.1 (show (Try.prog.info? 3).map (fun i => i.zero) = some (some (.int .i64 0)) from by kernel_rfl)
  simp [zeroValue, typeInfo, hi, h]
theorem zero4 (w : World) : (zeroValue 4).run Try.prog w = .ok (.bool false) w := by
  obtain ⟨i, hi, h⟩ := Option.map_eq_some_iff.1 (show (Try.prog.info? 4).map (fun i => i.zero) = some (some (.bool false)) from by kernel_rfl)
  simp [zeroValue, typeInfo, hi, h]
end Go.Proofs.Ytkhiglincdognaa.PA

namespace Go.Proofs.Ytkhiglincdognaa.PA
open Go.RowKit Go.Proofs.YtkhiglincdognaaW.PrintWords Go.Proofs.YtkhiglincdognaaW.PrintLast Go.Proofs.YtkhiglincdognaaW.PrintMore
set_option linter.unusedVariables false
set_option linter.unusedSimpArgs false

def slices_Clone_int_int.f (l0 : List Int) : Option (List Int) := if l0.length < 17592186044416 then some l0 else none

/-- A row of the call's own. -/
def ClonedI (w : World) (l : List Int) (e : Ending) (w' : World) : Prop := ∃ v, e = .returned v ∧ Kd.R (Kd.int .i64) 3 w' w.heap.size (fun _ => True) v l ∧ Below w.heap.size w w'

set_option maxHeartbeats 1000000 in
theorem cloneI_nil (c : Nat) (w : World) : Calls Try.prog 54 #[.slice none 0 c] w (ClonedI w []) := by
  have he := fun w => Lib.run_eql_slice_nil (P := Try.prog) w 26 3 none 0 c 0 0 Try.underlying26
  go_enter Try.func54, Try.ntmps54
  go_wp2
  go_ret
  exact ⟨_, rfl, Kd.R_nil _ _ _ _ _, Below.refl _ _⟩

set_option maxHeartbeats 1000000 in
theorem cloneI_some (a : Addr) (c : Nat) (l : List Int) (w : World) (hr : (Kd.int .i64).C w (some a) l.length l) (hl : l.length < 17592186044416) : Calls Try.prog 54 #[.slice (some a) l.length c] w (ClonedI w l) := by
  have he := fun w => Lib.run_eql_slice_nil (P := Try.prog) w 26 3 (some a) l.length c 0 0 Try.underlying26
  have HR := Aside0.mk hr
  clear hr
  have HL := Aside0.mk hl
  clear hl
  go_enter Try.func54, Try.ntmps54
  go_wp2_with (first | ((with_reducible refine gate_dst (N := 5) rfl ?_); refine Kd.R_lit (Kd.int .i64) (w0 := w) w.heap.size 3 ?hg (N := 5) ?hd (xs := ([] : List Int)) (inner := []) (ok := fun _ => True) (okp := fun _ => True) ?hr ?hp (fun _ hk => hk) trivial (Below.refl _ _) (Nat.le_refl _) (by simp) ?_; (case hd => rfl); (case hg => rfl); (case hr => first | (go_simp; done) | (go_simp; rfl)); (case hp => exact (Reps.none _ _)); intro v1 w1 ho1 hb1 hg1 hn1; have HO1 := Aside0.mk ho1; have HB1 := Aside0.mk hb1; clear ho1 hb1 hg1 hn1) | ((with_reducible refine gate_dst (N := 7) rfl ?_); go_loud (refine Kd.R_append_row (Value.int .i64) 0 (h1 := fun _ => rfl) (w0 := w) w.heap.size rfl (.tmp 5) (.tmp 6) 26 3 (.int .i64 0) 8 rfl Try.underlying26 info3 rfl (by omega) v1 [] l _ _ _ (fun _ => True) rfl rfl ?aF ?aO ?aR ?aB ?aS ?aL ?_); (case aF => exact (fun _ _ => trivial)); (case aO => exact HO1.out); (case aR => exact Kd.C_below HR.out HB1.out); (case aB => exact HB1.out); (case aS => exact HB1.out.size); (case aL => have := HL.out; simp; omega); intro v2 w2 ho2 hb2 hg2 hat2; have HO2 := Aside0.mk ho2; have HB2 := Aside0.mk hb2; clear ho2 hb2 hg2 hat2))
  go_ret
  exact ⟨_, rfl, HO2.out, HB2.out⟩

theorem slices_Clone_int_int.calls (A0 : Option Addr) (c0 : Nat) (l0 : List Int) (r : List Int) (w : World) (hr0 : Kd.C (Kd.int .i64) w A0 l0.length l0) (hc0 : l0.length ≤ c0) (h : slices_Clone_int_int.f l0 = some r) :
    Calls Try.prog 54 #[.slice A0 l0.length c0] w fun e w' => ∃ v0_ : Value, e = .returned (v0_) ∧ Kd.R (Kd.int .i64) 3 w' w.heap.size (fun _ => True) v0_ r ∧ Below w.heap.size w w' := by
  unfold slices_Clone_int_int.f at h
  split at h
  · obtain rfl := Option.some.inj h
    cases A0 with
    | some a => exact cloneI_some a c0 l0 w hr0 (by assumption)
    | none =>
      have h0 : l0 = [] := by
        rcases Nat.eq_zero_or_pos l0.length with h | h
        · exact List.eq_nil_of_length_eq_zero h
        · obtain ⟨ad, e, _⟩ := hr0.2.2 h
          cases e
      subst h0
      exact cloneI_nil c0 w
  · cases h
end Go.Proofs.Ytkhiglincdognaa.PA

namespace Go.Proofs.Ytkhiglincdognaa.PA
open Go.RowKit Go.Proofs.YtkhiglincdognaaW.PrintWords Go.Proofs.YtkhiglincdognaaW.PrintLast Go.Proofs.YtkhiglincdognaaW.PrintMore
set_option linter.unusedVariables false
set_option linter.unusedSimpArgs false

/-- The shards that were seen at each commit. -/
abbrev Seen := Int → Option (List Int)
def upd (f : Seen) (i : Int) (v : List Int) : Seen := fun j => if j = i then some v else f j

/-- One list: what was seen behind it, or none where it has an error. -/
def chk1 (k : Nat) (n own : Int) : List S50 → Int → Seen → Option (Option Seen)
  | [], _, seen => some (some seen)
  | st :: rest, last, seen => if st.f0 ≤ last then some none else if st.f0 > 1073741824 then some none else
      (cut_shardsFit.f k st.f1 n own).bind fun t => if t = true then
        (match seen st.f0 with
        | none => chk1 k n own rest st.f0 (upd seen st.f0 st.f1)
        | some o => (slices_Equal_int_int.f k o st.f1).bind fun q => if q = true then chk1 k n own rest st.f0 (upd seen st.f0 st.f1) else some none)
      else some none
def chk0 (k : Nat) (n base : Int) : List (List S50) → Int → Seen → Option Int
  | [], _, _ => some 0
  | l :: ls, i, seen => (chk1 k n i l base seen).bind fun r => match r with | none => some 210 | some s => chk0 k n base ls (i + 1) s
def cut_Check.f (k : Nat) (a0 : Int) (l1 : List (List S50)) : Option Int :=
  if a0 < 0 then some 1 else if a0 > 1073741824 then some 1 else if l1.length = 0 then some 1 else if l1.length > 4 then some 1 else chk0 k l1.length a0 l1 0 (fun _ => none)

theorem chk1_mono (n own : Int) : ∀ (l : List S50) (last : Int) (seen : Seen) (k : Nat), LeO (chk1 k n own l last seen) (chk1 (k + 1) n own l last seen)
  | [], _, _, _ => LeO.refl _
  | st :: rest, last, seen, k => by
    unfold chk1
    refine LeO.ite (LeO.refl _) (LeO.ite (LeO.refl _) (LeO.bind (cut_shardsFit.mono _ _ _ _) (fun t => LeO.ite ?_ (LeO.refl _))))
    cases seen st.f0 with
    | none => exact chk1_mono n own rest _ _ k
    | some o => exact LeO.bind (slices_Equal_int_int.mono _ _ _) (fun q => LeO.ite (chk1_mono n own rest _ _ k) (LeO.refl _))
theorem chk0_mono (n base : Int) : ∀ (l : List (List S50)) (i : Int) (seen : Seen) (k : Nat), LeO (chk0 k n base l i seen) (chk0 (k + 1) n base l i seen)
  | [], _, _, _ => LeO.refl _
  | l :: ls, i, seen, k => by
    unfold chk0
    refine LeO.bind (chk1_mono _ _ _ _ _ _) (fun r => ?_)
    cases r with
    | none => exact LeO.refl _
    | some s => exact chk0_mono n base ls _ _ k
theorem cut_Check.mono : ∀ a0 a1 k, LeO (cut_Check.f k a0 a1) (cut_Check.f (k + 1) a0 a1) := fun a0 a1 k => by
  unfold cut_Check.f
  exact LeO.ite (LeO.refl _) (LeO.ite (LeO.refl _) (LeO.ite (LeO.refl _) (LeO.ite (LeO.refl _) (chk0_mono _ _ _ _ _ _))))

/-- The map holds what was seen. -/
def SeenIs (w w1 : World) (b n : Nat) (seen : Seen) : Prop := ∃ f, OMap w1 b n f ∧ ∀ i, match seen i with
  | none => f i = none
  | some s => ∃ A c, f i = some (.slice A s.length c) ∧ s.length ≤ c ∧ (Kd.int .i64).C w A s.length s
theorem SeenIs.below {w w1 w2 : World} {b n : Nat} {seen : Seen} (h : SeenIs w w1 b n seen) (hb : Below w1.heap.size w1 w2) : SeenIs w w2 b n seen := by
  obtain ⟨f, h1, h2⟩ := h
  exact ⟨f, h1.below hb, h2⟩
theorem SeenIs.upd {w w1 : World} {b n : Nat} {seen : Seen} {f : Int → Option Value} {i : Int} {s : List Int} {A : Option Addr} {c : Nat} (h1 : OMap w1 b n (fun j => if j = i then some (.slice A s.length c) else f j))
    (h2 : ∀ i, match seen i with | none => f i = none | some s => ∃ A c, f i = some (.slice A s.length c) ∧ s.length ≤ c ∧ (Kd.int .i64).C w A s.length s) (hc : s.length ≤ c) (hC : (Kd.int .i64).C w A s.length s) : SeenIs w w1 b n (upd seen i s) := by
  refine ⟨_, h1, fun j => ?_⟩
  unfold PA.upd
  by_cases hj : j = i
  · subst hj
    simp only [if_true]
    exact ⟨A, c, rfl, hc, hC⟩
  · simp only [if_neg hj]
    exact h2 j

set_option maxRecDepth 100000 in
set_option maxHeartbeats 16000000 in
theorem cut_Check.calls (k : Nat) (a0 : Int) (A1 : Option Addr) (c1 : Nat) (l1 : List (List S50)) (r : Int) (w : World) (hr1 : Kd.C (Kd.slice 50 k50) w A1 l1.length l1) (hc1 : l1.length ≤ c1) (h : cut_Check.f k a0 l1 = some r) :
    Calls Try.prog 28 #[.int .i64 a0, .slice A1 l1.length c1] w fun e w' => e = .returned (.int .i64 r) ∧ Below w.heap.size w w' := by
  have HR1 := Aside0.mk hr1
  clear hr1
  unfold cut_Check.f at h
  go_enter Try.func28, Try.ntmps28
  by_cases b1 : a0 < 0
  · rw [if_pos b1] at h
    obtain rfl := Option.some.inj h
    go_wp2
    go_ret
    exact ⟨rfl, Below.refl _ _⟩
  rw [if_neg b1] at h
  by_cases b2 : a0 > 1073741824
  · rw [if_pos b2] at h
    obtain rfl := Option.some.inj h
    go_wp2
    go_ret
    exact ⟨rfl, Below.refl _ _⟩
  rw [if_neg b2] at h
  by_cases b3 : l1.length = 0
  · rw [if_pos b3] at h
    obtain rfl := Option.some.inj h
    have b3' : ((l1.length : Int) == 0) = true := by simp [b3]
    go_wp2
    go_ret
    exact ⟨rfl, Below.refl _ _⟩
  rw [if_neg b3] at h
  have b3' : ((l1.length : Int) == 0) = false := beq_eq_false_iff_ne.mpr (by omega)
  by_cases b4 : l1.length > 4
  · rw [if_pos b4] at h
    obtain rfl := Option.some.inj h
    have b4' : (4 : Int) < l1.length := by omega
    go_wp2
    go_ret
    exact ⟨rfl, Below.refl _ _⟩
  rw [if_neg b4] at h
  have b4' : ¬ (4 : Int) < l1.length := by omega
  have H := Aside0.mk h
  clear h
  have hmm := @run_makeMap Try.prog
  go_wp2_with fail
  have HB1 := Aside0.mk (show Below w.heap.size w (w.alloc (.map #[] 0)) from below_alloc (Below.refl _ _) _)
  have HS1 := Aside0.mk (show SeenIs w (w.alloc (.map #[] 0)) w.heap.size 0 (fun _ => none) from ⟨_, OMap.made w, fun _ => rfl⟩)
  clear hmm
  go_loopg [32] l1.length (fun ga i wo => ∃ (j n : Nat) (seen : Seen), i = .int .i64 j ∧ Aside0 (j + ga = l1.length) ∧ Aside0 (Below w.heap.size w wo) ∧ Aside0 (SeenIs w wo w.heap.size n seen) ∧ (n : Int) ≤ (j : Int) * 1073741824 ∧ Aside0 (chk0 k l1.length a0 (l1.drop j) j seen = some r))
  case atStart => exact ⟨0, 0, _, rfl, ⟨by omega⟩, HB1, HS1, by omega, ⟨H.out⟩⟩
  case round =>
    obtain ⟨j, n, seen, rfl, HK, HB, HS, hn, H⟩ := hrel
    by_cases hj : j < l1.length
    · have hlt : (j : Int) < l1.length := by omega
      have h00 : (0 : Int) ≤ (j : Int) := by omega
      obtain ⟨gb, rfl⟩ : ∃ g, gk = g + 1 := ⟨gk - 1, by have := HK.out; omega⟩
      obtain ⟨ad, A0, c0, rfl, q0, hlc, hC0⟩ := at_L4 HR1.out j (by omega) (by omega)
      have hrd : rd_L4 l1 j = l1.getD j [] := by unfold rd_L4; rw [Int.toNat_natCast]
      have hdr : l1.drop j = l1.getD j [] :: l1.drop (j + 1) := by rw [List.drop_eq_getElem_cons hj, List.getD_eq_getElem?_getD, List.getElem?_eq_getElem hj]; rfl
      have h1 := H.out
      rw [hdr] at h1
      rw [hrd] at q0 hlc hC0
      rw [Int.toNat_natCast] at q0
      have q0' := pw_cell_below HB.out q0
      generalize l1.getD j [] = lst at *
      have HC0 := Aside0.mk hC0
      have H1 := Aside0.mk (show (chk1 k l1.length j lst a0 seen).bind (fun r => match r with | none => some 210 | some s => chk0 k l1.length a0 (l1.drop (j + 1)) (j + 1) s) = some r from h1)
      clear h1 hdr hrd q0 hC0 H
      go_wp2_with fail
      go_loopg [40, 8] lst.length (fun gk i s8 wr => ∃ (jj n : Nat) (last : Int) (seen : Seen), i = .int .i64 jj ∧ s8 = .int .i64 last ∧ Aside0 (jj + gk = lst.length) ∧ Aside0 (Below w.heap.size w wr) ∧ Aside0 (SeenIs w wr w.heap.size n seen) ∧ Aside0 ((n : Int) ≤ (j : Int) * 1073741824 + jj ∧ a0 ≤ last ∧ last ≤ 1073741824 ∧ (jj : Int) ≤ last - a0) ∧ Aside0 ((chk1 k l1.length j (lst.drop jj) last seen).bind (fun r => match r with | none => some 210 | some s => chk0 k l1.length a0 (l1.drop (j + 1)) (j + 1) s) = some r))
      case atStart => exact ⟨0, n, a0, seen, rfl, rfl, ⟨by omega⟩, HB, HS, Aside0.mk (by refine ⟨?_, ?_, ?_, ?_⟩ <;> omega), ⟨H1.out⟩⟩
      case round =>
        obtain ⟨jj, n2, last, seen2, rfl, rfl, HK2, HB2, HS2, HX2, H2⟩ := hrel
        by_cases hjj : jj < lst.length
        · have hlt2 : (jj : Int) < lst.length := by omega
          have h02 : (0 : Int) ≤ (jj : Int) := by omega
          obtain ⟨gk2, rfl⟩ : ∃ g, gk = g + 1 := ⟨gk - 1, by have := HK2.out; omega⟩
          obtain ⟨ad2, A2, c2, rfl, p0, p1, hlc2, hC2⟩ := at_T50 HC0.out jj (by omega) (by omega)
          have hrd2 : rd_T50 lst jj = lst.getD jj z50 := by unfold rd_T50; rw [Int.toNat_natCast]
          have hdr2 : lst.drop jj = lst.getD jj z50 :: lst.drop (jj + 1) := by rw [List.drop_eq_getElem_cons hjj, List.getD_eq_getElem?_getD, List.getElem?_eq_getElem hjj]; rfl
          have h2 := H2.out
          rw [hdr2] at h2
          rw [hrd2] at p0 p1 hlc2 hC2
          rw [Int.toNat_natCast] at p0 p1
          have p0' := pw_cell_below HB2.out p0
          have p1' := pw_cell_below HB2.out p1
          generalize lst.getD jj z50 = st at *
          have HC2 := Aside0.mk hC2
          clear hdr2 hrd2 p0 p1 hC2 H2
          obtain ⟨hx1, hx2, hx3, hx4⟩ := HX2.out
          unfold chk1 at h2
          go_upto_region 11 with fail
          obtain ⟨W4, hW4⟩ : ∃ W4 : World, W4 = wr.alloc (.cells #[.int .i64 st.f0, .slice A2 st.f1.length c2] 50) := ⟨_, rfl⟩
          have HB4 := Aside0.mk (show Below wr.heap.size wr W4 from hW4 ▸ below_alloc (Below.refl _ _) _)
          have x0 : W4.cell? ⟨wr.heap.size, 0, none⟩ = some (.int .i64 st.f0) := by rw [hW4]; go_simp
          have x1 : W4.cell? ⟨wr.heap.size, 1, none⟩ = some (.slice A2 st.f1.length c2) := by rw [hW4]; go_simp
          rw [← hW4]
          have HB04 := Aside0.mk (below_step HB2.out HB4.out)
          have HS4 := Aside0.mk (HS2.out.below HB4.out)
          clear hW4 p0' p1' q0'
          by_cases d1 : st.f0 ≤ last
          · rw [if_pos d1] at h2
            obtain rfl := Option.some.inj h2
            go_wp2
            go_ret
            exact ⟨rfl, HB04.out⟩
          rw [if_neg d1] at h2
          by_cases d2 : st.f0 > 1073741824
          · rw [if_pos d2] at h2
            obtain rfl := Option.some.inj h2
            go_wp2
            go_ret
            exact ⟨rfl, HB04.out⟩
          rw [if_neg d2, Option.bind_assoc] at h2
          obtain ⟨t, ht, h2⟩ := Option.bind_eq_some_iff.1 h2
          have HT := Aside0.mk ht
          clear ht
          have d1' : decide (st.f0 ≤ last) = false := decide_eq_false d1
          have d2' : decide (1073741824 < st.f0) = false := decide_eq_false d2
          cases t with
          | false =>
            rw [if_neg (by simp)] at h2
            obtain rfl := Option.some.inj h2
            go_wp2_with (go_at_call 46; refine (cut_shardsFit.calls k A2 c2 st.f1 _ _ false _ (Kd.C_below HC2.out HB04.out) hlc2 HT.out).mono ?_; rintro e w5 ⟨rfl, hd5⟩; have HB5 := Aside0.mk (below_step HB04.out hd5.below); clear hd5)
            go_ret
            exact ⟨rfl, HB5.out⟩
          | true =>
            rw [if_pos rfl] at h2
            have wf0 : (Lit.int .i64 st.f0).wf = true := wf3 (by omega) (by omega)
            obtain ⟨f, ho4, hf4⟩ := HS4.out
            have HO4 := Aside0.mk ho4
            have HF4 := Aside0.mk hf4
            have hfi := hf4 st.f0
            clear ho4 hf4
            go_upto_region 13 with (go_at_call 46; refine (cut_shardsFit.calls k A2 c2 st.f1 _ _ true _ (Kd.C_below HC2.out HB04.out) hlc2 HT.out).mono ?_; rintro e w5 ⟨rfl, hd5⟩)
            have HB5 := Aside0.mk (below_step HB04.out hd5.below)
            have HO5 := Aside0.mk (HO4.out.below hd5.below)
            have y0 := pw_cell_below hd5.below x0
            have y1 := pw_cell_below hd5.below x1
            have hlk := HO5.out.look (t := 67) Try.underlying67 (zero26 w5) wf0 true
            clear hd5 x0 x1
            cases hs : seen2 st.f0 with
            | none =>
              rw [hs] at h2 hfi
              have hfi' : f st.f0 = none := hfi
              rw [hfi'] at hlk
              simp only [if_true, Option.getD_none, Option.isSome_none] at hlk
              have H3 := Aside0.mk h2
              clear h2
              go_upto_region 18 with (first | (at_mapUpdate; refine put_law _ rfl (.tmp 79) (.tmp 81) (.tmp 83) 67 rfl Try.underlying67 w.heap.size n2 f rfl HO5.out (by simp only [maxLen]; omega) st.f0 wf0 (.slice A2 st.f1.length c2) rfl rfl ?_; intro w6 ho6 hg6))
              have HB6 := Aside0.mk (HB5.out.grown hg6 HB5.out.size (fun k hk => by injection hk with hk; omega))
              have HS6 := Aside0.mk (SeenIs.upd ho6 HF4.out hlc2 HC2.out)
              clear ho6 hg6
              go_wp2
              go_roundg gk2
              case measure => omega
              case rel => exact ⟨jj + 1, n2 + 1, st.f0, _, by go_num, rfl, ⟨by have := HK2.out; omega⟩, HB6, HS6, Aside0.mk (by refine ⟨?_, ?_, ?_, ?_⟩ <;> push_cast <;> omega), ⟨H3.out⟩⟩
            | some o =>
              rw [hs] at h2 hfi
              obtain ⟨A3, c3, hfi', hlc3, hC3⟩ := hfi
              rw [hfi'] at hlk
              simp only [if_true, Option.getD_some, Option.isSome_some] at hlk
              have HC3 := Aside0.mk hC3
              have h3 := (Option.bind_assoc _ _ _).symm.trans h2
              obtain ⟨q, hq, h3⟩ := Option.bind_eq_some_iff.1 h3
              have HQ := Aside0.mk hq
              clear hq h2 hC3
              cases q with
              | false =>
                rw [if_neg (by simp)] at h3
                obtain rfl := Option.some.inj h3
                go_wp2_with (go_at_call 18; refine (slices_Equal_int_int.calls k A3 c3 o A2 c2 st.f1 false _ (Kd.C_below HC3.out HB5.out) hlc3 (Kd.C_below HC2.out HB5.out) hlc2 HQ.out).mono ?_; rintro e w6 ⟨rfl, hd6⟩; have HB6 := Aside0.mk (below_step HB5.out hd6.below); clear hd6)
                go_ret
                exact ⟨rfl, HB6.out⟩
              | true =>
                rw [if_pos rfl] at h3
                have H3 := Aside0.mk h3
                clear h3
                go_upto_region 17 with (go_at_call 18; refine (slices_Equal_int_int.calls k A3 c3 o A2 c2 st.f1 true _ (Kd.C_below HC3.out HB5.out) hlc3 (Kd.C_below HC2.out HB5.out) hlc2 HQ.out).mono ?_; rintro e w7 ⟨rfl, hd7⟩; have HB7 := Aside0.mk (below_step HB5.out hd7.below); have HO7 := Aside0.mk (HO5.out.below hd7.below); have z0 := pw_cell_below hd7.below y0; have z1 := pw_cell_below hd7.below y1; clear hd7)
                clear y0 y1 hlk
                go_upto_region 18 with (first | (at_mapUpdate; refine put_law _ rfl (.tmp 79) (.tmp 81) (.tmp 83) 67 rfl Try.underlying67 w.heap.size n2 f rfl HO7.out (by simp only [maxLen]; omega) st.f0 wf0 (.slice A2 st.f1.length c2) rfl rfl ?_; intro w6 ho6 hg6))
                have HB6 := Aside0.mk (HB7.out.grown hg6 HB7.out.size (fun k hk => by injection hk with hk; omega))
                have HS6 := Aside0.mk (SeenIs.upd ho6 HF4.out hlc2 HC2.out)
                clear ho6 hg6
                go_wp2
                go_roundg gk2
                case measure => omega
                case rel => exact ⟨jj + 1, n2 + 1, st.f0, _, by go_num, rfl, ⟨by have := HK2.out; omega⟩, HB6, HS6, Aside0.mk (by refine ⟨?_, ?_, ?_, ?_⟩ <;> push_cast <;> omega), ⟨H3.out⟩⟩
        · have hge2 : ¬ ((jj : Int) < lst.length) := by omega
          have h2 := H2.out
          rw [List.drop_eq_nil_of_le (by omega)] at h2
          have H3 := Aside0.mk (show chk0 k l1.length a0 (l1.drop (j + 1)) (j + 1) seen2 = some r from h2)
          clear h2 H2
          have hx := HX2.out
          go_wp2
          go_roundg gb
          case measure => omega
          case rel => exact ⟨j + 1, n2, seen2, by go_num, ⟨by have := HK.out; omega⟩, HB2, HS2, by have := hx.1; have := hx.2.1; have := hx.2.2.1; have := hx.2.2.2; push_cast; omega, ⟨by have := H3.out; exact_mod_cast this⟩⟩
    · have hge : ¬ ((j : Int) < l1.length) := by omega
      have h1 := H.out
      rw [List.drop_eq_nil_of_le (by omega)] at h1
      obtain rfl := Option.some.inj h1
      have HB2 := Aside0.mk HB.out
      go_wp2
      go_ret
      exact ⟨rfl, HB2.out⟩
end Go.Proofs.Ytkhiglincdognaa.PA

namespace Go.Proofs.Ytkhiglincdognaa.PA
open Go.RowKit Go.Proofs.YtkhiglincdognaaW.PrintWords Go.Proofs.YtkhiglincdognaaW.PrintLast Go.Proofs.YtkhiglincdognaaW.PrintMore
set_option linter.unusedVariables false
set_option linter.unusedSimpArgs false

theorem wrap_sm (n : Int) (h0 : 0 ≤ n) (h1 : n < 9223372036854775808) : IntKind.i64.wrap n = n := by
  have hm : n % 18446744073709551616 = n := by omega
  unfold IntKind.wrap
  simp [IntKind.bits, IntKind.signed, hm]
  omega

/-- How many stamps have this commit. -/
def cnt (S : List S50) (i : Int) : Nat := S.countP (fun st => st.f0 == i)
/-- How many shards the last stamp with this commit names. -/
def par (S : List S50) (i : Int) : Option Nat := (S.reverse.find? (fun st => st.f0 == i)).map (fun st => st.f1.length)
def cntV (S : List S50) (i : Int) : Option Value := if cnt S i = 0 then none else some (.int .i64 (cnt S i))
def parV (S : List S50) (i : Int) : Option Value := (par S i).map (fun n => .int .i64 n)
theorem cntV_get (S : List S50) (i : Int) : (cntV S i).getD (.int .i64 0) = .int .i64 (cnt S i) := by
  unfold cntV; split
  · rename_i h; rw [h]; rfl
  · rfl
theorem parV_get (S : List S50) (i : Int) : (parV S i).getD (.int .i64 0) = .int .i64 (((par S i).getD 0 : Nat) : Int) := by
  unfold parV; cases par S i <;> rfl
theorem cntV_snoc (S : List S50) (st : S50) : cntV (S ++ [st]) = fun j => if j = st.f0 then some (.int .i64 ((cnt S st.f0 : Int) + 1)) else cntV S j := by
  funext j
  unfold cntV cnt
  rw [List.countP_append]
  by_cases h : j = st.f0
  · subst h; simp
  · have : (st.f0 == j) = false := by simp; exact fun e => h e.symm
    simp [List.countP_cons, this, h]
theorem parV_snoc (S : List S50) (st : S50) : parV (S ++ [st]) = fun j => if j = st.f0 then some (.int .i64 (st.f1.length : Int)) else parV S j := by
  funext j
  unfold parV par
  rw [List.reverse_append]
  by_cases h : j = st.f0
  · subst h; simp
  · have : (st.f0 == j) = false := by simp; exact fun e => h e.symm
    simp [this, h]
theorem cntV_nil : cntV [] = fun _ => none := by funext j; rfl
theorem parV_nil : parV [] = fun _ => none := by funext j; rfl

def whl (S : List S50) : Nat → Int → Option Int
  | 0, _ => none
  | k + 1, n => if 0 < cnt S (n + 1) then (if cnt S (n + 1) = (par S (n + 1)).getD 0 then whl S k (n + 1) else some n) else some n
def cut_whole.f (k : Nat) (a0 : Int) (l1 : List (List S50)) : Option Int :=
  if 0 ≤ a0 ∧ a0 ≤ 1073741824 ∧ l1.flatten.length < 1099511627776 ∧ (l1.flatten.all fun st => decide (0 ≤ st.f0 ∧ st.f0 ≤ 1073741824)) = true then whl l1.flatten k a0 else none
theorem whl_mono (S : List S50) : ∀ k n, LeO (whl S k n) (whl S (k + 1) n)
  | 0, _ => LeO.none _
  | k + 1, n => by
    unfold whl
    exact LeO.ite (LeO.ite (whl_mono S k _) (LeO.refl _)) (LeO.refl _)
theorem cut_whole.mono : ∀ a0 a1 k, LeO (cut_whole.f k a0 a1) (cut_whole.f (k + 1) a0 a1) := fun a0 a1 k => by
  unfold cut_whole.f
  exact LeO.ite (whl_mono _ _ _) (LeO.refl _)

theorem cnt_le (S : List S50) (i : Int) : cnt S i ≤ S.length := List.countP_le_length
theorem cnt_mem (S : List S50) (i : Int) (h : 0 < cnt S i) : ∃ st ∈ S, st.f0 = i := by
  obtain ⟨st, h1, h2⟩ := List.countP_pos_iff.1 h
  exact ⟨st, h1, by simpa using h2⟩
theorem par_mem (S : List S50) (i : Int) (w : World) : True := trivial

/-- Both maps. -/
def Counted (w w1 : World) (S : List S50) : Prop := Below w.heap.size w w1 ∧ OMap w1 w.heap.size S.length (cntV S) ∧ OMap w1 (w.heap.size + 1) S.length (parV S)
theorem Counted.below {w w1 w2 : World} {S : List S50} (h : Counted w w1 S) (hb : Below w1.heap.size w1 w2) : Counted w w2 S := ⟨below_step h.1 hb, h.2.1.below hb, h.2.2.below hb⟩

set_option maxRecDepth 100000 in
set_option maxHeartbeats 16000000 in
theorem cut_whole.calls (k : Nat) (a0 : Int) (A1 : Option Addr) (c1 : Nat) (l1 : List (List S50)) (r : Int) (w : World) (hr1 : Kd.C (Kd.slice 50 k50) w A1 l1.length l1) (hc1 : l1.length ≤ c1) (h : cut_whole.f k a0 l1 = some r) :
    Calls Try.prog 41 #[.int .i64 a0, .slice A1 l1.length c1] w fun e w' => e = .returned (.int .i64 r) ∧ Below w.heap.size w w' := by
  have HR1 := Aside0.mk hr1
  have hl1 : l1.length ≤ 9223372036854775807 := hr1.2.1
  clear hr1
  unfold cut_whole.f at h
  split at h
  case isFalse => cases h
  case isTrue hg =>
  obtain ⟨g1, g2, g3, g4⟩ := hg
  have G3 := Aside0.mk g3
  have G4 := Aside0.mk (show ∀ st ∈ l1.flatten, 0 ≤ st.f0 ∧ st.f0 ≤ 1073741824 from fun st hst => by simpa using List.all_eq_true.1 g4 st hst)
  have H := Aside0.mk h
  clear h g4 g3
  go_enter Try.func41, Try.ntmps41
  have hmm := @run_makeMap Try.prog
  go_wp2_with fail
  have HC1 := Aside0.mk (show Counted w ((w.alloc (.map #[] 0)).alloc (.map #[] 0)) [] from ⟨((Below.refl _ _).alloc (Nat.le_refl _) _).alloc (by simp) _, by rw [cntV_nil]; exact (OMap.made w).below (below_alloc (Below.refl _ _) _), by rw [parV_nil]; exact (by simpa using OMap.made (w.alloc (.map #[] 0)))⟩)
  clear hmm
  go_loopg [16] l1.length (fun gk i wr => ∃ j : Nat, i = .int .i64 j ∧ Aside0 (j + gk = l1.length) ∧ Aside0 (Counted w wr (l1.take j).flatten))
  case atStart => exact ⟨0, rfl, ⟨by omega⟩, ⟨by simpa using HC1.out⟩⟩
  case round =>
    obtain ⟨j, rfl, HK, HC⟩ := hrel
    by_cases hj : j < l1.length
    · have hlt : (j : Int) < l1.length := by omega
      have h00 : (0 : Int) ≤ (j : Int) := by omega
      obtain ⟨gb, rfl⟩ : ∃ g, gk = g + 1 := ⟨gk - 1, by have := HK.out; omega⟩
      obtain ⟨ad, A0, c0, rfl, q0, hlc, hC0⟩ := at_L4 HR1.out j (by omega) (by omega)
      have hrd : rd_L4 l1 j = l1.getD j [] := by unfold rd_L4; rw [Int.toNat_natCast]
      have htk : (l1.take (j + 1)).flatten = (l1.take j).flatten ++ l1.getD j [] := by rw [List.take_succ_eq_append_getElem hj, List.flatten_append, List.getD_eq_getElem?_getD, List.getElem?_eq_getElem hj]; simp
      have hsub : ∀ m, ((l1.take j).flatten ++ (l1.getD j []).take m).length ≤ l1.flatten.length ∧ ∀ st ∈ l1.getD j [], st ∈ l1.flatten := fun m => by
        have e : l1.flatten = (l1.take j).flatten ++ (l1.getD j [] ++ (l1.drop (j + 1)).flatten) := by
          rw [← List.append_assoc, ← htk, ← List.flatten_append, List.take_append_drop]
        rw [e]
        exact ⟨by simp; omega, fun st hst => List.mem_append_right _ (List.mem_append_left _ hst)⟩
      rw [hrd] at q0 hlc hC0
      rw [Int.toNat_natCast] at q0
      have q0' := pw_cell_below HC.out.1 q0
      generalize l1.getD j [] = lst at *
      have hll : lst.length ≤ 9223372036854775807 := hC0.2.1
      have HC0 := Aside0.mk hC0
      have HT := Aside0.mk htk
      have HSUB := Aside0.mk hsub
      clear htk hrd q0 hC0 hsub
      go_wp2_with fail
      go_loopg [22] lst.length (fun gk i wr => ∃ jj : Nat, i = .int .i64 jj ∧ Aside0 (jj + gk = lst.length) ∧ Aside0 (Counted w wr ((l1.take j).flatten ++ lst.take jj)))
      case atStart => exact ⟨0, rfl, ⟨by omega⟩, ⟨by simpa using HC.out⟩⟩
      case round =>
        obtain ⟨jj, rfl, HK2, HC2⟩ := hrel
        by_cases hjj : jj < lst.length
        · have hlt2 : (jj : Int) < lst.length := by omega
          have h02 : (0 : Int) ≤ (jj : Int) := by omega
          obtain ⟨gk2, rfl⟩ : ∃ g, gk = g + 1 := ⟨gk - 1, by have := HK2.out; omega⟩
          obtain ⟨ad2, A2, c2, rfl, p0, p1, hlc2, hC2⟩ := at_T50 HC0.out jj (by omega) (by omega)
          have hrd2 : rd_T50 lst jj = lst.getD jj z50 := by unfold rd_T50; rw [Int.toNat_natCast]
          have hsn : (l1.take j).flatten ++ lst.take (jj + 1) = ((l1.take j).flatten ++ lst.take jj) ++ [lst.getD jj z50] := by rw [List.take_succ_eq_append_getElem hjj, List.getD_eq_getElem?_getD, List.getElem?_eq_getElem hjj, List.append_assoc]; rfl
          have hmem : lst.getD jj z50 ∈ lst := by rw [List.getD_eq_getElem?_getD, List.getElem?_eq_getElem hjj]; exact List.getElem_mem _
          have hst := G4.out _ ((HSUB.out 0).2 _ hmem)
          have hlen := (HSUB.out jj).1
          rw [hrd2] at p0 p1 hlc2
          rw [Int.toNat_natCast] at p0 p1
          have p0' := pw_cell_below HC2.out.1 p0
          have p1' := pw_cell_below HC2.out.1 p1
          generalize lst.getD jj z50 = st at *
          obtain ⟨S, hS⟩ : ∃ S, S = (l1.take j).flatten ++ lst.take jj := ⟨_, rfl⟩
          rw [← hS] at hsn HC2 hlen
          have HSN := Aside0.mk hsn
          have hS40 : S.length < 1099511627776 := by have := G3.out; omega
          clear hsn hmem hrd2 p0 p1 hC2 hS q0'
          have wf0 : (Lit.int .i64 st.f0).wf = true := wf3 (by omega) (by omega)
          have hcn := cnt_le S st.f0
          have hwr : IntKind.i64.wrap ((cnt S st.f0 : Int) + 1) = (cnt S st.f0 : Int) + 1 := wrap_sm _ (by omega) (by omega)
          go_upto_region 8 with fail
          obtain ⟨W4, hW4⟩ : ∃ W4 : World, W4 = wr.alloc (.cells #[.int .i64 st.f0, .slice A2 st.f1.length c2] 50) := ⟨_, rfl⟩
          have HC4 := Aside0.mk (show Counted w W4 S from hW4 ▸ HC2.out.below (below_alloc (Below.refl _ _) _))
          have hblk4 : W4.heap[wr.heap.size]? = some (.cells #[.int .i64 st.f0, .slice A2 st.f1.length c2] 50 (0, 0)) := by rw [hW4]; exact heap_alloc_new wr _
          have hwr1 : w.heap.size + 1 < wr.heap.size := HC2.out.2.2.lt
          rw [← hW4]
          clear hW4 p0' p1'
          have x0 := (blk_cell hblk4 0).trans rfl
          have x1 := (blk_cell hblk4 1).trans rfl
          have HBLK := Aside0.mk hblk4
          have hlk := HC4.out.2.1.look (t := 74) Try.underlying74 (zero3 W4) wf0 false
          simp only [Bool.false_eq_true, if_false, cntV_get] at hlk
          clear hblk4
          go_upto_region 9 with (first | (at_mapUpdate; refine put_law _ rfl (.tmp 26) (.tmp 28) (.tmp 30) 74 rfl Try.underlying74 w.heap.size S.length (cntV S) rfl HC4.out.2.1 (by simp only [maxLen]; omega) st.f0 wf0 (.int .i64 ((cnt S st.f0 : Int) + 1)) rfl rfl ?_; intro w5 ho5 hg5))
          have HB5 := Aside0.mk (HC4.out.1.grown hg5 HC4.out.1.size (fun k hk => by injection hk with hk; omega))
          have HO5 := Aside0.mk ho5
          have HP5 := Aside0.mk (HC4.out.2.2.kept hg5 (by intro e; injection e with e; omega))
          have hblk5 := (hg5.block wr.heap.size (blk_lt HBLK.out) (by intro e; injection e with e; omega)).trans HBLK.out
          have y0 := (blk_cell hblk5 0).trans rfl
          have y1 := (blk_cell hblk5 1).trans rfl
          clear ho5 hg5 hblk5 x0 x1 hlk
          go_upto_region 10 with (first | (at_mapUpdate; refine put_law _ rfl (.tmp 31) (.tmp 33) (.tmp 36) 74 rfl Try.underlying74 (w.heap.size + 1) S.length (parV S) rfl HP5.out (by simp only [maxLen]; omega) st.f0 wf0 (.int .i64 (st.f1.length : Int)) rfl rfl ?_; intro w6 ho6 hg6))
          have HC6 := Aside0.mk (show Counted w w6 ((l1.take j).flatten ++ lst.take (jj + 1)) from by
            rw [HSN.out]
            refine ⟨HB5.out.grown hg6 HB5.out.size (fun k hk => by injection hk with hk; omega), ?_, ?_⟩
            · rw [cntV_snoc, List.length_append]; exact HO5.out.kept hg6 (by intro e; injection e with e; omega)
            · rw [parV_snoc, List.length_append]; exact ho6)
          clear ho6 hg6
          go_wp2
          go_roundg gk2
          case measure => omega
          case rel => exact ⟨jj + 1, by go_num, ⟨by have := HK2.out; omega⟩, HC6⟩
        · have hge2 : ¬ ((jj : Int) < lst.length) := by omega
          have HC6 := Aside0.mk (show Counted w wr (l1.take (j + 1)).flatten from by rw [HT.out]; have := HC2.out; rw [show lst.take jj = lst from List.take_of_length_le (by omega)] at this; exact this)
          go_wp2
          go_roundg gb
          case measure => omega
          case rel => exact ⟨j + 1, by go_num, ⟨by have := HK.out; omega⟩, HC6⟩
    · have hge : ¬ ((j : Int) < l1.length) := by omega
      have HC6 := Aside0.mk (show Counted w wr l1.flatten from by have := HC.out; rwa [List.take_of_length_le (by omega)] at this)
      clear HC
      obtain ⟨S, hS⟩ : ∃ S, S = l1.flatten := ⟨_, rfl⟩
      rw [← hS] at HC6 G3 G4 H
      clear hS
      go_wp2_with fail
      go_loopg [11] k (fun gk s11 wr => ∃ n : Int, s11 = .int .i64 n ∧ Aside0 (whl S gk n = some r) ∧ 0 ≤ n ∧ n ≤ 1073741824 ∧ Aside0 (Counted w wr S))
      case atStart => exact ⟨a0, rfl, ⟨H.out⟩, g1, g2, HC6⟩
      case round =>
        obtain ⟨n, rfl, H, hn0, hn1, HC⟩ := hrel
        cases gk with
        | zero => exact absurd H.out (by simp [whl])
        | succ gk =>
          have h := H.out
          unfold whl at h
          have hw1 : IntKind.i64.wrap (n + 1) = n + 1 := wrap_sm _ (by omega) (by omega)
          have wfn : (Lit.int .i64 (n + 1)).wf = true := wf3 (by omega) (by omega)
          have k1 := HC.out.2.1.look (t := 74) Try.underlying74 (zero3 wr) wfn false
          have k2 := HC.out.2.2.look (t := 74) Try.underlying74 (zero3 wr) wfn false
          simp only [Bool.false_eq_true, if_false, cntV_get, parV_get] at k1 k2
          have HCC := Aside0.mk HC.out.1
          by_cases d1 : 0 < cnt S (n + 1)
          · rw [if_pos d1] at h
            have d1' : decide ((0 : Int) < (cnt S (n + 1) : Int)) = true := decide_eq_true (by omega)
            obtain ⟨st, hst, hsn⟩ := cnt_mem S (n + 1) d1
            have hn2 := (G4.out st hst).2
            by_cases d2 : cnt S (n + 1) = (par S (n + 1)).getD 0
            · rw [if_pos d2] at h
              have d2' : ((cnt S (n + 1) : Int) == (((par S (n + 1)).getD 0 : Nat) : Int)) = true := by rw [d2]; simp
              have H2 := Aside0.mk h
              clear h H
              go_wp2
              go_roundg gk
              case measure => omega
              case rel => exact ⟨n + 1, by go_num, H2, by omega, by omega, HC⟩
            · rw [if_neg d2] at h
              have d2' : ((cnt S (n + 1) : Int) == (((par S (n + 1)).getD 0 : Nat) : Int)) = false := beq_eq_false_iff_ne.mpr (by omega)
              obtain rfl := Option.some.inj h
              go_wp2
              go_ret
              exact ⟨rfl, HCC.out⟩
          · rw [if_neg d1] at h
            have d1' : decide ((0 : Int) < (cnt S (n + 1) : Int)) = false := decide_eq_false (by omega)
            obtain rfl := Option.some.inj h
            go_wp2
            go_ret
            exact ⟨rfl, HCC.out⟩
end Go.Proofs.Ytkhiglincdognaa.PA

namespace Go.Proofs.Ytkhiglincdognaa.PA
open Go.RowKit Go.Proofs.YtkhiglincdognaaW.PrintWords Go.Proofs.YtkhiglincdognaaW.PrintLast Go.Proofs.YtkhiglincdognaaW.PrintMore
set_option linter.unusedVariables false
set_option linter.unusedSimpArgs false

/-- The stamps of list x that the cut contains. -/
def cutOf (logs : List (List S50)) (c : List Int) (x : Nat) : List S50 := (logs.getD x []).take (c.getD x 0).toNat
def isIn (S : List S50) (i : Int) : Bool := S.any fun st => st.f0 == i
/-- A stamp that the cut does not contain in all of its shards. -/
def badSt (logs : List (List S50)) (c : List Int) (st : S50) : Bool := st.f1.any fun x => !isIn (cutOf logs c x.toNat) st.f0
def opn (logs : List (List S50)) (c : List Int) : Nat → Nat → Int × Int × Bool
  | 0, _ => (0, 0, false)
  | m + 1, i => match (cutOf logs c i).findIdx? (badSt logs c) with
    | some k => ((i : Int), (k : Int), true)
    | none => opn logs c m (i + 1)
def openOk (logs : List (List S50)) (c : List Int) : Bool :=
  decide (c.length = logs.length) && decide (logs.length ≤ 1073741824) && (List.range logs.length).all (fun i => decide (0 ≤ c.getD i 0 ∧ c.getD i 0 ≤ ((logs.getD i []).length : Int) ∧ (logs.getD i []).length ≤ 1099511627776) && (logs.getD i []).all fun st => decide (0 ≤ st.f0 ∧ st.f0 ≤ 1073741824) && st.f1.all fun x => decide (0 ≤ x ∧ x < (logs.length : Int)))
def cut_open.f (k : Nat) (l0 : List (List S50)) (l1 : List Int) : Option (Int × Int × Bool) := if openOk l0 l1 = true then some (opn l0 l1 l0.length 0) else none
theorem cut_open.mono : ∀ a0 a1 k, LeO (cut_open.f k a0 a1) (cut_open.f (k + 1) a0 a1) := fun a0 a1 k => LeO.refl _

def inV (S : List S50) (i : Int) : Option Value := if isIn S i = true then some (.bool true) else none
theorem inV_get (S : List S50) (i : Int) : (inV S i).getD (.bool false) = .bool (isIn S i) := by
  unfold inV; split
  · rename_i h; rw [h]; rfl
  · rename_i h; simp at h; rw [h]; rfl
theorem inV_snoc (S : List S50) (st : S50) : inV (S ++ [st]) = fun j => if j = st.f0 then some (.bool true) else inV S j := by
  funext j
  unfold inV isIn
  rw [List.any_append]
  by_cases h : j = st.f0
  · subst h; simp
  · have : (st.f0 == j) = false := by simp; exact fun e => h e.symm
    simp [this, h]
theorem inV_nil : inV [] = fun _ => none := by funext j; rfl

theorem OMap.move {w w' : World} {b n : Nat} {f : Int → Option Value} (h : OMap w b n f) (e : w'.heap[b]? = w.heap[b]?) : OMap w' b n f := by
  obtain ⟨D, ⟨es, clock, hb, h1⟩, h2⟩ := h
  exact ⟨D, ⟨es, clock, e.trans hb, h1⟩, h2⟩
/-- The row of n maps at block b: its first j cells hold maps, each of the stamps that F tells; the others nil. -/
def Maps (n : Nat) (F : Nat → List S50) (w1 : World) (b j : Nat) : Prop :=
  ∃ gs : List Nat, gs.length = j ∧ j ≤ n ∧ w1.heap[b]? = some (.cells (((gs.map fun g => Value.map (some g)) ++ List.replicate (n - j) (Value.map none)).toArray) 77 (0, 0)) ∧ gs.Nodup ∧
    ∀ x g, gs[x]? = some g → b < g ∧ OMap w1 g (F x).length (inV (F x))
theorem Maps.below {n : Nat} {F : Nat → List S50} {w1 w2 : World} {b j : Nat} (h : Maps n F w1 b j) (hb : Below w1.heap.size w1 w2) : Maps n F w2 b j := by
  obtain ⟨gs, h1, h2, h3, h4, h6⟩ := h
  exact ⟨gs, h1, h2, (hb.block b (blk_lt h3)).trans h3, h4, fun x g hx => ⟨(h6 x g hx).1, (h6 x g hx).2.below hb⟩⟩
theorem Maps.congr {n : Nat} {F F' : Nat → List S50} {w1 : World} {b j : Nat} (h : Maps n F w1 b j) (hF : ∀ x, x < j → F x = F' x) : Maps n F' w1 b j := by
  obtain ⟨gs, h1, h2, h3, h4, h6⟩ := h
  refine ⟨gs, h1, h2, h3, h4, fun x g hx => ?_⟩
  rw [← hF x (by have := (List.getElem?_eq_some_iff.1 hx).1; omega)]
  exact h6 x g hx
theorem Maps.lt {n : Nat} {F : Nat → List S50} {w1 : World} {b j : Nat} (h : Maps n F w1 b j) : b < w1.heap.size := by
  obtain ⟨gs, _, _, h3, _⟩ := h
  exact blk_lt h3
/-- The cell of a list. -/
theorem Maps.cell {n : Nat} {F : Nat → List S50} {w1 : World} {b j : Nat} (h : Maps n F w1 b j) (x : Nat) (hx : x < j) : ∃ g, w1.cell? ⟨b, x, none⟩ = some (.map (some g)) ∧ b < g ∧ OMap w1 g (F x).length (inV (F x)) := by
  obtain ⟨gs, h1, h2, h3, h4, h6⟩ := h
  have hg : gs[x]? = some (gs[x]'(by omega)) := List.getElem?_eq_getElem (by omega)
  refine ⟨gs[x]'(by omega), (blk_cell h3 x).trans ?_, h6 x _ hg⟩
  simp [List.getElem?_append_left, hg, h1, hx]
theorem Maps.nilCell {n : Nat} {F : Nat → List S50} {w1 : World} {b j : Nat} (h : Maps n F w1 b j) (hj : j < n) : w1.cell? ⟨b, j, none⟩ = some (.map none) ∧ w1.frozen? ⟨b, j, none⟩ = false := by
  obtain ⟨gs, h1, h2, h3, h4, h6⟩ := h
  refine ⟨(blk_cell h3 j).trans ?_, blk_frozen h3 j⟩
  simp [List.getElem?_append_right, h1, List.getElem?_replicate]
  omega
/-- A new map is put into the next cell. -/
theorem Maps.next {n : Nat} {F : Nat → List S50} {w1 : World} {b j : Nat} (h : Maps n F w1 b j) (hj : j < n) (hF : F j = []) : Maps n F ((w1.alloc (.map #[] 0)).setCell ⟨b, j, none⟩ (.map (some w1.heap.size))) b (j + 1) := by
  have hb := h.lt
  obtain ⟨gs, h1, h2, h3, h4, h6⟩ := h
  have hlt : ∀ g ∈ gs, g < w1.heap.size := fun g hg => by
    obtain ⟨x, hx, rfl⟩ := List.mem_iff_getElem.1 hg
    exact (h6 x _ (List.getElem?_eq_getElem hx)).2.lt
  have h3' : (w1.alloc (.map #[] 0)).heap[b]? = _ := ((below_alloc (Below.refl _ _) _).block b hb).trans h3
  refine ⟨gs ++ [w1.heap.size], by simp [h1], hj, ?_, ?_, fun x g hx => ?_⟩
  · have := blk_set h3' j (.map (some w1.heap.size))
    rw [this]
    congr 2
    have hr : List.replicate (n - j) (Value.map none) = Value.map none :: List.replicate (n - (j + 1)) (Value.map none) := by rw [← List.replicate_succ]; congr 1; omega
    rw [hr]
    simp [h1, List.set_append]
  · rw [List.nodup_append]
    refine ⟨h4, by simp, fun a ha c hc => ?_⟩
    have := hlt a ha
    simp at hc
    omega
  · have hfar : ∀ g', b ≠ g' → ((w1.alloc (.map #[] 0)).setCell ⟨b, j, none⟩ (.map (some w1.heap.size))).heap[g']? = (w1.alloc (.map #[] 0)).heap[g']? := fun g' hne => Below.heap_setCell _ _ _ _ (fun e => hne e.symm)
    rcases Nat.lt_or_ge x gs.length with hx' | hx'
    · rw [List.getElem?_append_left hx'] at hx
      obtain ⟨k1, k2⟩ := h6 x g hx
      exact ⟨k1, (k2.below (below_alloc (Below.refl _ _) _)).move (hfar g (by omega))⟩
    · have hxj : x = gs.length := by
        have := (List.getElem?_eq_some_iff.1 hx).1
        simp at this
        omega
      subst hxj
      simp at hx
      subst hx
      rw [h1, hF, inV_nil]
      exact ⟨hb, (OMap.made w1).move (hfar _ (by omega))⟩
theorem Maps.put {n : Nat} {F : Nat → List S50} {w1 w2 : World} {b J x g : Nat} {st : S50} (h : Maps n F w1 b J) (hx : x < J) (hc : w1.cell? ⟨b, x, none⟩ = some (.map (some g)))
    (ho : OMap w2 g ((F x).length + 1) (fun i => if i = st.f0 then some (.bool true) else inV (F x) i)) (hg : w1.grownBy w2 (some g)) : Maps n (fun y => if y = x then F x ++ [st] else F y) w2 b J := by
  have hb := h.lt
  obtain ⟨gs, h1, h2, h3, h4, h6⟩ := h
  have hgx : gs[x]? = some (gs[x]'(by omega)) := List.getElem?_eq_getElem (by omega)
  have hgg : gs[x]'(by omega) = g := by
    have e := (blk_cell h3 x).symm.trans hc
    simp [List.getElem?_append_left, hgx, h1, hx] at e
    exact e
  rw [hgg] at hgx
  have hbg := (h6 x g hgx).1
  refine ⟨gs, h1, h2, (hg.block b hb (by intro e; injection e with e; omega)).trans h3, h4, fun y g' hy => ?_⟩
  obtain ⟨k1, k2⟩ := h6 y g' hy
  refine ⟨k1, ?_⟩
  by_cases hyx : y = x
  · subst hyx
    obtain rfl : g' = g := by rw [hgx] at hy; exact (Option.some.inj hy).symm
    simp only [if_true]
    rw [inV_snoc, List.length_append]
    exact ho
  · simp only [if_neg hyx]
    refine k2.kept hg (fun e => ?_)
    injection e with e
    subst e
    have hyl := (List.getElem?_eq_some_iff.1 hy).1
    exact hyx ((List.getElem?_inj hyl h4).1 (hy.trans hgx.symm))

theorem zero77 : (Try.prog.info? 77).map (fun i => (i.zero, i.size, i.bytes)) = some (some (.map none), 1, 8) := by kernel_rfl
theorem info50' : ∃ i : TypeInfo, Try.prog.info? 50 = some i := Option.isSome_iff_exists.1 (by kernel_rfl : (Try.prog.info? 50).isSome = true)

theorem at_I {w : World} {A : Option Addr} {n : Nat} {xs : List Int} (h : (Kd.int .i64).C w A n xs) (i : Nat) (h1 : i < n) : ∃ ad, A = some ad ∧ w.cell? (ad.add i) = some (.int .i64 (xs.getD i 0)) := by
  obtain ⟨ad, c, e, _, hK, hc0⟩ := Kd.C_get h (0 : Int) (i : Int) (by omega) (by omega)
  have hc : ∀ j u, c[j]? = some u → w.cell? (ad.add ((i : Int).toNat * 1 + j)) = some u := hc0
  obtain rfl : c = [.int .i64 (xs.getD (i : Int).toNat 0)] := hK
  rw [Int.toNat_natCast] at hc
  have := hc 0 _ rfl
  rw [Nat.mul_one, Nat.add_zero] at this
  exact ⟨ad, e, this⟩

/-- 'm[i] = v' as a step of a region that draws its order. -/
theorem put_step (w : World) {ops : Array Oper} {o : Oper} {a : Act} {Q : Exit → Act → World → Prop} {Kc : Act → World → Prop} (hw : Region.wanted o (yielded ops a.tmps) = true) (m x v : Operand) (t : TypeId) (hop : o.op = Op.mapUpdate t m x v) {e : TypeId} (ht : Try.prog.underlying t = some (.map 3 e))
    (b n : Nat) (f : Int → Option Value) (hm : a.eval m = .map (some b)) (ho : OMap w b n f) (hn : n < maxLen) (i : Int) (hi : (Lit.int .i64 i).wf = true) (val : Value) (hx : a.eval x = .int .i64 i) (hv : a.eval v = val)
    (hK : ∀ w', OMap w' b (n + 1) (fun j => if j = i then some val else f j) → w.grownBy w' (some b) → Kc (a.put o.dst undef) w') : if Region.wanted o (yielded ops a.tmps) = true then Oper.wp Try.prog o a w Kc Q else Kc (a.put o.dst undef) w := by
  rw [if_pos hw]
  obtain ⟨w', hrun, r1, r2⟩ := ho.put ht hn hi val
  unfold Oper.wp
  simp [execOp, hop, hm, hx, hv, hrun, Result.andThen]
  exact hK w' r1 r2

set_option maxRecDepth 100000 in
set_option maxHeartbeats 16000000 in
theorem cut_open.calls (k : Nat) (A0 : Option Addr) (c0 : Nat) (l0 : List (List S50)) (A1 : Option Addr) (c1 : Nat) (l1 : List Int) (r1 : Int) (r2 : Int) (r3 : Bool) (w : World) (hr0 : Kd.C (Kd.slice 50 k50) w A0 l0.length l0) (hc0 : l0.length ≤ c0) (hr1 : Kd.C (Kd.int .i64) w A1 l1.length l1) (hc1 : l1.length ≤ c1) (h : cut_open.f k l0 l1 = some (r1, r2, r3)) :
    Calls Try.prog 45 #[.slice A0 l0.length c0, .slice A1 l1.length c1] w fun e w' => e = .returned (.tuple #[.int .i64 r1, .int .i64 r2, .bool r3]) ∧ Below w.heap.size w w' := by
  have HR0 := Aside0.mk hr0
  have HR1 := Aside0.mk hr1
  clear hr0 hr1
  unfold cut_open.f at h
  split at h
  case isFalse => cases h
  case isTrue hg =>
  have HG := Aside0.mk hg
  simp only [openOk, Bool.and_eq_true, decide_eq_true_eq, List.all_eq_true, List.mem_range] at hg
  obtain ⟨⟨g1, g2⟩, g3⟩ := hg
  have g1a : l0.length ≤ l1.length := by omega
  have G1 := Aside0.mk g1
  clear g1
  have G3 := Aside0.mk g3
  have H := Aside0.mk (Option.some.inj h)
  clear h g3
  go_enter Try.func45, Try.ntmps45
  have hmm := @run_makeMap Try.prog
  have hmk := Go.run_make_row' (P := Try.prog) 76 77 (.map none) 8 Try.underlying76 zero77 rfl .i64 .i64 l0.length (by omega) (by omega)
  go_wp2_with fail
  go_step3
  go_wp2_with fail
  have hmade : madeCells #[Value.map none] l0.length = (List.replicate l0.length (Value.map none)).toArray := by
    apply Array.ext
    · simp [madeCells]
    · intro i h1 h2
      simp [madeCells, Nat.mod_one]
  have HB1 := Aside0.mk (show Below w.heap.size w (w.alloc (.cells (madeCells #[Value.map none] l0.length) 77)) from below_alloc (Below.refl _ _) _)
  have HM1 := Aside0.mk (show Maps l0.length (cutOf l0 l1) (w.alloc (.cells (madeCells #[Value.map none] l0.length) 77)) w.heap.size 0 from ⟨[], rfl, Nat.zero_le _, by rw [hmade]; simpa using heap_alloc_new w _, List.nodup_nil, fun x g hx => by simp at hx⟩)
  clear hmk hmade
  go_loopg [25] l0.length (fun gk i wr => ∃ j : Nat, i = .int .i64 j ∧ Aside0 (j + gk = l0.length) ∧ Aside0 (Below w.heap.size w wr) ∧ Aside0 (Maps l0.length (cutOf l0 l1) wr w.heap.size j))
  case atStart => exact ⟨0, rfl, ⟨by omega⟩, HB1, HM1⟩
  case round =>
    obtain ⟨j, rfl, HK, HB, HM⟩ := hrel
    by_cases hj : j < l0.length
    · have hlt : (j : Int) < l0.length := by omega
      have h00 : (0 : Int) ≤ (j : Int) := by omega
      obtain ⟨gb, rfl⟩ : ∃ g, gk = g + 1 := ⟨gk - 1, by have := HK.out; omega⟩
      obtain ⟨ad, A2, c2, rfl, q0, hlc, hC0⟩ := at_L4 HR0.out j (by omega) (by omega)
      have hrd : rd_L4 l0 j = l0.getD j [] := by unfold rd_L4; rw [Int.toNat_natCast]
      obtain ⟨g31, g32⟩ := G3.out j hj
      rw [hrd] at q0 hlc hC0
      rw [Int.toNat_natCast] at q0
      have q0' := pw_cell_below HB.out q0
      obtain ⟨bd, rfl, qc⟩ := at_I HR1.out j (by have := G1.out; omega)
      obtain ⟨m, hm⟩ : ∃ m : Nat, l1.getD j 0 = m := ⟨(l1.getD j 0).toNat, by omega⟩
      have hcj : cutOf l0 l1 j = (l0.getD j []).take m := by unfold cutOf; rw [hm, Int.toNat_natCast]
      rw [hm] at qc g31
      obtain ⟨i50, hi50⟩ := info50'
      generalize l0.getD j [] = lst at *
      have hct : ∀ W : World, (Instr.slice 47 (.slice A2 lst.length c2) none (some (.int .i64 m)) none).run Try.prog W = .ok (.slice A2 m c2) W := fun W => by
        have := cut_to (P := Try.prog) 47 50 .i64 Try.underlying47 hi50 A2 lst.length c2 m (by omega) (by omega) hlc W
        simpa using this
      have HC0 := Aside0.mk hC0
      have HCJ := Aside0.mk hcj
      have G32 := Aside0.mk g32
      obtain ⟨nc, nf⟩ := HM.out.nilCell hj
      have hbn : w.heap.size < wr.heap.size := HM.out.lt
      have nc' := pw_cell_below (below_alloc (Below.refl _ _) (.map #[] 0)) nc
      have nf' : (wr.alloc (.map #[] 0)).frozen? ⟨w.heap.size, j, none⟩ = false := ((below_alloc (Below.refl _ _) (.map #[] 0)).frozen (p := ⟨w.heap.size, j, none⟩) hbn).trans nf
      have HM5 := Aside0.mk ((HM.out.congr (F' := fun x => if x = j then [] else cutOf l0 l1 x) (fun x hx => by rw [if_neg (by omega)])).next hj (if_pos rfl))
      have HB5 := Aside0.mk ((HB.out.alloc HB.out.size (.map #[] 0)).setCell (p := ⟨w.heap.size, j, none⟩) (Nat.le_refl _) (.map (some wr.heap.size)))
      have hcomm : (wr.alloc (.map #[] 0)).setCell ⟨w.heap.size, j, none⟩ (.map (some wr.heap.size)) = (wr.setCell ⟨w.heap.size, j, none⟩ (.map (some wr.heap.size))).alloc (.map #[] 0) := by go_simp
      rw [hcomm] at HM5 HB5
      have qc' := pw_cell_below HB5.out qc
      clear q0 qc hrd hi50 hC0 hcj g32 nc nf hm hcomm
      go_wp2_with fail
      go_loopg [41] m (fun gk i wi => ∃ jj : Nat, i = .int .i64 jj ∧ Aside0 (jj + gk = m) ∧ Aside0 (Below w.heap.size w wi) ∧ Aside0 (Maps l0.length (fun x => if x = j then lst.take jj else cutOf l0 l1 x) wi w.heap.size (j + 1)))
      case atStart => exact ⟨0, rfl, ⟨by omega⟩, HB5, HM5⟩
      case round =>
        obtain ⟨jj, rfl, HK2, HB2, HM2⟩ := hrel
        by_cases hjj : jj < m
        · have hlt2 : (jj : Int) < (m : Int) := by omega
          have h02 : (0 : Int) ≤ (jj : Int) := by omega
          have hjl : jj < lst.length := by omega
          obtain ⟨gk2, rfl⟩ : ∃ g, gk = g + 1 := ⟨gk - 1, by have := HK2.out; omega⟩
          obtain ⟨ad2, A3, c3, rfl, p0, p1, hlc3, hC3⟩ := at_T50 HC0.out jj (by omega) (by omega)
          have hrd2 : rd_T50 lst jj = lst.getD jj z50 := by unfold rd_T50; rw [Int.toNat_natCast]
          have hsn : lst.take (jj + 1) = lst.take jj ++ [lst.getD jj z50] := by rw [List.take_succ_eq_append_getElem hjl, List.getD_eq_getElem?_getD, List.getElem?_eq_getElem hjl]; rfl
          have hst := (G32.out (lst.getD jj z50) (by rw [List.getD_eq_getElem?_getD, List.getElem?_eq_getElem hjl]; exact List.getElem_mem _)).1
          rw [hrd2] at p0 p1
          rw [Int.toNat_natCast] at p0 p1
          have p0' := pw_cell_below HB2.out p0
          have p1' := pw_cell_below HB2.out p1
          generalize lst.getD jj z50 = st at *
          have HSN := Aside0.mk hsn
          have wf0 : (Lit.int .i64 st.f0).wf = true := wf3 (by omega) (by omega)
          clear hsn hrd2 p0 p1 hC3 hlc3 qc' q0' nc' nf'
          go_upto_region 9 with fail
          obtain ⟨W4, hW4⟩ : ∃ W4 : World, W4 = wr.alloc (.cells #[.int .i64 st.f0, .slice A3 st.f1.length c3] 50) := ⟨_, rfl⟩
          have hb4 : Below wr.heap.size wr W4 := hW4 ▸ below_alloc (Below.refl _ _) _
          have x0 : W4.cell? ⟨wr.heap.size, 0, none⟩ = some (.int .i64 st.f0) := by rw [hW4]; go_simp
          rw [← hW4]
          have HM4 := Aside0.mk (HM2.out.below hb4)
          have HB4 := Aside0.mk (below_step HB2.out hb4)
          obtain ⟨g, gc, hbg, hog⟩ := HM4.out.cell j (by omega)
          have hog' : OMap W4 g jj (inV (lst.take jj)) := by
            have h := hog
            simp only [if_true] at h
            rwa [List.length_take, Nat.min_eq_left (by omega)] at h
          have HOG := Aside0.mk hog'
          have GC := Aside0.mk gc
          clear hW4 hb4 p0' p1' hog hog'
          go_still_tail 6, (by kernel_rfl)
          refine put_law _ rfl (.tmp 48) (.tmp 50) (.const (.bool true)) 77 rfl Try.underlying77 g jj (inV (lst.take jj)) rfl (by exact HOG.out) (by simp only [maxLen]; omega) st.f0 wf0 (.bool true) rfl rfl ?_
          intro w6 ho6 hg6
          have HB6 := Aside0.mk (show Below w.heap.size w w6 from (show Below w.heap.size w _ from Below.drew HB4.out).grown hg6 (HB4.out.size) (fun k hk => by injection hk with hk; omega))
          have hlj : (lst.take jj).length = jj := by rw [List.length_take]; omega
          have HM6 := Aside0.mk (show Maps l0.length (fun x => if x = j then lst.take (jj + 1) else cutOf l0 l1 x) w6 w.heap.size (j + 1) from by
            refine (Maps.put (st := st) (w1 := _) (by exact HM4.out) (x := j) (by omega) (by exact GC.out) (by simp only [if_true]; rw [hlj]; exact ho6) hg6).congr (fun x hx => ?_)
            by_cases hxj : x = j
            · simp only [hxj, if_true]; rw [HSN.out]
            · simp only [hxj, if_false])
          clear ho6 hg6
          go_wp2
          go_roundg gk2
          case measure => omega
          case rel => exact ⟨jj + 1, by go_num, ⟨by have := HK2.out; omega⟩, HB6, HM6⟩
        · have hge2 : ¬ ((jj : Int) < (m : Int)) := by omega
          have hjm : jj = m := by have := HK2.out; omega
          have HM6 := Aside0.mk (show Maps l0.length (cutOf l0 l1) wr w.heap.size (j + 1) from HM2.out.congr (fun x hx => by
            by_cases hxj : x = j
            · simp only [hxj, if_true]; rw [HCJ.out, hjm]
            · simp only [hxj, if_false]))
          clear qc' q0' nc' nf'
          go_wp2
          go_roundg gb
          case measure => omega
          case rel => exact ⟨j + 1, by go_num, ⟨by have := HK.out; omega⟩, HB2, HM6⟩
    · have hge : ¬ ((j : Int) < l0.length) := by omega
      have hje : j = l0.length := by have := HK.out; omega
      subst hje
      go_wp2
      go_step3
      go_wp2
      have HBa := Aside0.mk HB.out
      have HMa := Aside0.mk HM.out
      go_loopg [55, 12, 13, 14] l0.length (fun gk i s12 s13 s14 wr => ∃ jx : Nat, i = .int .i64 jx ∧ s12 = .int .i64 0 ∧ s13 = .int .i64 0 ∧ s14 = .bool false ∧ Aside0 (jx + gk = l0.length) ∧ Aside0 (Below w.heap.size w wr) ∧ Aside0 (Maps l0.length (cutOf l0 l1) wr w.heap.size l0.length) ∧ Aside0 (opn l0 l1 gk jx = (r1, r2, r3)))
      case atStart => exact ⟨0, rfl, rfl, rfl, rfl, ⟨by omega⟩, HBa, HMa, ⟨H.out⟩⟩
      case round =>
        obtain ⟨jx, rfl, rfl, rfl, rfl, HKx, HBx, HMx, Hx⟩ := hrel
        by_cases hjx : jx < l0.length
        · have hltx : (jx : Int) < l0.length := by omega
          have h0x : (0 : Int) ≤ (jx : Int) := by omega
          obtain ⟨gx, rfl⟩ : ∃ g, gk = g + 1 := ⟨gk - 1, by have := HKx.out; omega⟩
          have hltx1 : jx < l1.length := by omega
          have hltx1' : (jx : Int) < l1.length := by omega
          have h := Hx.out
          unfold opn at h
          obtain ⟨ad, A2, c2, rfl, q0, hlc, hC0⟩ := at_L4 HR0.out jx (by omega) (by omega)
          have hrd : rd_L4 l0 jx = l0.getD jx [] := by unfold rd_L4; rw [Int.toNat_natCast]
          obtain ⟨g31, g32⟩ := G3.out jx hjx
          rw [hrd] at q0 hlc hC0
          rw [Int.toNat_natCast] at q0
          have q0' := pw_cell_below HBx.out q0
          obtain ⟨bd, rfl, qc⟩ := at_I HR1.out jx hltx1
          obtain ⟨m, hm⟩ : ∃ m : Nat, l1.getD jx 0 = m := ⟨(l1.getD jx 0).toNat, by omega⟩
          have hcj : cutOf l0 l1 jx = (l0.getD jx []).take m := by unfold cutOf; rw [hm, Int.toNat_natCast]
          rw [hm] at qc g31
          rw [hcj] at h
          have qc' := pw_cell_below HBx.out qc
          obtain ⟨i50, hi50⟩ := info50'
          generalize l0.getD jx [] = lst at *
          have hct : ∀ W : World, (Instr.slice 47 (.slice A2 lst.length c2) none (some (.int .i64 m)) none).run Try.prog W = .ok (.slice A2 m c2) W := fun W => by
            have := cut_to (P := Try.prog) 47 50 .i64 Try.underlying47 hi50 A2 lst.length c2 m (by omega) (by omega) hlc W
            simpa using this
          have HC0 := Aside0.mk hC0
          have G32 := Aside0.mk g32
          have H2 := Aside0.mk h
          clear q0 qc hrd hi50 hC0 hcj g32 hm h
          go_wp2_with fail
          go_quiet (fail)
          go_wp2_with fail
          have HBy := Aside0.mk (show Below w.heap.size w _ from pw_below_drewN HBx.out nq)
          have HMy := Aside0.mk (HMx.out.below (pw_below_drewN (Below.refl _ _) nq))
          go_loopg [68, 12, 13, 14] m (fun gk i s12 s13 s14 wr => ∃ jj : Nat, i = .int .i64 jj ∧ s12 = .int .i64 0 ∧ s13 = .int .i64 0 ∧ s14 = .bool false ∧ Aside0 (jj + gk = m) ∧ Aside0 (Below w.heap.size w wr) ∧ Aside0 (Maps l0.length (cutOf l0 l1) wr w.heap.size l0.length) ∧ Aside0 (∀ x, x < jj → badSt l0 l1 (lst.getD x z50) = false))
          case atStart => exact ⟨0, rfl, rfl, rfl, rfl, ⟨by omega⟩, HBy, HMy, ⟨fun x hx => absurd hx (by omega)⟩⟩
          case round =>
            obtain ⟨jj, rfl, rfl, rfl, rfl, HK2, HB2, HM2, HN2⟩ := hrel
            by_cases hjj : jj < m
            · have hlt2 : (jj : Int) < (m : Int) := by omega
              have h02 : (0 : Int) ≤ (jj : Int) := by omega
              have hjl : jj < lst.length := by omega
              obtain ⟨gk2, rfl⟩ : ∃ g, gk = g + 1 := ⟨gk - 1, by have := HK2.out; omega⟩
              obtain ⟨ad2, A3, c3, rfl, p0, p1, hlc3, hC3⟩ := at_T50 HC0.out jj (by omega) (by omega)
              have hrd2 : rd_T50 lst jj = lst.getD jj z50 := by unfold rd_T50; rw [Int.toNat_natCast]
              have hst := G32.out (lst.getD jj z50) (by rw [List.getD_eq_getElem?_getD, List.getElem?_eq_getElem hjl]; exact List.getElem_mem _)
              rw [hrd2] at p0 p1 hlc3 hC3
              rw [Int.toNat_natCast] at p0 p1
              have p0' := pw_cell_below HB2.out p0
              have p1' := pw_cell_below HB2.out p1
              have hbad : badSt l0 l1 (lst.getD jj z50) = true → (lst.take m).findIdx? (badSt l0 l1) = some jj := fun hb => by
                rw [List.findIdx?_eq_some_iff_getElem]
                refine ⟨by rw [List.length_take]; omega, ?_, fun x hx => ?_⟩
                · rw [List.getElem_take]
                  rw [List.getD_eq_getElem?_getD, List.getElem?_eq_getElem hjl] at hb
                  exact hb
                · have := HN2.out x hx
                  rw [List.getD_eq_getElem?_getD, List.getElem?_eq_getElem (by omega)] at this
                  rw [List.getElem_take]
                  simpa using this
              have HBAD := Aside0.mk hbad
              have HN3 := Aside0.mk (show badSt l0 l1 (lst.getD jj z50) = false → ∀ x, x < jj + 1 → badSt l0 l1 (lst.getD x z50) = false from fun hb x hx => by
                rcases Nat.lt_or_ge x jj with h | h
                · exact HN2.out x h
                · obtain rfl : x = jj := by omega
                  exact hb)
              generalize lst.getD jj z50 = st at *
              have HC3 := Aside0.mk hC3
              have HST := Aside0.mk hst.2
              have wf0 : (Lit.int .i64 st.f0).wf = true := wf3 (by have := hst.1.1; omega) (by have := hst.1.2; omega)
              clear hrd2 p0 p1 hC3 hbad hst q0' qc'
              go_upto_region 19 with fail
              obtain ⟨W4, hW4⟩ : ∃ W4 : World, W4 = wr.alloc (.cells #[.int .i64 st.f0, .slice A3 st.f1.length c3] 50) := ⟨_, rfl⟩
              have hb4 : Below wr.heap.size wr W4 := hW4 ▸ below_alloc (Below.refl _ _) _
              have hblk4 : W4.heap[wr.heap.size]? = some (.cells #[.int .i64 st.f0, .slice A3 st.f1.length c3] 50 (0, 0)) := by rw [hW4]; exact heap_alloc_new wr _
              rw [← hW4]
              have HM4 := Aside0.mk (HM2.out.below hb4)
              have HB4 := Aside0.mk (below_step HB2.out hb4)
              have x0 := (blk_cell hblk4 0).trans rfl
              have x1 := (blk_cell hblk4 1).trans rfl
              clear hW4 hb4 hblk4 p0' p1'
              go_wp2_with fail
              have hbb : W4.heap.size = W4.heap.size := rfl
              obtain ⟨bk, hbk⟩ : ∃ bk, bk = wr.heap.size := ⟨_, rfl⟩
              have X0 := Aside0.mk x0
              clear x1 hbb
              go_loopg [76, 12, 13, 14] st.f1.length (fun gk i s12 s13 s14 wi => ∃ xx : Nat, i = .int .i64 xx ∧ s12 = .int .i64 0 ∧ s13 = .int .i64 0 ∧ s14 = .bool false ∧ Aside0 (xx + gk = st.f1.length) ∧ Aside0 (Below W4.heap.size W4 wi) ∧ Aside0 (∀ y, y < xx → isIn (cutOf l0 l1 (st.f1.getD y 0).toNat) st.f0 = true))
              case atStart => exact ⟨0, rfl, rfl, rfl, rfl, ⟨by omega⟩, ⟨Below.refl _ _⟩, ⟨fun x hx => absurd hx (by omega)⟩⟩
              case round =>
                obtain ⟨xx, rfl, rfl, rfl, rfl, HK4, HB6, HN4⟩ := hrel
                have HBw := Aside0.mk (below_step HB4.out HB6.out)
                have HMw := Aside0.mk (HM4.out.below HB6.out)
                by_cases hxx : xx < st.f1.length
                · have hfl : st.f1.length ≤ 9223372036854775807 := HC3.out.2.1
                  have hlt3 : (xx : Int) < (st.f1.length : Int) := by omega
                  have h03 : (0 : Int) ≤ (xx : Int) := by omega
                  obtain ⟨gk3, rfl⟩ : ∃ g, gk = g + 1 := ⟨gk - 1, by have := HK4.out; omega⟩
                  obtain ⟨ad3, rfl, qv⟩ := at_I HC3.out xx hxx
                  have hv := HST.out (st.f1.getD xx 0) (by rw [List.getD_eq_getElem?_getD, List.getElem?_eq_getElem hxx]; exact List.getElem_mem _)
                  obtain ⟨vn, hvn⟩ : ∃ vn : Nat, st.f1.getD xx 0 = vn := ⟨(st.f1.getD xx 0).toNat, by omega⟩
                  rw [hvn] at qv hv
                  have qv' := pw_cell_below HBw.out qv
                  have hvl : vn < l0.length := by omega
                  have hvl' : (vn : Int) < (l0.length : Int) := by omega
                  have hv0 : (0 : Int) ≤ (vn : Int) := by omega
                  obtain ⟨g, gc, hbg, hog⟩ := HMw.out.cell vn hvl
                  have x0w := pw_cell_below HB6.out X0.out
                  have hlk := fun n_ => (hog.below (pw_below_drewN (Below.refl _ _) n_)).look (t := 77) Try.underlying77 (zero4 _) wf0 false
                  simp only [Bool.false_eq_true, if_false, inV_get] at hlk
                  have HVN := Aside0.mk hvn
                  clear qv hv hog hvn
                  cases hin : isIn (cutOf l0 l1 vn) st.f0 with
                  | true =>
                    rw [hin] at hlk
                    have HN5 := Aside0.mk (show ∀ y, y < xx + 1 → isIn (cutOf l0 l1 (st.f1.getD y 0).toNat) st.f0 = true from fun y hy => by
                      rcases Nat.lt_or_ge y xx with h | h
                      · exact HN4.out y h
                      · obtain rfl : y = xx := by omega
                        rw [HVN.out, Int.toNat_natCast]; exact hin)
                    go_wp2
                    go_quiet (fail)
                    go_wp2
                    go_roundg gk3
                    case measure => omega
                    case rel => exact ⟨xx + 1, by go_num, rfl, rfl, rfl, ⟨by have := HK4.out; omega⟩, ⟨pw_below_drewN HB6.out _⟩, HN5⟩
                  | false =>
                    rw [hin] at hlk
                    have hb : badSt l0 l1 st = true := by
                      unfold badSt
                      rw [List.any_eq_true]
                      refine ⟨st.f1.getD xx 0, by rw [List.getD_eq_getElem?_getD, List.getElem?_eq_getElem hxx]; exact List.getElem_mem _, ?_⟩
                      rw [HVN.out, Int.toNat_natCast, hin]; rfl
                    have h := H2.out
                    rw [HBAD.out hb] at h
                    simp only [Prod.mk.injEq] at h
                    obtain ⟨rfl, rfl, rfl⟩ := h
                    go_wp2
                    go_quiet (fail)
                    go_wp2
                    (first | rw [Exit.noGoto_ret] | skip)
                    go_ret3
                    exact ⟨by first | rfl | simp, pw_below_drewN HBw.out _⟩
                · have hge3 : ¬ ((xx : Int) < (st.f1.length : Int)) := by omega
                  have hxe : xx = st.f1.length := by have := HK4.out; omega
                  have HF := Aside0.mk (HN3.out (by
                    unfold badSt
                    rw [List.any_eq_false]
                    intro v hv
                    obtain ⟨y, hy, rfl⟩ := List.mem_iff_getElem.1 hv
                    have := HN4.out y (by omega)
                    rw [List.getD_eq_getElem?_getD, List.getElem?_eq_getElem hy] at this
                    simpa using this))
                  go_wp2
                  go_roundg gk2
                  case measure => omega
                  case rel => exact ⟨jj + 1, by go_num, rfl, rfl, rfl, ⟨by have := HK2.out; omega⟩, HBw, HMw, HF⟩
            · have hge2 : ¬ ((jj : Int) < (m : Int)) := by omega
              have hjm : jj = m := by have := HK2.out; omega
              have h := H2.out
              rw [show (lst.take m).findIdx? (badSt l0 l1) = none from by
                rw [List.findIdx?_eq_none_iff]
                intro st hst
                obtain ⟨x, hx, rfl⟩ := List.mem_iff_getElem.1 hst
                have hxm : x < m := by have := hx; rw [List.length_take] at this; omega
                have := HN2.out x (by omega)
                rw [List.getD_eq_getElem?_getD, List.getElem?_eq_getElem (by rw [List.length_take] at hx; omega)] at this
                rw [List.getElem_take]
                exact this] at h
              have H3 := Aside0.mk h
              clear h q0' qc'
              go_wp2
              go_roundg gx
              case measure => omega
              case rel => exact ⟨jx + 1, by go_num, rfl, rfl, rfl, ⟨by have := HKx.out; omega⟩, HB2, HM2, H3⟩
        · have hgex : ¬ ((jx : Int) < l0.length) := by omega
          have hx := Hx.out
          obtain rfl : gk = 0 := by have := HKx.out; omega
          simp only [opn, Prod.mk.injEq] at hx
          obtain ⟨rfl, rfl, rfl⟩ := hx
          go_wp2
          (first | rw [Exit.noGoto_ret] | skip)
          go_ret3
          exact ⟨by first | rfl | simp, HBx.out⟩
end Go.Proofs.Ytkhiglincdognaa.PA
