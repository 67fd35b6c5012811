/-
cut.open: what it computes, and its contract.
Conditions: the cut is one of the logs, whose stamps' shards are indices of lists (else its function answers none).
-/
import Derived.Test.YtkhiglincdognaaMap
import Derived.WalkMore
import Derived.Deep.RegionLaw
import Derived.StillTailTactics
namespace Go.Proofs.Ytkhiglincdognaa.PA
open Go.RowKit Go.Proofs.YtkhiglincdognaaW.PrintWords Go.Proofs.YtkhiglincdognaaW.PrintLast Go.Proofs.YtkhiglincdognaaW.PrintMore
set_option linter.unusedVariables false
set_option linter.unusedSimpArgs false

/-- The stamps of list x that the cut contains. -/
def cutOf (logs : List (List S50)) (c : List Int) (x : Nat) : List S50 := (logs.getD x []).take (c.getD x 0).toNat
def isIn (S : List S50) (i : Int) : Bool := S.any fun st => st.f0 == i
/-- A stamp that the cut does not contain in all of its shards. -/
def badSt (logs : List (List S50)) (c : List Int) (st : S50) : Bool := st.f1.any fun x => !isIn (cutOf logs c x.toNat) st.f0
def opn (logs : List (List S50)) (c : List Int) : Nat → Nat → Int × Int × Bool
  | 0, _ => (0, 0, false)
  | m + 1, i => match (cutOf logs c i).findIdx? (badSt logs c) with
    | some k => ((i : Int), (k : Int), true)
    | none => opn logs c m (i + 1)
def openOk (logs : List (List S50)) (c : List Int) : Bool :=
  decide (c.length = logs.length) && decide (logs.length ≤ 1073741824) && (List.range logs.length).all (fun i => decide (0 ≤ c.getD i 0 ∧ c.getD i 0 ≤ ((logs.getD i []).length : Int) ∧ (logs.getD i []).length ≤ 1099511627776) && (logs.getD i []).all fun st => decide (0 ≤ st.f0 ∧ st.f0 ≤ 1073741824) && st.f1.all fun x => decide (0 ≤ x ∧ x < (logs.length : Int)))
def cut_open.f (k : Nat) (l0 : List (List S50)) (l1 : List Int) : Option (Int × Int × Bool) := if openOk l0 l1 = true then some (opn l0 l1 l0.length 0) else none
theorem cut_open.mono : ∀ a0 a1 k, LeO (cut_open.f k a0 a1) (cut_open.f (k + 1) a0 a1) := fun a0 a1 k => LeO.refl _

def inV (S : List S50) (i : Int) : Option Value := if isIn S i = true then some (.bool true) else none
theorem inV_get (S : List S50) (i : Int) : (inV S i).getD (.bool false) = .bool (isIn S i) := by
  unfold inV; split
  · rename_i h; rw [h]; rfl
  · rename_i h; simp at h; rw [h]; rfl
theorem inV_snoc (S : List S50) (st : S50) : inV (S ++ [st]) = fun j => if j = st.f0 then some (.bool true) else inV S j := by
  funext j
  unfold inV isIn
  rw [List.any_append]
  by_cases h : j = st.f0
  · subst h; simp
  · have : (st.f0 == j) = false := by simp; exact fun e => h e.symm
    simp [this, h]
theorem inV_nil : inV [] = fun _ => none := by funext j; rfl

theorem OMap.move {w w' : World} {b n : Nat} {f : Int → Option Value} (h : OMap w b n f) (e : w'.heap[b]? = w.heap[b]?) : OMap w' b n f := by
  obtain ⟨D, ⟨es, clock, hb, h1⟩, h2⟩ := h
  exact ⟨D, ⟨es, clock, e.trans hb, h1⟩, h2⟩
/-- The row of n maps at block b: its first j cells hold maps, each of the stamps that F tells; the others nil. -/
def Maps (n : Nat) (F : Nat → List S50) (w1 : World) (b j : Nat) : Prop :=
  ∃ gs : List Nat, gs.length = j ∧ j ≤ n ∧ w1.heap[b]? = some (.cells (((gs.map fun g => Value.map (some g)) ++ List.replicate (n - j) (Value.map none)).toArray) 77 (0, 0)) ∧ gs.Nodup ∧
    ∀ x g, gs[x]? = some g → b < g ∧ OMap w1 g (F x).length (inV (F x))
theorem Maps.below {n : Nat} {F : Nat → List S50} {w1 w2 : World} {b j : Nat} (h : Maps n F w1 b j) (hb : Below w1.heap.size w1 w2) : Maps n F w2 b j := by
  obtain ⟨gs, h1, h2, h3, h4, h6⟩ := h
  exact ⟨gs, h1, h2, (hb.block b (blk_lt h3)).trans h3, h4, fun x g hx => ⟨(h6 x g hx).1, (h6 x g hx).2.below hb⟩⟩
theorem Maps.congr {n : Nat} {F F' : Nat → List S50} {w1 : World} {b j : Nat} (h : Maps n F w1 b j) (hF : ∀ x, x < j → F x = F' x) : Maps n F' w1 b j := by
  obtain ⟨gs, h1, h2, h3, h4, h6⟩ := h
  refine ⟨gs, h1, h2, h3, h4, fun x g hx => ?_⟩
  rw [← hF x (by have := (List.getElem?_eq_some_iff.1 hx).1; omega)]
  exact h6 x g hx
theorem Maps.lt {n : Nat} {F : Nat → List S50} {w1 : World} {b j : Nat} (h : Maps n F w1 b j) : b < w1.heap.size := by
  obtain ⟨gs, _, _, h3, _⟩ := h
  exact blk_lt h3
/-- The cell of a list. -/
theorem Maps.cell {n : Nat} {F : Nat → List S50} {w1 : World} {b j : Nat} (h : Maps n F w1 b j) (x : Nat) (hx : x < j) : ∃ g, w1.cell? ⟨b, x, none⟩ = some (.map (some g)) ∧ b < g ∧ OMap w1 g (F x).length (inV (F x)) := by
  obtain ⟨gs, h1, h2, h3, h4, h6⟩ := h
  have hg : gs[x]? = some (gs[x]'(by omega)) := List.getElem?_eq_getElem (by omega)
  refine ⟨gs[x]'(by omega), (blk_cell h3 x).trans ?_, h6 x _ hg⟩
  simp [List.getElem?_append_left, hg, h1, hx]
theorem Maps.nilCell {n : Nat} {F : Nat → List S50} {w1 : World} {b j : Nat} (h : Maps n F w1 b j) (hj : j < n) : w1.cell? ⟨b, j, none⟩ = some (.map none) ∧ w1.frozen? ⟨b, j, none⟩ = false := by
  obtain ⟨gs, h1, h2, h3, h4, h6⟩ := h
  refine ⟨(blk_cell h3 j).trans ?_, blk_frozen h3 j⟩
  simp [List.getElem?_append_right, h1, List.getElem?_replicate]
  omega
/-- A new map is put into the next cell. -/
theorem Maps.next {n : Nat} {F : Nat → List S50} {w1 : World} {b j : Nat} (h : Maps n F w1 b j) (hj : j < n) (hF : F j = []) : Maps n F ((w1.alloc (.map #[] 0)).setCell ⟨b, j, none⟩ (.map (some w1.heap.size))) b (j + 1) := by
  have hb := h.lt
  obtain ⟨gs, h1, h2, h3, h4, h6⟩ := h
  have hlt : ∀ g ∈ gs, g < w1.heap.size := fun g hg => by
    obtain ⟨x, hx, rfl⟩ := List.mem_iff_getElem.1 hg
    exact (h6 x _ (List.getElem?_eq_getElem hx)).2.lt
  have h3' : (w1.alloc (.map #[] 0)).heap[b]? = _ := ((below_alloc (Below.refl _ _) _).block b hb).trans h3
  refine ⟨gs ++ [w1.heap.size], by simp [h1], hj, ?_, ?_, fun x g hx => ?_⟩
  · have := blk_set h3' j (.map (some w1.heap.size))
    rw [this]
    congr 2
    have hr : List.replicate (n - j) (Value.map none) = Value.map none :: List.replicate (n - (j + 1)) (Value.map none) := by rw [← List.replicate_succ]; congr 1; omega
    rw [hr]
    simp [h1, List.set_append]
  · rw [List.nodup_append]
    refine ⟨h4, by simp, fun a ha c hc => ?_⟩
    have := hlt a ha
    simp at hc
    omega
  · have hfar : ∀ g', b ≠ g' → ((w1.alloc (.map #[] 0)).setCell ⟨b, j, none⟩ (.map (some w1.heap.size))).heap[g']? = (w1.alloc (.map #[] 0)).heap[g']? := fun g' hne => Below.heap_setCell _ _ _ _ (fun e => hne e.symm)
    rcases Nat.lt_or_ge x gs.length with hx' | hx'
    · rw [List.getElem?_append_left hx'] at hx
      obtain ⟨k1, k2⟩ := h6 x g hx
      exact ⟨k1, (k2.below (below_alloc (Below.refl _ _) _)).move (hfar g (by omega))⟩
    · have hxj : x = gs.length := by
        have := (List.getElem?_eq_some_iff.1 hx).1
        simp at this
        omega
      subst hxj
      simp at hx
      subst hx
      rw [h1, hF, inV_nil]
      exact ⟨hb, (OMap.made w1).move (hfar _ (by omega))⟩
theorem Maps.put {n : Nat} {F : Nat → List S50} {w1 w2 : World} {b J x g : Nat} {st : S50} (h : Maps n F w1 b J) (hx : x < J) (hc : w1.cell? ⟨b, x, none⟩ = some (.map (some g)))
    (ho : OMap w2 g ((F x).length + 1) (fun i => if i = st.f0 then some (.bool true) else inV (F x) i)) (hg : w1.grownBy w2 (some g)) : Maps n (fun y => if y = x then F x ++ [st] else F y) w2 b J := by
  have hb := h.lt
  obtain ⟨gs, h1, h2, h3, h4, h6⟩ := h
  have hgx : gs[x]? = some (gs[x]'(by omega)) := List.getElem?_eq_getElem (by omega)
  have hgg : gs[x]'(by omega) = g := by
    have e := (blk_cell h3 x).symm.trans hc
    simp [List.getElem?_append_left, hgx, h1, hx] at e
    exact e
  rw [hgg] at hgx
  have hbg := (h6 x g hgx).1
  refine ⟨gs, h1, h2, (hg.block b hb (by intro e; injection e with e; omega)).trans h3, h4, fun y g' hy => ?_⟩
  obtain ⟨k1, k2⟩ := h6 y g' hy
  refine ⟨k1, ?_⟩
  by_cases hyx : y = x
  · subst hyx
    obtain rfl : g' = g := by rw [hgx] at hy; exact (Option.some.inj hy).symm
    simp only [if_true]
    rw [inV_snoc, List.length_append]
    exact ho
  · simp only [if_neg hyx]
    refine k2.kept hg (fun e => ?_)
    injection e with e
    subst e
    have hyl := (List.getElem?_eq_some_iff.1 hy).1
    exact hyx ((List.getElem?_inj hyl h4).1 (hy.trans hgx.symm))

theorem zero77 : (Try.prog.info? 77).map (fun i => (i.zero, i.size, i.bytes)) = some (some (.map none), 1, 8) := by kernel_rfl
theorem info50' : ∃ i : TypeInfo, Try.prog.info? 50 = some i := Option.isSome_iff_exists.1 (by kernel_rfl : (Try.prog.info? 50).isSome = true)

theorem at_I {w : World} {A : Option Addr} {n : Nat} {xs : List Int} (h : (Kd.int .i64).C w A n xs) (i : Nat) (h1 : i < n) : ∃ ad, A = some ad ∧ w.cell? (ad.add i) = some (.int .i64 (xs.getD i 0)) := by
  obtain ⟨ad, c, e, _, hK, hc0⟩ := Kd.C_get h (0 : Int) (i : Int) (by omega) (by omega)
  have hc : ∀ j u, c[j]? = some u → w.cell? (ad.add ((i : Int).toNat * 1 + j)) = some u := hc0
  obtain rfl : c = [.int .i64 (xs.getD (i : Int).toNat 0)] := hK
  rw [Int.toNat_natCast] at hc
  have := hc 0 _ rfl
  rw [Nat.mul_one, Nat.add_zero] at this
  exact ⟨ad, e, this⟩

/-- 'm[i] = v' as a step of a region that draws its order. -/
theorem put_step (w : World) {ops : Array Oper} {o : Oper} {a : Act} {Q : Exit → Act → World → Prop} {Kc : Act → World → Prop} (hw : Region.wanted o (yielded ops a.tmps) = true) (m x v : Operand) (t : TypeId) (hop : o.op = Op.mapUpdate t m x v) {e : TypeId} (ht : Try.prog.underlying t = some (.map 3 e))
    (b n : Nat) (f : Int → Option Value) (hm : a.eval m = .map (some b)) (ho : OMap w b n f) (hn : n < maxLen) (i : Int) (hi : (Lit.int .i64 i).wf = true) (val : Value) (hx : a.eval x = .int .i64 i) (hv : a.eval v = val)
    (hK : ∀ w', OMap w' b (n + 1) (fun j => if j = i then some val else f j) → w.grownBy w' (some b) → Kc (a.put o.dst undef) w') : if Region.wanted o (yielded ops a.tmps) = true then Oper.wp Try.prog o a w Kc Q else Kc (a.put o.dst undef) w := by
  rw [if_pos hw]
  obtain ⟨w', hrun, r1, r2⟩ := ho.put ht hn hi val
  unfold Oper.wp
  simp [execOp, hop, hm, hx, hv, hrun, Result.andThen]
  exact hK w' r1 r2

set_option maxRecDepth 100000 in
set_option maxHeartbeats 16000000 in
theorem cut_open.calls (k : Nat) (A0 : Option Addr) (c0 : Nat) (l0 : List (List S50)) (A1 : Option Addr) (c1 : Nat) (l1 : List Int) (r1 : Int) (r2 : Int) (r3 : Bool) (w : World) (hr0 : Kd.C (Kd.slice 50 k50) w A0 l0.length l0) (hc0 : l0.length ≤ c0) (hr1 : Kd.C (Kd.int .i64) w A1 l1.length l1) (hc1 : l1.length ≤ c1) (h : cut_open.f k l0 l1 = some (r1, r2, r3)) :
    Calls Try.prog 45 #[.slice A0 l0.length c0, .slice A1 l1.length c1] w fun e w' => e = .returned (.tuple #[.int .i64 r1, .int .i64 r2, .bool r3]) ∧ Below w.heap.size w w' := by
  have HR0 := Aside0.mk hr0
  have HR1 := Aside0.mk hr1
  clear hr0 hr1
  unfold cut_open.f at h
  split at h
  case isFalse => cases h
  case isTrue hg =>
  have HG := Aside0.mk hg
  simp only [openOk, Bool.and_eq_true, decide_eq_true_eq, List.all_eq_true, List.mem_range] at hg
  obtain ⟨⟨g1, g2⟩, g3⟩ := hg
  have g1a : l0.length ≤ l1.length := by omega
  have G1 := Aside0.mk g1
  clear g1
  have G3 := Aside0.mk g3
  have H := Aside0.mk (Option.some.inj h)
  clear h g3
  go_enter Try.func45, Try.ntmps45
  have hmm := @run_makeMap Try.prog
  have hmk := Go.run_make_row' (P := Try.prog) 76 77 (.map none) 8 Try.underlying76 zero77 rfl .i64 .i64 l0.length (by omega) (by omega)
  go_wp2_with fail
  go_step3
  go_wp2_with fail
  have hmade : madeCells #[Value.map none] l0.length = (List.replicate l0.length (Value.map none)).toArray := by
    apply Array.ext
    · simp [madeCells]
    · intro i h1 h2
      simp [madeCells, Nat.mod_one]
  have HB1 := Aside0.mk (show Below w.heap.size w (w.alloc (.cells (madeCells #[Value.map none] l0.length) 77)) from below_alloc (Below.refl _ _) _)
  have HM1 := Aside0.mk (show Maps l0.length (cutOf l0 l1) (w.alloc (.cells (madeCells #[Value.map none] l0.length) 77)) w.heap.size 0 from ⟨[], rfl, Nat.zero_le _, by rw [hmade]; simpa using heap_alloc_new w _, List.nodup_nil, fun x g hx => by simp at hx⟩)
  clear hmk hmade
  go_loopg [25] l0.length (fun gk i wr => ∃ j : Nat, i = .int .i64 j ∧ Aside0 (j + gk = l0.length) ∧ Aside0 (Below w.heap.size w wr) ∧ Aside0 (Maps l0.length (cutOf l0 l1) wr w.heap.size j))
  case atStart => exact ⟨0, rfl, ⟨by omega⟩, HB1, HM1⟩
  case round =>
    obtain ⟨j, rfl, HK, HB, HM⟩ := hrel
    by_cases hj : j < l0.length
    · have hlt : (j : Int) < l0.length := by omega
      have h00 : (0 : Int) ≤ (j : Int) := by omega
      obtain ⟨gb, rfl⟩ : ∃ g, gk = g + 1 := ⟨gk - 1, by have := HK.out; omega⟩
      obtain ⟨ad, A2, c2, rfl, q0, hlc, hC0⟩ := at_L4 HR0.out j (by omega) (by omega)
      have hrd : rd_L4 l0 j = l0.getD j [] := by unfold rd_L4; rw [Int.toNat_natCast]
      obtain ⟨g31, g32⟩ := G3.out j hj
      rw [hrd] at q0 hlc hC0
      rw [Int.toNat_natCast] at q0
      have q0' := pw_cell_below HB.out q0
      obtain ⟨bd, rfl, qc⟩ := at_I HR1.out j (by have := G1.out; omega)
      obtain ⟨m, hm⟩ : ∃ m : Nat, l1.getD j 0 = m := ⟨(l1.getD j 0).toNat, by omega⟩
      have hcj : cutOf l0 l1 j = (l0.getD j []).take m := by unfold cutOf; rw [hm, Int.toNat_natCast]
      rw [hm] at qc g31
      obtain ⟨i50, hi50⟩ := info50'
      generalize l0.getD j [] = lst at *
      have hct : ∀ W : World, (Instr.slice 47 (.slice A2 lst.length c2) none (some (.int .i64 m)) none).run Try.prog W = .ok (.slice A2 m c2) W := fun W => by
        have := cut_to (P := Try.prog) 47 50 .i64 Try.underlying47 hi50 A2 lst.length c2 m (by omega) (by omega) hlc W
        simpa using this
      have HC0 := Aside0.mk hC0
      have HCJ := Aside0.mk hcj
      have G32 := Aside0.mk g32
      obtain ⟨nc, nf⟩ := HM.out.nilCell hj
      have hbn : w.heap.size < wr.heap.size := HM.out.lt
      have nc' := pw_cell_below (below_alloc (Below.refl _ _) (.map #[] 0)) nc
      have nf' : (wr.alloc (.map #[] 0)).frozen? ⟨w.heap.size, j, none⟩ = false := ((below_alloc (Below.refl _ _) (.map #[] 0)).frozen (p := ⟨w.heap.size, j, none⟩) hbn).trans nf
      have HM5 := Aside0.mk ((HM.out.congr (F' := fun x => if x = j then [] else cutOf l0 l1 x) (fun x hx => by rw [if_neg (by omega)])).next hj (if_pos rfl))
      have HB5 := Aside0.mk ((HB.out.alloc HB.out.size (.map #[] 0)).setCell (p := ⟨w.heap.size, j, none⟩) (Nat.le_refl _) (.map (some wr.heap.size)))
      have hcomm : (wr.alloc (.map #[] 0)).setCell ⟨w.heap.size, j, none⟩ (.map (some wr.heap.size)) = (wr.setCell ⟨w.heap.size, j, none⟩ (.map (some wr.heap.size))).alloc (.map #[] 0) := by go_simp
      rw [hcomm] at HM5 HB5
      have qc' := pw_cell_below HB5.out qc
      clear q0 qc hrd hi50 hC0 hcj g32 nc nf hm hcomm
      go_wp2_with fail
      go_loopg [41] m (fun gk i wi => ∃ jj : Nat, i = .int .i64 jj ∧ Aside0 (jj + gk = m) ∧ Aside0 (Below w.heap.size w wi) ∧ Aside0 (Maps l0.length (fun x => if x = j then lst.take jj else cutOf l0 l1 x) wi w.heap.size (j + 1)))
      case atStart => exact ⟨0, rfl, ⟨by omega⟩, HB5, HM5⟩
      case round =>
        obtain ⟨jj, rfl, HK2, HB2, HM2⟩ := hrel
        by_cases hjj : jj < m
        · have hlt2 : (jj : Int) < (m : Int) := by omega
          have h02 : (0 : Int) ≤ (jj : Int) := by omega
          have hjl : jj < lst.length := by omega
          obtain ⟨gk2, rfl⟩ : ∃ g, gk = g + 1 := ⟨gk - 1, by have := HK2.out; omega⟩
          obtain ⟨ad2, A3, c3, rfl, p0, p1, hlc3, hC3⟩ := at_T50 HC0.out jj (by omega) (by omega)
          have hrd2 : rd_T50 lst jj = lst.getD jj z50 := by unfold rd_T50; rw [Int.toNat_natCast]
          have hsn : lst.take (jj + 1) = lst.take jj ++ [lst.getD jj z50] := by rw [List.take_succ_eq_append_getElem hjl, List.getD_eq_getElem?_getD, List.getElem?_eq_getElem hjl]; rfl
          have hst := (G32.out (lst.getD jj z50) (by rw [List.getD_eq_getElem?_getD, List.getElem?_eq_getElem hjl]; exact List.getElem_mem _)).1
          rw [hrd2] at p0 p1
          rw [Int.toNat_natCast] at p0 p1
          have p0' := pw_cell_below HB2.out p0
          have p1' := pw_cell_below HB2.out p1
          generalize lst.getD jj z50 = st at *
          have HSN := Aside0.mk hsn
          have wf0 : (Lit.int .i64 st.f0).wf = true := wf3 (by omega) (by omega)
          clear hsn hrd2 p0 p1 hC3 hlc3 qc' q0' nc' nf'
          go_upto_region 9 with fail
          obtain ⟨W4, hW4⟩ : ∃ W4 : World, W4 = wr.alloc (.cells #[.int .i64 st.f0, .slice A3 st.f1.length c3] 50) := ⟨_, rfl⟩
          have hb4 : Below wr.heap.size wr W4 := hW4 ▸ below_alloc (Below.refl _ _) _
          have x0 : W4.cell? ⟨wr.heap.size, 0, none⟩ = some (.int .i64 st.f0) := by rw [hW4]; go_simp
          rw [← hW4]
          have HM4 := Aside0.mk (HM2.out.below hb4)
          have HB4 := Aside0.mk (below_step HB2.out hb4)
          obtain ⟨g, gc, hbg, hog⟩ := HM4.out.cell j (by omega)
          have hog' : OMap W4 g jj (inV (lst.take jj)) := by
            have h := hog
            simp only [if_true] at h
            rwa [List.length_take, Nat.min_eq_left (by omega)] at h
          have HOG := Aside0.mk hog'
          have GC := Aside0.mk gc
          clear hW4 hb4 p0' p1' hog hog'
          go_still_tail 6, (by kernel_rfl)
          refine put_law _ rfl (.tmp 48) (.tmp 50) (.const (.bool true)) 77 rfl Try.underlying77 g jj (inV (lst.take jj)) rfl (by exact HOG.out) (by simp only [maxLen]; omega) st.f0 wf0 (.bool true) rfl rfl ?_
          intro w6 ho6 hg6
          have HB6 := Aside0.mk (show Below w.heap.size w w6 from (show Below w.heap.size w _ from Below.drew HB4.out).grown hg6 (HB4.out.size) (fun k hk => by injection hk with hk; omega))
          have hlj : (lst.take jj).length = jj := by rw [List.length_take]; omega
          have HM6 := Aside0.mk (show Maps l0.length (fun x => if x = j then lst.take (jj + 1) else cutOf l0 l1 x) w6 w.heap.size (j + 1) from by
            refine (Maps.put (st := st) (w1 := _) (by exact HM4.out) (x := j) (by omega) (by exact GC.out) (by simp only [if_true]; rw [hlj]; exact ho6) hg6).congr (fun x hx => ?_)
            by_cases hxj : x = j
            · simp only [hxj, if_true]; rw [HSN.out]
            · simp only [hxj, if_false])
          clear ho6 hg6
          go_wp2
          go_roundg gk2
          case measure => omega
          case rel => exact ⟨jj + 1, by go_num, ⟨by have := HK2.out; omega⟩, HB6, HM6⟩
        · have hge2 : ¬ ((jj : Int) < (m : Int)) := by omega
          have hjm : jj = m := by have := HK2.out; omega
          have HM6 := Aside0.mk (show Maps l0.length (cutOf l0 l1) wr w.heap.size (j + 1) from HM2.out.congr (fun x hx => by
            by_cases hxj : x = j
            · simp only [hxj, if_true]; rw [HCJ.out, hjm]
            · simp only [hxj, if_false]))
          clear qc' q0' nc' nf'
          go_wp2
          go_roundg gb
          case measure => omega
          case rel => exact ⟨j + 1, by go_num, ⟨by have := HK.out; omega⟩, HB2, HM6⟩
    · have hge : ¬ ((j : Int) < l0.length) := by omega
      have hje : j = l0.length := by have := HK.out; omega
      subst hje
      go_wp2
      go_step3
      go_wp2
      have HBa := Aside0.mk HB.out
      have HMa := Aside0.mk HM.out
      go_loopg [55, 12, 13, 14] l0.length (fun gk i s12 s13 s14 wr => ∃ jx : Nat, i = .int .i64 jx ∧ s12 = .int .i64 0 ∧ s13 = .int .i64 0 ∧ s14 = .bool false ∧ Aside0 (jx + gk = l0.length) ∧ Aside0 (Below w.heap.size w wr) ∧ Aside0 (Maps l0.length (cutOf l0 l1) wr w.heap.size l0.length) ∧ Aside0 (opn l0 l1 gk jx = (r1, r2, r3)))
      case atStart => exact ⟨0, rfl, rfl, rfl, rfl, ⟨by omega⟩, HBa, HMa, ⟨H.out⟩⟩
      case round =>
        obtain ⟨jx, rfl, rfl, rfl, rfl, HKx, HBx, HMx, Hx⟩ := hrel
        by_cases hjx : jx < l0.length
        · have hltx : (jx : Int) < l0.length := by omega
          have h0x : (0 : Int) ≤ (jx : Int) := by omega
          obtain ⟨gx, rfl⟩ : ∃ g, gk = g + 1 := ⟨gk - 1, by have := HKx.out; omega⟩
          have hltx1 : jx < l1.length := by omega
          have hltx1' : (jx : Int) < l1.length := by omega
          have h := Hx.out
          unfold opn at h
          obtain ⟨ad, A2, c2, rfl, q0, hlc, hC0⟩ := at_L4 HR0.out jx (by omega) (by omega)
          have hrd : rd_L4 l0 jx = l0.getD jx [] := by unfold rd_L4; rw [Int.toNat_natCast]
          obtain ⟨g31, g32⟩ := G3.out jx hjx
          rw [hrd] at q0 hlc hC0
          rw [Int.toNat_natCast] at q0
          have q0' := pw_cell_below HBx.out q0
          obtain ⟨bd, rfl, qc⟩ := at_I HR1.out jx hltx1
          obtain ⟨m, hm⟩ : ∃ m : Nat, l1.getD jx 0 = m := ⟨(l1.getD jx 0).toNat, by omega⟩
          have hcj : cutOf l0 l1 jx = (l0.getD jx []).take m := by unfold cutOf; rw [hm, Int.toNat_natCast]
          rw [hm] at qc g31
          rw [hcj] at h
          have qc' := pw_cell_below HBx.out qc
          obtain ⟨i50, hi50⟩ := info50'
          generalize l0.getD jx [] = lst at *
          have hct : ∀ W : World, (Instr.slice 47 (.slice A2 lst.length c2) none (some (.int .i64 m)) none).run Try.prog W = .ok (.slice A2 m c2) W := fun W => by
            have := cut_to (P := Try.prog) 47 50 .i64 Try.underlying47 hi50 A2 lst.length c2 m (by omega) (by omega) hlc W
            simpa using this
          have HC0 := Aside0.mk hC0
          have G32 := Aside0.mk g32
          have H2 := Aside0.mk h
          clear q0 qc hrd hi50 hC0 hcj g32 hm h
          go_wp2_with fail
          go_quiet (fail)
          go_wp2_with fail
          have HBy := Aside0.mk (show Below w.heap.size w _ from pw_below_drewN HBx.out nq)
          have HMy := Aside0.mk (HMx.out.below (pw_below_drewN (Below.refl _ _) nq))
          go_loopg [68, 12, 13, 14] m (fun gk i s12 s13 s14 wr => ∃ jj : Nat, i = .int .i64 jj ∧ s12 = .int .i64 0 ∧ s13 = .int .i64 0 ∧ s14 = .bool false ∧ Aside0 (jj + gk = m) ∧ Aside0 (Below w.heap.size w wr) ∧ Aside0 (Maps l0.length (cutOf l0 l1) wr w.heap.size l0.length) ∧ Aside0 (∀ x, x < jj → badSt l0 l1 (lst.getD x z50) = false))
          case atStart => exact ⟨0, rfl, rfl, rfl, rfl, ⟨by omega⟩, HBy, HMy, ⟨fun x hx => absurd hx (by omega)⟩⟩
          case round =>
            obtain ⟨jj, rfl, rfl, rfl, rfl, HK2, HB2, HM2, HN2⟩ := hrel
            by_cases hjj : jj < m
            · have hlt2 : (jj : Int) < (m : Int) := by omega
              have h02 : (0 : Int) ≤ (jj : Int) := by omega
              have hjl : jj < lst.length := by omega
              obtain ⟨gk2, rfl⟩ : ∃ g, gk = g + 1 := ⟨gk - 1, by have := HK2.out; omega⟩
              obtain ⟨ad2, A3, c3, rfl, p0, p1, hlc3, hC3⟩ := at_T50 HC0.out jj (by omega) (by omega)
              have hrd2 : rd_T50 lst jj = lst.getD jj z50 := by unfold rd_T50; rw [Int.toNat_natCast]
              have hst := G32.out (lst.getD jj z50) (by rw [List.getD_eq_getElem?_getD, List.getElem?_eq_getElem hjl]; exact List.getElem_mem _)
              rw [hrd2] at p0 p1 hlc3 hC3
              rw [Int.toNat_natCast] at p0 p1
              have p0' := pw_cell_below HB2.out p0
              have p1' := pw_cell_below HB2.out p1
              have hbad : badSt l0 l1 (lst.getD jj z50) = true → (lst.take m).findIdx? (badSt l0 l1) = some jj := fun hb => by
                rw [List.findIdx?_eq_some_iff_getElem]
                refine ⟨by rw [List.length_take]; omega, ?_, fun x hx => ?_⟩
                · rw [List.getElem_take]
                  rw [List.getD_eq_getElem?_getD, List.getElem?_eq_getElem hjl] at hb
                  exact hb
                · have := HN2.out x hx
                  rw [List.getD_eq_getElem?_getD, List.getElem?_eq_getElem (by omega)] at this
                  rw [List.getElem_take]
                  simpa using this
              have HBAD := Aside0.mk hbad
              have HN3 := Aside0.mk (show badSt l0 l1 (lst.getD jj z50) = false → ∀ x, x < jj + 1 → badSt l0 l1 (lst.getD x z50) = false from fun hb x hx => by
                rcases Nat.lt_or_ge x jj with h | h
                · exact HN2.out x h
                · obtain rfl : x = jj := by omega
                  exact hb)
              generalize lst.getD jj z50 = st at *
              have HC3 := Aside0.mk hC3
              have HST := Aside0.mk hst.2
              have wf0 : (Lit.int .i64 st.f0).wf = true := wf3 (by have := hst.1.1; omega) (by have := hst.1.2; omega)
              clear hrd2 p0 p1 hC3 hbad hst q0' qc'
              go_upto_region 19 with fail
              obtain ⟨W4, hW4⟩ : ∃ W4 : World, W4 = wr.alloc (.cells #[.int .i64 st.f0, .slice A3 st.f1.length c3] 50) := ⟨_, rfl⟩
              have hb4 : Below wr.heap.size wr W4 := hW4 ▸ below_alloc (Below.refl _ _) _
              have hblk4 : W4.heap[wr.heap.size]? = some (.cells #[.int .i64 st.f0, .slice A3 st.f1.length c3] 50 (0, 0)) := by rw [hW4]; exact heap_alloc_new wr _
              rw [← hW4]
              have HM4 := Aside0.mk (HM2.out.below hb4)
              have HB4 := Aside0.mk (below_step HB2.out hb4)
              have x0 := (blk_cell hblk4 0).trans rfl
              have x1 := (blk_cell hblk4 1).trans rfl
              clear hW4 hb4 hblk4 p0' p1'
              go_wp2_with fail
              have hbb : W4.heap.size = W4.heap.size := rfl
              obtain ⟨bk, hbk⟩ : ∃ bk, bk = wr.heap.size := ⟨_, rfl⟩
              have X0 := Aside0.mk x0
              clear x1 hbb
              go_loopg [76, 12, 13, 14] st.f1.length (fun gk i s12 s13 s14 wi => ∃ xx : Nat, i = .int .i64 xx ∧ s12 = .int .i64 0 ∧ s13 = .int .i64 0 ∧ s14 = .bool false ∧ Aside0 (xx + gk = st.f1.length) ∧ Aside0 (Below W4.heap.size W4 wi) ∧ Aside0 (∀ y, y < xx → isIn (cutOf l0 l1 (st.f1.getD y 0).toNat) st.f0 = true))
              case atStart => exact ⟨0, rfl, rfl, rfl, rfl, ⟨by omega⟩, ⟨Below.refl _ _⟩, ⟨fun x hx => absurd hx (by omega)⟩⟩
              case round =>
                obtain ⟨xx, rfl, rfl, rfl, rfl, HK4, HB6, HN4⟩ := hrel
                have HBw := Aside0.mk (below_step HB4.out HB6.out)
                have HMw := Aside0.mk (HM4.out.below HB6.out)
                by_cases hxx : xx < st.f1.length
                · have hfl : st.f1.length ≤ 9223372036854775807 := HC3.out.2.1
                  have hlt3 : (xx : Int) < (st.f1.length : Int) := by omega
                  have h03 : (0 : Int) ≤ (xx : Int) := by omega
                  obtain ⟨gk3, rfl⟩ : ∃ g, gk = g + 1 := ⟨gk - 1, by have := HK4.out; omega⟩
                  obtain ⟨ad3, rfl, qv⟩ := at_I HC3.out xx hxx
                  have hv := HST.out (st.f1.getD xx 0) (by rw [List.getD_eq_getElem?_getD, List.getElem?_eq_getElem hxx]; exact List.getElem_mem _)
                  obtain ⟨vn, hvn⟩ : ∃ vn : Nat, st.f1.getD xx 0 = vn := ⟨(st.f1.getD xx 0).toNat, by omega⟩
                  rw [hvn] at qv hv
                  have qv' := pw_cell_below HBw.out qv
                  have hvl : vn < l0.length := by omega
                  have hvl' : (vn : Int) < (l0.length : Int) := by omega
                  have hv0 : (0 : Int) ≤ (vn : Int) := by omega
                  obtain ⟨g, gc, hbg, hog⟩ := HMw.out.cell vn hvl
                  have x0w := pw_cell_below HB6.out X0.out
                  have hlk := fun n_ => (hog.below (pw_below_drewN (Below.refl _ _) n_)).look (t := 77) Try.underlying77 (zero4 _) wf0 false
                  simp only [Bool.false_eq_true, if_false, inV_get] at hlk
                  have HVN := Aside0.mk hvn
                  clear qv hv hog hvn
                  cases hin : isIn (cutOf l0 l1 vn) st.f0 with
                  | true =>
                    rw [hin] at hlk
                    have HN5 := Aside0.mk (show ∀ y, y < xx + 1 → isIn (cutOf l0 l1 (st.f1.getD y 0).toNat) st.f0 = true from fun y hy => by
                      rcases Nat.lt_or_ge y xx with h | h
                      · exact HN4.out y h
                      · obtain rfl : y = xx := by omega
                        rw [HVN.out, Int.toNat_natCast]; exact hin)
                    go_wp2
                    go_quiet (fail)
                    go_wp2
                    go_roundg gk3
                    case measure => omega
                    case rel => exact ⟨xx + 1, by go_num, rfl, rfl, rfl, ⟨by have := HK4.out; omega⟩, ⟨pw_below_drewN HB6.out _⟩, HN5⟩
                  | false =>
                    rw [hin] at hlk
                    have hb : badSt l0 l1 st = true := by
                      unfold badSt
                      rw [List.any_eq_true]
                      refine ⟨st.f1.getD xx 0, by rw [List.getD_eq_getElem?_getD, List.getElem?_eq_getElem hxx]; exact List.getElem_mem _, ?_⟩
                      rw [HVN.out, Int.toNat_natCast, hin]; rfl
                    have h := H2.out
                    rw [HBAD.out hb] at h
                    simp only [Prod.mk.injEq] at h
                    obtain ⟨rfl, rfl, rfl⟩ := h
                    go_wp2
                    go_quiet (fail)
                    go_wp2
                    (first | rw [Exit.noGoto_ret] | skip)
                    go_ret3
                    exact ⟨by first | rfl | simp, pw_below_drewN HBw.out _⟩
                · have hge3 : ¬ ((xx : Int) < (st.f1.length : Int)) := by omega
                  have hxe : xx = st.f1.length := by have := HK4.out; omega
                  have HF := Aside0.mk (HN3.out (by
                    unfold badSt
                    rw [List.any_eq_false]
                    intro v hv
                    obtain ⟨y, hy, rfl⟩ := List.mem_iff_getElem.1 hv
                    have := HN4.out y (by omega)
                    rw [List.getD_eq_getElem?_getD, List.getElem?_eq_getElem hy] at this
                    simpa using this))
                  go_wp2
                  go_roundg gk2
                  case measure => omega
                  case rel => exact ⟨jj + 1, by go_num, rfl, rfl, rfl, ⟨by have := HK2.out; omega⟩, HBw, HMw, HF⟩
            · have hge2 : ¬ ((jj : Int) < (m : Int)) := by omega
              have hjm : jj = m := by have := HK2.out; omega
              have h := H2.out
              rw [show (lst.take m).findIdx? (badSt l0 l1) = none from by
                rw [List.findIdx?_eq_none_iff]
                intro st hst
                obtain ⟨x, hx, rfl⟩ := List.mem_iff_getElem.1 hst
                have hxm : x < m := by have := hx; rw [List.length_take] at this; omega
                have := HN2.out x (by omega)
                rw [List.getD_eq_getElem?_getD, List.getElem?_eq_getElem (by rw [List.length_take] at hx; omega)] at this
                rw [List.getElem_take]
                exact this] at h
              have H3 := Aside0.mk h
              clear h q0' qc'
              go_wp2
              go_roundg gx
              case measure => omega
              case rel => exact ⟨jx + 1, by go_num, rfl, rfl, rfl, ⟨by have := HKx.out; omega⟩, HB2, HM2, H3⟩
        · have hgex : ¬ ((jx : Int) < l0.length) := by omega
          have hx := Hx.out
          obtain rfl : gk = 0 := by have := HKx.out; omega
          simp only [opn, Prod.mk.injEq] at hx
          obtain ⟨rfl, rfl, rfl⟩ := hx
          go_wp2
          (first | rw [Exit.noGoto_ret] | skip)
          go_ret3
          exact ⟨by first | rfl | simp, HBx.out⟩
end Go.Proofs.Ytkhiglincdognaa.PA
