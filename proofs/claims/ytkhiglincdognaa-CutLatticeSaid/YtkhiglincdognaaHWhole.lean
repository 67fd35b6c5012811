/-
cut.whole: what it computes, and its contract.
Conditions: the rounds suffice; fewer than 2^40 stamps, their commits between 0 and 2^30 (else its function answers none).
-/
import Derived.Test.YtkhiglincdognaaMap
namespace Go.Proofs.Ytkhiglincdognaa.PA
open Go.RowKit Go.Proofs.YtkhiglincdognaaW.PrintWords Go.Proofs.YtkhiglincdognaaW.PrintLast Go.Proofs.YtkhiglincdognaaW.PrintMore
set_option linter.unusedVariables false
set_option linter.unusedSimpArgs false

theorem wrap_sm (n : Int) (h0 : 0 ≤ n) (h1 : n < 9223372036854775808) : IntKind.i64.wrap n = n := by
  have hm : n % 18446744073709551616 = n := by omega
  unfold IntKind.wrap
  simp [IntKind.bits, IntKind.signed, hm]
  omega

/-- How many stamps have this commit. -/
def cnt (S : List S50) (i : Int) : Nat := S.countP (fun st => st.f0 == i)
/-- How many shards the last stamp with this commit names. -/
def par (S : List S50) (i : Int) : Option Nat := (S.reverse.find? (fun st => st.f0 == i)).map (fun st => st.f1.length)
def cntV (S : List S50) (i : Int) : Option Value := if cnt S i = 0 then none else some (.int .i64 (cnt S i))
def parV (S : List S50) (i : Int) : Option Value := (par S i).map (fun n => .int .i64 n)
theorem cntV_get (S : List S50) (i : Int) : (cntV S i).getD (.int .i64 0) = .int .i64 (cnt S i) := by
  unfold cntV; split
  · rename_i h; rw [h]; rfl
  · rfl
theorem parV_get (S : List S50) (i : Int) : (parV S i).getD (.int .i64 0) = .int .i64 (((par S i).getD 0 : Nat) : Int) := by
  unfold parV; cases par S i <;> rfl
theorem cntV_snoc (S : List S50) (st : S50) : cntV (S ++ [st]) = fun j => if j = st.f0 then some (.int .i64 ((cnt S st.f0 : Int) + 1)) else cntV S j := by
  funext j
  unfold cntV cnt
  rw [List.countP_append]
  by_cases h : j = st.f0
  · subst h; simp
  · have : (st.f0 == j) = false := by simp; exact fun e => h e.symm
    simp [List.countP_cons, this, h]
theorem parV_snoc (S : List S50) (st : S50) : parV (S ++ [st]) = fun j => if j = st.f0 then some (.int .i64 (st.f1.length : Int)) else parV S j := by
  funext j
  unfold parV par
  rw [List.reverse_append]
  by_cases h : j = st.f0
  · subst h; simp
  · have : (st.f0 == j) = false := by simp; exact fun e => h e.symm
    simp [this, h]
theorem cntV_nil : cntV [] = fun _ => none := by funext j; rfl
theorem parV_nil : parV [] = fun _ => none := by funext j; rfl

def whl (S : List S50) : Nat → Int → Option Int
  | 0, _ => none
  | k + 1, n => if 0 < cnt S (n + 1) then (if cnt S (n + 1) = (par S (n + 1)).getD 0 then whl S k (n + 1) else some n) else some n
def cut_whole.f (k : Nat) (a0 : Int) (l1 : List (List S50)) : Option Int :=
  if 0 ≤ a0 ∧ a0 ≤ 1073741824 ∧ l1.flatten.length < 1099511627776 ∧ (l1.flatten.all fun st => decide (0 ≤ st.f0 ∧ st.f0 ≤ 1073741824)) = true then whl l1.flatten k a0 else none
theorem whl_mono (S : List S50) : ∀ k n, LeO (whl S k n) (whl S (k + 1) n)
  | 0, _ => LeO.none _
  | k + 1, n => by
    unfold whl
    exact LeO.ite (LeO.ite (whl_mono S k _) (LeO.refl _)) (LeO.refl _)
theorem cut_whole.mono : ∀ a0 a1 k, LeO (cut_whole.f k a0 a1) (cut_whole.f (k + 1) a0 a1) := fun a0 a1 k => by
  unfold cut_whole.f
  exact LeO.ite (whl_mono _ _ _) (LeO.refl _)

theorem cnt_le (S : List S50) (i : Int) : cnt S i ≤ S.length := List.countP_le_length
theorem cnt_mem (S : List S50) (i : Int) (h : 0 < cnt S i) : ∃ st ∈ S, st.f0 = i := by
  obtain ⟨st, h1, h2⟩ := List.countP_pos_iff.1 h
  exact ⟨st, h1, by simpa using h2⟩
theorem par_mem (S : List S50) (i : Int) (w : World) : True := trivial

/-- Both maps. -/
def Counted (w w1 : World) (S : List S50) : Prop := Below w.heap.size w w1 ∧ OMap w1 w.heap.size S.length (cntV S) ∧ OMap w1 (w.heap.size + 1) S.length (parV S)
theorem Counted.below {w w1 w2 : World} {S : List S50} (h : Counted w w1 S) (hb : Below w1.heap.size w1 w2) : Counted w w2 S := ⟨below_step h.1 hb, h.2.1.below hb, h.2.2.below hb⟩

set_option maxRecDepth 100000 in
set_option maxHeartbeats 16000000 in
theorem cut_whole.calls (k : Nat) (a0 : Int) (A1 : Option Addr) (c1 : Nat) (l1 : List (List S50)) (r : Int) (w : World) (hr1 : Kd.C (Kd.slice 50 k50) w A1 l1.length l1) (hc1 : l1.length ≤ c1) (h : cut_whole.f k a0 l1 = some r) :
    Calls Try.prog 41 #[.int .i64 a0, .slice A1 l1.length c1] w fun e w' => e = .returned (.int .i64 r) ∧ Below w.heap.size w w' := by
  have HR1 := Aside0.mk hr1
  have hl1 : l1.length ≤ 9223372036854775807 := hr1.2.1
  clear hr1
  unfold cut_whole.f at h
  split at h
  case isFalse => cases h
  case isTrue hg =>
  obtain ⟨g1, g2, g3, g4⟩ := hg
  have G3 := Aside0.mk g3
  have G4 := Aside0.mk (show ∀ st ∈ l1.flatten, 0 ≤ st.f0 ∧ st.f0 ≤ 1073741824 from fun st hst => by simpa using List.all_eq_true.1 g4 st hst)
  have H := Aside0.mk h
  clear h g4 g3
  go_enter Try.func41, Try.ntmps41
  have hmm := @run_makeMap Try.prog
  go_wp2_with fail
  have HC1 := Aside0.mk (show Counted w ((w.alloc (.map #[] 0)).alloc (.map #[] 0)) [] from ⟨((Below.refl _ _).alloc (Nat.le_refl _) _).alloc (by simp) _, by rw [cntV_nil]; exact (OMap.made w).below (below_alloc (Below.refl _ _) _), by rw [parV_nil]; exact (by simpa using OMap.made (w.alloc (.map #[] 0)))⟩)
  clear hmm
  go_loopg [16] l1.length (fun gk i wr => ∃ j : Nat, i = .int .i64 j ∧ Aside0 (j + gk = l1.length) ∧ Aside0 (Counted w wr (l1.take j).flatten))
  case atStart => exact ⟨0, rfl, ⟨by omega⟩, ⟨by simpa using HC1.out⟩⟩
  case round =>
    obtain ⟨j, rfl, HK, HC⟩ := hrel
    by_cases hj : j < l1.length
    · have hlt : (j : Int) < l1.length := by omega
      have h00 : (0 : Int) ≤ (j : Int) := by omega
      obtain ⟨gb, rfl⟩ : ∃ g, gk = g + 1 := ⟨gk - 1, by have := HK.out; omega⟩
      obtain ⟨ad, A0, c0, rfl, q0, hlc, hC0⟩ := at_L4 HR1.out j (by omega) (by omega)
      have hrd : rd_L4 l1 j = l1.getD j [] := by unfold rd_L4; rw [Int.toNat_natCast]
      have htk : (l1.take (j + 1)).flatten = (l1.take j).flatten ++ l1.getD j [] := by rw [List.take_succ_eq_append_getElem hj, List.flatten_append, List.getD_eq_getElem?_getD, List.getElem?_eq_getElem hj]; simp
      have hsub : ∀ m, ((l1.take j).flatten ++ (l1.getD j []).take m).length ≤ l1.flatten.length ∧ ∀ st ∈ l1.getD j [], st ∈ l1.flatten := fun m => by
        have e : l1.flatten = (l1.take j).flatten ++ (l1.getD j [] ++ (l1.drop (j + 1)).flatten) := by
          rw [← List.append_assoc, ← htk, ← List.flatten_append, List.take_append_drop]
        rw [e]
        exact ⟨by simp; omega, fun st hst => List.mem_append_right _ (List.mem_append_left _ hst)⟩
      rw [hrd] at q0 hlc hC0
      rw [Int.toNat_natCast] at q0
      have q0' := pw_cell_below HC.out.1 q0
      generalize l1.getD j [] = lst at *
      have hll : lst.length ≤ 9223372036854775807 := hC0.2.1
      have HC0 := Aside0.mk hC0
      have HT := Aside0.mk htk
      have HSUB := Aside0.mk hsub
      clear htk hrd q0 hC0 hsub
      go_wp2_with fail
      go_loopg [22] lst.length (fun gk i wr => ∃ jj : Nat, i = .int .i64 jj ∧ Aside0 (jj + gk = lst.length) ∧ Aside0 (Counted w wr ((l1.take j).flatten ++ lst.take jj)))
      case atStart => exact ⟨0, rfl, ⟨by omega⟩, ⟨by simpa using HC.out⟩⟩
      case round =>
        obtain ⟨jj, rfl, HK2, HC2⟩ := hrel
        by_cases hjj : jj < lst.length
        · have hlt2 : (jj : Int) < lst.length := by omega
          have h02 : (0 : Int) ≤ (jj : Int) := by omega
          obtain ⟨gk2, rfl⟩ : ∃ g, gk = g + 1 := ⟨gk - 1, by have := HK2.out; omega⟩
          obtain ⟨ad2, A2, c2, rfl, p0, p1, hlc2, hC2⟩ := at_T50 HC0.out jj (by omega) (by omega)
          have hrd2 : rd_T50 lst jj = lst.getD jj z50 := by unfold rd_T50; rw [Int.toNat_natCast]
          have hsn : (l1.take j).flatten ++ lst.take (jj + 1) = ((l1.take j).flatten ++ lst.take jj) ++ [lst.getD jj z50] := by rw [List.take_succ_eq_append_getElem hjj, List.getD_eq_getElem?_getD, List.getElem?_eq_getElem hjj, List.append_assoc]; rfl
          have hmem : lst.getD jj z50 ∈ lst := by rw [List.getD_eq_getElem?_getD, List.getElem?_eq_getElem hjj]; exact List.getElem_mem _
          have hst := G4.out _ ((HSUB.out 0).2 _ hmem)
          have hlen := (HSUB.out jj).1
          rw [hrd2] at p0 p1 hlc2
          rw [Int.toNat_natCast] at p0 p1
          have p0' := pw_cell_below HC2.out.1 p0
          have p1' := pw_cell_below HC2.out.1 p1
          generalize lst.getD jj z50 = st at *
          obtain ⟨S, hS⟩ : ∃ S, S = (l1.take j).flatten ++ lst.take jj := ⟨_, rfl⟩
          rw [← hS] at hsn HC2 hlen
          have HSN := Aside0.mk hsn
          have hS40 : S.length < 1099511627776 := by have := G3.out; omega
          clear hsn hmem hrd2 p0 p1 hC2 hS q0'
          have wf0 : (Lit.int .i64 st.f0).wf = true := wf3 (by omega) (by omega)
          have hcn := cnt_le S st.f0
          have hwr : IntKind.i64.wrap ((cnt S st.f0 : Int) + 1) = (cnt S st.f0 : Int) + 1 := wrap_sm _ (by omega) (by omega)
          go_upto_region 8 with fail
          obtain ⟨W4, hW4⟩ : ∃ W4 : World, W4 = wr.alloc (.cells #[.int .i64 st.f0, .slice A2 st.f1.length c2] 50) := ⟨_, rfl⟩
          have HC4 := Aside0.mk (show Counted w W4 S from hW4 ▸ HC2.out.below (below_alloc (Below.refl _ _) _))
          have hblk4 : W4.heap[wr.heap.size]? = some (.cells #[.int .i64 st.f0, .slice A2 st.f1.length c2] 50 (0, 0)) := by rw [hW4]; exact heap_alloc_new wr _
          have hwr1 : w.heap.size + 1 < wr.heap.size := HC2.out.2.2.lt
          rw [← hW4]
          clear hW4 p0' p1'
          have x0 := (blk_cell hblk4 0).trans rfl
          have x1 := (blk_cell hblk4 1).trans rfl
          have HBLK := Aside0.mk hblk4
          have hlk := HC4.out.2.1.look (t := 74) Try.underlying74 (zero3 W4) wf0 false
          simp only [Bool.false_eq_true, if_false, cntV_get] at hlk
          clear hblk4
          go_upto_region 9 with (first | (at_mapUpdate; refine put_law _ rfl (.tmp 26) (.tmp 28) (.tmp 30) 74 rfl Try.underlying74 w.heap.size S.length (cntV S) rfl HC4.out.2.1 (by simp only [maxLen]; omega) st.f0 wf0 (.int .i64 ((cnt S st.f0 : Int) + 1)) rfl rfl ?_; intro w5 ho5 hg5))
          have HB5 := Aside0.mk (HC4.out.1.grown hg5 HC4.out.1.size (fun k hk => by injection hk with hk; omega))
          have HO5 := Aside0.mk ho5
          have HP5 := Aside0.mk (HC4.out.2.2.kept hg5 (by intro e; injection e with e; omega))
          have hblk5 := (hg5.block wr.heap.size (blk_lt HBLK.out) (by intro e; injection e with e; omega)).trans HBLK.out
          have y0 := (blk_cell hblk5 0).trans rfl
          have y1 := (blk_cell hblk5 1).trans rfl
          clear ho5 hg5 hblk5 x0 x1 hlk
          go_upto_region 10 with (first | (at_mapUpdate; refine put_law _ rfl (.tmp 31) (.tmp 33) (.tmp 36) 74 rfl Try.underlying74 (w.heap.size + 1) S.length (parV S) rfl HP5.out (by simp only [maxLen]; omega) st.f0 wf0 (.int .i64 (st.f1.length : Int)) rfl rfl ?_; intro w6 ho6 hg6))
          have HC6 := Aside0.mk (show Counted w w6 ((l1.take j).flatten ++ lst.take (jj + 1)) from by
            rw [HSN.out]
            refine ⟨HB5.out.grown hg6 HB5.out.size (fun k hk => by injection hk with hk; omega), ?_, ?_⟩
            · rw [cntV_snoc, List.length_append]; exact HO5.out.kept hg6 (by intro e; injection e with e; omega)
            · rw [parV_snoc, List.length_append]; exact ho6)
          clear ho6 hg6
          go_wp2
          go_roundg gk2
          case measure => omega
          case rel => exact ⟨jj + 1, by go_num, ⟨by have := HK2.out; omega⟩, HC6⟩
        · have hge2 : ¬ ((jj : Int) < lst.length) := by omega
          have HC6 := Aside0.mk (show Counted w wr (l1.take (j + 1)).flatten from by rw [HT.out]; have := HC2.out; rw [show lst.take jj = lst from List.take_of_length_le (by omega)] at this; exact this)
          go_wp2
          go_roundg gb
          case measure => omega
          case rel => exact ⟨j + 1, by go_num, ⟨by have := HK.out; omega⟩, HC6⟩
    · have hge : ¬ ((j : Int) < l1.length) := by omega
      have HC6 := Aside0.mk (show Counted w wr l1.flatten from by have := HC.out; rwa [List.take_of_length_le (by omega)] at this)
      clear HC
      obtain ⟨S, hS⟩ : ∃ S, S = l1.flatten := ⟨_, rfl⟩
      rw [← hS] at HC6 G3 G4 H
      clear hS
      go_wp2_with fail
      go_loopg [11] k (fun gk s11 wr => ∃ n : Int, s11 = .int .i64 n ∧ Aside0 (whl S gk n = some r) ∧ 0 ≤ n ∧ n ≤ 1073741824 ∧ Aside0 (Counted w wr S))
      case atStart => exact ⟨a0, rfl, ⟨H.out⟩, g1, g2, HC6⟩
      case round =>
        obtain ⟨n, rfl, H, hn0, hn1, HC⟩ := hrel
        cases gk with
        | zero => exact absurd H.out (by simp [whl])
        | succ gk =>
          have h := H.out
          unfold whl at h
          have hw1 : IntKind.i64.wrap (n + 1) = n + 1 := wrap_sm _ (by omega) (by omega)
          have wfn : (Lit.int .i64 (n + 1)).wf = true := wf3 (by omega) (by omega)
          have k1 := HC.out.2.1.look (t := 74) Try.underlying74 (zero3 wr) wfn false
          have k2 := HC.out.2.2.look (t := 74) Try.underlying74 (zero3 wr) wfn false
          simp only [Bool.false_eq_true, if_false, cntV_get, parV_get] at k1 k2
          have HCC := Aside0.mk HC.out.1
          by_cases d1 : 0 < cnt S (n + 1)
          · rw [if_pos d1] at h
            have d1' : decide ((0 : Int) < (cnt S (n + 1) : Int)) = true := decide_eq_true (by omega)
            obtain ⟨st, hst, hsn⟩ := cnt_mem S (n + 1) d1
            have hn2 := (G4.out st hst).2
            by_cases d2 : cnt S (n + 1) = (par S (n + 1)).getD 0
            · rw [if_pos d2] at h
              have d2' : ((cnt S (n + 1) : Int) == (((par S (n + 1)).getD 0 : Nat) : Int)) = true := by rw [d2]; simp
              have H2 := Aside0.mk h
              clear h H
              go_wp2
              go_roundg gk
              case measure => omega
              case rel => exact ⟨n + 1, by go_num, H2, by omega, by omega, HC⟩
            · rw [if_neg d2] at h
              have d2' : ((cnt S (n + 1) : Int) == (((par S (n + 1)).getD 0 : Nat) : Int)) = false := beq_eq_false_iff_ne.mpr (by omega)
              obtain rfl := Option.some.inj h
              go_wp2
              go_ret
              exact ⟨rfl, HCC.out⟩
          · rw [if_neg d1] at h
            have d1' : decide ((0 : Int) < (cnt S (n + 1) : Int)) = false := decide_eq_false (by omega)
            obtain rfl := Option.some.inj h
            go_wp2
            go_ret
            exact ⟨rfl, HCC.out⟩
end Go.Proofs.Ytkhiglincdognaa.PA
