/-
sort.Search over a closure that reads alone; the closure of cut.Of.
cut.Of: what it computes, and its contract.
Conditions: as each theorem states.
-/
import Derived.Test.YtkhiglincdognaaPAx0
import Derived.WalkMore
import Derived.Deep.RegionLaw
import Derived.StillTailTactics
import Derived.Test.YtkhiglincdognaaHMaps
import Derived.Test.YtkhiglincdognaaSpecs
namespace Go.Proofs.Ytkhiglincdognaa.PA
open Go.RowKit Go.Proofs.YtkhiglincdognaaW.PrintWords Go.Proofs.YtkhiglincdognaaW.PrintLast Go.Proofs.YtkhiglincdognaaW.PrintMore
set_option linter.unusedVariables false
set_option linter.unusedSimpArgs false

set_option maxHeartbeats 4000000 in
set_option maxRecDepth 1000000 in
theorem search_any (cb : Array Value) (n r : Nat) (p : Nat → Bool) (w : World) (hsz : n < 4611686018427387904) (hr : r ≤ n)
    (hf : ∀ (m i : Nat), i < n → Calls Try.prog 44 (#[.int .i64 i] ++ cb) (w.drewN m) fun e w' => e = .returned (.bool (p i)) ∧ ∃ q, w' = (w.drewN m).drewN q)
    (h0 : ∀ t, t < r → p t = false) (h1 : ∀ t, r ≤ t → t < n → p t = true) :
    Calls Try.prog 43 #[.int .i64 n, .func (.func 44) #[] cb] w fun e w' => e = .returned (.int .i64 r) ∧ ∃ q, w' = w.drewN q := by
  have HF := Aside0.mk hf
  have P0 := Aside0.mk h0
  have P1 := Aside0.mk h1
  clear hf h0 h1
  go_enter Try.func43, Try.ntmps43
  go_wp2
  go_loopg [5, 6] n (fun kx s5 s6 wr => ∃ (lo hi q : Nat), s5 = .int .i64 lo ∧ s6 = .int .i64 hi ∧ lo ≤ r ∧ r ≤ hi ∧ hi ≤ n ∧ hi - lo ≤ kx ∧ wr = w.drewN q)
  case atStart => exact ⟨0, n, 0, rfl, rfl, Nat.zero_le _, hr, Nat.le_refl _, by omega, rfl⟩
  case round =>
    obtain ⟨lo, hi, q, rfl, rfl, hlr, hrh, hin, hg, rfl⟩ := hrel
    by_cases hlt : lo < hi
    · have hc := HF.out q ((lo + hi) / 2) (by omega)
      rw [show (((lo + hi) / 2 : Nat) : Int) = ((lo : Int) + (hi : Int)) / 2 by omega] at hc
      cases hp : p ((lo + hi) / 2) <;> rw [hp] at hc
      · have hlo : (lo + hi) / 2 < r := by
          refine Nat.lt_of_not_le fun h => ?_
          rw [P1.out _ h (by omega)] at hp; cases hp
        clear hp
        go_wp2_with (go_at_call 44; refine hc.mono ?_; rintro e w' ⟨rfl, nq, rfl⟩)
        go_roundg (hi - ((lo + hi) / 2 + 1))
        case measure => omega
        case rel => exact ⟨(lo + hi) / 2 + 1, hi, q + nq, by rw [show ((lo : Int) + (hi : Int)) / 2 + 1 = (((lo + hi) / 2 + 1 : Nat) : Int) by omega], rfl, by omega, hrh, hin, Nat.le_refl _, rfl⟩
      · have hlo : r ≤ (lo + hi) / 2 := by
          refine Nat.le_of_not_lt fun h => ?_
          rw [P0.out _ h] at hp; cases hp
        clear hp
        go_wp2_with (go_at_call 44; refine hc.mono ?_; rintro e w' ⟨rfl, nq, rfl⟩)
        go_roundg ((lo + hi) / 2 - lo)
        case measure => omega
        case rel => exact ⟨lo, (lo + hi) / 2, q + nq, rfl, by rw [show ((lo : Int) + (hi : Int)) / 2 = (((lo + hi) / 2 : Nat) : Int) by omega], hlr, hlo, by omega, Nat.le_refl _, rfl⟩
    · obtain rfl : lo = r := by omega
      obtain rfl : hi = lo := by omega
      go_wp2
      go_ret
      exact ⟨rfl, q, rfl⟩

set_option maxHeartbeats 2000000 in
/-- 'func(i int) bool { return list[i].Commit > n }': list and n in their boxes. -/
theorem closure44 (ba bx : Nat) (ad : Addr) (cap : Nat) (l : List S50) (n : Int) (i : Nat) (W : World) (hi : i < l.length)
    (ha : W.cell? ⟨ba, 0, none⟩ = some (.slice (some ad) l.length cap)) (hx : W.cell? ⟨bx, 0, none⟩ = some (.int .i64 n)) (hc : W.cell? (ad.add (i * 2)) = some (.int .i64 (l.getD i z50).f0)) :
    Calls Try.prog 44 (#[.int .i64 i] ++ #[.pointer (some ⟨ba, 0, none⟩), .pointer (some ⟨bx, 0, none⟩)]) W fun e w' => e = .returned (.bool (decide ((l.getD i z50).f0 > n))) ∧ ∃ q, w' = W.drewN q := by
  generalize (l.getD i z50).f0 = y at hc ⊢
  have hiz : (i : Int) < (l.length : Int) := by omega
  go_enter Try.func44, Try.ntmps44
  go_wp2
  go_quiet (fail)
  go_wp2
  go_ret
  exact ⟨rfl, _, rfl⟩
end Go.Proofs.Ytkhiglincdognaa.PA

namespace Go.Proofs.Ytkhiglincdognaa.PA
open Go.RowKit Go.Proofs.YtkhiglincdognaaW.PrintWords Go.Proofs.YtkhiglincdognaaW.PrintLast Go.Proofs.YtkhiglincdognaaW.PrintMore
set_option linter.unusedVariables false
set_option linter.unusedSimpArgs false

/-- The number of stamps whose commit is at most n. -/
def cntUpto (n : Int) (l : List S50) : Int := ((l.takeWhile fun s => decide (s.f0 ≤ n)).length : Int)
def cut_Of.f (k : Nat) (a0 : Int) (l1 : List (List (S50))) (a2 : Int) : Option (List Int × Int) := (cut_Check.f k a0 l1).bind fun t => if t = 0 then (if a2 < a0 ∨ 1073741824 < a2 then some ([], 1) else if ∀ l ∈ l1, l.length ≤ 1073741824 then some (l1.map (cntUpto a2), 0) else none) else some ([], t)
theorem cut_Of.mono : ∀ a0 a1 a2 k, LeO (cut_Of.f k a0 a1 a2) (cut_Of.f (k + 1) a0 a1 a2) := fun a0 a1 a2 k => LeO.bind (cut_Check.mono _ _ _) (fun _ => LeO.refl _)
theorem check_valid {k : Nat} {b : Int} {logs : List (List S50)} (h : cut_Check.f k b logs = some 0) : Valid b logs := by
  obtain ⟨K, hK⟩ := check_ev b logs
  have up : ∀ d, cut_Check.f (k + d) b logs = some 0 := fun d => by
    induction d with
    | zero => exact h
    | succ d ih => exact cut_Check.mono _ _ (k + d) _ ih
  have h1 : cut_Check.f (k + K) b logs = some (checkV b logs) := hK (k + K) (by omega)
  rw [up K] at h1
  exact checkV_ok.1 (Option.some.inj h1).symm
theorem tw_len (n : Int) (l : List S50) : (l.takeWhile fun s => decide (s.f0 ≤ n)).length ≤ l.length := (List.takeWhile_sublist _).length_le
theorem tw_in (n : Int) : ∀ (l : List S50) (t : Nat), t < (l.takeWhile fun s => decide (s.f0 ≤ n)).length → (l.getD t z50).f0 ≤ n
  | [], t, h => by simp at h
  | s :: l, t, h => by
    by_cases hs : s.f0 ≤ n
    · rw [List.takeWhile_cons_of_pos (by simpa using hs)] at h
      cases t with
      | zero => exact hs
      | succ t => exact tw_in n l t (by simpa using h)
    · rw [List.takeWhile_cons_of_neg (by simpa using hs)] at h; simp at h
theorem tw_out (n : Int) : ∀ (l : List S50), l.Pairwise (fun s t => s.f0 < t.f0) → ∀ t : Nat, (l.takeWhile fun s => decide (s.f0 ≤ n)).length ≤ t → t < l.length → n < (l.getD t z50).f0
  | [], _, t, _, h => by simp at h
  | s :: l, hp, t, h, hl => by
    obtain ⟨h1, h2⟩ := List.pairwise_cons.1 hp
    by_cases hs : s.f0 ≤ n
    · rw [List.takeWhile_cons_of_pos (by simpa using hs)] at h
      cases t with
      | zero => simp at h
      | succ t => exact tw_out n l h2 t (by simpa using h) (by simpa using hl)
    · cases t with
      | zero => exact Int.not_le.1 hs
      | succ t =>
        have hm : l.getD t z50 ∈ l := by rw [List.getD_eq_getElem?_getD, List.getElem?_eq_getElem (show t < l.length by simpa using hl)]; exact List.getElem_mem _
        have := h1 _ hm
        show n < (l.getD t z50).f0
        omega
set_option maxHeartbeats 4000000 in
theorem cut_Of.calls (k : Nat) (a0 : Int) (A1 : Option Addr) (c1 : Nat) (l1 : List (List (S50))) (a2 : Int) (r1 : List Int) (r2 : Int) (w : World) (hr1 : Kd.C (Kd.slice 50 k50) w A1 l1.length l1) (hc1 : l1.length ≤ c1) (h : cut_Of.f k a0 l1 a2 = some (r1, r2)) :
    Calls Try.prog 25 #[.int .i64 a0, .slice A1 l1.length c1, .int .i64 a2] w fun e w' => ∃ v0_ : Value, e = .returned (.tuple #[v0_, .int .i64 r2]) ∧ Kd.R (Kd.int .i64) 3 w' w.heap.size (fun _ => True) v0_ r1 ∧ Below w.heap.size w w' := by
  have HR1 := Aside0.mk hr1
  have HC1 := Aside0.mk hc1
  unfold cut_Of.f at h
  obtain ⟨t, A1, h1⟩ := Option.bind_eq_some_iff.1 h
  have AT := Aside0.mk A1
  clear hr1 hc1 h A1
  obtain ⟨w1, hw1⟩ : ∃ w1, w1 = w.alloc (.cells #[.int .i64 a2] 3) := ⟨_, rfl⟩
  have hB1 : Below w.heap.size w w1 := hw1 ▸ below_alloc (Below.refl _ _) _
  have hc1 : w1.cell? ⟨w.heap.size, 0, none⟩ = some (.int .i64 a2) := by rw [hw1]; go_simp
  have HB1 := Aside0.mk hB1
  have HX1 := Aside0.mk hc1
  clear hB1 hc1
  go_enter Try.func25, Try.ntmps25
  go_upto_region 1 with fail
  rw [← hw1]
  clear hw1
  go_upto_if 16 with (first | (go_at_call 28; refine (cut_Check.calls k a0 A1 c1 l1 t _ (Kd.C_below HR1.out (by first | exact HB1.out | exact Below.drew HB1.out | exact pw_below_drewN HB1.out _)) HC1.out AT.out).mono ?_; rintro e w2 ⟨rfl, hb2⟩; have HB2 := Aside0.mk (below_step HB1.out (show Below w1.heap.size w1 w2 from hb2)); have HX2 := Aside0.mk (pw_cell_below (show Below w1.heap.size w1 w2 from hb2) HX1.out); clear hb2))
  by_cases ht : t = 0
  · subst ht
    have H := Aside0.mk h1
    clear h1
    go_upto_region 4 with fail
    have ha2 := HX2.out
    by_cases hg1 : a2 < a0
    · have hd1 : decide (a2 < a0) = true := decide_eq_true hg1
      have h := H.out
      rw [if_pos rfl, if_pos (.inl hg1)] at h
      simp only [Option.some.injEq, Prod.mk.injEq] at h
      obtain ⟨rfl, rfl⟩ := h
      go_wp2
      go_ret2
      exact ⟨_, rfl, Kd.R_nil _ _ _ _ _, by first | exact HB2.out | exact Below.drew HB2.out | exact pw_below_drewN HB2.out _⟩
    · have hd1 : decide (a2 < a0) = false := decide_eq_false hg1
      by_cases hg2 : 1073741824 < a2
      · have hd2 : decide (1073741824 < a2) = true := decide_eq_true hg2
        have h := H.out
        rw [if_pos rfl, if_pos (.inr hg2)] at h
        simp only [Option.some.injEq, Prod.mk.injEq] at h
        obtain ⟨rfl, rfl⟩ := h
        go_wp2
        go_ret2
        exact ⟨_, rfl, Kd.R_nil _ _ _ _ _, by first | exact HB2.out | exact Below.drew HB2.out | exact pw_below_drewN HB2.out _⟩
      · have hd2 : decide (1073741824 < a2) = false := decide_eq_false hg2
        have h := H.out
        rw [if_pos rfl, if_neg (by omega)] at h
        split at h
        case isFalse => exact absurd h (by simp)
        rename_i hlen
        simp only [Option.some.injEq, Prod.mk.injEq] at h
        obtain ⟨rfl, rfl⟩ := h
        have HLEN := Aside0.mk hlen
        clear hlen
        go_wp2
        have HV := Aside0.mk (check_valid AT.out)
        have HN := Aside0.mk (show l1.length ≤ 4 from HV.out.n1)
        have HR0 := Aside0.mk (Kd.R_nil (Kd.int .i64) 3 w2 w.heap.size (fun _ => True))
        go_loopg [27, 9] l1.length (fun gk v27 v9 wr => ∃ (j : Nat) (A : Option Addr) (c : Nat), v27 = .int .i64 j ∧ v9 = .slice A ((l1.take j).map (cntUpto a2)).length c ∧ Aside0 (j + gk = l1.length) ∧ Aside0 (Below w.heap.size w wr) ∧ Aside0 (wr.cell? ⟨w.heap.size, 0, none⟩ = some (.int .i64 a2)) ∧ Aside0 ((Kd.int .i64).R 3 wr w.heap.size (fun k => k ≠ w.heap.size) (.slice A ((l1.take j).map (cntUpto a2)).length c) ((l1.take j).map (cntUpto a2))))
        case atStart => exact ⟨0, none, 0, rfl, rfl, ⟨by omega⟩, HB2, HX2, ⟨Kd.R_nil _ _ _ _ _⟩⟩
        case round =>
          obtain ⟨j, A, c, rfl, rfl, HJ, HBr, HXr, HRr⟩ := hrel
          by_cases hj : j < l1.length
          · have hlt : (j : Int) < (l1.length : Int) := by omega
            have h00 : (0 : Int) ≤ (j : Int) := by omega
            obtain ⟨gj, rfl⟩ : ∃ g, gk = g + 1 := ⟨gk - 1, by have := HJ.out; omega⟩
            obtain ⟨ad, A2, c2, rfl, q0, hlc, hC0⟩ := at_L4 HR1.out j (by omega) (by omega)
            have hrd : rd_L4 l1 j = l1.getD j [] := by unfold rd_L4; rw [Int.toNat_natCast]
            rw [hrd] at q0 hlc hC0
            rw [Int.toNat_natCast] at q0
            have hasc := HV.out.inv.asc j hj
            have hsh := HLEN.out (l1.getD j []) (by rw [List.getD_eq_getElem?_getD, List.getElem?_eq_getElem hj]; exact List.getElem_mem _)
            have hsu : (l1.take (j + 1)).map (cntUpto a2) = (l1.take j).map (cntUpto a2) ++ [cntUpto a2 (l1.getD j [])] := by
              rw [List.take_succ_eq_append_getElem hj, List.map_append, List.getD_eq_getElem?_getD, List.getElem?_eq_getElem hj]; rfl
            have hln : ((l1.take j).map (cntUpto a2)).length = j := by rw [List.length_map, List.length_take]; omega
            obtain ⟨pre, hpre⟩ : ∃ pre, pre = (l1.take j).map (cntUpto a2) := ⟨_, rfl⟩
            rw [← hpre] at HRr hsu hln
            rw [← hpre]
            generalize l1.getD j [] = lst at *
            have q0' := pw_cell_below HBr.out q0
            have HC0 := Aside0.mk hC0
            have HAS := Aside0.mk hasc
            have HSU := Aside0.mk hsu
            have HLN := Aside0.mk (show pre.length ≤ 4 from by rw [hln]; have := HN.out; omega)
            clear q0 hrd hC0 hasc hsu hpre hln
            go_upto_region 10 with fail
            obtain ⟨w5, hw5⟩ : ∃ w5, w5 = wr.alloc (.cells #[.slice A2 lst.length c2] 47) := ⟨_, rfl⟩
            have hb5 : Below wr.heap.size wr w5 := hw5 ▸ below_alloc (Below.refl _ _) _
            have hl5 : w5.cell? ⟨wr.heap.size, 0, none⟩ = some (.slice A2 lst.length c2) := by rw [hw5]; go_simp
            have HB5 := Aside0.mk (below_step HBr.out hb5)
            have HX5 := Aside0.mk (pw_cell_below hb5 HXr.out)
            have HL5 := Aside0.mk hl5
            have HR5 := Aside0.mk (Kd.R_below HRr.out hb5)
            have hsz5 : w.heap.size < w5.heap.size := World.block_lt_of_cell? _ _ HX5.out
            rw [← hw5]
            clear hb5 hw5 q0' hlc
            go_wp2_with (first | (go_at_call 43; refine (search_any #[.pointer (some ⟨wr.heap.size, 0, none⟩), .pointer (some ⟨w.heap.size, 0, none⟩)] lst.length (lst.takeWhile fun s => decide (s.f0 ≤ a2)).length (fun t => decide ((lst.getD t z50).f0 > a2)) w5 (by omega) (tw_len a2 lst) (fun m t ht => by
                obtain ⟨ad2, A3, c3, rfl, p0, _⟩ := at_T50 HC0.out t (by omega) (by omega)
                rw [Int.toNat_natCast] at p0
                have p0' : rd_T50 lst (t : Int) = lst.getD t z50 := by unfold rd_T50; rw [Int.toNat_natCast]
                rw [p0'] at p0
                exact closure44 wr.heap.size w.heap.size ad2 c2 lst a2 t (w5.drewN m) ht HL5.out HX5.out (pw_cell_below HB5.out p0)) (fun t ht => decide_eq_false (by have := tw_in a2 lst t ht; omega)) (fun t h1 h2 => decide_eq_true (tw_out a2 lst HAS.out t h1 h2))).mono ?_; rintro e w' ⟨rfl, q, rfl⟩) | (at_builtin; refine Kd.R_append (Kd.int .i64) (w0 := w) w.heap.size rfl (.tmp 31) (.tmp 36) 26 3 (.int .i64 0) 8 rfl Try.underlying26 info3 rfl (by decide) (by omega) (.slice A pre.length c) pre (cntUpto a2 lst) [.int .i64 (cntUpto a2 lst)] (fun k => k ≠ w.heap.size) (fun _ => False) rfl rfl rfl (fun _ hk => hk.elim) (fun k hk => by have : w5.heap.size ≤ k := hk; omega) (Kd.R_drewN HR5.out _) (pw_below_drewN HB5.out _) (by show w.heap.size ≤ w5.heap.size; omega) (by have := HLN.out; omega) ?_; intro v1 w9 ho hb hg hat; have hx9 : w9.cell? ⟨w.heap.size, 0, none⟩ = some (.int .i64 a2) := hg.cell HX5.out (fun e => HR5.out.1 _ e.symm rfl); rw [← HSU.out] at ho; obtain ⟨A5, c5, rfl⟩ := Kd.R_slice ho; have HR9 := Aside0.mk ho; have HB9 := Aside0.mk hb; have HX9 := Aside0.mk hx9; clear ho hb hg hat hx9))
            go_roundg gj
            case measure => omega
            case rel => exact ⟨j + 1, A5, c5, by have hj4 : j < 4 := (by have := HN.out; omega); rw [show wrap64 ((j : Int) + 1) = ((j + 1 : Nat) : Int) from by unfold wrap64; omega], by rw [List.length_map, List.length_take], ⟨by have := HJ.out; omega⟩, HB9, HX9, HR9⟩
          · have hlt : ¬ (j : Int) < (l1.length : Int) := by omega
            obtain rfl : j = l1.length := by have := HJ.out; omega
            go_wp2
            go_ret2
            have HR7 := HRr.out
            rw [List.take_length, List.length_map] at HR7
            exact ⟨_, rfl, Kd.R_mono HR7 (fun _ _ => trivial), HBr.out⟩
  · have hd : (t != 0) = true := by simpa using ht
    rw [if_neg ht] at h1
    simp only [Option.some.injEq, Prod.mk.injEq] at h1
    obtain ⟨rfl, rfl⟩ := h1
    go_wp2
    go_ret2
    exact ⟨_, rfl, Kd.R_nil _ _ _ _ _, HB2.out⟩
end Go.Proofs.Ytkhiglincdognaa.PA
