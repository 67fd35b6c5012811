/-
cut.Check: what it computes, and its contract.
Conditions: the rounds suffice (its function answers some number).
-/
import Derived.Test.YtkhiglincdognaaMap
import Derived.Test.YtkhiglincdognaaPAx2
import Derived.Test.YtkhiglincdognaaPAx3
namespace Go.Proofs.Ytkhiglincdognaa.PA
open Go.RowKit Go.Proofs.YtkhiglincdognaaW.PrintWords Go.Proofs.YtkhiglincdognaaW.PrintLast Go.Proofs.YtkhiglincdognaaW.PrintMore
set_option linter.unusedVariables false
set_option linter.unusedSimpArgs false

/-- The shards that were seen at each commit. -/
abbrev Seen := Int → Option (List Int)
def upd (f : Seen) (i : Int) (v : List Int) : Seen := fun j => if j = i then some v else f j

/-- One list: what was seen behind it, or none where it has an error. -/
def chk1 (k : Nat) (n own : Int) : List S50 → Int → Seen → Option (Option Seen)
  | [], _, seen => some (some seen)
  | st :: rest, last, seen => if st.f0 ≤ last then some none else if st.f0 > 1073741824 then some none else
      (cut_shardsFit.f k st.f1 n own).bind fun t => if t = true then
        (match seen st.f0 with
        | none => chk1 k n own rest st.f0 (upd seen st.f0 st.f1)
        | some o => (slices_Equal_int_int.f k o st.f1).bind fun q => if q = true then chk1 k n own rest st.f0 (upd seen st.f0 st.f1) else some none)
      else some none
def chk0 (k : Nat) (n base : Int) : List (List S50) → Int → Seen → Option Int
  | [], _, _ => some 0
  | l :: ls, i, seen => (chk1 k n i l base seen).bind fun r => match r with | none => some 210 | some s => chk0 k n base ls (i + 1) s
def cut_Check.f (k : Nat) (a0 : Int) (l1 : List (List S50)) : Option Int :=
  if a0 < 0 then some 1 else if a0 > 1073741824 then some 1 else if l1.length = 0 then some 1 else if l1.length > 4 then some 1 else chk0 k l1.length a0 l1 0 (fun _ => none)

theorem chk1_mono (n own : Int) : ∀ (l : List S50) (last : Int) (seen : Seen) (k : Nat), LeO (chk1 k n own l last seen) (chk1 (k + 1) n own l last seen)
  | [], _, _, _ => LeO.refl _
  | st :: rest, last, seen, k => by
    unfold chk1
    refine LeO.ite (LeO.refl _) (LeO.ite (LeO.refl _) (LeO.bind (cut_shardsFit.mono _ _ _ _) (fun t => LeO.ite ?_ (LeO.refl _))))
    cases seen st.f0 with
    | none => exact chk1_mono n own rest _ _ k
    | some o => exact LeO.bind (slices_Equal_int_int.mono _ _ _) (fun q => LeO.ite (chk1_mono n own rest _ _ k) (LeO.refl _))
theorem chk0_mono (n base : Int) : ∀ (l : List (List S50)) (i : Int) (seen : Seen) (k : Nat), LeO (chk0 k n base l i seen) (chk0 (k + 1) n base l i seen)
  | [], _, _, _ => LeO.refl _
  | l :: ls, i, seen, k => by
    unfold chk0
    refine LeO.bind (chk1_mono _ _ _ _ _ _) (fun r => ?_)
    cases r with
    | none => exact LeO.refl _
    | some s => exact chk0_mono n base ls _ _ k
theorem cut_Check.mono : ∀ a0 a1 k, LeO (cut_Check.f k a0 a1) (cut_Check.f (k + 1) a0 a1) := fun a0 a1 k => by
  unfold cut_Check.f
  exact LeO.ite (LeO.refl _) (LeO.ite (LeO.refl _) (LeO.ite (LeO.refl _) (LeO.ite (LeO.refl _) (chk0_mono _ _ _ _ _ _))))

/-- The map holds what was seen. -/
def SeenIs (w w1 : World) (b n : Nat) (seen : Seen) : Prop := ∃ f, OMap w1 b n f ∧ ∀ i, match seen i with
  | none => f i = none
  | some s => ∃ A c, f i = some (.slice A s.length c) ∧ s.length ≤ c ∧ (Kd.int .i64).C w A s.length s
theorem SeenIs.below {w w1 w2 : World} {b n : Nat} {seen : Seen} (h : SeenIs w w1 b n seen) (hb : Below w1.heap.size w1 w2) : SeenIs w w2 b n seen := by
  obtain ⟨f, h1, h2⟩ := h
  exact ⟨f, h1.below hb, h2⟩
theorem SeenIs.upd {w w1 : World} {b n : Nat} {seen : Seen} {f : Int → Option Value} {i : Int} {s : List Int} {A : Option Addr} {c : Nat} (h1 : OMap w1 b n (fun j => if j = i then some (.slice A s.length c) else f j))
    (h2 : ∀ i, match seen i with | none => f i = none | some s => ∃ A c, f i = some (.slice A s.length c) ∧ s.length ≤ c ∧ (Kd.int .i64).C w A s.length s) (hc : s.length ≤ c) (hC : (Kd.int .i64).C w A s.length s) : SeenIs w w1 b n (upd seen i s) := by
  refine ⟨_, h1, fun j => ?_⟩
  unfold PA.upd
  by_cases hj : j = i
  · subst hj
    simp only [if_true]
    exact ⟨A, c, rfl, hc, hC⟩
  · simp only [if_neg hj]
    exact h2 j

set_option maxRecDepth 100000 in
set_option maxHeartbeats 16000000 in
theorem cut_Check.calls (k : Nat) (a0 : Int) (A1 : Option Addr) (c1 : Nat) (l1 : List (List S50)) (r : Int) (w : World) (hr1 : Kd.C (Kd.slice 50 k50) w A1 l1.length l1) (hc1 : l1.length ≤ c1) (h : cut_Check.f k a0 l1 = some r) :
    Calls Try.prog 28 #[.int .i64 a0, .slice A1 l1.length c1] w fun e w' => e = .returned (.int .i64 r) ∧ Below w.heap.size w w' := by
  have HR1 := Aside0.mk hr1
  clear hr1
  unfold cut_Check.f at h
  go_enter Try.func28, Try.ntmps28
  by_cases b1 : a0 < 0
  · rw [if_pos b1] at h
    obtain rfl := Option.some.inj h
    go_wp2
    go_ret
    exact ⟨rfl, Below.refl _ _⟩
  rw [if_neg b1] at h
  by_cases b2 : a0 > 1073741824
  · rw [if_pos b2] at h
    obtain rfl := Option.some.inj h
    go_wp2
    go_ret
    exact ⟨rfl, Below.refl _ _⟩
  rw [if_neg b2] at h
  by_cases b3 : l1.length = 0
  · rw [if_pos b3] at h
    obtain rfl := Option.some.inj h
    have b3' : ((l1.length : Int) == 0) = true := by simp [b3]
    go_wp2
    go_ret
    exact ⟨rfl, Below.refl _ _⟩
  rw [if_neg b3] at h
  have b3' : ((l1.length : Int) == 0) = false := beq_eq_false_iff_ne.mpr (by omega)
  by_cases b4 : l1.length > 4
  · rw [if_pos b4] at h
    obtain rfl := Option.some.inj h
    have b4' : (4 : Int) < l1.length := by omega
    go_wp2
    go_ret
    exact ⟨rfl, Below.refl _ _⟩
  rw [if_neg b4] at h
  have b4' : ¬ (4 : Int) < l1.length := by omega
  have H := Aside0.mk h
  clear h
  have hmm := @run_makeMap Try.prog
  go_wp2_with fail
  have HB1 := Aside0.mk (show Below w.heap.size w (w.alloc (.map #[] 0)) from below_alloc (Below.refl _ _) _)
  have HS1 := Aside0.mk (show SeenIs w (w.alloc (.map #[] 0)) w.heap.size 0 (fun _ => none) from ⟨_, OMap.made w, fun _ => rfl⟩)
  clear hmm
  go_loopg [32] l1.length (fun ga i wo => ∃ (j n : Nat) (seen : Seen), i = .int .i64 j ∧ Aside0 (j + ga = l1.length) ∧ Aside0 (Below w.heap.size w wo) ∧ Aside0 (SeenIs w wo w.heap.size n seen) ∧ (n : Int) ≤ (j : Int) * 1073741824 ∧ Aside0 (chk0 k l1.length a0 (l1.drop j) j seen = some r))
  case atStart => exact ⟨0, 0, _, rfl, ⟨by omega⟩, HB1, HS1, by omega, ⟨H.out⟩⟩
  case round =>
    obtain ⟨j, n, seen, rfl, HK, HB, HS, hn, H⟩ := hrel
    by_cases hj : j < l1.length
    · have hlt : (j : Int) < l1.length := by omega
      have h00 : (0 : Int) ≤ (j : Int) := by omega
      obtain ⟨gb, rfl⟩ : ∃ g, gk = g + 1 := ⟨gk - 1, by have := HK.out; omega⟩
      obtain ⟨ad, A0, c0, rfl, q0, hlc, hC0⟩ := at_L4 HR1.out j (by omega) (by omega)
      have hrd : rd_L4 l1 j = l1.getD j [] := by unfold rd_L4; rw [Int.toNat_natCast]
      have hdr : l1.drop j = l1.getD j [] :: l1.drop (j + 1) := by rw [List.drop_eq_getElem_cons hj, List.getD_eq_getElem?_getD, List.getElem?_eq_getElem hj]; rfl
      have h1 := H.out
      rw [hdr] at h1
      rw [hrd] at q0 hlc hC0
      rw [Int.toNat_natCast] at q0
      have q0' := pw_cell_below HB.out q0
      generalize l1.getD j [] = lst at *
      have HC0 := Aside0.mk hC0
      have H1 := Aside0.mk (show (chk1 k l1.length j lst a0 seen).bind (fun r => match r with | none => some 210 | some s => chk0 k l1.length a0 (l1.drop (j + 1)) (j + 1) s) = some r from h1)
      clear h1 hdr hrd q0 hC0 H
      go_wp2_with fail
      go_loopg [40, 8] lst.length (fun gk i s8 wr => ∃ (jj n : Nat) (last : Int) (seen : Seen), i = .int .i64 jj ∧ s8 = .int .i64 last ∧ Aside0 (jj + gk = lst.length) ∧ Aside0 (Below w.heap.size w wr) ∧ Aside0 (SeenIs w wr w.heap.size n seen) ∧ Aside0 ((n : Int) ≤ (j : Int) * 1073741824 + jj ∧ a0 ≤ last ∧ last ≤ 1073741824 ∧ (jj : Int) ≤ last - a0) ∧ Aside0 ((chk1 k l1.length j (lst.drop jj) last seen).bind (fun r => match r with | none => some 210 | some s => chk0 k l1.length a0 (l1.drop (j + 1)) (j + 1) s) = some r))
      case atStart => exact ⟨0, n, a0, seen, rfl, rfl, ⟨by omega⟩, HB, HS, Aside0.mk (by refine ⟨?_, ?_, ?_, ?_⟩ <;> omega), ⟨H1.out⟩⟩
      case round =>
        obtain ⟨jj, n2, last, seen2, rfl, rfl, HK2, HB2, HS2, HX2, H2⟩ := hrel
        by_cases hjj : jj < lst.length
        · have hlt2 : (jj : Int) < lst.length := by omega
          have h02 : (0 : Int) ≤ (jj : Int) := by omega
          obtain ⟨gk2, rfl⟩ : ∃ g, gk = g + 1 := ⟨gk - 1, by have := HK2.out; omega⟩
          obtain ⟨ad2, A2, c2, rfl, p0, p1, hlc2, hC2⟩ := at_T50 HC0.out jj (by omega) (by omega)
          have hrd2 : rd_T50 lst jj = lst.getD jj z50 := by unfold rd_T50; rw [Int.toNat_natCast]
          have hdr2 : lst.drop jj = lst.getD jj z50 :: lst.drop (jj + 1) := by rw [List.drop_eq_getElem_cons hjj, List.getD_eq_getElem?_getD, List.getElem?_eq_getElem hjj]; rfl
          have h2 := H2.out
          rw [hdr2] at h2
          rw [hrd2] at p0 p1 hlc2 hC2
          rw [Int.toNat_natCast] at p0 p1
          have p0' := pw_cell_below HB2.out p0
          have p1' := pw_cell_below HB2.out p1
          generalize lst.getD jj z50 = st at *
          have HC2 := Aside0.mk hC2
          clear hdr2 hrd2 p0 p1 hC2 H2
          obtain ⟨hx1, hx2, hx3, hx4⟩ := HX2.out
          unfold chk1 at h2
          go_upto_region 11 with fail
          obtain ⟨W4, hW4⟩ : ∃ W4 : World, W4 = wr.alloc (.cells #[.int .i64 st.f0, .slice A2 st.f1.length c2] 50) := ⟨_, rfl⟩
          have HB4 := Aside0.mk (show Below wr.heap.size wr W4 from hW4 ▸ below_alloc (Below.refl _ _) _)
          have x0 : W4.cell? ⟨wr.heap.size, 0, none⟩ = some (.int .i64 st.f0) := by rw [hW4]; go_simp
          have x1 : W4.cell? ⟨wr.heap.size, 1, none⟩ = some (.slice A2 st.f1.length c2) := by rw [hW4]; go_simp
          rw [← hW4]
          have HB04 := Aside0.mk (below_step HB2.out HB4.out)
          have HS4 := Aside0.mk (HS2.out.below HB4.out)
          clear hW4 p0' p1' q0'
          by_cases d1 : st.f0 ≤ last
          · rw [if_pos d1] at h2
            obtain rfl := Option.some.inj h2
            go_wp2
            go_ret
            exact ⟨rfl, HB04.out⟩
          rw [if_neg d1] at h2
          by_cases d2 : st.f0 > 1073741824
          · rw [if_pos d2] at h2
            obtain rfl := Option.some.inj h2
            go_wp2
            go_ret
            exact ⟨rfl, HB04.out⟩
          rw [if_neg d2, Option.bind_assoc] at h2
          obtain ⟨t, ht, h2⟩ := Option.bind_eq_some_iff.1 h2
          have HT := Aside0.mk ht
          clear ht
          have d1' : decide (st.f0 ≤ last) = false := decide_eq_false d1
          have d2' : decide (1073741824 < st.f0) = false := decide_eq_false d2
          cases t with
          | false =>
            rw [if_neg (by simp)] at h2
            obtain rfl := Option.some.inj h2
            go_wp2_with (go_at_call 46; refine (cut_shardsFit.calls k A2 c2 st.f1 _ _ false _ (Kd.C_below HC2.out HB04.out) hlc2 HT.out).mono ?_; rintro e w5 ⟨rfl, hd5⟩; have HB5 := Aside0.mk (below_step HB04.out hd5.below); clear hd5)
            go_ret
            exact ⟨rfl, HB5.out⟩
          | true =>
            rw [if_pos rfl] at h2
            have wf0 : (Lit.int .i64 st.f0).wf = true := wf3 (by omega) (by omega)
            obtain ⟨f, ho4, hf4⟩ := HS4.out
            have HO4 := Aside0.mk ho4
            have HF4 := Aside0.mk hf4
            have hfi := hf4 st.f0
            clear ho4 hf4
            go_upto_region 13 with (go_at_call 46; refine (cut_shardsFit.calls k A2 c2 st.f1 _ _ true _ (Kd.C_below HC2.out HB04.out) hlc2 HT.out).mono ?_; rintro e w5 ⟨rfl, hd5⟩)
            have HB5 := Aside0.mk (below_step HB04.out hd5.below)
            have HO5 := Aside0.mk (HO4.out.below hd5.below)
            have y0 := pw_cell_below hd5.below x0
            have y1 := pw_cell_below hd5.below x1
            have hlk := HO5.out.look (t := 67) Try.underlying67 (zero26 w5) wf0 true
            clear hd5 x0 x1
            cases hs : seen2 st.f0 with
            | none =>
              rw [hs] at h2 hfi
              have hfi' : f st.f0 = none := hfi
              rw [hfi'] at hlk
              simp only [if_true, Option.getD_none, Option.isSome_none] at hlk
              have H3 := Aside0.mk h2
              clear h2
              go_upto_region 18 with (first | (at_mapUpdate; refine put_law _ rfl (.tmp 79) (.tmp 81) (.tmp 83) 67 rfl Try.underlying67 w.heap.size n2 f rfl HO5.out (by simp only [maxLen]; omega) st.f0 wf0 (.slice A2 st.f1.length c2) rfl rfl ?_; intro w6 ho6 hg6))
              have HB6 := Aside0.mk (HB5.out.grown hg6 HB5.out.size (fun k hk => by injection hk with hk; omega))
              have HS6 := Aside0.mk (SeenIs.upd ho6 HF4.out hlc2 HC2.out)
              clear ho6 hg6
              go_wp2
              go_roundg gk2
              case measure => omega
              case rel => exact ⟨jj + 1, n2 + 1, st.f0, _, by go_num, rfl, ⟨by have := HK2.out; omega⟩, HB6, HS6, Aside0.mk (by refine ⟨?_, ?_, ?_, ?_⟩ <;> push_cast <;> omega), ⟨H3.out⟩⟩
            | some o =>
              rw [hs] at h2 hfi
              obtain ⟨A3, c3, hfi', hlc3, hC3⟩ := hfi
              rw [hfi'] at hlk
              simp only [if_true, Option.getD_some, Option.isSome_some] at hlk
              have HC3 := Aside0.mk hC3
              have h3 := (Option.bind_assoc _ _ _).symm.trans h2
              obtain ⟨q, hq, h3⟩ := Option.bind_eq_some_iff.1 h3
              have HQ := Aside0.mk hq
              clear hq h2 hC3
              cases q with
              | false =>
                rw [if_neg (by simp)] at h3
                obtain rfl := Option.some.inj h3
                go_wp2_with (go_at_call 18; refine (slices_Equal_int_int.calls k A3 c3 o A2 c2 st.f1 false _ (Kd.C_below HC3.out HB5.out) hlc3 (Kd.C_below HC2.out HB5.out) hlc2 HQ.out).mono ?_; rintro e w6 ⟨rfl, hd6⟩; have HB6 := Aside0.mk (below_step HB5.out hd6.below); clear hd6)
                go_ret
                exact ⟨rfl, HB6.out⟩
              | true =>
                rw [if_pos rfl] at h3
                have H3 := Aside0.mk h3
                clear h3
                go_upto_region 17 with (go_at_call 18; refine (slices_Equal_int_int.calls k A3 c3 o A2 c2 st.f1 true _ (Kd.C_below HC3.out HB5.out) hlc3 (Kd.C_below HC2.out HB5.out) hlc2 HQ.out).mono ?_; rintro e w7 ⟨rfl, hd7⟩; have HB7 := Aside0.mk (below_step HB5.out hd7.below); have HO7 := Aside0.mk (HO5.out.below hd7.below); have z0 := pw_cell_below hd7.below y0; have z1 := pw_cell_below hd7.below y1; clear hd7)
                clear y0 y1 hlk
                go_upto_region 18 with (first | (at_mapUpdate; refine put_law _ rfl (.tmp 79) (.tmp 81) (.tmp 83) 67 rfl Try.underlying67 w.heap.size n2 f rfl HO7.out (by simp only [maxLen]; omega) st.f0 wf0 (.slice A2 st.f1.length c2) rfl rfl ?_; intro w6 ho6 hg6))
                have HB6 := Aside0.mk (HB7.out.grown hg6 HB7.out.size (fun k hk => by injection hk with hk; omega))
                have HS6 := Aside0.mk (SeenIs.upd ho6 HF4.out hlc2 HC2.out)
                clear ho6 hg6
                go_wp2
                go_roundg gk2
                case measure => omega
                case rel => exact ⟨jj + 1, n2 + 1, st.f0, _, by go_num, rfl, ⟨by have := HK2.out; omega⟩, HB6, HS6, Aside0.mk (by refine ⟨?_, ?_, ?_, ?_⟩ <;> push_cast <;> omega), ⟨H3.out⟩⟩
        · have hge2 : ¬ ((jj : Int) < lst.length) := by omega
          have h2 := H2.out
          rw [List.drop_eq_nil_of_le (by omega)] at h2
          have H3 := Aside0.mk (show chk0 k l1.length a0 (l1.drop (j + 1)) (j + 1) seen2 = some r from h2)
          clear h2 H2
          have hx := HX2.out
          go_wp2
          go_roundg gb
          case measure => omega
          case rel => exact ⟨j + 1, n2, seen2, by go_num, ⟨by have := HK.out; omega⟩, HB2, HS2, by have := hx.1; have := hx.2.1; have := hx.2.2.1; have := hx.2.2.2; push_cast; omega, ⟨by have := H3.out; exact_mod_cast this⟩⟩
    · have hge : ¬ ((j : Int) < l1.length) := by omega
      have h1 := H.out
      rw [List.drop_eq_nil_of_le (by omega)] at h1
      obtain rfl := Option.some.inj h1
      have HB2 := Aside0.mk HB.out
      go_wp2
      go_ret
      exact ⟨rfl, HB2.out⟩
end Go.Proofs.Ytkhiglincdognaa.PA
