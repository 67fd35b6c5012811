/-
partsynccase.Case.Logs: its contract.
Conditions: the codes are bytes (else its function answers none).
-/
import Derived.Test.YtkhiglincdognaaLogs0
import Derived.WalkMore
import Derived.Deep.RegionLaw
import Derived.StillTailTactics
namespace Go.Proofs.Ytkhiglincdognaa.PA
open Go.RowKit Go.Proofs.YtkhiglincdognaaW.PrintWords Go.Proofs.YtkhiglincdognaaW.PrintLast Go.Proofs.YtkhiglincdognaaW.PrintMore
set_option linter.unusedVariables false
set_option linter.unusedSimpArgs false

set_option maxHeartbeats 4000000 in
set_option maxRecDepth 100000 in
theorem partsynccase_Case_Logs.calls (g : Nat) (s0_0 : List Int) (s0_1 : Int) (r1 : Int) (r2 : List (List (S50))) (r3 : Int) (w0 w : World) (hI : IsS61 w0 w g s0_0 s0_1) (hB : Below w0.heap.size w0 w) (h : partsynccase_Case_Logs.f s0_0 s0_1 = some (r1, r2, r3)) :
    Calls Try.prog 21 #[.pointer (some ⟨g, 0, none⟩)] w fun e w' => ∃ v1_ : Value, e = .returned (.tuple #[.int .i64 r1, v1_]) ∧ Kd.R (Kd.slice 50 k50) 47 w' w.heap.size (fun _ => True) v1_ r2 ∧ IsS61 w0 w' g s0_0 r3 ∧ Below w0.heap.size w0 w' ∧ KeepBut w w' g none := by
  unfold partsynccase_Case_Logs.f at h
  split at h
  case isFalse => exact absurd h (by simp)
  rename_i hcs
  obtain ⟨hcs, hp0, hcl⟩ := hcs
  obtain ⟨⟨b0, p1⟩, A1, h1⟩ := Option.bind_eq_some_iff.1 h
  obtain ⟨⟨b1, p2⟩, A2, h2⟩ := Option.bind_eq_some_iff.1 h1
  obtain ⟨⟨n, p3⟩, A3, h3⟩ := Option.bind_eq_some_iff.1 h2
  obtain ⟨⟨m, p4⟩, A4, h4⟩ := Option.bind_eq_some_iff.1 h3
  obtain ⟨⟨rows5, p5⟩, A5, h5⟩ := Option.bind_eq_some_iff.1 h4
  obtain ⟨⟨rows6, p6⟩, A6, h6⟩ := Option.bind_eq_some_iff.1 h5
  clear h h1 h2 h3 h4 h5
  have h := h6
  clear h6
  dsimp only at A1 A2 A3 A4 A5 A6 h
  have B1 := int_bound hcs hp0 hcl A1
  have B2 := bool_bound hcs B1.2.2 hcl A2
  have B3 := int_bound hcs B2 hcl A3
  have B4 := int_bound hcs B3.2.2 hcl A4
  simp only [Option.some.injEq, Prod.mk.injEq] at h
  obtain ⟨rfl, rfl, rfl⟩ := h
  obtain ⟨base, hbase⟩ : ∃ base : Int, base = if b1 = true then 1073741820 else b0 := ⟨_, rfl⟩
  rw [← hbase] at A5 ⊢
  have Bb : 0 ≤ base ∧ base ≤ 1073741820 := by rw [hbase]; split <;> omega
  obtain ⟨nn, hnn⟩ : ∃ nn : Nat, 1 + n = nn := ⟨(1 + n).toNat, by omega⟩
  have hn1 : 1 ≤ nn ∧ nn ≤ 4 := by omega
  obtain ⟨mm, hmm⟩ : ∃ mm : Nat, m = mm := ⟨m.toNat, by omega⟩
  have hm1 : mm ≤ 8 := by omega
  rw [hnn, hmm, Int.toNat_natCast, Int.toNat_natCast] at A5
  rw [hnn, Int.toNat_natCast] at A6
  have wn : wrap64 (1 + n) = nn := by rw [hnn]; unfold wrap64; omega
  subst hmm
  have HI := Aside0.mk hI
  have HB0 := Aside0.mk hB
  have HW0 := Aside0.mk hB.size
  have C1 := Aside0.mk A1
  have C2 := Aside0.mk A2
  have C3 := Aside0.mk A3
  have C4 := Aside0.mk A4
  have C5 := Aside0.mk A5
  have C6 := Aside0.mk A6
  have HCS := Aside0.mk hcs
  have HNN := Aside0.mk hnn
  have HBS := Aside0.mk hbase
  have B34 := Aside0.mk B4.2.2
  have hmk := Go.run_make_row' (P := Try.prog) 34 47 (.slice none 0 0) 24 Try.underlying34 info47 rfl .i64 .i64 nn (by omega) (by omega)
  clear hI hB A1 A2 A3 A4 A5 A6 hcs B1 B2 B4 hbase
  have hn0 : 0 ≤ n ∧ n ≤ 3 := by omega
  clear B3
  go_enter Try.func21, Try.ntmps21
  go_upto_region 2 with (first | (go_at_call 14; refine (partsynccase_Case_Int.calls g s0_0 s0_1 3 b0 p1 w0 _ (by exact HI.out) (by exact HB0.out) C1.out).mono ?_; rintro e w1 ⟨rfl, hI1, hB1, hK1⟩))
  have HI1 := Aside0.mk hI1
  have HB1 := Aside0.mk hB1
  have HK1 := Aside0.mk hK1
  clear hI1 hB1 hK1
  go_upto_if 17 with (first | (go_at_call 29; refine (partsynccase_Case_Bool.calls g s0_0 p1 12 b1 p2 w0 _ (by exact HI1.out) (by exact HB1.out) C2.out).mono ?_; rintro e w2 ⟨rfl, hI2, hB2, hK2⟩; have HI2 := Aside0.mk hI2; have HB2 := Aside0.mk hB2; have HK2 := Aside0.mk (HK1.out.trans (show KeepBut _ w2 g none from hK2) (.inl rfl)); clear hI2 hB2 hK2))
  go_cut [4] (fun v4 wx => v4 = .int .i64 base ∧ wx = w2)
  case first =>
    go_wp2
    all_goals go_meet
    all_goals (case rel => exact ⟨by first | (rw [HBS.out, if_pos (by assumption)]) | (rw [HBS.out, if_neg (by assumption)]) | (rw [HBS.out]; simp_all), rfl⟩)
  case rest =>
    obtain ⟨rfl, rfl⟩ := hcut
    go_upto_region 5 with (first | (go_at_call 14; refine (partsynccase_Case_Int.calls g s0_0 p2 4 n p3 w0 _ (by exact HI2.out) (by exact HB2.out) C3.out).mono ?_; rintro e w3 ⟨rfl, hI3, hB3, hK3⟩; have HI3 := Aside0.mk hI3; have HB3 := Aside0.mk hB3; have HK3 := Aside0.mk (HK2.out.trans (show KeepBut _ w3 g none from hK3) (.inl rfl)); clear hI3 hB3 hK3))
    obtain ⟨b, hb⟩ : ∃ b, b = w3.heap.size := ⟨_, rfl⟩
    obtain ⟨w4, hw4⟩ : ∃ w4, w4 = w3.alloc (.cells (madeCells #[Value.slice none 0 0] nn) 47) := ⟨_, rfl⟩
    have hmade : madeCells #[Value.slice none 0 0] nn = (List.replicate nn (Value.slice none 0 0)).toArray := by
      apply Array.ext
      · simp [madeCells]
      · intro i h1 h2
        simp [madeCells, Nat.mod_one]
    have HR4 := Aside0.mk (show LR w4 w.heap.size b nn (List.replicate nn []) from by rw [hw4, hb, hmade]; exact LR.made w3 _ nn HK3.out.1)
    have HI4 := Aside0.mk (show IsS61 w0 w4 g s0_0 p3 from hw4 ▸ HI3.out.alloc _)
    have HB4 := Aside0.mk (show Below w0.heap.size w0 w4 from hw4 ▸ below_alloc HB3.out _)
    have HK4 := Aside0.mk (show KeepBut w w4 g none from hw4 ▸ keep_alloc HK3.out _)
    have HBB := Aside0.mk (show w.heap.size ≤ b from hb ▸ HK3.out.1)
    rw [← hw4, ← hb]
    clear hmade hmk hw4 hb
    go_upto_block 0 with (first | (go_at_call 14; refine (partsynccase_Case_Int.calls g s0_0 p3 9 mm p4 w0 _ (by exact HI4.out) (by exact HB4.out) C4.out).mono ?_; rintro e w5 ⟨rfl, hI5, hB5, hK5⟩; have HI5 := Aside0.mk hI5; have HB5 := Aside0.mk hB5; have HK5 := Aside0.mk (HK4.out.trans (show KeepBut _ w5 g none from hK5) (.inl rfl)); have HR5 := Aside0.mk (HR4.out.keep HI4.out hK5); clear hI5 hB5 hK5))
    clear HI HB0 HI1 HB1 HK1 HI2 HB2 HK2 HI3 HB3 HK3 HI4 HB4 HK4 HR4 C1 C2 C3 C4 wn hnn hn0
    go_cut [] (fun wx => Aside0 (IsS61 w0 wx g s0_0 p5) ∧ Aside0 (Below w0.heap.size w0 wx) ∧ Aside0 (KeepBut w wx g none) ∧ Aside0 (LR wx w.heap.size b nn rows5) ∧ Aside0 (0 ≤ p5))
    case first =>
      go_wp2_with fail
      go_loopg [6] mm (fun gk v6 wr => ∃ (i p : Int) (rows : List (List S50)), v6 = .int .i64 i ∧ Aside0 (i + gk = base + mm) ∧ Aside0 (base ≤ i) ∧ Aside0 (0 ≤ p) ∧ Aside0 (IsS61 w0 wr g s0_0 p) ∧ Aside0 (Below w0.heap.size w0 wr) ∧ Aside0 (KeepBut w wr g none) ∧ Aside0 (LR wr w.heap.size b nn rows) ∧ Aside0 (lgFill s0_0 nn gk i rows p = some (rows5, p5)))
      case atStart => exact ⟨base, p4, _, rfl, ⟨by omega⟩, ⟨by omega⟩, B34, HI5, HB5, HK5, HR5, C5⟩
      case round =>
        obtain ⟨i, p, rows, rfl, HG, HBI, HP, HI6, HB6, HK6, HR6, HF⟩ := hrel
        have i0 : 0 ≤ i := by have := HBI.out; omega
        have i1 : i ≤ 1073741828 := by have := HG.out; omega
        have hbm : IntKind.i64.wrap (base + (mm : Int)) = base + mm := by rw [IntKind.wrap_i64]; omega
        have hbm2 : wrap64 (base + (mm : Int)) = base + mm := by unfold wrap64; omega
        by_cases hlt : i < base + (mm : Int)
        · obtain ⟨gk2, rfl⟩ : ∃ z, gk = z + 1 := ⟨gk - 1, by have := HG.out; omega⟩
          have hd1 : decide (i < base + (mm : Int)) = true := decide_eq_true hlt
          by_cases hmx : i < 1073741824
          · have hd2 : decide (i < 1073741824) = true := decide_eq_true hmx
            have h := HF.out
            simp only [lgFill] at h
            rw [if_pos hmx] at h
            obtain ⟨⟨b2, q1⟩, D1, h⟩ := Option.bind_eq_some_iff.1 h
            dsimp only at h
            have Q1 := bool_bound HCS.out HP.out hcl D1
            have D1 := Aside0.mk D1
            cases b2
            · rw [if_neg (by decide)] at h
              obtain ⟨⟨s, q2⟩, D2, h⟩ := Option.bind_eq_some_iff.1 h
              obtain ⟨⟨rows2, q3⟩, D3, h⟩ := Option.bind_eq_some_iff.1 h
              dsimp only at h D2 D3
              have Q2 := int_bound HCS.out Q1 hcl D2
              have H9 := Aside0.mk h
              have D2 := Aside0.mk D2
              have D3 := Aside0.mk D3
              have hs1 : 0 ≤ s ∧ s ≤ 14 := by
                have : (2 : Int) ^ nn ≤ 16 := by
                  obtain rfl | rfl | rfl | rfl : nn = 1 ∨ nn = 2 ∨ nn = 3 ∨ nn = 4 := by omega
                  all_goals decide
                omega
              clear h HF
              obtain ⟨sx, hsx⟩ : ∃ sx : Int, sx = 2 ^ nn - 1 := ⟨_, rfl⟩
              rw [← hsx] at D2
              have HW2 := Aside0.mk (show wrap64 (wrap64 (2 ^ nn) - 1) = sx from by
                rw [hsx]
                have h16 : (2 : Int) ^ nn ≤ 16 ∧ 1 ≤ (2 : Int) ^ nn := by
                  obtain rfl | rfl | rfl | rfl : nn = 1 ∨ nn = 2 ∨ nn = 3 ∨ nn = 4 := by omega
                  all_goals decide
                generalize (2 : Int) ^ nn = z at h16 ⊢
                have e1 : wrap64 z = z := by unfold wrap64; omega
                rw [e1]; unfold wrap64; omega)
              clear hsx
              have Q3 := Aside0.mk Q2.2.2
              clear Q2
              go_upto_region 9 with (first | (go_at_call 29; refine (partsynccase_Case_Bool.calls g s0_0 p 12 false q1 w0 _ (by exact HI6.out) (by exact HB6.out) D1.out).mono ?_; rintro e w7 ⟨rfl, hI7, hB7, hK7⟩; have HI7 := Aside0.mk hI7; have HB7 := Aside0.mk hB7; have HK7 := Aside0.mk (HK6.out.trans (show KeepBut _ w7 g none from hK7) (.inl rfl)); have HR7 := Aside0.mk (HR6.out.keep HI6.out hK7); clear hI7 hB7 hK7))
              go_upto_block 2 with (first | (go_at_call 14; rw [HW2.out]; refine (partsynccase_Case_Int.calls g s0_0 q1 sx s q2 w0 _ (by exact HI7.out) (by exact HB7.out) D2.out).mono ?_; rintro e w8 ⟨rfl, hI8, hB8, hK8⟩; have HI8 := Aside0.mk hI8; have HB8 := Aside0.mk hB8; have HK8 := Aside0.mk (HK7.out.trans (show KeepBut _ w8 g none from hK8) (.inl rfl)); have HR8 := Aside0.mk (HR7.out.keep HI7.out hK8); clear hI8 hB8 hK8))
              obtain ⟨st, hst⟩ : ∃ st : Int, 1 + s = st := ⟨_, rfl⟩
              rw [hst] at D3
              rw [hst]
              have hst1 : 1 ≤ st ∧ st ≤ 15 := by omega
              clear hst hs1
              have HB9 := Aside0.mk (Below.refl w8.heap.size w8)
              go_cut [9] (fun v9 wx => ∃ A c, v9 = .slice A (lgShards nn st).length c ∧ Aside0 (Below w8.heap.size w8 wx) ∧ Aside0 ((Kd.int .i64).R 3 wx w8.heap.size (fun _ => True) (.slice A (lgShards nn st).length c) (lgShards nn st)))
              case first =>
                go_wp2_with fail
                go_loopg [47, 9] nn (fun gk v47 v9 wi => ∃ (j : Nat) (A : Option Addr) (c : Nat), v47 = .int .i64 j ∧ v9 = .slice A (lgShards j st).length c ∧ Aside0 (j + gk = nn) ∧ Aside0 (Below w8.heap.size w8 wi) ∧ Aside0 ((Kd.int .i64).R 3 wi w8.heap.size (fun _ => True) (.slice A (lgShards j st).length c) (lgShards j st)))
                case atStart => exact ⟨0, none, 0, rfl, rfl, ⟨by omega⟩, HB9, ⟨Kd.R_nil _ _ _ _ _⟩⟩
                case round =>
                  obtain ⟨j, A, c, rfl, rfl, HJ, HBJ, HRJ⟩ := hrel
                  by_cases hj : j < nn
                  · have hjl : (j : Int) < (nn : Int) := by omega
                    obtain ⟨gj, rfl⟩ : ∃ z, gk = z + 1 := ⟨gk - 1, by have := HJ.out; omega⟩
                    have hbe := bit_eq st j (by omega) (by omega)
                    by_cases hbt : st / 2 ^ j % 2 = 1
                    · have hb1 : (bits .and .i64 (st / 2 ^ j) 1 == 1) = true := by rw [hbe, hbt]; rfl
                      have hsu : lgShards (j + 1) st = lgShards j st ++ [(j : Int)] := by rw [lgShards_succ, if_pos hbt]
                      have hll := lgShards_len j st
                      go_wp2_with (first | (at_builtin; refine Kd.R_append (Kd.int .i64) (w0 := w8) w8.heap.size rfl (.tmp 55) (.tmp 57) 26 3 (.int .i64 0) 8 rfl Try.underlying26 info3 rfl (by decide) (by omega) (.slice A (lgShards j st).length c) (lgShards j st) (j : Int) [.int .i64 j] (fun _ => True) (fun _ => False) rfl rfl rfl (fun _ hk => hk.elim) (fun _ _ => trivial) HRJ.out HBJ.out HBJ.out.size (by omega) ?_; intro v1 w9 ho hb hg hat; rw [← hsu] at ho; obtain ⟨A2, c2, rfl⟩ := Kd.R_slice ho; have HRJ2 := Aside0.mk ho; have HBJ2 := Aside0.mk hb; clear ho hb hg hat))
                      go_roundg gj
                      case measure => omega
                      case rel => exact ⟨j + 1, A2, c2, by go_num, by rw [hsu, List.length_append, List.length_singleton], ⟨by have := HJ.out; omega⟩, HBJ2, HRJ2⟩
                    · have hb1 : (bits .and .i64 (st / 2 ^ j) 1 == 1) = false := by rw [hbe]; exact beq_eq_false_iff_ne.2 hbt
                      have hsu : lgShards (j + 1) st = lgShards j st := by rw [lgShards_succ, if_neg hbt, List.append_nil]
                      go_wp2
                      go_roundg gj
                      case measure => omega
                      case rel => exact ⟨j + 1, A, c, by go_num, by rw [hsu], ⟨by have := HJ.out; omega⟩, HBJ, by rw [hsu]; exact HRJ⟩
                  · have hjl : ¬ (j : Int) < (nn : Int) := by omega
                    obtain rfl : j = nn := by have := HJ.out; omega
                    go_wp2
                    go_meet
                    case rel => exact ⟨A, c, rfl, HBJ, HRJ⟩
              case rest =>
                obtain ⟨A9, c9, rfl, HB9, HR9⟩ := hcut
                have HI9 := Aside0.mk (HI8.out.below HB9.out)
                have HK9 := Aside0.mk (HK8.out.trans (KeepBut.of_below HB9.out g none) (.inl rfl))
                have HL9 := Aside0.mk (HR8.out.below HB9.out)
                have HS9 := Aside0.mk (Kd.R_lower HR9.out HK8.out.1)
                have HB10 := Aside0.mk (below_step HB8.out HB9.out)
                have hsl := lgShards_len nn st
                have HSM := Aside0.mk (lgShards_lt nn st)
                obtain ⟨sh, hsh⟩ : ∃ sh, sh = lgShards nn st := ⟨_, rfl⟩
                rw [← hsh] at D3 HS9 HSM hsl
                rw [← hsh]
                clear hsh HR9 HB9 HI8 HB8 HK8 HR8 HI7 HB7 HK7 HR7 HI6 HB6 HK6 HR6 HW2 D1 D2
                go_wp2_with fail
                go_loopg [62] sh.length (fun gk v62 wi => ∃ (x : Nat) (pp : Int) (rr : List (List S50)), v62 = .int .i64 x ∧ Aside0 (x + gk = sh.length) ∧ Aside0 (0 ≤ pp) ∧ Aside0 (IsS61 w0 wi g s0_0 pp) ∧ Aside0 (Below w0.heap.size w0 wi) ∧ Aside0 (KeepBut w wi g none) ∧ Aside0 (LR wi w.heap.size b nn rr) ∧ Aside0 ((Kd.int .i64).R 3 wi w.heap.size (fun _ => True) (.slice A9 sh.length c9) sh) ∧ Aside0 (lgPut s0_0 sh (i + 1) (sh.drop x) rr pp = some (rows2, q3)))
                case atStart => exact ⟨0, q2, rows, rfl, ⟨by omega⟩, Q3, HI9, HB10, HK9, HL9, HS9, D3⟩
                case round =>
                  obtain ⟨x, pp, rr, rfl, HX, HPP, HIx, HBx, HKx, HLx, HSx, HFx⟩ := hrel
                  by_cases hxl : x < sh.length
                  · have hxi : (x : Int) < (sh.length : Int) := by omega
                    obtain ⟨gx, rfl⟩ : ∃ z, gk = z + 1 := ⟨gk - 1, by have := HX.out; omega⟩
                    have h := HFx.out
                    rw [List.drop_eq_getElem_cons hxl] at h
                    have hvx : sh.getD x 0 = sh[x] := by simp [List.getD_eq_getElem?_getD, List.getElem?_eq_getElem hxl]
                    have hvm := HSM.out sh[x] (List.getElem_mem _)
                    obtain ⟨vn, hvn⟩ : ∃ vn : Nat, sh[x] = (vn : Int) := ⟨sh[x].toNat, by omega⟩
                    rw [hvn] at h hvx hvm
                    have hvl : vn < nn := by omega
                    simp only [lgPut, Int.toNat_natCast] at h
                    obtain ⟨⟨b3, q4⟩, E1, h⟩ := Option.bind_eq_some_iff.1 h
                    dsimp only at h
                    split at h
                    case isFalse => exact absurd h (by simp)
                    rename_i hgd
                    have Q4 := Aside0.mk (bool_bound HCS.out HPP.out hcl E1)
                    have E1 := Aside0.mk E1
                    have HF2 := Aside0.mk h
                    obtain ⟨_, _, hc9⟩ := Kd.R_reads' HSx.out
                    obtain ⟨ad, rfl, hcx⟩ := at_V hc9 x hxl
                    rw [hvx] at hcx
                    clear h hvx hvm hc9 HFx hvn
                    have h0x : (0 : Int) ≤ (x : Int) := by omega
                    cases b3
                    · go_upto_region 21 with (first | (go_at_call 29; refine (partsynccase_Case_Bool.calls g s0_0 pp 14 false q4 w0 _ (by exact HIx.out) (by exact HBx.out) E1.out).mono ?_; rintro e wz ⟨rfl, hIz, hBz, hKz⟩; have HIz := Aside0.mk hIz; have HBz := Aside0.mk hBz; have HKz := Aside0.mk (HKx.out.trans (show KeepBut _ wz g none from hKz) (.inl rfl)); have HLz := Aside0.mk (HLx.out.keep HIx.out hKz); have HSz := Aside0.mk (ints_keep HIx.out hKz HSx.out); clear hIz hBz hKz))
                      have HF3 := Aside0.mk (show lgPut s0_0 sh (i + 1) (sh.drop (x + 1)) (rr.set vn (rr.getD vn [] ++ [⟨i + 1, sh⟩])) q4 = some (rows2, q3) from by simpa using HF2.out)
                      obtain ⟨A0, c0, hc0, hlc0, hf0⟩ := HLz.out.cell vn hvl
                      have hgd2 := hgd.2.2
                      obtain ⟨row, hrow⟩ : ∃ row, rr.getD vn [] = row := ⟨_, rfl⟩
                      rw [hrow] at hc0 hlc0 hgd2 HF3
                      have HROW := Aside0.mk hrow
                      have HC0 := Aside0.mk hc0
                      have HC9 := Aside0.mk (Kd.R_reads' HSz.out).2.2
                      have HX3 := Aside0.mk hgd2
                      have hvl2 : (vn : Int) < (nn : Int) := by omega
                      have hv02 : (0 : Int) ≤ (vn : Int) := by omega
                      have hwi : IntKind.i64.wrap (i + 1) = i + 1 := by rw [IntKind.wrap_i64]; omega
                      have hwi2 : wrap64 (i + 1) = i + 1 := by unfold wrap64; omega
                      clear hgd hgd2 hcx HF2 hlc0 hrow
                      go_region_law (first | (refine row_step (wz := wz) (x := ⟨i + 1, sh⟩) HROW.out HLz.out hvl HC0.out HB1.out HO1.out HX3.out (by rfl) (.tmp 74) (.tmp 80) (by rfl) (by simp [Act.eval, Act.put]) (by simp [Act.eval, Act.put]) ?_; intro A2 c2 w2 k1 f1 hS hW) | (refine sh_step (wz := wz) (c := c9) (by repeat (first | exact Below.refl _ _ | apply Below.drew | apply pw_below_drewN)) HC9.out (by omega) (by rfl) (.tmp 77) (by rfl) (by simp [Act.eval, Act.put]) ?_; intro A1 cc1 w1 HB1 HO1; have k0 := pw_cell_below HB1.out HC0.out; have k2 : (w1.alloc (Obj.cells #[Value.int IntKind.i64 (i + 1), Value.slice A1 sh.length cc1] 50)).cell? ⟨b, vn, none⟩ = some (.slice A0 row.length c0) := pw_cell_below (below_alloc (Below.refl _ _) _) k0))
                      all_goals (
                        have HI9 := Aside0.mk (hW.out.case HIz.out)
                        have HB9 := Aside0.mk (hW.out.sub HBz.out HW0.out)
                        have HK9 := Aside0.mk (hW.out.keep HKz.out)
                        have HS9 := Aside0.mk (hW.out.ints HSz.out)
                        go_wp2
                        go_roundg gx
                        case measure => omega
                        case rel => exact ⟨x + 1, q4, _, by go_num, ⟨by have := HX.out; omega⟩, Q4, HI9, HB9, HK9, hS, HS9, HF3⟩)
                    · have HF3 := Aside0.mk (show lgPut s0_0 sh (i + 1) (sh.drop (x + 1)) rr q4 = some (rows2, q3) from by simpa using HF2.out)
                      go_wp2_with (first | (go_at_call 29; refine (partsynccase_Case_Bool.calls g s0_0 pp 14 true q4 w0 _ (by exact HIx.out) (by exact HBx.out) E1.out).mono ?_; rintro e wz ⟨rfl, hIz, hBz, hKz⟩; have HIz := Aside0.mk hIz; have HBz := Aside0.mk hBz; have HKz := Aside0.mk (HKx.out.trans (show KeepBut _ wz g none from hKz) (.inl rfl)); have HLz := Aside0.mk (HLx.out.keep HIx.out hKz); have HSz := Aside0.mk (ints_keep HIx.out hKz HSx.out); clear hIz hBz hKz))
                      go_roundg gx
                      case measure => omega
                      case rel => exact ⟨x + 1, q4, rr, by go_num, ⟨by have := HX.out; omega⟩, Q4, HIz, HBz, HKz, HLz, HSz, HF3⟩
                  · have hxi : ¬ (x : Int) < (sh.length : Int) := by omega
                    obtain rfl : x = sh.length := by have := HX.out; omega
                    have h := HFx.out
                    rw [List.drop_length] at h
                    simp only [lgPut, Option.some.injEq, Prod.mk.injEq] at h
                    obtain ⟨rfl, rfl⟩ := h
                    go_wp2
                    go_roundg gk2
                    case measure => omega
                    case rel => exact ⟨i + 1, _, _, by go_num, ⟨by have := HG.out; omega⟩, ⟨by have := HBI.out; omega⟩, HPP, HIx, HBx, HKx, HLx, H9⟩
            · have H7 := Aside0.mk (show lgFill s0_0 nn gk2 (i + 1) rows q1 = some (rows5, p5) from by simpa using h)
              clear h HF
              go_wp2_with (first | (go_at_call 29; refine (partsynccase_Case_Bool.calls g s0_0 p 12 true q1 w0 _ (by exact HI6.out) (by exact HB6.out) D1.out).mono ?_; rintro e w7 ⟨rfl, hI7, hB7, hK7⟩; have HI7 := Aside0.mk hI7; have HB7 := Aside0.mk hB7; have HK7 := Aside0.mk (HK6.out.trans (show KeepBut _ w7 g none from hK7) (.inl rfl)); have HR7 := Aside0.mk (HR6.out.keep HI6.out hK7); clear hI7 hB7 hK7))
              go_roundg gk2
              case measure => omega
              case rel => exact ⟨i + 1, q1, rows, by go_num, ⟨by have := HG.out; omega⟩, ⟨by have := HBI.out; omega⟩, ⟨Q1⟩, HI7, HB7, HK7, HR7, H7⟩
          · have hd2 : decide (i < 1073741824) = false := decide_eq_false hmx
            have h := HF.out
            simp only [lgFill] at h
            rw [if_neg hmx] at h
            simp only [Option.some.injEq, Prod.mk.injEq] at h
            obtain ⟨rfl, rfl⟩ := h
            go_wp2
            go_meet
            case rel => exact ⟨HI6, HB6, HK6, HR6, HP⟩
        · have hd1 : decide (i < base + (mm : Int)) = false := decide_eq_false hlt
          obtain rfl : gk = 0 := by have := HG.out; omega
          have h := HF.out
          simp only [lgFill, Option.some.injEq, Prod.mk.injEq] at h
          obtain ⟨rfl, rfl⟩ := h
          go_wp2
          go_meet
          case rel => exact ⟨HI6, HB6, HK6, HR6, HP⟩
    case rest =>
      obtain ⟨HI8, HB8, HK8, HR8, HP8⟩ := hcut
      clear HI5 HB5 HK5 HR5 C5
      go_wp2_with fail
      go_loopg [86] nn (fun gk v86 wi => ∃ (x : Nat) (pp : Int) (rr : List (List S50)), v86 = .int .i64 x ∧ Aside0 (x + gk = nn) ∧ Aside0 (0 ≤ pp) ∧ Aside0 (IsS61 w0 wi g s0_0 pp) ∧ Aside0 (Below w0.heap.size w0 wi) ∧ Aside0 (KeepBut w wi g none) ∧ Aside0 (LR wi w.heap.size b nn rr) ∧ Aside0 (lgCut s0_0 gk x rr pp = some (rows6, p6)))
      case atStart => exact ⟨0, p5, _, rfl, ⟨by omega⟩, HP8, HI8, HB8, HK8, HR8, C6⟩
      case round =>
        obtain ⟨x, pp, rr, rfl, HX, HPP, HIx, HBx, HKx, HLx, HFx⟩ := hrel
        by_cases hxl : x < nn
        · have hxi : (x : Int) < (nn : Int) := by omega
          obtain ⟨gx, rfl⟩ : ∃ z, gk = z + 1 := ⟨gk - 1, by have := HX.out; omega⟩
          have h := HFx.out
          simp only [lgCut] at h
          obtain ⟨⟨b3, q4⟩, E1, h⟩ := Option.bind_eq_some_iff.1 h
          dsimp only at h
          have Q4 := bool_bound HCS.out HPP.out hcl E1
          have E1 := Aside0.mk E1
          cases b3
          · have HF3 := Aside0.mk (show lgCut s0_0 gx (x + 1) rr q4 = some (rows6, p6) from by simpa using h)
            clear h
            go_wp2_with (first | (go_at_call 29; refine (partsynccase_Case_Bool.calls g s0_0 pp 5 false q4 w0 _ (by exact HIx.out) (by exact HBx.out) E1.out).mono ?_; rintro e wz ⟨rfl, hIz, hBz, hKz⟩; have HIz := Aside0.mk hIz; have HBz := Aside0.mk hBz; have HKz := Aside0.mk (HKx.out.trans (show KeepBut _ wz g none from hKz) (.inl rfl)); have HLz := Aside0.mk (HLx.out.keep HIx.out hKz); clear hIz hBz hKz))
            go_roundg gx
            case measure => omega
            case rel => exact ⟨x + 1, q4, rr, by go_num, ⟨by have := HX.out; omega⟩, ⟨Q4⟩, HIz, HBz, HKz, HLz, HF3⟩
          · obtain ⟨row, hrow⟩ : ∃ row, rr.getD x [] = row := ⟨_, rfl⟩
            rw [hrow] at h
            rw [if_pos rfl] at h
            split at h
            case isFalse => exact absurd h (by simp)
            rename_i hlen
            obtain ⟨⟨s, q5⟩, E2, h⟩ := Option.bind_eq_some_iff.1 h
            dsimp only at h
            have Q5 := int_bound HCS.out Q4 hcl E2
            obtain ⟨sn, rfl⟩ : ∃ sn : Nat, s = sn := ⟨s.toNat, by omega⟩
            have hsn : sn ≤ row.length := by omega
            rw [Int.toNat_natCast] at h
            have HF3 := Aside0.mk h
            have E2 := Aside0.mk E2
            have HROW := Aside0.mk hrow
            have Q6 := Aside0.mk Q5.2.2
            have hwl : IntKind.i64.wrap ((row.length : Int) + 1) = row.length + 1 := by rw [IntKind.wrap_i64]; omega
            have hwl2 : wrap64 ((row.length : Int) + 1) = row.length + 1 := by unfold wrap64; omega
            clear h hrow Q5
            go_upto_region 27 with (first | (go_at_call 29; refine (partsynccase_Case_Bool.calls g s0_0 pp 5 true q4 w0 _ (by exact HIx.out) (by exact HBx.out) E1.out).mono ?_; rintro e wz ⟨rfl, hIz, hBz, hKz⟩; have HIz := Aside0.mk hIz; have HBz := Aside0.mk hBz; have HKz := Aside0.mk (HKx.out.trans (show KeepBut _ wz g none from hKz) (.inl rfl)); have HLz := Aside0.mk (HLx.out.keep HIx.out hKz); clear hIz hBz hKz))
            obtain ⟨A0, c0, hc0, hlc0, hf0⟩ := HLz.out.cell x hxl
            rw [HROW.out] at hc0 hlc0
            have HNG := Aside0.mk (show b ≠ g from by obtain ⟨cb, hcb⟩ := HLz.out.blk; exact (HIz.out.ne_blk hcb (by decide)).symm)
            have HC0 := Aside0.mk hc0
            have hct : ∀ W : World, (Instr.slice 47 (.slice A0 row.length c0) none (some (.int .i64 sn)) none).run Try.prog W = .ok (.slice A0 sn c0) W := fun W => cutS W A0 row.length c0 sn hsn hlc0
            have hvl2 : (x : Int) < (nn : Int) := by omega
            have hv02 : (0 : Int) ≤ (x : Int) := by omega
            have HSN := Aside0.mk hsn
            clear hlc0 hsn
            go_region_law (go_simp; (first | (go_at_call 14; refine (partsynccase_Case_Int.calls g s0_0 q4 ((row.length : Int) + 1) sn q5 w0 _ (by exact HIz.out) (by first | exact HBz.out | exact Below.drew HBz.out | exact pw_below_drewN HBz.out _) E2.out).mono ?_; rintro e wu ⟨rfl, hIu, hBu, hKu⟩; have HIu := Aside0.mk hIu; have HBu := Aside0.mk hBu; have hKu2 : KeepBut wz wu g none := hKu; have HKu := Aside0.mk (HKz.out.trans hKu2 (.inl rfl)); have HLu := Aside0.mk (HLz.out.keep HIz.out hKu2); have hcu : wu.cell? ⟨b, x, none⟩ = some (.slice A0 row.length c0) := keep_cell hKu2 HC0.out HNG.out; have hfu : wu.frozen? ⟨b, x, none⟩ = false := (HLu.out.cell x hxl).choose_spec.choose_spec.2.2; have HCu := Aside0.mk hcu; clear hIu hBu hKu hKu2)))
            all_goals (
              have HP3 := LR.cut (b := b) HLu.out hxl HROW.out HCu.out HSN.out
              have HI9 := Aside0.mk (HP3.2.case HIu.out)
              have HB9 := Aside0.mk (HP3.2.sub HBu.out HW0.out)
              have HK9 := Aside0.mk (HP3.2.keep HKu.out)
              have HL9 := Aside0.mk HP3.1
              clear HP3
              go_wp2
              go_roundg gx
              case measure => omega
              case rel => exact ⟨x + 1, q5, _, by go_num, ⟨by have := HX.out; omega⟩, Q6, HI9, HB9, HK9, HL9, HF3⟩)
        · have hxi : ¬ (x : Int) < (nn : Int) := by omega
          obtain rfl : gk = 0 := by have := HX.out; omega
          have h := HFx.out
          simp only [lgCut, Option.some.injEq, Prod.mk.injEq] at h
          obtain ⟨rfl, rfl⟩ := h
          go_wp2
          go_ret2
          exact ⟨_, rfl, HLx.out.out (by simp only [maxLen]; omega), HIx.out, HBx.out, HKx.out⟩

end Go.Proofs.Ytkhiglincdognaa.PA
