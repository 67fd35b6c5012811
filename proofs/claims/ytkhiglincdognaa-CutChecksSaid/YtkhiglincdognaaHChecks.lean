/-
CutChecks answers true over any logs, codes and numbers.
Conditions: the codes are bytes.
-/
import Derived.Test.YtkhiglincdognaaMut
import Derived.Test.YtkhiglincdognaaPBase
import Derived.Test.YtkhiglincdognaaRefA
namespace Go.Proofs.Ytkhiglincdognaa.PA
open Go.RowKit Go.Proofs.YtkhiglincdognaaW.PrintWords Go.Proofs.YtkhiglincdognaaW.PrintLast Go.Proofs.YtkhiglincdognaaW.PrintMore
set_option linter.unusedVariables false
set_option linter.unusedSimpArgs false

set_option maxHeartbeats 4000000 in
set_option maxRecDepth 100000 in
theorem checks_walk (a0 : Int) (l1 : List (List S50)) (A1 : Option Addr) (c1 : Nat) (l0 : List Int) (A : Option Addr) (cap : Nat) (a3 a4 : Int) (w : World) (hr1 : (Kd.slice 50 k50).C w A1 l1.length l1) (hc1 : l1.length ≤ c1) (hC : (Kd.int .u8).C w A l0.length l0) (hc : l0.length ≤ cap) (hG : ∀ x ∈ l0, (Lit.int .u8 x).wf = true) :
    Calls Try.prog 5 #[.int .i64 a0, .slice A1 l1.length c1, .slice A l0.length cap, .int .i64 a3, .int .i64 a4] w fun e w' => e = .returned (.bool true) ∧ Below w.heap.size w w' := by
  have hcs := codes_ok 80 (by omega) hG
  obtain ⟨cs, hcs0⟩ : ∃ cs, cs = l0.take 80 := ⟨_, rfl⟩
  rw [← hcs0] at hcs
  obtain ⟨b, logs, q1, e1, hv, hb, _, hq1, hsh⟩ := logs_tot hcs
  have hn0 := hv.n0
  have hn1 := hv.n1
  obtain ⟨ii, q2, e2, i0, i1, hq2⟩ := int_tot hcs q1 (logs.length : Int) hq1
  obtain ⟨i, rfl⟩ : ∃ i : Nat, ii = i := ⟨ii.toNat, by omega⟩
  have hil : i < logs.length := by omega
  obtain ⟨kc, ec⟩ := (check_ev b logs).get
  rw [checkV_ok.2 hv] at ec
  have HCS := Aside0.mk hcs
  have HC := Aside0.mk hC
  have HCc := Aside0.mk hc
  have HR1 := Aside0.mk hr1
  have HRc := Aside0.mk hc1
  have E1 := Aside0.mk e1
  have E2 := Aside0.mk e2
  have EC := Aside0.mk ec
  have HC0 := Aside0.mk hcs0
  have HSH := Aside0.mk (hsh i hil)
  have HQ2 := Aside0.mk hq2
  obtain ⟨row, hrow⟩ : ∃ row, logs.getD i [] = row := ⟨_, rfl⟩
  rw [hrow] at HSH
  have HROW := Aside0.mk hrow
  clear hC hc hr1 hc1 e1 e2 ec hcs hG hcs0 hsh hq2 hq1 hrow i0 i1
  go_enter Try.func5, Try.ntmps5
  go_upto_region 2 with (first | (go_at_call 13; refine (new_any l0 A cap 80 _ (Kd.C_below HC.out (by repeat (first | exact Below.refl _ _ | apply Below.drew | apply pw_below_drewN))) HCc.out (by omega)).mono ?_; rintro e w1 ⟨w0, g, rfl, hb0, hI, hB⟩; rw [← HC0.out] at hI; have HN0 := Aside0.mk (show Below w.heap.size w w0 from Below.trans (by repeat (first | exact Below.refl _ _ | apply Below.drew | apply pw_below_drewN)) hb0); have HI1 := Aside0.mk hI; have HB1 := Aside0.mk hB; clear hb0 hI hB))
  go_upto_region 3 with (first | (go_at_call 21; refine (partsynccase_Case_Logs.callsLR g cs 0 b logs q1 w0 _ (by exact HI1.out) (by exact HB1.out) E1.out).mono ?_; rintro e w2 ⟨bb, n, rfl, hL, hn, hI, hB, hK⟩; have HL2 := Aside0.mk hL; have HI2 := Aside0.mk hI; have HB2 := Aside0.mk hB; have HWS := Aside0.mk (show w0.heap.size ≤ w1.heap.size from HB1.out.size); have HWS2 := Aside0.mk (show w1.heap.size ≤ w2.heap.size from hK.1); have hln := hL.len; clear hL hI hB hK))
  subst hln
  have CL2 := Aside0.mk (Kd.R_reads' (HL2.out.out (by simp only [maxLen]; omega))).2.2
  go_upto_if 26 with (first | (go_at_call 28; refine (cut_Check.calls kc b (some ⟨bb, 0, none⟩) logs.length logs 0 _ (by exact CL2.out) (Nat.le_refl _) EC.out).mono ?_; rintro e w3 ⟨rfl, hb3⟩; have hb3' : Below w2.heap.size w2 w3 := hb3; have HL3 := Aside0.mk (HL2.out.below hb3'); have HI3 := Aside0.mk (HI2.out.below hb3'); have HB3 := Aside0.mk (below_step HB2.out hb3'); have HS3 := Aside0.mk hb3'.size; clear hb3 hb3'))
  have hii : (i : Int) < (logs.length : Int) := by omega
  have hi0 : (0 : Int) ≤ (i : Int) := by omega
  go_upto_if 37 with (first | (go_at_call 14; refine (partsynccase_Case_Int.calls g cs q1 logs.length i q2 w0 _ (by exact HI3.out) (by exact HB3.out) E2.out).mono ?_; rintro e w4 ⟨rfl, hI, hB, hK⟩; have hK' : KeepBut w3 w4 g none := hK; have HI4 := Aside0.mk hI; have HB4 := Aside0.mk hB; have HL4 := Aside0.mk (HL3.out.keep HI3.out hK'); have HS4 := Aside0.mk hK'.1; obtain ⟨A4, c4, hc4, hlc4, hf4⟩ := HL4.out.cell i hil; rw [HROW.out] at hc4 hlc4; clear hI hB hK hK'))
  have HBASE := Aside0.mk (show w1.heap.size ≤ w4.heap.size from Nat.le_trans HWS2.out (Nat.le_trans HS3.out HS4.out))
  clear HL2 HI2 HB2 HL3 HI3 HB3 CL2 EC HS3 HS4 HI1 HB1 E1 E2
  go_cut [] (fun wx => ∃ (rows : List (List S50)) (q : Int), Aside0 (LR wx w1.heap.size bb logs.length rows) ∧ Aside0 (IsS61 w0 wx g cs q) ∧ Aside0 (Below w0.heap.size w0 wx) ∧ Aside0 (0 ≤ q))
  case first =>
    by_cases hrl : 0 < row.length
    · have hrl2 : (0 : Int) < (row.length : Int) := by omega
      obtain ⟨jj, q3, e3, j0, j1, hq3⟩ := int_tot HCS.out q2 (row.length : Int) HQ2.out
      obtain ⟨j, rfl⟩ : ∃ j : Nat, jj = j := ⟨jj.toNat, by omega⟩
      have hjl : j < row.length := by omega
      obtain ⟨z, q4, e4, z0, z1, hq4⟩ := int_tot HCS.out q3 4 hq3
      have E3 := Aside0.mk e3
      have E4 := Aside0.mk e4
      have HQ4 := Aside0.mk hq4
      clear e3 e4 hq3 hq4 j0 j1
      have hji : (j : Int) < (row.length : Int) := by omega
      have hj0 : (0 : Int) ≤ (j : Int) := by omega
      have HL4c := HL4.out
      obtain ⟨vs, own, hLo⟩ := HL4c
      obtain ⟨gr, cg, B, d, t1, t2, t3, t4, t5, t6, t7, t8, t9, t10⟩ := hLo.stamp hil HROW.out hjl
      obtain ⟨rfl, rfl⟩ : A4 = some ⟨gr, 0, none⟩ ∧ c4 = cg := by
        have e := hc4.symm.trans t1
        injection e with e
        injection e with e1 _ e2
        exact ⟨e1, e2⟩
      go_upto_region 7 with fail
      have HNG := Aside0.mk (show bb ≠ g from by obtain ⟨cb, hcb⟩ := HL4.out.blk; exact (HI4.out.ne_blk hcb (by decide)).symm)
      have T1 := Aside0.mk t1
      clear t2 t3 t4 t5 t6 t7 t8 t9 t10 hLo t1
      go_cut [15] (fun v15 wx => v15 = .pointer (some ⟨gr, j * 2, none⟩) ∧ Aside0 (LR wx w1.heap.size bb logs.length logs) ∧ Aside0 (IsS61 w0 wx g cs q3) ∧ Aside0 (Below w0.heap.size w0 wx) ∧ Aside0 (wx.cell? ⟨bb, i, none⟩ = some (.slice (some ⟨gr, 0, none⟩) row.length c4)) ∧ Aside0 (w1.heap.size ≤ wx.heap.size))
      case first =>
        go_region_law (go_simp; (first | (go_at_call 14; refine (partsynccase_Case_Int.calls g cs q2 row.length j q3 w0 _ (by exact HI4.out) (by first | exact HB4.out | exact Below.drew HB4.out | exact pw_below_drewN HB4.out _) E3.out).mono ?_; rintro e w5 ⟨rfl, hI, hB, hK⟩; have hK' : KeepBut w4 w5 g none := hK; have HI5 := Aside0.mk hI; have HB5 := Aside0.mk hB; have HL5 := Aside0.mk (HL4.out.keep HI4.out hK'); have hc5 : w5.cell? ⟨bb, i, none⟩ = some (.slice (some ⟨gr, 0, none⟩) row.length c4) := keep_cell hK' T1.out HNG.out; have HC5 := Aside0.mk hc5; have HS5 := Aside0.mk (Nat.le_trans HBASE.out hK'.1); clear hI hB hK hK')))
        all_goals go_wp2
        all_goals go_meet
        all_goals (case rel => exact ⟨rfl, HL5, HI5, HB5, HC5, HS5⟩)
      case rest =>
        obtain ⟨rfl, HL5, HI5, HB5, HC5, HS5⟩ := hcut
        go_upto_region 10 with (first | (go_at_call 14; refine (partsynccase_Case_Int.calls g cs q3 4 z q4 w0 _ (by exact HI5.out) (by exact HB5.out) E4.out).mono ?_; rintro e w6 ⟨rfl, hI, hB, hK⟩; have hK' : KeepBut wc w6 g none := hK; have HI6 := Aside0.mk hI; have HB6 := Aside0.mk hB; have HL6 := Aside0.mk (HL5.out.keep HI5.out hK'); have HC6 := Aside0.mk (keep_cell hK' HC5.out HNG.out); have HS6 := Aside0.mk (Nat.le_trans HS5.out hK'.1); clear hI hB hK hK'))
        have HL6c := HL6.out
        obtain ⟨vs, own, hLo⟩ := HL6c
        obtain ⟨gr', cg', B', d', t1, t2, t3, t4, t5, t6, t7, t8, t9, t10⟩ := hLo.stamp hil HROW.out hjl
        obtain ⟨rfl, rfl⟩ : gr' = gr ∧ cg' = c4 := by
          have e := t1.symm.trans HC6.out
          injection e with e
          injection e with e1 _ e2
          injection e1 with e1
          injection e1 with e1
          exact ⟨e1, e2⟩
        have HFL := Aside0.mk (show (row.getD j z50).f1.length ≤ 4 from by
          have hm : row.getD j z50 ∈ logs.getD i [] := by rw [HROW.out]; exact getD_mem row j hjl
          have := shOk_len (hv.inv.sh i hil _ hm); omega)
        have CM := Aside0.mk (LR.commit HL6.out hil HROW.out HC6.out hjl a4)
        have SH := Aside0.mk (fun (w9 : World) (v9 : Value) (l9 : List Int) (hB9 : Below w6.heap.size w6 w9) (ho9 : (Kd.int .i64).R 3 w9 w6.heap.size (fun _ => True) v9 l9) => LR.shards HL6.out hil HROW.out HC6.out hjl hB9 HS6.out ho9)
        have HRL := Aside0.mk (show row.length < 1000 from by have := HSH.out; omega)
        have D1 := Aside0.mk t3
        have D2 := Aside0.mk t10
        have DL := Aside0.mk hLo
        have hfb : w6.frozen? ⟨bb, i, none⟩ = false := by obtain ⟨_, _, _, _, h⟩ := HL6.out.cell i hil; exact h
        have hc6 := HC6.out
        have C7 := Aside0.mk t7
        have L7 := Aside0.mk t6
        clear t1 t2 t3 t6 t7 t10 hLo
        generalize row.getD j z50 = st at *
        obtain rfl | rfl | rfl | rfl : z = 0 ∨ z = 1 ∨ z = 2 ∨ z = 3 := by omega
        · go_wp2
          go_meet
          case rel =>
            obtain ⟨rows', h1, h2⟩ := CM.out
            exact ⟨rows', q4, ⟨h1⟩, ⟨h2.case HI6.out⟩, ⟨h2.sub HB6.out HWS.out⟩, HQ4⟩
        · go_wp2_with (first | (at_builtin; refine Kd.R_append_row (Value.int .i64) (0 : Int) (w0 := w6) w6.heap.size rfl (.const (.slice none 0 0)) (.tmp 73) 26 3 (.int .i64 0) 8 rfl Try.underlying26 info3 rfl (by omega) (.slice none 0 0) [] st.f1 B' st.f1.length d' (fun _ => True) rfl rfl (fun _ _ => trivial) (Kd.R_nil _ _ _ _ _) C7.out (Below.refl _ _) (Nat.le_refl _) (by have := HFL.out; simp; omega) ?_; intro v7 w7 ho7 hb7 hg7 hat7; rw [List.nil_append] at ho7; have R7 := Aside0.mk ho7; have B7 := Aside0.mk hb7; have x7 := pw_cell_below hb7 t5; have y7 := (hb7.frozen (p := ⟨gr', j * 2 + 1, none⟩) (World.block_lt_of_cell? _ _ t5)).trans t9; clear ho7 hb7 hg7 hat7) | (at_builtin; refine Kd.R_append (Kd.int .i64) (w0 := w6) w6.heap.size rfl (.tmp 74) (.tmp 76) 26 3 (.int .i64 0) 8 rfl Try.underlying26 info3 rfl (by decide) (by omega) v7 st.f1 a4 [.int .i64 a4] (fun _ => True) (fun _ => False) rfl rfl rfl (fun _ hk => hk.elim) (fun _ _ => trivial) R7.out B7.out B7.out.size (by have := HFL.out; omega) ?_; intro v8 w8 ho8 hb8 hg8 hat8; obtain ⟨A8, c8, rfl⟩ := Kd.R_slice ho8; rw [List.length_append, List.length_singleton] at ho8; have R8 := Aside0.mk ho8; have B8 := Aside0.mk hb8; have x8 := pw_cell_below hb8 t5; have y8 := (hb8.frozen (p := ⟨gr', j * 2 + 1, none⟩) (World.block_lt_of_cell? _ _ t5)).trans t9; clear ho8 hb8 hg8 hat8))
          go_meet
          case rel =>
            obtain ⟨rows', h1, h2⟩ := SH.out w8 _ _ B8.out R8.out
            exact ⟨rows', q4, ⟨h1⟩, ⟨h2.case HI6.out⟩, ⟨h2.sub HB6.out HWS.out⟩, HQ4⟩
        · have x6 : (w6.alloc (Obj.cells #[Value.int IntKind.i64 a3] 3)).cell? ⟨gr', j * 2 + 1, none⟩ = some (.slice B' st.f1.length d') := pw_cell_below ((Below.refl _ _).alloc (Nat.le_refl _) _) t5
          go_wp2_with (first | (at_builtin; refine Kd.R_append_row (Value.int .i64) (0 : Int) (w0 := w6) w6.heap.size rfl (.tmp 84) (.tmp 88) 26 3 (.int .i64 0) 8 rfl Try.underlying26 info3 rfl (by omega) (.slice (some ⟨w6.heap.size, 0, none⟩) 1 1) [a3] st.f1 B' st.f1.length d' (fun _ => True) rfl rfl (fun _ _ => trivial) (Kd.R_of_own (own_lit w6 w6.heap.size 3 .i64 [a3] (Nat.le_refl _) (by simp)) (fun _ _ => trivial)) (Kd.C_below C7.out ((Below.refl _ _).alloc (Nat.le_refl _) _)) ((Below.refl _ _).alloc (Nat.le_refl _) _) (by rw [World.size_alloc]; omega) (by have := HFL.out; simp; omega) ?_; intro v8 w8 ho8 hb8 hg8 hat8; obtain ⟨A8, c8, rfl⟩ := Kd.R_slice ho8; rw [List.length_append, List.length_singleton, show 1 + st.f1.length = st.f1.length + 1 from Nat.add_comm _ _] at ho8; have R8 := Aside0.mk ho8; have B8 := Aside0.mk hb8; have x8 := pw_cell_below hb8 t5; have y8 := (hb8.frozen (p := ⟨gr', j * 2 + 1, none⟩) (World.block_lt_of_cell? _ _ t5)).trans t9; clear ho8 hb8 hg8 hat8))
          go_meet
          case rel =>
            obtain ⟨rows', h1, h2⟩ := SH.out w8 _ _ B8.out R8.out
            exact ⟨rows', q4, ⟨h1⟩, ⟨h2.case HI6.out⟩, ⟨h2.sub HB6.out HWS.out⟩, HQ4⟩
        · have y6 : (w6.alloc (Obj.cells #[Value.int IntKind.i64 st.f0, Value.slice B' st.f1.length d'] 50)).drew.cell? ⟨bb, i, none⟩ = some (.slice (some ⟨gr', 0, none⟩) row.length cg') := pw_cell_below (((Below.refl w6.heap.size w6).alloc (Nat.le_refl _) _).drew) hc6
          have y7 : (w6.alloc (Obj.cells #[Value.int IntKind.i64 st.f0, Value.slice B' st.f1.length d'] 50)).cell? ⟨bb, i, none⟩ = some (.slice (some ⟨gr', 0, none⟩) row.length cg') := pw_cell_below (((Below.refl w6.heap.size w6).alloc (Nat.le_refl _) _)) hc6
          go_wp2
          go_region_law (first | (refine dup_step2 (w1 := w7) DL.out hil HC6.out hB7.out ho7.out hf7.out D2.out HS6.out (by have := HRL.out; omega) (by rfl) (.tmp 54) (.tmp 58) (by rfl) (by simp [Act.eval, Act.put]) (by simp [Act.eval, Act.put]) ?_; intro A9 c9 w9 k9 f9 h9) | (refine dup_step1 (W := w6) D1.out (by repeat (first | exact Below.refl _ _ | apply Below.drew | refine Below.alloc ?_ (by exact Nat.le_refl _) _)) HS6.out (by have := HRL.out; omega) (by rfl) (.tmp 53) (by rfl) (by simp [Act.eval, Act.put]) ?_; intro A7 c7 w7 hB7 ho7 hf7 hk7; have k4 := pw_cell_below hB7.out t4; have k5 := pw_cell_below hB7.out t5) | (refine dup_step3 (w1 := w7) (p := w6.heap.size) DL.out hil HC6.out hB7.out ho7.out hf7.out D2.out HS6.out (by have := HRL.out; omega) (by rfl) (.tmp 54) (.tmp 58) (by rfl) (by simp [Act.eval, Act.put]) (by simp [Act.eval, Act.put]) (by exact (hk7.out _ (by simp only [World.size_drew, World.size_alloc]; omega)).trans (lit_new w6 _)) ?_; intro A9 c9 w9 k9 f9 h9))
          all_goals go_wp2
          all_goals go_meet
          all_goals (case rel => exact (by
            obtain ⟨rows', h1, h2⟩ := h9.out
            exact ⟨rows', q4, ⟨h1⟩, ⟨h2.case HI6.out⟩, ⟨h2.sub HB6.out HWS.out⟩, HQ4⟩))
    · have hrl2 : ¬ (0 : Int) < (row.length : Int) := by omega
      go_wp2
      go_meet
      case rel => exact ⟨_, q2, HL4, HI4, HB4, HQ2⟩
  case rest =>
    obtain ⟨rows, q, HLx, HIx, HBx, HQx⟩ := hcut
    obtain ⟨rb, q5, e5, hq5⟩ := bool_tot HCS.out q 6 HQx.out
    have E5 := Aside0.mk e5
    clear e5 hq5
    go_upto_if 93 with (first | (go_at_call 29; refine (partsynccase_Case_Bool.calls g cs q 6 rb q5 w0 _ (by exact HIx.out) (by exact HBx.out) E5.out).mono ?_; rintro e wy ⟨rfl, hI, hB, hK⟩; have hK' : KeepBut wc wy g none := hK; have HBy := Aside0.mk hB; have HLy := Aside0.mk (HLx.out.keep HIx.out hK'); clear hI hB hK hK'))
    clear HLx HIx HBx E5
    have HSy := Aside0.mk (show w1.heap.size ≤ wy.heap.size from Nat.le_trans HLy.out.le (Nat.le_of_lt HLy.out.lt))
    go_cut [13] (fun v13 wx => ∃ (A9 : Option Addr) (n9 c9 : Nat) (rows9 : List (List S50)), v13 = .slice A9 n9 c9 ∧ rows9.length = n9 ∧ n9 ≤ c9 ∧ Aside0 ((Kd.slice 50 k50).C wx A9 n9 rows9) ∧ Aside0 (Below w0.heap.size w0 wx))
    case first =>
      cases rb
      · go_wp2
        go_meet
        case rel => exact ⟨_, _, _, rows, rfl, HLy.out.len, Nat.le_refl _, ⟨by have h := (Kd.R_reads' (HLy.out.out (by simp only [maxLen]; omega))).2.2; rw [HLy.out.len] at h; exact h⟩, HBy⟩
      · go_wp2_with (first | (at_builtin; refine more_step HLy.out hn1 HSy.out rfl (.tmp 94) (.tmp 95) rfl rfl rfl ?_; intro A9 c9 w9 hc9 hC9 hB9; have HC9 := Aside0.mk hC9; have HB9 := Aside0.mk hB9; clear hC9 hB9))
        go_meet
        case rel => exact ⟨_, _, _, rows ++ List.replicate 4 [], rfl, by rw [List.length_append, HLy.out.len]; rfl, hc9, HC9, ⟨HBy.out.trans ⟨HB9.out.os, HB9.out.tape, HB9.out.output, HB9.out.size, fun k hk => HB9.out.block k (Nat.lt_of_lt_of_le hk HWS.out)⟩⟩⟩
    case rest =>
      obtain ⟨A9, n9, c9, rows9, rfl, rfl, hc9, HC9, HB9⟩ := hcut
      obtain ⟨k1, e1⟩ := (check_ev b rows9).get
      obtain ⟨k2, e2⟩ := (rcheck_ev b rows9).get
      obtain ⟨k3, e3⟩ := (check_ev a0 l1).get
      obtain ⟨k4, e4⟩ := (rcheck_ev a0 l1).get
      obtain ⟨k5, e5⟩ := (check_ev a0 rows9).get
      obtain ⟨k6, e6⟩ := (rcheck_ev a0 rows9).get
      have F1 := Aside0.mk e1
      have F2 := Aside0.mk e2
      have F3 := Aside0.mk e3
      have F4 := Aside0.mk e4
      have F5 := Aside0.mk e5
      have F6 := Aside0.mk e6
      have HR9 := Aside0.mk (Kd.C_below HR1.out (below_step HN0.out (below_then HB9.out HB9.out.size (Below.refl _ _))))
      have HB9 := Aside0.mk (below_step HN0.out HB9.out)
      clear e1 e2 e3 e4 e5 e6
      go_wp2_with (first
        | (go_at_call 28; with_reducible refine (cut_Check.calls k1 b A9 c9 rows9 _ _ (by exact HC9.out) hc9 F1.out).mono ?_; rintro e x1 ⟨rfl, hb⟩; have HX1 := Aside0.mk (below_step HB9.out hb); have HC1 := Aside0.mk (Kd.C_below HC9.out hb); have HR1x := Aside0.mk (Kd.C_below HR9.out hb); clear hb)
        | (go_at_call 30; with_reducible refine (partsyncref21_Check.calls k2 b A9 c9 rows9 _ _ (by exact HC1.out) hc9 F2.out).mono ?_; rintro e x2 ⟨rfl, hb⟩; have HX2 := Aside0.mk (below_step HX1.out hb); have HC2 := Aside0.mk (Kd.C_below HC1.out hb); have HR2x := Aside0.mk (Kd.C_below HR1x.out hb); clear hb)
        | (go_at_call 28; with_reducible refine (cut_Check.calls k3 a0 A1 c1 l1 _ _ (by exact HR2x.out) HRc.out F3.out).mono ?_; rintro e x3 ⟨rfl, hb⟩; have HX3 := Aside0.mk (below_step HX2.out hb); have HC3 := Aside0.mk (Kd.C_below HC2.out hb); have HR3x := Aside0.mk (Kd.C_below HR2x.out hb); clear hb)
        | (go_at_call 30; with_reducible refine (partsyncref21_Check.calls k4 a0 A1 c1 l1 _ _ (by exact HR3x.out) HRc.out F4.out).mono ?_; rintro e x4 ⟨rfl, hb⟩; have HX4 := Aside0.mk (below_step HX3.out hb); have HC4 := Aside0.mk (Kd.C_below HC3.out hb); clear hb)
        | (go_at_call 28; with_reducible refine (cut_Check.calls k5 a0 A9 c9 rows9 _ _ (by exact HC4.out) hc9 F5.out).mono ?_; rintro e x5 ⟨rfl, hb⟩; have HX5 := Aside0.mk (below_step HX4.out hb); have HC5 := Aside0.mk (Kd.C_below HC4.out hb); clear hb)
        | (go_at_call 30; with_reducible refine (partsyncref21_Check.calls k6 a0 A9 c9 rows9 _ _ (by exact HC5.out) hc9 F6.out).mono ?_; rintro e x6 ⟨rfl, hb⟩; have HX6 := Aside0.mk (below_step HX5.out hb); clear hb)
        | (go_at_call 20; refine (begun_any _).mono ?_; rintro e x7 ⟨rfl, hb⟩; have HX7 := Aside0.mk (below_step HX6.out hb); clear hb))
      go_ret
      exact ⟨rfl, HX7.out⟩
end Go.Proofs.Ytkhiglincdognaa.PA
