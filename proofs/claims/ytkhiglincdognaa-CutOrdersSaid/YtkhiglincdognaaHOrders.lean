/-
CutOrders answers true over any two lists and any codes.
Conditions: the codes are bytes; the lists are shorter than 2^44.
-/
import Derived.Test.YtkhiglincdognaaPBase
import Derived.Test.YtkhiglincdognaaRefJoin
import Derived.Test.YtkhiglincdognaaRefCmp
import Derived.WalkMore
import Derived.Deep.RegionLaw
import Derived.StillTailTactics
namespace Go.Proofs.Ytkhiglincdognaa.PA
open Go.RowKit Go.Proofs.YtkhiglincdognaaW.PrintWords Go.Proofs.YtkhiglincdognaaW.PrintLast Go.Proofs.YtkhiglincdognaaW.PrintMore
set_option linter.unusedVariables false
set_option linter.unusedSimpArgs false

theorem drawn_below {w w' : World} (h : Drawn0 w w') : Below w.heap.size w w' := by obtain ⟨nd, rfl⟩ := h; exact pw_below_drewN (Below.refl _ _) nd
theorem joinV_len (l r : List Int) : (joinV l r).1.length ≤ l.length := by
  unfold joinV; split
  · simp only [List.length_zipWith]; omega
  · simp
theorem meetV_len (l r : List Int) : (meetV l r).1.length ≤ l.length := by
  unfold meetV; split
  · simp only [List.length_zipWith]; omega
  · simp
set_option maxHeartbeats 4000000 in
set_option maxRecDepth 100000 in
theorem orders_walk (a b : List Int) (A0 A1 : Option Addr) (c0 c1 : Nat) (l0 : List Int) (A : Option Addr) (cap : Nat) (w : World) (ha : (Kd.int .i64).C w A0 a.length a) (hac : a.length ≤ c0) (has : a.length < 17592186044416) (hb : (Kd.int .i64).C w A1 b.length b) (hbc : b.length ≤ c1) (hbs : b.length < 17592186044416)
    (hC : (Kd.int .u8).C w A l0.length l0) (hc : l0.length ≤ cap) (hG : ∀ x ∈ l0, (Lit.int .u8 x).wf = true) :
    Calls Try.prog 12 #[.slice A0 a.length c0, .slice A1 b.length c1, .slice A l0.length cap] w fun e w' => e = .returned (.bool true) ∧ Below w.heap.size w w' := by
  have hcs := codes_ok 20 (by omega) hG
  obtain ⟨cs, hcs0⟩ : ∃ cs, cs = l0.take 20 := ⟨_, rfl⟩
  rw [← hcs0] at hcs
  obtain ⟨nn, q1, e1, n1, n2, n3⟩ := int_tot hcs 0 5 (Int.le_refl _)
  obtain ⟨n, rfl⟩ : ∃ n : Nat, nn = n := ⟨nn.toNat, by omega⟩
  obtain ⟨p, q2, e2, hp, hq2⟩ := num_tot hcs n (by omega) q1 n3
  obtain ⟨q, q3, e3, hq, hq3⟩ := num_tot hcs n (by omega) q2 hq2
  obtain ⟨k2, e2⟩ := e2.get
  obtain ⟨k3, e3⟩ := e3.get
  have HC := Aside0.mk hC
  have HCc := Aside0.mk hc
  have HA := Aside0.mk ha
  have HB := Aside0.mk hb
  have HAc := Aside0.mk hac
  have HBc := Aside0.mk hbc
  have HAs := Aside0.mk has
  have HBs := Aside0.mk hbs
  have E1 := Aside0.mk e1
  have E2 := Aside0.mk e2
  have E3 := Aside0.mk e3
  have HPL := Aside0.mk (show p.length < 17592186044416 by rw [hp.1]; omega)
  have HQL := Aside0.mk (show q.length < 17592186044416 by rw [hq.1]; omega)
  have HCS := Aside0.mk hcs0
  clear hC hc ha hb hac hbc has hbs e1 e2 e3 hp hq hcs hG hcs0 n2
  go_enter Try.func12, Try.ntmps12
  go_upto_region 2 with (first | (go_at_call 13; refine (new_any l0 A cap 20 _ (Kd.C_below HC.out (by repeat (first | exact Below.refl _ _ | apply Below.drew | apply pw_below_drewN))) HCc.out (by omega)).mono ?_; rintro e w1 ⟨w0, g, rfl, hb0, hI, hB⟩; rw [← HCS.out] at hI; have HN0 := Aside0.mk (show Below w.heap.size w w0 from Below.trans (by repeat (first | exact Below.refl _ _ | apply Below.drew | apply pw_below_drewN)) hb0); have HI1 := Aside0.mk hI; have HB1 := Aside0.mk hB; clear hb0 hI hB))
  go_upto_region 3 with (first | (go_at_call 14; refine (partsynccase_Case_Int.calls g cs 0 5 n q1 w0 _ (by exact HI1.out) (by exact HB1.out) E1.out).mono ?_; rintro e w2 ⟨rfl, hI, hB, hK⟩; have HI2 := Aside0.mk hI; have HB2 := Aside0.mk hB; clear hI hB hK))
  go_upto_region 4 with (first | (go_at_call 15; (first | (refine (partsynccase_Case_Numbers.calls k2 g cs q1 n p q2 w0 _ (by exact HI2.out) (by exact HB2.out) E2.out).mono ?_; rintro e w3 ⟨vp, rfl, hRp, hI, hB, hK⟩; have HI3 := Aside0.mk hI; have HB3 := Aside0.mk hB; have HRp := Aside0.mk hRp; clear hI hB hK hRp) | (refine (partsynccase_Case_Numbers.calls k3 g cs q2 n q q3 w0 _ (by exact HI3.out) (by exact HB3.out) E3.out).mono ?_; rintro e w5 ⟨vq, rfl, hRq, hI, hB, hK⟩; have HB5 := Aside0.mk hB; have HRq := Aside0.mk hRq; have HRp5 := Aside0.mk (Kd.R_keep (HI3.out.apart HRp.out (by decide)) (show KeepBut w3 w5 g none from hK) (fun k hk => hk.2)); clear hI hB hK hRq))))
  obtain ⟨Ap, cp, rfl⟩ := Kd.R_slice HRp5.out
  obtain ⟨Aq, cq, rfl⟩ := Kd.R_slice HRq.out
  have HB7 := Aside0.mk (below_step HN0.out HB5.out)
  have CA := Aside0.mk (Kd.C_below HA.out HB7.out)
  have CB := Aside0.mk (Kd.C_below HB.out HB7.out)
  have CP := Aside0.mk (Kd.R_reads' HRp5.out).2.2
  have CQ := Aside0.mk (Kd.R_reads' HRq.out).2.2
  have CPc := Aside0.mk (Kd.R_reads' HRp5.out).2.1
  have CQc := Aside0.mk (Kd.R_reads' HRq.out).2.1
  clear HC HCc HA HB E1 E2 E3 HI1 HB1 HI2 HB2 HI3 HB3 HRp HRq HRp5 HB5 HN0 HCS
  go_upto_block 0 with fail
  obtain ⟨w6, hw6⟩ : ∃ w6, w6 = w5.alloc (.cells #[.slice A0 a.length c0, .slice A1 b.length c1, .slice A0 a.length c0, .slice A0 a.length c0, .slice Ap p.length cp, .slice Aq q.length cq, .slice Aq q.length cq, .slice Ap p.length cp, .slice Ap p.length cp, .slice A1 b.length c1] 57) := ⟨_, rfl⟩
  obtain ⟨bb, hbb⟩ : ∃ bb, bb = w5.heap.size := ⟨_, rfl⟩
  have hb56 : Below w5.heap.size w5 w6 := hw6 ▸ below_alloc (Below.refl _ _) _
  have hblk : w6.heap[bb]? = some (.cells #[.slice A0 a.length c0, .slice A1 b.length c1, .slice A0 a.length c0, .slice A0 a.length c0, .slice Ap p.length cp, .slice Aq q.length cq, .slice Aq q.length cq, .slice Ap p.length cp, .slice Ap p.length cp, .slice A1 b.length c1] 57 (0, 0)) := by rw [hw6, hbb]; exact heap_alloc_new w5 _
  have HPR := Aside0.mk (show ∀ i : Nat, i < 5 → ∃ (L R : Option Addr) (cl cr : Nat) (l r : List Int), w6.cell? ⟨bb, i * 2, none⟩ = some (.slice L l.length cl) ∧ w6.cell? ⟨bb, i * 2 + 1, none⟩ = some (.slice R r.length cr) ∧ ((Kd.int .i64).C w6 L l.length l ∧ l.length ≤ cl ∧ l.length < 17592186044416) ∧ ((Kd.int .i64).C w6 R r.length r ∧ r.length ≤ cr ∧ r.length < 17592186044416) from fun i hi => by
    have ka := (⟨Kd.C_below CA.out hb56, HAc.out, HAs.out⟩ : (Kd.int .i64).C w6 A0 a.length a ∧ a.length ≤ c0 ∧ a.length < 17592186044416)
    have kb := (⟨Kd.C_below CB.out hb56, HBc.out, HBs.out⟩ : (Kd.int .i64).C w6 A1 b.length b ∧ b.length ≤ c1 ∧ b.length < 17592186044416)
    have kp := (⟨Kd.C_below CP.out hb56, CPc.out, HPL.out⟩ : (Kd.int .i64).C w6 Ap p.length p ∧ p.length ≤ cp ∧ p.length < 17592186044416)
    have kq := (⟨Kd.C_below CQ.out hb56, CQc.out, HQL.out⟩ : (Kd.int .i64).C w6 Aq q.length q ∧ q.length ≤ cq ∧ q.length < 17592186044416)
    obtain rfl | rfl | rfl | rfl | rfl : i = 0 ∨ i = 1 ∨ i = 2 ∨ i = 3 ∨ i = 4 := by omega
    · exact ⟨_, _, _, _, _, _, (blk_cell hblk 0).trans rfl, (blk_cell hblk 1).trans rfl, ka, kb⟩
    · exact ⟨_, _, _, _, _, _, (blk_cell hblk 2).trans rfl, (blk_cell hblk 3).trans rfl, ka, ka⟩
    · exact ⟨_, _, _, _, _, _, (blk_cell hblk 4).trans rfl, (blk_cell hblk 5).trans rfl, kp, kq⟩
    · exact ⟨_, _, _, _, _, _, (blk_cell hblk 6).trans rfl, (blk_cell hblk 7).trans rfl, kq, kp⟩
    · exact ⟨_, _, _, _, _, _, (blk_cell hblk 8).trans rfl, (blk_cell hblk 9).trans rfl, kp, kb⟩)
  have HW6 := Aside0.mk (below_step HB7.out hb56)
  have HB6 := Aside0.mk (Below.refl w6.heap.size w6)
  rw [← hw6, ← hbb]
  clear hw6 hb56 hblk hbb CA CB CP CQ CPc CQc HB7 HAs HBs HAc HBc HPL HQL
  go_wp2_with fail
  go_loopg [52] 5 (fun gk v52 wr => ∃ i : Nat, v52 = .int .i64 i ∧ Aside0 (i + gk = 5) ∧ Aside0 (Below w6.heap.size w6 wr))
  case atStart => exact ⟨0, rfl, ⟨rfl⟩, HB6⟩
  case round =>
    obtain ⟨i, rfl, HG, HBr⟩ := hrel
    by_cases hi : i < 5
    · have hlt : (i : Int) < 5 := by omega
      have h00 : (0 : Int) ≤ (i : Int) := by omega
      obtain ⟨gi, rfl⟩ : ∃ z, gk = z + 1 := ⟨gk - 1, by have := HG.out; omega⟩
      obtain ⟨L, R, cl, cr, l, r, hx, hy, ⟨kl1, kl2, kl3⟩, ⟨kr1, kr2, kr3⟩⟩ := HPR.out i hi
      have hx' := pw_cell_below HBr.out hx
      have hy' := pw_cell_below HBr.out hy
      obtain ⟨m1, f1⟩ := (compare_ev l r (by omega)).get
      obtain ⟨m2, f2⟩ := (rcompare_ev l r (by omega)).get
      obtain ⟨m3, f3⟩ := (join_ev l r kl3).get
      obtain ⟨m4, f4⟩ := (rjoin_ev l r kl3).get
      obtain ⟨m5, f5⟩ := (meet_ev l r kl3).get
      obtain ⟨m6, f6⟩ := (rmeet_ev l r kl3).get
      obtain ⟨o, e, hoe⟩ : ∃ o e, cmpV l r = (o, e) := ⟨_, _, rfl⟩
      obtain ⟨jj, je, hje⟩ : ∃ x y, joinV l r = (x, y) := ⟨_, _, rfl⟩
      obtain ⟨mm, me, hme⟩ : ∃ x y, meetV l r = (x, y) := ⟨_, _, rfl⟩
      rw [hoe] at f1 f2
      rw [hje] at f3 f4
      rw [hme] at f5 f6
      have hjl : jj.length ≤ l.length := by have := joinV_len l r; rw [hje] at this; exact this
      have hml : mm.length ≤ l.length := by have := meetV_len l r; rw [hme] at this; exact this
      obtain ⟨m7, f7⟩ := (equal_ev jj jj (by omega)).get
      obtain ⟨m8, f8⟩ := (equal_ev mm mm (by omega)).get
      rw [decide_eq_true rfl] at f7 f8
      have F1 := Aside0.mk f1
      have F2 := Aside0.mk f2
      have F3 := Aside0.mk f3
      have F4 := Aside0.mk f4
      have F5 := Aside0.mk f5
      have F6 := Aside0.mk f6
      have F7 := Aside0.mk f7
      have F8 := Aside0.mk f8
      have KL := Aside0.mk kl1
      have KR := Aside0.mk kr1
      have KLc := Aside0.mk kl2
      have KRc := Aside0.mk kr2
      clear f1 f2 f3 f4 f5 f6 f7 f8 kl1 kr1 kl2 kr2 kl3 kr3 hoe hje hme hjl hml hx hy
      go_upto_region 7 with fail
      obtain ⟨w8, hw8⟩ : ∃ w8, w8 = wr.alloc (.cells #[.slice L l.length cl, .slice R r.length cr] 57) := ⟨_, rfl⟩
      have hb8 : Below wr.heap.size wr w8 := hw8 ▸ below_alloc (Below.refl _ _) _
      have x8 : w8.cell? ⟨wr.heap.size, 0, none⟩ = some (.slice L l.length cl) := by rw [hw8]; go_simp
      have y8 : w8.cell? ⟨wr.heap.size, 1, none⟩ = some (.slice R r.length cr) := by rw [hw8]; go_simp
      have B8 := Aside0.mk (below_step HBr.out hb8)
      rw [← hw8]
      clear hw8 hb8 hx' hy'
      go_upto_region 8 with (first | (go_at_call 27; refine (cut_Compare.calls m1 L cl l R cr r o e _ (Kd.C_below KL.out B8.out) KLc.out (Kd.C_below KR.out B8.out) KRc.out F1.out).mono ?_; rintro e' w9 ⟨rfl, hd⟩; have hb := drawn_below hd; have B9 := Aside0.mk (below_step B8.out hb); have x9 := pw_cell_below hb x8; have y9 := pw_cell_below hb y8; clear hd hb))
      go_upto_region 9 with (first | (go_at_call 37; refine (partsyncref21_Compare.calls m2 L cl l R cr r o e _ (Kd.C_below KL.out B9.out) KLc.out (Kd.C_below KR.out B9.out) KRc.out F2.out).mono ?_; rintro e' w10 ⟨rfl, hd⟩; have hb := drawn_below hd; have B10 := Aside0.mk (below_step B9.out hb); have x10 := pw_cell_below hb x9; have y10 := pw_cell_below hb y9; clear hd hb))
      go_upto_region 10 with (first | (go_at_call 16; refine (cut_Join.calls m3 L cl l R cr r jj je _ (Kd.C_below KL.out B10.out) KLc.out (Kd.C_below KR.out B10.out) KRc.out F3.out).mono ?_; rintro e' w11 ⟨v, rfl, hR, hb⟩; obtain ⟨Aj, cj, rfl⟩ := Kd.R_slice hR; have CJ := Aside0.mk (Kd.R_reads' hR).2.2; have CJc := Aside0.mk (Kd.R_reads' hR).2.1; have B11 := Aside0.mk (below_step B10.out hb); have H11 := Aside0.mk hb; have x11 := pw_cell_below hb x10; have y11 := pw_cell_below hb y10; clear hR hb))
      go_upto_region 11 with (first | (go_at_call 38; refine (partsyncref21_Join.calls m4 L cl l R cr r jj je _ (Kd.C_below KL.out B11.out) KLc.out (Kd.C_below KR.out B11.out) KRc.out F4.out).mono ?_; rintro e' w12 ⟨v, rfl, hR, hb⟩; obtain ⟨Ak, ck, rfl⟩ := Kd.R_slice hR; have CK := Aside0.mk (Kd.R_reads' hR).2.2; have CKc := Aside0.mk (Kd.R_reads' hR).2.1; have B12 := Aside0.mk (below_step B11.out hb); have H12 := Aside0.mk hb; have x12 := pw_cell_below hb x11; have y12 := pw_cell_below hb y11; clear hR hb))
      go_upto_region 12 with (first | (go_at_call 17; refine (cut_Meet.calls m5 L cl l R cr r mm me _ (Kd.C_below KL.out B12.out) KLc.out (Kd.C_below KR.out B12.out) KRc.out F5.out).mono ?_; rintro e' w13 ⟨v, rfl, hR, hb⟩; obtain ⟨Am, cm, rfl⟩ := Kd.R_slice hR; have CM := Aside0.mk (Kd.R_reads' hR).2.2; have CMc := Aside0.mk (Kd.R_reads' hR).2.1; have B13 := Aside0.mk (below_step B12.out hb); have H13 := Aside0.mk hb; have x13 := pw_cell_below hb x12; have y13 := pw_cell_below hb y12; clear hR hb))
      go_upto_region 13 with (first | (go_at_call 39; refine (partsyncref21_Meet.calls m6 L cl l R cr r mm me _ (Kd.C_below KL.out B13.out) KLc.out (Kd.C_below KR.out B13.out) KRc.out F6.out).mono ?_; rintro e' w14 ⟨v, rfl, hR, hb⟩; obtain ⟨An, cn, rfl⟩ := Kd.R_slice hR; have CN := Aside0.mk (Kd.R_reads' hR).2.2; have CNc := Aside0.mk (Kd.R_reads' hR).2.1; have B14 := Aside0.mk (below_step B13.out hb); have H14 := Aside0.mk hb; have x14 := pw_cell_below hb x13; have y14 := pw_cell_below hb y13; clear hR hb))
      have J14 := Aside0.mk (Kd.C_below (Kd.C_below (Kd.C_below CJ.out H12.out) H13.out) H14.out)
      have K14 := Aside0.mk (Kd.C_below (Kd.C_below CK.out H13.out) H14.out)
      have M14 := Aside0.mk (Kd.C_below CM.out H14.out)
      have n1' : (o != o) = false := bne_self_eq_false o
      have n2' : (e != e) = false := bne_self_eq_false e
      have n3' : (je != je) = false := bne_self_eq_false je
      have n4' : (me != me) = false := bne_self_eq_false me
      clear x8 y8 x9 y9 x10 y10 x11 y11 x12 y12 x13 y13 x14 y14
      have bel : ∀ (m : Nat), Below w6.heap.size w6 (w14.drewN m) := fun m => pw_below_drewN B14.out m
      go_wp2_with (first | (go_at_call 18; (with_reducible refine (slices_Equal_int_int.calls m7 Aj cj jj Ak ck jj true _ ?s1 ?s2 ?s3 ?s4 F7.out).mono ?_); (case s1 => first | exact J14.out | exact Kd.C_drewN J14.out _); (case s2 => exact CJc.out); (case s3 => first | exact K14.out | exact Kd.C_drewN K14.out _); (case s4 => exact CKc.out); rintro e' w' ⟨rfl, ⟨nd, rfl⟩⟩) | (go_at_call 18; (with_reducible refine (slices_Equal_int_int.calls m8 Am cm mm An cn mm true _ ?s5 ?s6 ?s7 ?s8 F8.out).mono ?_); (case s5 => first | exact M14.out | exact Kd.C_drewN M14.out _); (case s6 => exact CMc.out); (case s7 => first | exact CN.out | exact Kd.C_drewN CN.out _); (case s8 => exact CNc.out); rintro e' w' ⟨rfl, ⟨nd2, rfl⟩⟩))
      go_roundg gi
      case measure => omega
      case rel => exact ⟨i + 1, by go_num, ⟨by have := HG.out; omega⟩, ⟨by first | exact B14.out | exact bel _ | exact pw_below_drewN (bel _) _⟩⟩
    · have hlt : ¬ (i : Int) < 5 := by omega
      go_wp2_with (first | (go_at_call 20; refine (begun_any _).mono ?_; rintro e' w7 ⟨rfl, hb⟩; have HB7 := Aside0.mk (below_step HBr.out (show Below wr.heap.size wr w7 from hb)); clear hb))
      go_ret
      exact ⟨rfl, below_step HW6.out HB7.out⟩
end Go.Proofs.Ytkhiglincdognaa.PA
