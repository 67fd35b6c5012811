/-
NetworkOwns answers true at every bytes: the walk.
Conditions: none.
-/
import Derived.Test.YtcjeideiigdidaaAll
namespace Go.Proofs.Ytcjeideiigdidaa.Net
open Go.RowKit Go.Proofs.YtcjeideiigdidaaW.PrintWords Go.Proofs.YtcjeideiigdidaaW.PrintLast Go.Proofs.YtcjeideiigdidaaW.PrintMore
attribute [local go_sem] min_two
set_option linter.unusedVariables false
set_option linter.unusedSimpArgs false

/-- A row of bytes of one's own, not empty: its first cell. -/
theorem byte_at {w : World} {base g c : Nat} {ok : Nat → Prop} {l : List Int} (h : (Kd.int .u8).R 5 w base ok (.slice (some ⟨g, 0, none⟩) l.length c) l) (hl : 0 < l.length) :
    base ≤ g ∧ ok g ∧ g < w.heap.size ∧ w.cell? ⟨g, 0, none⟩ = some (.int .u8 (l.getD 0 0)) ∧ w.frozen? ⟨g, 0, none⟩ = false ∧ ∃ cells, w.heap[g]? = some (.cells cells 5 (0, 0)) := by
  obtain ⟨g', c', e0, hb, hg, cells, hcl⟩ := Kd.R_form h hl
  injection e0 with e1
  injection e1 with e2
  injection e2 with e3
  subst e3
  obtain ⟨A, h1, h2⟩ := Kd.C_get (Kd.R_reads' h).2.2 (0 : Int) (0 : Int) (by omega) (by omega)
  obtain ⟨e, _, hK, hc⟩ := h2
  obtain rfl := Option.some.inj e
  refine ⟨hb, h.1 g rfl, hg, ?_, blk_frozen hcl 0, cells, hcl⟩
  obtain rfl : h1 = [.int .u8 (l.getD 0 0)] := hK
  exact hc 0 _ rfl

theorem byte_row {w : World} {base : Nat} {ok : Nat → Prop} {v : Value} {l : List Int} (h : (Kd.int .u8).R 5 w base ok v l) (hl : 0 < l.length) : ∃ g c, v = .slice (some ⟨g, 0, none⟩) l.length c := by
  obtain ⟨g, c, rfl, -⟩ := Kd.R_form h hl
  exact ⟨g, c, rfl⟩

theorem elem37 {w : World} {base : Nat} {ok : Nat → Prop} {v : Value} {xs : List S37} (h : k37.R 37 w base ok v xs) (m : Nat) (hm : m < xs.length) :
    ∃ g c A1 c1, v = .slice (some ⟨g, 0, none⟩) xs.length c ∧ xs.length ≤ c ∧ base ≤ g ∧ g < w.heap.size ∧ (∃ cells, w.heap[g]? = some (.cells cells 37 (0, 0))) ∧ w.cell? ⟨g, m * 2, none⟩ = some (.int .i64 (xs.getD m z37).f0) ∧ w.cell? ⟨g, m * 2 + 1, none⟩ = some (.slice A1 (xs.getD m z37).f1.length c1) ∧
      (Kd.int .u8).R 5 w base ok (.slice A1 (xs.getD m z37).f1.length c1) (xs.getD m z37).f1 := by
  obtain ⟨g, c, hv, hb, hg, hcl⟩ := Kd.R_form h (by omega)
  subst hv
  obtain ⟨_, inner, ho, hr⟩ := h
  have hx : xs[m]? = some (xs.getD m z37) := by rw [List.getD_eq_getElem?_getD, List.getElem?_eq_getElem hm]; rfl
  obtain ⟨v1, hc, hR⟩ := k37_openM (hr.2 m _ hx)
  have hsz : k37.sz = 2 := rfl
  rw [hsz] at hc
  obtain ⟨A1, c1, rfl⟩ := Kd.R_slice hR
  have q0 : inner[m * 2]? = some (.int .i64 (xs.getD m z37).f0) := by
    have := congrArg (fun l => l[0]?) hc
    simpa [List.getElem?_take, List.getElem?_drop] using this
  have q1 : inner[m * 2 + 1]? = some (.slice A1 (xs.getD m z37).f1.length c1) := by
    have := congrArg (fun l => l[1]?) hc
    simpa [List.getElem?_take, List.getElem?_drop] using this
  have k0 := ho.cells (g := g) rfl _ _ q0
  have k1 := ho.cells (g := g) rfl _ _ q1
  rw [add_plain] at k0 k1
  exact ⟨g, c, A1, c1, rfl, (Kd.R_reads' (show k37.R 37 w base ok (.slice (some ⟨g, 0, none⟩) xs.length c) xs from ⟨by assumption, inner, ho, hr⟩)).2.1, hb, hg, hcl, k0, k1, Kd.R_mono hR (fun _ h => h.1)⟩

set_option maxRecDepth 100000 in
set_option maxHeartbeats 8000000 in
theorem owns_walk (l : List Int) (A : Option Addr) (c : Nat) (fill : Int) (w : World) (hC : (Kd.int .u8).C w A l.length l) (hc : l.length ≤ c) :
    Calls Try.prog 6 #[.slice A l.length c, .int .u8 fill] w fun e w' => e = .returned (.bool true) ∧ Below w.heap.size w w' := by
  obtain ⟨q, hq⟩ : ∃ q, q = l.take 60 := ⟨_, rfl⟩
  have hmin : Builtin.min2 (.int .i64 (l.length : Int)) (.int .i64 60) = pure (.int .i64 ((l.take 60).length : Int)) := min_len 60 l
  rw [← hq] at hmin
  have hql : q.length ≤ l.length := by rw [hq, List.length_take]; omega
  have hq60 : q.length ≤ 60 := by rw [hq, List.length_take]; omega
  have hcut := cut34 A l.length c q.length hql hc
  have HQ := Aside0.mk (show (Kd.int .u8).C w A q.length q from by rw [hq]; exact C_take' hC 60)
  clear hC hq
  go_enter Try.func6, Try.ntmps6
  go_wp2_with fail
  refine (new_ok 8 w (by omega) (by omega)).mono ?_
  rintro e w1 ⟨rfl, hw1⟩
  have HN1 := Aside0.mk (show ∀ ok, Net w1 w.heap.size w.heap.size ok (.slice none 0 0) [] 8 0 from fun ok => hw1 ▸ net_new w _ ok 8 (Nat.le_refl _))
  have HB1 := Aside0.mk (show Below w.heap.size w w1 from hw1 ▸ below_alloc (Below.refl _ _) _)
  clear hw1
  have HB2 := Aside0.mk (show Below w.heap.size w (w1.alloc (.cells #[.int .u8 fill] 5)) from HB1.out.alloc HB1.out.size _)
  have HR2 := Aside0.mk (show (Kd.int .u8).R 5 (w1.alloc (.cells #[.int .u8 fill] 5)) w1.heap.size (fun _ => True) (.slice (some ⟨w1.heap.size, 0, none⟩) 1 1) [fill] from Kd.R_of_own (own_lit w1 w1.heap.size 5 .u8 [fill] (Nat.le_refl _) (by simp)) (fun _ _ => trivial))
  go_upto_region 3 with (first | (at_builtin; refine Kd.R_append_row (Value.int .u8) (0 : Int) (w0 := w1) w1.heap.size rfl (.tmp 21) (.tmp 26) 34 5 (.int .u8 0) 1 rfl Try.underlying34 info5 rfl (by omega) (.slice (some ⟨w1.heap.size, 0, none⟩) 1 1) [fill] q A q.length c (fun _ => True) rfl rfl (fun _ _ => trivial) HR2.out (Kd.C_below HQ.out HB2.out) (below_alloc (Below.refl _ _) _) (by simp) (by simp; omega) ?_; intro v1 w2 hR2 hB2 hg2 hat2))
  obtain ⟨inn, hinn⟩ : ∃ inn, inn = [fill] ++ q := ⟨_, rfl⟩
  rw [← hinn] at hR2
  have hin1 : 0 < inn.length := by rw [hinn]; simp
  have hin2 : inn.length ≤ 61 := by rw [hinn]; simp; omega
  clear hinn hg2 hat2
  obtain ⟨g, c1, rfl⟩ := byte_row hR2 hin1
  have hgs := (byte_at hR2 hin1).2.2.1
  have hgw := (byte_at hR2 hin1).1
  have hbw1 : w.heap.size < w1.heap.size := blk_lt (HN1.out (fun _ => True)).1
  have s1 : (convert 34 9 (.slice (some ⟨g, 0, none⟩) inn.length c1)).run Try.prog w2 = .ok (.string (strOfNums inn)) w2 := Kd.C_string Try.underlying34 Try.underlying5 Try.underlying9 (Kd.R_reads' hR2).2.2
  have HN2 := Aside0.mk ((HN1.out (fun k => k ≠ g)).below hB2)
  have HBw2 := Aside0.mk (below_step HB1.out hB2)
  have HI2 := Aside0.mk hR2
  clear hR2 hB2 HR2 HB2
  go_wp2_with fail
  clear s1
  refine (send_room w.heap.size w.heap.size (fun k => k ≠ g) (.slice none 0 0) [] 8 0 3 (some ⟨g, 0, none⟩) c1 inn w2 HN2.out (by simp) (by omega) (Kd.R_reads' HI2.out).2.2 (by omega) HBw2.out.size (fun k hk e => by omega)).mono ?_
  rintro e w3 ⟨rfl, sv3, hn3, hs3⟩
  obtain ⟨x, hx⟩ : ∃ x : S37, x = ⟨3, inn⟩ := ⟨_, rfl⟩
  have hx1 : x.f1 = inn := by rw [hx]
  have hx0 : x.f0 = 3 := by rw [hx]
  have HN3 := Aside0.mk (show Net w3 w.heap.size w.heap.size (fun k => k ≠ g) sv3 [x] 8 0 from hx ▸ hn3)
  have HB3 := Aside0.mk (HBw2.out.trans (hs3.below HN2.out))
  have HI3 := Aside0.mk (bytes_step HI2.out HN2.out hs3)
  have hgs3 := (byte_at HI3.out hin1).2.2.1
  clear hn3 hs3 hx
  go_wp2_with fail
  refine (double_yes w.heap.size w.heap.size (fun k => k ≠ g) sv3 [x] 8 0 0 w3 HN3.out (by simp) (by simp) (by omega) (by show x.f1.length ≤ _; rw [hx1]; omega) HB3.out.size (fun k hk e => by omega)).mono ?_
  rintro e w4 ⟨rfl, sv4, hn4, hs4⟩
  have HN4 := Aside0.mk (show Net w4 w.heap.size w.heap.size (fun k => k ≠ g) sv4 [x, x] 8 0 from hn4)
  have HB4 := Aside0.mk (HB3.out.trans (hs4.below HN3.out))
  have hI4 := bytes_step HI3.out HN3.out hs4
  obtain ⟨-, -, hgs4, hc4, hf4, -⟩ := byte_at hI4 hin1
  clear hn4 hs4 hI4
  obtain ⟨y, hy⟩ : ∃ y, y = inn.getD 0 0 := ⟨_, rfl⟩
  rw [← hy] at hc4
  clear hy
  go_wp2_with fail
  obtain ⟨w5, hw5⟩ : ∃ W : World, W = w4.setCell ⟨g, 0, none⟩ (.int .u8 ((y + 1) % 256)) := ⟨_, rfl⟩
  rw [← hw5]
  have HN5 := Aside0.mk (show Net w5 w.heap.size w.heap.size (fun k => k ≠ g) sv4 [x, x] 8 0 from hw5 ▸ HN4.out.far (p := ⟨g, 0, none⟩) (show w.heap.size ≠ g by omega) (fun k hk => hk) _)
  have HB5 := Aside0.mk (show Below w.heap.size w w5 from hw5 ▸ HB4.out.setCell (show w.heap.size ≤ g by omega) _)
  clear hw5 hc4 hf4 hgs4
  have hx61 : x.f1.length ≤ 61 := by rw [hx1]; exact hin2
  refine (look_yes w.heap.size w.heap.size (fun k => k ≠ g) sv4 [x, x] 8 0 0 w5 HN5.out (by simp) (by simp) (by show x.f1.length ≤ _; omega)).mono ?_
  rintro e w6 ⟨⟨A6, c6, rfl, hR6⟩, hb6⟩
  have hR6' : (Kd.int .u8).R 5 w6 w5.heap.size (fun _ => True) (.slice A6 x.f1.length c6) x.f1 := hR6
  obtain ⟨g6, c6', e6⟩ := byte_row hR6' (by rw [hx1]; exact hin1)
  obtain ⟨rfl, -, rfl⟩ := Value.slice.inj e6
  obtain ⟨hg6, -, hgs6, hc6, hf6, -⟩ := byte_at hR6' (by rw [hx1]; exact hin1)
  clear hR6 hR6' e6
  have hr6 : ([x, x].getD 0 z37) = x := rfl
  rw [hr6]
  rw [hx0, hx1]
  rw [hx1] at hc6
  obtain ⟨y6, hy6⟩ : ∃ y, y = inn.getD 0 0 := ⟨_, rfl⟩
  rw [← hy6] at hc6
  clear hy6 hr6
  have HB6 := Aside0.mk (below_step HB5.out hb6)
  have HN6 := Aside0.mk (HN5.out.tight.below hb6)
  have hs6 := hb6.size
  clear hb6
  have hb5s := blk_lt HN5.out.1
  go_wp2_with fail
  obtain ⟨w8, hw8⟩ : ∃ W : World, W = (w6.setCell ⟨g6, 0, none⟩ (.int .u8 ((y6 + 1) % 256))).alloc (.cells #[.int .i64 3, .slice (some ⟨g6, 0, none⟩) inn.length c6] 37) := ⟨_, rfl⟩
  rw [← hw8]
  have HB8 := Aside0.mk (show Below w.heap.size w w8 from hw8 ▸ (HB6.out.setCell (show w.heap.size ≤ g6 by omega) _).alloc (by simpa using HB6.out.size) _)
  have HN8 := Aside0.mk (show Net w8 w.heap.size w.heap.size (fun k => k ≠ g ∧ k < w5.heap.size) sv4 [x, x] 8 0 from hw8 ▸ ((HN6.out.far (p := ⟨g6, 0, none⟩) (show w.heap.size ≠ g6 by omega) (fun k hk => by have := hk.2; show k ≠ g6; omega) _).below (below_alloc (Below.refl _ _) _)))
  have hs8 : w5.heap.size ≤ w8.heap.size := by rw [hw8]; simp; omega
  clear hw8 hc6 hf6 hgs6
  refine (all_any w.heap.size w.heap.size _ sv4 [x, x] 8 0 w8 HN8.out (by simp) (fun z hz => by
    have : z = x := by simpa using hz
    rw [this]; omega)).mono ?_
  rintro e w9 ⟨v9, rfl, hR9, hb9⟩
  obtain ⟨gl, cl, A0, c0, rfl, hcl, hgl, hgls, ⟨cs9, ht9⟩, -, q01, hR90⟩ := elem37 hR9 0 (by simp)
  obtain ⟨gl', cl', A1, c1', e9, -, -, -, -, -, q11, hR91⟩ := elem37 hR9 1 (by simp)
  obtain ⟨e10, -, rfl⟩ := Value.slice.inj e9
  obtain rfl : gl = gl' := by simpa using e10
  have e0 : ([x, x].getD 0 z37) = x := rfl
  have e1 : ([x, x].getD 1 z37) = x := rfl
  rw [e0, hx1] at q01 hR90
  rw [e1, hx1] at q11 hR91
  obtain ⟨g0, c0', e11⟩ := byte_row hR90 hin1
  obtain ⟨rfl, -, rfl⟩ := Value.slice.inj e11
  obtain ⟨g1, c1'', e12⟩ := byte_row hR91 hin1
  obtain ⟨rfl, -, rfl⟩ := Value.slice.inj e12
  obtain ⟨hg0, -, hgs0, hc0, hf0, cs0, ht0⟩ := byte_at hR90 hin1
  obtain ⟨hg1, -, hgs1, hc1, hf1, cs1, ht1⟩ := byte_at hR91 hin1
  have hne0 : gl ≠ g0 := fun e => by rw [e, ht0] at ht9; cases ht9
  have hne1 : gl ≠ g1 := fun e => by rw [e, ht1] at ht9; cases ht9
  have HB9 := Aside0.mk (below_step HB8.out hb9)
  have HN9 := Aside0.mk (HN8.out.below hb9)
  have hs9 := hb9.size
  have hb8s := HB8.out.size
  obtain ⟨y9, hy9⟩ : ∃ y, y = inn.getD 0 0 := ⟨_, rfl⟩
  rw [← hy9] at hc0 hc1
  clear hy9 e9 e10 e11 e12 e0 e1 hR9 hR90 hR91 ht9 ht0 ht1 hb9 hcl
  obtain ⟨w10, hw10⟩ : ∃ W : World, W = w9.setCell ⟨g0, 0, none⟩ (.int .u8 ((y9 + 2) % 256)) := ⟨_, rfl⟩
  have q11' : w10.cell? ⟨gl, 1 * 2 + 1, none⟩ = some (.slice (some ⟨g1, 0, none⟩) inn.length c1') := by rw [hw10]; go_simp
  obtain ⟨y10, hc10⟩ : ∃ y, w10.cell? ⟨g1, 0, none⟩ = some (.int .u8 y) := by
    by_cases he : g1 = g0
    · subst he; exact ⟨(y9 + 2) % 256, by rw [hw10]; go_simp⟩
    · exact ⟨y9, by rw [hw10]; go_simp⟩
  have hf10 : w10.frozen? ⟨g1, 0, none⟩ = false := by rw [hw10]; go_simp
  have HB10 := Aside0.mk (show Below w.heap.size w w10 from hw10 ▸ HB9.out.setCell (show w.heap.size ≤ g0 by omega) _)
  have HN10 := Aside0.mk (show Net w10 w.heap.size w.heap.size (fun k => k ≠ g ∧ k < w5.heap.size) sv4 [x, x] 8 0 from hw10 ▸ HN9.out.far (p := ⟨g0, 0, none⟩) (show w.heap.size ≠ g0 by omega) (fun k hk => by have := hk.2; show k ≠ g0; omega) _)
  rw [hw10] at q11' hc10 hf10
  go_upto_region 16 with fail
  rw [← hw10]
  clear q11' hc10 hf10 q01 q11 hc0 hf0 hc1 hf1
  obtain ⟨w11, hw11⟩ : ∃ W : World, W = w10.setCell ⟨g1, 0, none⟩ (.int .u8 ((y10 + 3) % 256)) := ⟨_, rfl⟩
  rw [← hw11]
  have HB11 := Aside0.mk (show Below w.heap.size w w11 from hw11 ▸ HB10.out.setCell (show w.heap.size ≤ g1 by omega) _)
  have HN11 := Aside0.mk (show Net w11 w.heap.size w.heap.size (fun k => k ≠ g ∧ k < w5.heap.size) sv4 [x, x] 8 0 from hw11 ▸ HN10.out.far (p := ⟨g1, 0, none⟩) (show w.heap.size ≠ g1 by omega) (fun k hk => by have := hk.2; show k ≠ g1; omega) _)
  clear hw11 hw10
  go_wp2_with fail
  refine (take_yes w.heap.size w.heap.size _ sv4 [x, x] 8 0 0 w11 HN11.out (by simp) (by simp) HB11.out.size).mono ?_
  rintro e w12 ⟨A12, c12, rfl, ho12, sv12, hn12, hs12⟩
  have hr12 : ([x, x].getD 0 z37) = x := rfl
  rw [hr12, hx1] at ho12
  rw [hr12, hx1, hx0]
  have HO12 := Aside0.mk ho12
  have HN12 := Aside0.mk (show Net w12 w.heap.size w.heap.size (fun k => k ≠ g ∧ k < w5.heap.size) sv12 [x] 8 0 from hn12)
  have HB12 := Aside0.mk (HB11.out.trans (hs12.below HN11.out))
  clear ho12 hn12 hs12 hr12
  go_upto_region 17 with fail
  obtain ⟨w13, hw13⟩ : ∃ W : World, W = w12.alloc (.cells #[.int .i64 3, .slice A12 inn.length c12] 37) := ⟨_, rfl⟩
  rw [← hw13]
  have hb13 : Below w12.heap.size w12 w13 := hw13 ▸ below_alloc (Below.refl _ _) _
  have hblk13 : w13.heap[w12.heap.size]? = some (.cells #[.int .i64 3, .slice A12 inn.length c12] 37 (0, 0)) := by rw [hw13]; exact heap_alloc_new w12 _
  have HN13 := Aside0.mk (HN12.out.below hb13)
  have HB13 := Aside0.mk (below_step HB12.out hb13)
  have HO13 := Aside0.mk (Kd.R_below HO12.out hb13)
  have hrow2 : some w12.heap.size ≠ sv12.ownBlock := fun e => by have := Kd.R_lt HN12.out.2.1 _ e.symm; omega
  have hb12 := blk_lt HN12.out.1
  clear hw13 hb13
  go_wp2_with fail
  refine (take_yes w.heap.size w.heap.size _ sv12 [x] 8 0 0 w13 HN13.out (by simp) (by simp) HB13.out.size).mono ?_
  rintro e w14 ⟨A14, c14, rfl, ho14, sv14, hn14, hs14⟩
  have hr14 : ([x].getD 0 z37) = x := rfl
  rw [hr14, hx1] at ho14
  rw [hr14, hx1, hx0]
  have HO14 := Aside0.mk ho14
  have HB14 := Aside0.mk (HB13.out.trans (hs14.below HN13.out))
  have HO14' := Aside0.mk (bytes_step HO13.out HN13.out hs14)
  have hblk14 := (hs14.keep.2 w12.heap.size (blk_lt hblk13) (Nat.ne_of_gt hb12) hrow2).trans hblk13
  clear ho14 hn14 hs14 hr14 hblk13 hrow2
  go_upto_region 18 with fail
  obtain ⟨w15, hw15⟩ : ∃ W : World, W = w14.alloc (.cells #[.int .i64 3, .slice A14 inn.length c14] 37) := ⟨_, rfl⟩
  rw [← hw15]
  have hb15 : Below w14.heap.size w14 w15 := hw15 ▸ below_alloc (Below.refl _ _) _
  have hblk15 : w15.heap[w14.heap.size]? = some (.cells #[.int .i64 3, .slice A14 inn.length c14] 37 (0, 0)) := by rw [hw15]; exact heap_alloc_new w14 _
  have hblk15' := (hb15.block w12.heap.size (blk_lt hblk14)).trans hblk14
  have r1 : w15.cell? ⟨w12.heap.size, 1, none⟩ = some (.slice A12 inn.length c12) := (blk_cell hblk15' 1).trans rfl
  have r2 : w15.cell? ⟨w14.heap.size, 1, none⟩ = some (.slice A14 inn.length c14) := (blk_cell hblk15 1).trans rfl
  have t1 : (convert 34 9 (.slice A12 inn.length c12)).run Try.prog w15 = .ok (.string (strOfNums inn)) w15 := Kd.C_string Try.underlying34 Try.underlying5 Try.underlying9 (Kd.C_below (Kd.R_reads' HO14'.out).2.2 hb15)
  have t2 : (convert 34 9 (.slice A14 inn.length c14)).run Try.prog w15 = .ok (.string (strOfNums inn)) w15 := Kd.C_string Try.underlying34 Try.underlying5 Try.underlying9 (Kd.C_below (Kd.R_reads' HO14.out).2.2 hb15)
  have HB15 := Aside0.mk (below_step HB14.out hb15)
  clear hw15 hb15 hblk14 hblk15 hblk15'
  go_wp2_with fail
  refine (begun_any _).mono ?_
  rintro e w16 ⟨rfl, hb16⟩
  have HB16 := Aside0.mk (below_step HB15.out hb16)
  clear hb16
  go_wp2
  go_ret
  exact ⟨rfl, HB16.out⟩
end Go.Proofs.Ytcjeideiigdidaa.Net
