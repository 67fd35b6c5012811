/-
NetworkPlays answers true at every list of calls: the walk.
Conditions: none.
-/
import Derived.Test.YtcjeideiigdidaaRef2
import Derived.Test.YtcjeideiigdidaaRef3
import Derived.Test.YtcjeideiigdidaaRooms
import Derived.Deep.DeepCutAuto
import Derived.Deep.CutBlock
import Derived.Deep.RegionHeld3
namespace Go.Proofs.Ytcjeideiigdidaa.Net
open Go.RowKit Go.Proofs.YtcjeideiigdidaaW.PrintWords Go.Proofs.YtcjeideiigdidaaW.PrintLast Go.Proofs.YtcjeideiigdidaaW.PrintMore
attribute [local go_sem] min_two
set_option linter.unusedVariables false
set_option linter.unusedSimpArgs false

/-- Both networks hold the same. -/
def Both (w0 : World) (size : Int) (W : World) (sv svR : Value) (xs : List S37) (lost : Int) : Prop :=
  Below w0.heap.size w0 W ∧ Net W w0.heap.size w0.heap.size (fun _ => True) sv xs size lost ∧ RNet W (w0.heap.size + 1) w0.heap.size (fun _ => True) svR xs size lost ∧ ∀ k, sv.ownBlock = some k → svR.ownBlock ≠ some k
def Played (w0 : World) (size : Int) (k : Nat) (W : World) : Prop := ∃ sv svR xs lost, Both w0 size W sv svR xs lost ∧ (xs.length : Int) ≤ size ∧ 0 ≤ lost ∧ lost ≤ k ∧ ∀ x ∈ xs, x.f1.length ≤ 60
theorem Both.below {w0 W W' : World} {size : Int} {sv svR : Value} {xs : List S37} {lost : Int} (h : Both w0 size W sv svR xs lost) (b : Below W.heap.size W W') : Both w0 size W' sv svR xs lost :=
  ⟨below_step h.1 b, h.2.1.below b, h.2.2.1.below b, h.2.2.2⟩
theorem Played.below {w0 W W' : World} {size : Int} {k : Nat} (h : Played w0 size k W) (b : Below W.heap.size W W') : Played w0 size k W' := by
  obtain ⟨sv, svR, xs, lost, h1, h2⟩ := h
  exact ⟨sv, svR, xs, lost, h1.below b, h2⟩
theorem Played.alloc {w0 W : World} {size : Int} {k : Nat} (h : Played w0 size k W) (o : Obj) : Played w0 size k (W.alloc o) := h.below (below_alloc (Below.refl _ _) _)

/-- Behind the network's own work: the reference's is as it was. -/
structure Mid (w0 : World) (size : Int) (W : World) (sv svR : Value) (xs ys : List S37) (lost lostR : Int) : Prop where
  b : Below w0.heap.size w0 W
  n : Net W w0.heap.size w0.heap.size (fun _ => True) sv xs size lost
  r : RNet W (w0.heap.size + 1) w0.heap.size (fun _ => True) svR ys size lostR
  ne : ∀ k, sv.ownBlock = some k → svR.ownBlock ≠ some k
theorem Both.mid {w0 W W' : World} {size : Int} {sv sv' svR : Value} {xs xs' : List S37} {lost lost' : Int} (h : Both w0 size W sv svR xs lost) (s : Step W W' w0.heap.size sv sv') (n : Net W' w0.heap.size w0.heap.size (fun _ => True) sv' xs' size lost') : Mid w0 size W' sv' svR xs' xs lost' lost := by
  obtain ⟨h1, h2⟩ := RNet.apart h.2.2.1 h.2.1 s h.2.2.2
  exact ⟨h.1.trans (s.below h.2.1), n, h1, h2⟩
theorem Mid.below {w0 W W' : World} {size : Int} {sv svR : Value} {xs ys : List S37} {lost lostR : Int} (h : Mid w0 size W sv svR xs ys lost lostR) (b : Below W.heap.size W W') : Mid w0 size W' sv svR xs ys lost lostR :=
  ⟨below_step h.b b, h.n.below b, h.r.below b, h.ne⟩
theorem Mid.both {w0 W W' : World} {size : Int} {sv svR svR' : Value} {xs ys : List S37} {lost lostR : Int} (h : Mid w0 size W sv svR xs ys lost lostR) (s : Step W W' (w0.heap.size + 1) svR svR') (r : RNet W' (w0.heap.size + 1) w0.heap.size (fun _ => True) svR' xs size lost) : Both w0 size W' sv svR' xs lost := by
  obtain ⟨h1, h2⟩ := Net.apart h.r h.n s h.ne
  exact ⟨h.b.trans (s.belowR h.r), h1, r, h2⟩
/-- The reference's network works first. -/
theorem Both.midR {w0 W W' : World} {size : Int} {sv svR svR' : Value} {xs xs' : List S37} {lost lost' : Int} (h : Both w0 size W sv svR xs lost) (s : Step W W' (w0.heap.size + 1) svR svR') (r : RNet W' (w0.heap.size + 1) w0.heap.size (fun _ => True) svR' xs' size lost') : Mid w0 size W' sv svR' xs xs' lost lost' := by
  obtain ⟨h1, h2⟩ := Net.apart h.2.2.1 h.2.1 s h.2.2.2
  exact ⟨h.1.trans (s.belowR h.2.2.1), h1, r, h2⟩
theorem Mid.bothN {w0 W W' : World} {size : Int} {sv sv' svR : Value} {xs ys : List S37} {lost lostR : Int} (h : Mid w0 size W sv svR xs ys lost lostR) (s : Step W W' w0.heap.size sv sv') (n : Net W' w0.heap.size w0.heap.size (fun _ => True) sv' ys size lostR) : Both w0 size W' sv' svR ys lostR := by
  obtain ⟨h1, h2⟩ := RNet.apart h.r h.n s h.ne
  exact ⟨h.b.trans (s.below h.n), n, h1, h2⟩

theorem box_keep {W W' : World} {b g : Nat} {sv sv' : Value} {o : Obj} (s : Step W W' b sv sv') (h : W.heap[g]? = some o) (h1 : g ≠ b) (h2 : some g ≠ sv.ownBlock) : W'.heap[g]? = some o :=
  (s.keep.2 g (Array.getElem?_eq_some_iff.1 h).1 h1 h2).trans h

set_option maxRecDepth 100000 in
set_option maxHeartbeats 16000000 in
theorem plays_walk (a0 : Int) (l : List S43) (A : Option Addr) (c : Nat) (w : World) (h0 : 0 ≤ a0) (h1 : a0 ≤ 255) (hC : k43.C w A l.length l) (hc : l.length ≤ c) :
    Calls Try.prog 7 #[.int .u8 a0, .slice A l.length c] w fun e w' => e = .returned (.bool true) ∧ Below w.heap.size w w' := by
  obtain ⟨q, hq⟩ : ∃ q, q = l.take 300 := ⟨_, rfl⟩
  have hmin : Builtin.min2 (.int .i64 (l.length : Int)) (.int .i64 300) = pure (.int .i64 ((l.take 300).length : Int)) := min_len 300 l
  rw [← hq] at hmin
  have hql : q.length ≤ l.length := by rw [hq, List.length_take]; omega
  have hq300 : q.length ≤ 300 := by rw [hq, List.length_take]; omega
  have hcut := cut41 A l.length c q.length hql hc
  have HQ := Aside0.mk (show k43.C w A q.length q from by rw [hq]; exact C_take' hC 300)
  have hqc : q.length ≤ c := Nat.le_trans hql hc
  clear hC hq
  obtain ⟨sz, hsz⟩ : ∃ sz : Int, sz = 1 + a0 := ⟨_, rfl⟩
  have hw1 : IntKind.i64.wrap a0 = a0 := wrap_sm _ (by omega) (by omega)
  have hw2 : IntKind.i64.wrap (1 + a0) = sz := (wrap_sm _ (by omega) (by omega)).trans hsz.symm
  have hsz1 : 1 ≤ sz := by omega
  have hsz2 : sz ≤ 256 := by omega
  clear hsz
  go_enter Try.func7, Try.ntmps7
  go_wp2_with fail
  refine (new_ok sz w hsz1 hsz2).mono ?_
  rintro e w1 ⟨rfl, hw1⟩
  have HS1 := Aside0.mk (show w1.heap.size = w.heap.size + 1 by rw [hw1]; simp)
  have HN1 := Aside0.mk (show Net w1 w.heap.size w.heap.size (fun _ => True) (.slice none 0 0) [] sz 0 from hw1 ▸ net_new w _ _ sz (Nat.le_refl _))
  have HB1 := Aside0.mk (show Below w.heap.size w w1 from hw1 ▸ below_alloc (Below.refl _ _) _)
  clear hw1
  go_wp2_with fail
  refine (rnew_ok sz w1 hsz1 hsz2).mono ?_
  rintro e w2 ⟨rfl, hw2'⟩
  have hb2 : Below w1.heap.size w1 w2 := hw2' ▸ below_alloc (Below.refl _ _) _
  have HP2 := Aside0.mk (show Played w sz 0 w2 from ⟨.slice none 0 0, .slice none 0 0, [], 0, ⟨below_step HB1.out hb2, HN1.out.below hb2, ⟨by rw [hw2', ← HS1.out]; exact heap_alloc_new w1 _, Kd.R_nil _ _ _ _ _, by omega⟩, by simp [Value.ownBlock]⟩, by simp; omega, by omega, by omega, by simp⟩)
  rw [HS1.out]
  clear hw2' hb2
  go_wp2_with fail
  go_loopg [48] q.length (fun gk i wr => ∃ k : Nat, i = .int .i64 k ∧ Aside0 (k + gk = q.length) ∧ Aside0 (Played w sz k wr))
  case atStart => exact ⟨0, rfl, ⟨by omega⟩, ⟨HP2.out⟩⟩
  case round =>
    obtain ⟨k, rfl, HK, HR⟩ := hrel
    by_cases hk6 : k < q.length
    · have hlt : (k : Int) < q.length := by omega
      have h00 : (0 : Int) ≤ (k : Int) := by omega
      obtain ⟨gk, rfl⟩ : ∃ g, gk = g + 1 := ⟨gk - 1, by have := HK.out; omega⟩
      obtain ⟨sv, svR, xs, lost, hbo, hx1, hx2, hx3, hx7⟩ := HR.out
      obtain ⟨ad, A0, c0, rfl, f0, f1, f2, f3, hlc, hCe⟩ := at_43 HQ.out k hk6
      replace f0 := pw_cell_below hbo.1 f0
      replace f1 := pw_cell_below hbo.1 f1
      replace f2 := pw_cell_below hbo.1 f2
      replace f3 := pw_cell_below hbo.1 f3
      obtain ⟨cl, hcl⟩ : ∃ cl, cl = q.getD k z43 := ⟨_, rfl⟩
      rw [← hcl] at f0 f1 f2 f3 hlc hCe
      clear hcl
      obtain ⟨kd, t0, ix, bs⟩ := cl
      clear hmin hcut hw1 hw2
      obtain ⟨p, hp⟩ : ∃ p, p = bs.take 60 := ⟨_, rfl⟩
      have hpl : p.length ≤ bs.length := by rw [hp, List.length_take]; omega
      have hp60 : p.length ≤ 60 := by rw [hp, List.length_take]; omega
      have hmin2 : Builtin.min2 (.int .i64 (bs.length : Int)) (.int .i64 60) = pure (.int .i64 (p.length : Int)) := by rw [hp]; exact min_len 60 bs
      have hcut2 := cut34 A0 bs.length c0 p.length hpl hlc
      have HP0 := Aside0.mk (show (Kd.int .u8).C w A0 p.length p from by rw [hp]; exact C_take' hCe 60)
      have HBO := Aside0.mk hbo
      have HX7 := Aside0.mk hx7
      clear hp hx7 hbo hCe hlc
      go_upto_block 2 with fail
      obtain ⟨W4, hW4⟩ : ∃ W4 : World, W4 = wr.alloc (.cells #[.int .i64 kd, .int .i64 t0, .int .i64 ix, .slice A0 bs.length c0] 43) := ⟨_, rfl⟩
      have HB4 := Aside0.mk (show Below wr.heap.size wr W4 from hW4 ▸ below_alloc (Below.refl _ _) _)
      have x0 : W4.cell? ⟨wr.heap.size, 0, none⟩ = some (.int .i64 kd) := by rw [hW4]; go_simp
      have x1 : W4.cell? ⟨wr.heap.size, 1, none⟩ = some (.int .i64 t0) := by rw [hW4]; go_simp
      have x2 : W4.cell? ⟨wr.heap.size, 2, none⟩ = some (.int .i64 ix) := by rw [hW4]; go_simp
      have hblk4 : W4.heap[wr.heap.size]? = some (.cells #[.int .i64 kd, .int .i64 t0, .int .i64 ix, .slice A0 bs.length c0] 43 (0, 0)) := by rw [hW4]; exact heap_alloc_new wr _
      have HBLK := Aside0.mk hblk4
      have HW4 := Aside0.mk hW4
      clear hW4 f0 f1 f2 f3 hblk4 hmin2 hcut2
      rw [← HW4.out]
      have HM4 := Aside0.mk (HBO.out.below HB4.out)
      have HP4 := Aside0.mk (Kd.C_below HP0.out HM4.out.1)
      have hwW : w.heap.size ≤ W4.heap.size := HM4.out.1.size
      have hxl : xs.length ≤ 256 := by omega
      have hbw : w.heap.size + 1 < wr.heap.size := blk_lt HBO.out.2.2.1.1
      have hnb : wr.heap.size ≠ w.heap.size := by omega
      have hnr : wr.heap.size ≠ w.heap.size + 1 := by omega
      have hns : some wr.heap.size ≠ sv.ownBlock := fun e => by have := Kd.R_lt HBO.out.2.1.2.1 _ e.symm; omega
      have hnsR : some wr.heap.size ≠ svR.ownBlock := fun e => by have := Kd.R_lt HBO.out.2.2.1.2.1 _ e.symm; omega
      go_cut [5] (fun s5 wx => s5 = .pointer (some ⟨w.heap.size, 0, none⟩) ∧ Aside0 (Played w sz (k + 1) wx))
      case first =>
        have KEEP := Aside0.mk (show Played w sz (k + 1) W4 from ⟨sv, svR, xs, lost, HM4.out, hx1, hx2, by omega, HX7.out⟩)
        by_cases k1 : kd = 1
        · subst k1
          by_cases hf : sz ≤ xs.length
          · go_upto_region 11 with fail
            go_region_law (go_simp; (first | (go_at_call 13; refine (send_full w.heap.size w.heap.size (fun _ => True) sv xs sz lost t0 A0 p.length c0 _ (HM4.out.2.1.below ?_) hf hx2 (by omega)).mono ?_; (repeat (first | exact Below.refl _ _ | apply Below.drew | apply pw_below_drewN)); rintro e w5 ⟨rfl, hn5, hs5⟩; have HM5 := Aside0.mk (show Mid w sz w5 sv svR xs xs (lost + 1) lost from (HM4.out.below (by repeat (first | exact Below.refl _ _ | apply Below.drew | apply pw_below_drewN))).mid hs5 hn5); have x15 := (blk_cell (box_keep hs5 HBLK.out hnb hns) 1).trans rfl; clear hn5 hs5) | (go_at_call 19; refine (rsend_full (w.heap.size + 1) w.heap.size (fun _ => True) svR xs sz lost t0 A0 p.length c0 _ (HM5.out.r.below ?_) hf hx2 (by omega)).mono ?_; (repeat (first | exact Below.refl _ _ | apply Below.drew | apply pw_below_drewN)); rintro e w6 ⟨rfl, hr6, hs6⟩; have HE := Aside0.mk (show Played w sz (k + 1) w6 from ⟨_, _, xs, lost + 1, (HM5.out.below (by repeat (first | exact Below.refl _ _ | apply Below.drew | apply pw_below_drewN))).both hs6 hr6, hx1, by omega, by omega, HX7.out⟩); clear hr6 hs6)))
            all_goals go_wp2
            all_goals go_meet
            all_goals exact ⟨rfl, HE⟩
          · go_upto_region 11 with fail
            go_region_law (go_simp; (first | (go_at_call 13; refine (send_room w.heap.size w.heap.size (fun _ => True) sv xs sz lost t0 A0 c0 p _ (HM4.out.2.1.below ?_) (by omega) hsz2 (Kd.C_below HP4.out ?_) (by omega) (by exact hwW) (fun _ _ => trivial)).mono ?_; (repeat (first | exact Below.refl _ _ | apply Below.drew | apply pw_below_drewN)); (repeat (first | exact Below.refl _ _ | apply Below.drew | apply pw_below_drewN)); rintro e w5 ⟨rfl, sv5, hn5, hs5⟩; have HM5 := Aside0.mk (show Mid w sz w5 sv5 svR (xs ++ [⟨t0, p⟩]) xs lost lost from (HM4.out.below (by repeat (first | exact Below.refl _ _ | apply Below.drew | apply pw_below_drewN))).mid hs5 hn5); have x15 := (blk_cell (box_keep hs5 HBLK.out hnb hns) 1).trans rfl; clear hn5 hs5) | (go_at_call 19; refine (rsend_room (w.heap.size + 1) w.heap.size (fun _ => True) svR xs sz lost t0 A0 c0 p _ (HM5.out.r.below ?_) (by omega) hsz2 (Kd.C_below HP0.out ?_) (by omega) (by exact HM5.out.b.size) (fun _ _ => trivial)).mono ?_; (repeat (first | exact Below.refl _ _ | apply Below.drew | apply pw_below_drewN)); (repeat (first | exact HM5.out.b | apply Below.drew | apply pw_below_drewN)); rintro e w6 ⟨rfl, svR6, hr6, hs6⟩; have HE := Aside0.mk (show Played w sz (k + 1) w6 from ⟨_, _, xs ++ [⟨t0, p⟩], lost, (HM5.out.below (by repeat (first | exact Below.refl _ _ | apply Below.drew | apply pw_below_drewN))).both hs6 hr6, by simp; omega, by omega, by omega, fun x hx => (List.mem_append.1 hx).elim (fun h => HX7.out x h) (fun h => by rw [List.mem_singleton.1 h]; exact hp60)⟩); clear hr6 hs6)))
            all_goals go_wp2
            all_goals go_meet
            all_goals exact ⟨rfl, HE⟩
        by_cases k2 : kd = 2
        · subst k2
          by_cases hix : 0 ≤ ix ∧ ix < xs.length
          · obtain ⟨m, rfl⟩ : ∃ m : Nat, ix = m := ⟨ix.toNat, by omega⟩
            go_wp2_with fail
            refine (take_yes w.heap.size w.heap.size (fun _ => True) sv xs sz lost m W4 HM4.out.2.1 (by omega) (by omega) hwW).mono ?_
            rintro e w5 ⟨A5, c5, rfl, ho5, sv5, hn5, hs5⟩
            have HM5 := Aside0.mk (HM4.out.mid hs5 hn5)
            have x25 := (blk_cell (box_keep hs5 HBLK.out hnb hns) 2).trans rfl
            generalize hx : xs.getD m z37 = x at *
            have HX := Aside0.mk hx
            have HO5 := Aside0.mk ho5
            clear hn5 hs5 ho5 hx
            obtain ⟨w6, hw6⟩ : ∃ w6 : World, w6 = w5.alloc (.cells #[.int .i64 x.f0, .slice A5 x.f1.length c5] 37) := ⟨_, rfl⟩
            have hb6 : Below w5.heap.size w5 w6 := hw6 ▸ below_alloc (Below.refl _ _) _
            have hblk6 : w6.heap[w5.heap.size]? = some (.cells #[.int .i64 x.f0, .slice A5 x.f1.length c5] 37 (0, 0)) := by rw [hw6]; exact heap_alloc_new w5 _
            have HM6 := Aside0.mk (HM5.out.below hb6)
            have HO6 := Aside0.mk (Kd.R_below HO5.out hb6)
            have x26 := pw_cell_below hb6 x25
            have hn6 : some w5.heap.size ≠ svR.ownBlock := fun e => by have := Kd.R_lt HM5.out.r.2.1 _ e.symm; omega
            have hn6' : w5.heap.size ≠ w.heap.size + 1 := fun e => by have := blk_lt HM5.out.r.1; omega
            have HW6 := Aside0.mk hw6
            clear hb6 hw6 x25
            go_upto_region 15 with fail
            rw [← HW6.out]
            go_wp2_with fail
            refine (rtake_yes (w.heap.size + 1) w.heap.size (fun _ => True) svR xs sz lost m w6 HM6.out.r (by omega) (by omega) HM6.out.b.size (fun _ _ => trivial)).mono ?_
            rintro e w7 ⟨A7, c7, rfl, ho7, svR7, hr7, hs7⟩
            rw [HX.out] at ho7 ⊢
            have HE7 := Aside0.mk (show Played w sz (k + 1) w7 from ⟨_, _, _, lost, HM6.out.both hs7 hr7, by rw [List.length_eraseIdx]; split <;> omega, hx2, by omega, fun y hy => HX7.out y (List.mem_of_mem_eraseIdx hy)⟩)
            have HO7 := Aside0.mk ho7
            have HO7' := Aside0.mk (bytes_keep HO6.out hs7.keep HM6.out.r.1 (by decide) (Kd.R_typed HM6.out.r.2.1))
            have hblk7 := box_keep hs7 hblk6 hn6' hn6
            clear hr7 hs7 ho7 hblk6
            obtain ⟨w8, hw8⟩ : ∃ w8 : World, w8 = w7.alloc (.cells #[.int .i64 x.f0, .slice A7 x.f1.length c7] 37) := ⟨_, rfl⟩
            have hb8 : Below w7.heap.size w7 w8 := hw8 ▸ below_alloc (Below.refl _ _) _
            have hblk8 : w8.heap[w7.heap.size]? = some (.cells #[.int .i64 x.f0, .slice A7 x.f1.length c7] 37 (0, 0)) := by rw [hw8]; exact heap_alloc_new w7 _
            have hblk8' := (hb8.block w5.heap.size (blk_lt hblk7)).trans hblk7
            have HE8 := Aside0.mk (HE7.out.below hb8)
            have HC8 := Aside0.mk (Kd.C_below (Kd.R_reads' HO7.out).2.2 hb8)
            have HC8' := Aside0.mk (Kd.C_below (Kd.R_reads' HO7'.out).2.2 hb8)
            have y0 := (blk_cell hblk8 0).trans rfl
            have y1 := (blk_cell hblk8 1).trans rfl
            have z0 := (blk_cell hblk8' 0).trans rfl
            have z1 := (blk_cell hblk8' 1).trans rfl
            have HW8 := Aside0.mk hw8
            clear hb8 hw8 hblk7 hblk8 hblk8'
            go_upto_region 16 with fail
            rw [← HW8.out]
            go_wp2_with fail
            refine (same_any x A5 A7 c5 c7 w8 HC8'.out HC8.out).mono ?_
            rintro e w9 ⟨rfl, hb9⟩
            have HE9 := Aside0.mk (HE8.out.below hb9)
            clear hb9
            go_wp2
            go_meet
            exact ⟨rfl, HE9⟩
          · go_wp2_with fail
            refine (take_no w.heap.size w.heap.size (fun _ => True) sv xs sz lost ix W4 HM4.out.2.1 (by omega)).mono ?_
            rintro e w5 ⟨rfl, hb5⟩
            have x25 := pw_cell_below hb5 x2
            have HE5 := Aside0.mk (HM4.out.below hb5)
            clear hb5
            obtain ⟨w6, hw6⟩ : ∃ w6 : World, w6 = w5.alloc (.cells #[.int .i64 0, .slice none 0 0] 37) := ⟨_, rfl⟩
            have hb6 : Below w5.heap.size w5 w6 := hw6 ▸ below_alloc (Below.refl _ _) _
            have hblk6 : w6.heap[w5.heap.size]? = some (.cells #[.int .i64 0, .slice none 0 0] 37 (0, 0)) := by rw [hw6]; exact heap_alloc_new w5 _
            have HE6 := Aside0.mk (HE5.out.below hb6)
            have x26 := pw_cell_below hb6 x25
            have HW6 := Aside0.mk hw6
            clear hb6 hw6 x25
            go_upto_region 15 with fail
            rw [← HW6.out]
            go_wp2_with fail
            refine (rtake_no (w.heap.size + 1) w.heap.size (fun _ => True) svR xs sz lost ix w6 HE6.out.2.2.1 (by omega)).mono ?_
            rintro e w7 ⟨rfl, hb7⟩
            have hblk7 := (hb7.block w5.heap.size (blk_lt hblk6)).trans hblk6
            have HE7 := Aside0.mk (HE6.out.below hb7)
            clear hb7 hblk6
            obtain ⟨w8, hw8⟩ : ∃ w8 : World, w8 = w7.alloc (.cells #[.int .i64 0, .slice none 0 0] 37) := ⟨_, rfl⟩
            have hb8 : Below w7.heap.size w7 w8 := hw8 ▸ below_alloc (Below.refl _ _) _
            have hblk8 : w8.heap[w7.heap.size]? = some (.cells #[.int .i64 0, .slice none 0 0] 37 (0, 0)) := by rw [hw8]; exact heap_alloc_new w7 _
            have hblk8' := (hb8.block w5.heap.size (blk_lt hblk7)).trans hblk7
            have HE8 := Aside0.mk (show Played w sz (k + 1) w8 from ⟨_, _, xs, lost, HE7.out.below hb8, hx1, hx2, by omega, HX7.out⟩)
            have y0 := (blk_cell hblk8 0).trans rfl
            have y1 := (blk_cell hblk8 1).trans rfl
            have z0 := (blk_cell hblk8' 0).trans rfl
            have z1 := (blk_cell hblk8' 1).trans rfl
            have HW8 := Aside0.mk hw8
            clear hb8 hw8 hblk7 hblk8 hblk8'
            go_upto_region 16 with fail
            rw [← HW8.out]
            go_wp2_with fail
            refine (same_any z37 none none 0 0 w8 (Kd.C_nil _ _) (Kd.C_nil _ _)).mono ?_
            rintro e w9 ⟨rfl, hb9⟩
            have HE9 := Aside0.mk (HE8.out.below hb9)
            clear hb9
            go_wp2
            go_meet
            exact ⟨rfl, HE9⟩
        by_cases k3 : kd = 3
        · subst k3
          by_cases hix : 0 ≤ ix ∧ ix < xs.length
          · obtain ⟨m, rfl⟩ : ∃ m : Nat, ix = m := ⟨ix.toNat, by omega⟩
            go_wp2_with fail
            refine (rtake_yes (w.heap.size + 1) w.heap.size (fun _ => True) svR xs sz lost m W4 HM4.out.2.2.1 (by omega) (by omega) hwW (fun _ _ => trivial)).mono ?_
            rintro e w5 ⟨A5, c5, rfl, ho5, svR5, hr5, hs5⟩
            have HM5 := Aside0.mk (HM4.out.midR hs5 hr5)
            have x25 := (blk_cell (box_keep hs5 HBLK.out hnr hnsR) 2).trans rfl
            have hbl5 := below_alloc (Below.refl w5.heap.size w5) (.cells #[.int .i64 (xs.getD m z37).f0, .slice A5 (xs.getD m z37).f1.length c5] 37)
            have HM6 := Aside0.mk (HM5.out.below hbl5)
            have x26 := pw_cell_below hbl5 x25
            generalize hx : xs.getD m z37 = x at *
            clear hr5 hs5 ho5 hx hbl5
            go_wp2_with fail
            refine (drop_yes w.heap.size w.heap.size (fun _ => True) sv xs sz lost m _ HM6.out.n (by omega) (by omega) HM6.out.b.size).mono ?_
            rintro e w7 ⟨rfl, sv7, hn7, hs7⟩
            have HE7 := Aside0.mk (show Played w sz (k + 1) w7 from ⟨_, _, _, lost, HM6.out.bothN hs7 hn7, by rw [List.length_eraseIdx]; split <;> omega, hx2, by omega, fun y hy => HX7.out y (List.mem_of_mem_eraseIdx hy)⟩)
            clear hn7 hs7
            go_wp2
            go_meet
            exact ⟨rfl, HE7⟩
          · go_wp2_with fail
            refine (rtake_no (w.heap.size + 1) w.heap.size (fun _ => True) svR xs sz lost ix W4 HM4.out.2.2.1 (by omega)).mono ?_
            rintro e w5 ⟨rfl, hb5⟩
            have hbl5 := below_step hb5 (below_alloc (Below.refl w5.heap.size w5) (.cells #[.int .i64 0, .slice none 0 0] 37))
            have x26 := pw_cell_below hbl5 x2
            have HE6 := Aside0.mk (HM4.out.below hbl5)
            clear hb5 hbl5
            go_wp2_with fail
            refine (drop_no w.heap.size w.heap.size (fun _ => True) sv xs sz lost ix _ HE6.out.2.1 (by omega)).mono ?_
            rintro e w7 ⟨rfl, rfl⟩
            have HE7 := Aside0.mk (show Played w sz (k + 1) _ from ⟨_, _, xs, lost, HE6.out, hx1, hx2, by omega, HX7.out⟩)
            go_wp2
            go_meet
            exact ⟨rfl, HE7⟩
        by_cases k4 : kd = 4
        · subst k4
          by_cases hix : 0 ≤ ix ∧ ix < xs.length
          · obtain ⟨m, rfl⟩ : ∃ m : Nat, ix = m := ⟨ix.toNat, by omega⟩
            have hxm : (xs.getD m z37).f1.length ≤ 60 := HX7.out _ (by rw [List.getD_eq_getElem?_getD, List.getElem?_eq_getElem (by omega)]; exact List.getElem_mem _)
            by_cases hf : sz ≤ xs.length
            · go_upto_region 23 with fail
              go_region_law (go_simp; (first | (go_at_call 16; refine (double_full w.heap.size w.heap.size (fun _ => True) sv xs sz lost m _ (HM4.out.2.1.below ?_) (by omega) hf).mono ?_; (repeat (first | exact Below.refl _ _ | apply Below.drew | apply pw_below_drewN)); rintro e w5 ⟨rfl, hd5⟩; have HE5 := Aside0.mk (show Both w sz w5 sv svR xs lost from (HM4.out.below (by repeat (first | exact Below.refl _ _ | apply Below.drew | apply pw_below_drewN))).below hd5.below); have x25 := pw_cell_below hd5.below x2; clear hd5) | (go_at_call 22; refine (rdouble_full (w.heap.size + 1) w.heap.size (fun _ => True) svR xs sz lost m _ (HE5.out.2.2.1.below ?_) (by omega) hf).mono ?_; (repeat (first | exact Below.refl _ _ | apply Below.drew | apply pw_below_drewN)); rintro e w6 ⟨rfl, hb6⟩; have HE := Aside0.mk (show Played w sz (k + 1) w6 from ⟨_, _, xs, lost, (HE5.out.below (by repeat (first | exact Below.refl _ _ | apply Below.drew | apply pw_below_drewN))).below hb6, hx1, hx2, by omega, HX7.out⟩); clear hb6)))
              all_goals go_wp2
              all_goals go_meet
              all_goals exact ⟨rfl, HE⟩
            · go_upto_region 23 with fail
              go_region_law (go_simp; (first | (go_at_call 16; refine (double_yes w.heap.size w.heap.size (fun _ => True) sv xs sz lost m _ (HM4.out.2.1.below ?_) (by omega) (by omega) hsz2 (by omega) (by exact hwW) (fun _ _ => trivial)).mono ?_; (repeat (first | exact Below.refl _ _ | apply Below.drew | apply pw_below_drewN)); rintro e w5 ⟨rfl, sv5, hn5, hs5⟩; have HM5 := Aside0.mk (show Mid w sz w5 sv5 svR (xs ++ [xs.getD m z37]) xs lost lost from (HM4.out.below (by repeat (first | exact Below.refl _ _ | apply Below.drew | apply pw_below_drewN))).mid hs5 hn5); have x25 := (blk_cell (box_keep hs5 HBLK.out hnb hns) 2).trans rfl; clear hn5 hs5) | (go_at_call 22; refine (rdouble_yes (w.heap.size + 1) w.heap.size (fun _ => True) svR xs sz lost m _ (HM5.out.r.below ?_) (by omega) (by omega) hsz2 (by omega) (by exact HM5.out.b.size) (fun _ _ => trivial)).mono ?_; (repeat (first | exact Below.refl _ _ | apply Below.drew | apply pw_below_drewN)); rintro e w6 ⟨rfl, svR6, hr6, hs6⟩; have HE := Aside0.mk (show Played w sz (k + 1) w6 from ⟨_, _, xs ++ [xs.getD m z37], lost, (HM5.out.below (by repeat (first | exact Below.refl _ _ | apply Below.drew | apply pw_below_drewN))).both hs6 hr6, by simp; omega, by omega, by omega, fun x hx => (List.mem_append.1 hx).elim (fun h => HX7.out x h) (fun h => by rw [List.mem_singleton.1 h]; exact hxm)⟩); clear hr6 hs6)))
              all_goals go_wp2
              all_goals go_meet
              all_goals exact ⟨rfl, HE⟩
          · go_upto_region 23 with fail
            go_region_law (go_simp; (first | (go_at_call 16; refine (double_out w.heap.size w.heap.size (fun _ => True) sv xs sz lost ix _ (HM4.out.2.1.below ?_) (by omega)).mono ?_; (repeat (first | exact Below.refl _ _ | apply Below.drew | apply pw_below_drewN)); rintro e w5 ⟨rfl, hd5⟩; have HE5 := Aside0.mk (show Both w sz w5 sv svR xs lost from (HM4.out.below (by repeat (first | exact Below.refl _ _ | apply Below.drew | apply pw_below_drewN))).below hd5.below); have x25 := pw_cell_below hd5.below x2; clear hd5) | (go_at_call 22; refine (rdouble_out (w.heap.size + 1) w.heap.size (fun _ => True) svR xs sz lost ix _ (HE5.out.2.2.1.below ?_) (by omega)).mono ?_; (repeat (first | exact Below.refl _ _ | apply Below.drew | apply pw_below_drewN)); rintro e w6 ⟨rfl, hb6⟩; have HE := Aside0.mk (show Played w sz (k + 1) w6 from ⟨_, _, xs, lost, (HE5.out.below (by repeat (first | exact Below.refl _ _ | apply Below.drew | apply pw_below_drewN))).below hb6, hx1, hx2, by omega, HX7.out⟩); clear hb6)))
            all_goals go_wp2
            all_goals go_meet
            all_goals exact ⟨rfl, HE⟩
        by_cases k5 : kd = 5
        · subst k5
          by_cases hix : 0 ≤ ix ∧ ix < xs.length
          · obtain ⟨m, rfl⟩ : ∃ m : Nat, ix = m := ⟨ix.toNat, by omega⟩
            have hxm : (xs.getD m z37).f1.length ≤ 60 := HX7.out _ (by rw [List.getD_eq_getElem?_getD, List.getElem?_eq_getElem (by omega)]; exact List.getElem_mem _)
            go_wp2_with fail
            refine (look_yes w.heap.size w.heap.size (fun _ => True) sv xs sz lost m W4 HM4.out.2.1 (by omega) (by omega) (by omega)).mono ?_
            rintro e w5 ⟨⟨A5, c5, rfl, ho5⟩, hb5⟩
            have x25 := pw_cell_below hb5 x2
            have HE5 := Aside0.mk (HM4.out.below hb5)
            generalize hx : xs.getD m z37 = x at *
            have HX := Aside0.mk hx
            have HO5 := Aside0.mk ho5
            clear hb5 ho5 hx
            obtain ⟨w6, hw6⟩ : ∃ w6 : World, w6 = w5.alloc (.cells #[.int .i64 x.f0, .slice A5 x.f1.length c5] 37) := ⟨_, rfl⟩
            have hb6 : Below w5.heap.size w5 w6 := hw6 ▸ below_alloc (Below.refl _ _) _
            have hblk6 : w6.heap[w5.heap.size]? = some (.cells #[.int .i64 x.f0, .slice A5 x.f1.length c5] 37 (0, 0)) := by rw [hw6]; exact heap_alloc_new w5 _
            have HE6 := Aside0.mk (HE5.out.below hb6)
            have HO6 := Aside0.mk (Kd.R_below HO5.out hb6)
            have x26 := pw_cell_below hb6 x25
            have HW6 := Aside0.mk hw6
            clear hb6 hw6 x25
            go_upto_region 27 with fail
            rw [← HW6.out]
            go_wp2_with fail
            refine (rlook_yes (w.heap.size + 1) w.heap.size (fun _ => True) svR xs sz lost m w6 HE6.out.2.2.1 (by omega)).mono ?_
            rintro e w7 ⟨⟨A7, c7, rfl, ho7⟩, hb7⟩
            rw [HX.out] at ho7 ⊢
            have HE7 := Aside0.mk (HE6.out.below hb7)
            have HO7 := Aside0.mk ho7
            have HO7' := Aside0.mk (Kd.R_below HO6.out hb7)
            have hblk7 := (hb7.block w5.heap.size (blk_lt hblk6)).trans hblk6
            clear hb7 ho7 hblk6
            obtain ⟨w8, hw8⟩ : ∃ w8 : World, w8 = w7.alloc (.cells #[.int .i64 x.f0, .slice A7 x.f1.length c7] 37) := ⟨_, rfl⟩
            have hb8 : Below w7.heap.size w7 w8 := hw8 ▸ below_alloc (Below.refl _ _) _
            have hblk8 : w8.heap[w7.heap.size]? = some (.cells #[.int .i64 x.f0, .slice A7 x.f1.length c7] 37 (0, 0)) := by rw [hw8]; exact heap_alloc_new w7 _
            have hblk8' := (hb8.block w5.heap.size (blk_lt hblk7)).trans hblk7
            have HE8 := Aside0.mk (show Played w sz (k + 1) w8 from ⟨_, _, xs, lost, HE7.out.below hb8, hx1, hx2, by omega, HX7.out⟩)
            have HC8 := Aside0.mk (Kd.C_below (Kd.R_reads' HO7.out).2.2 hb8)
            have HC8' := Aside0.mk (Kd.C_below (Kd.R_reads' HO7'.out).2.2 hb8)
            have y0 := (blk_cell hblk8 0).trans rfl
            have y1 := (blk_cell hblk8 1).trans rfl
            have z0 := (blk_cell hblk8' 0).trans rfl
            have z1 := (blk_cell hblk8' 1).trans rfl
            have HW8 := Aside0.mk hw8
            clear hb8 hw8 hblk7 hblk8 hblk8'
            go_upto_region 28 with fail
            rw [← HW8.out]
            go_wp2_with fail
            refine (same_any x A5 A7 c5 c7 w8 HC8'.out HC8.out).mono ?_
            rintro e w9 ⟨rfl, hb9⟩
            have HE9 := Aside0.mk (HE8.out.below hb9)
            clear hb9
            go_wp2
            go_meet
            exact ⟨rfl, HE9⟩
          · go_wp2_with fail
            refine (look_no w.heap.size w.heap.size (fun _ => True) sv xs sz lost ix W4 HM4.out.2.1 (by omega)).mono ?_
            rintro e w5 ⟨rfl, hb5⟩
            have x25 := pw_cell_below hb5 x2
            have HE5 := Aside0.mk (HM4.out.below hb5)
            clear hb5
            obtain ⟨w6, hw6⟩ : ∃ w6 : World, w6 = w5.alloc (.cells #[.int .i64 0, .slice none 0 0] 37) := ⟨_, rfl⟩
            have hb6 : Below w5.heap.size w5 w6 := hw6 ▸ below_alloc (Below.refl _ _) _
            have hblk6 : w6.heap[w5.heap.size]? = some (.cells #[.int .i64 0, .slice none 0 0] 37 (0, 0)) := by rw [hw6]; exact heap_alloc_new w5 _
            have HE6 := Aside0.mk (HE5.out.below hb6)
            have x26 := pw_cell_below hb6 x25
            have HW6 := Aside0.mk hw6
            clear hb6 hw6 x25
            go_upto_region 27 with fail
            rw [← HW6.out]
            go_wp2_with fail
            refine (rlook_no (w.heap.size + 1) w.heap.size (fun _ => True) svR xs sz lost ix w6 HE6.out.2.2.1 (by omega)).mono ?_
            rintro e w7 ⟨rfl, hb7⟩
            have hblk7 := (hb7.block w5.heap.size (blk_lt hblk6)).trans hblk6
            have HE7 := Aside0.mk (HE6.out.below hb7)
            clear hb7 hblk6
            obtain ⟨w8, hw8⟩ : ∃ w8 : World, w8 = w7.alloc (.cells #[.int .i64 0, .slice none 0 0] 37) := ⟨_, rfl⟩
            have hb8 : Below w7.heap.size w7 w8 := hw8 ▸ below_alloc (Below.refl _ _) _
            have hblk8 : w8.heap[w7.heap.size]? = some (.cells #[.int .i64 0, .slice none 0 0] 37 (0, 0)) := by rw [hw8]; exact heap_alloc_new w7 _
            have hblk8' := (hb8.block w5.heap.size (blk_lt hblk7)).trans hblk7
            have HE8 := Aside0.mk (show Played w sz (k + 1) w8 from ⟨_, _, xs, lost, HE7.out.below hb8, hx1, hx2, by omega, HX7.out⟩)
            have y0 := (blk_cell hblk8 0).trans rfl
            have y1 := (blk_cell hblk8 1).trans rfl
            have z0 := (blk_cell hblk8' 0).trans rfl
            have z1 := (blk_cell hblk8' 1).trans rfl
            have HW8 := Aside0.mk hw8
            clear hb8 hw8 hblk7 hblk8 hblk8'
            go_upto_region 28 with fail
            rw [← HW8.out]
            go_wp2_with fail
            refine (same_any z37 none none 0 0 w8 (Kd.C_nil _ _) (Kd.C_nil _ _)).mono ?_
            rintro e w9 ⟨rfl, hb9⟩
            have HE9 := Aside0.mk (HE8.out.below hb9)
            clear hb9
            go_wp2
            go_meet
            exact ⟨rfl, HE9⟩
        go_wp2
        go_meet
        exact ⟨rfl, KEEP⟩
      case rest =>
        clear HM4 HB4 HW4 HBO HR HBLK HX7 x0 x1 x2 hns hnsR hnb hnr
        obtain ⟨rfl, HRR⟩ := hcut
        obtain ⟨sv, svR, xs, lost, hbo, hx1, hx2, hx3, hx7⟩ := HRR.out
        obtain ⟨B5, c5, e5, -, -⟩ := hbo.2.1.form
        have n0 : wc.cell? ⟨w.heap.size, 0, none⟩ = some (.slice B5 xs.length c5) := e5 ▸ hbo.2.1.cell0
        have n2 : wc.cell? ⟨w.heap.size, 2, none⟩ = some (.int .i64 lost) := hbo.2.1.cell2
        obtain ⟨R5, d5, e6, -, hrc⟩ := hbo.2.2.1.form
        have r1 : wc.cell? ⟨w.heap.size + 1, 1, none⟩ = some (.slice R5 xs.length d5) := e6 ▸ hbo.2.2.1.cell1
        have r2 : wc.cell? ⟨w.heap.size + 1, 2, none⟩ = some (.int .i64 lost) := hbo.2.2.1.cell2
        have HRC := Aside0.mk hrc
        have HBO := Aside0.mk hbo
        have HX7 := Aside0.mk hx7
        clear hbo hx7 hrc e5 e6
        go_upto_region 30 with fail
        have HX3 := Aside0.mk (⟨hx1, hx2, hx3⟩ : (xs.length : Int) ≤ sz ∧ 0 ≤ lost ∧ lost ≤ (k + 1 : Nat))
        have HL5 := Aside0.mk (show ∀ x ∈ xs, x.f1.length ≤ 140737488355328 from fun x hx => by have := HX7.out x hx; omega)
        have HLX := Aside0.mk (show xs.length < 1000 by omega)
        go_region_held3 (fun w' => w'.cell? ⟨w.heap.size + 1, 1, none⟩ = some (.slice R5 xs.length d5) ∧ w'.cell? ⟨w.heap.size + 1, 2, none⟩ = some (.int .i64 lost)) (first | exact ⟨k6.out, k7.out⟩ | exact ⟨k0.out, k1.out⟩ | exact ⟨r1, r2⟩ | go_keep) (first | (go_at_call 10; refine (len_any w.heap.size xs.length c5 B5 _ (by exact n0)).mono ?_; rintro e w' ⟨rfl, rfl⟩) | (go_at_call 11; refine (lost_any w.heap.size lost _ (by exact n2)).mono ?_; rintro e w' ⟨rfl, rfl⟩) | (go_at_call 18; refine (all_any w.heap.size w.heap.size (fun _ => True) sv xs sz lost _ (HBO.out.2.1.below ?_) HLX.out HL5.out).mono ?_; (repeat (first | exact Below.refl _ _ | apply Below.drew | apply pw_below_drewN)); rintro e w5 ⟨v5, rfl, hR5, hb5⟩; obtain ⟨A5, c6, rfl⟩ := Kd.R_slice hR5; have HC5 := Aside0.mk (Kd.R_reads' hR5).2.2; have hb5' : Below wc.heap.size wc w5 := below_step (by repeat (first | exact Below.refl _ _ | apply Below.drew | apply pw_below_drewN)) hb5; have HB5 := Aside0.mk hb5'; have k0 := Aside0.mk (pw_cell_below hb5' r1); have k1 := Aside0.mk (pw_cell_below hb5' r2); clear hR5 hb5 hb5') | (go_at_call 24; refine (same_packets xs A5 R5 c6 d5 _ (Kd.C_below HC5.out ?_) (Kd.C_below HRC.out ?_)).mono ?_; (repeat (first | exact Below.refl _ _ | apply Below.drew | apply pw_below_drewN)); (repeat (first | exact HB5.out | apply Below.drew | apply pw_below_drewN)); rintro e w6 ⟨rfl, hb6⟩; have hb6' : Below wc.heap.size wc w6 := below_step (by repeat (first | exact HB5.out | apply Below.drew | apply pw_below_drewN)) hb6; have k6 := Aside0.mk (pw_cell_below hb6' r1); have k7 := Aside0.mk (pw_cell_below hb6' r2); have HE := Aside0.mk (show Played w sz (k + 1) w6 from ⟨sv, svR, xs, lost, HBO.out.below hb6', HX3.out.1, HX3.out.2.1, HX3.out.2.2, HX7.out⟩); clear hb6 hb6'))
        all_goals (
          go_wp2
          go_roundg gk
          case measure => omega
          case rel => exact ⟨k + 1, by go_num, ⟨by have := HK.out; omega⟩, HE⟩)
    · have hge : ¬ ((k : Int) < q.length) := by omega
      have HB := Aside0.mk (show Below w.heap.size w _ from by obtain ⟨_, _, _, _, h, _⟩ := HR.out; exact h.1)
      clear HR
      go_wp2_with fail
      refine (begun_any _).mono ?_
      rintro e w4 ⟨rfl, hb4⟩
      have HB4 := Aside0.mk (below_step HB.out hb4)
      clear hb4
      go_wp2
      go_ret
      exact ⟨rfl, HB4.out⟩
end Go.Proofs.Ytcjeideiigdidaa.Net
