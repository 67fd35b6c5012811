/-
NetworkKeeps answers true at every list of calls: the walk.
Conditions: none.
-/
import Derived.Test.YtcjeideiigdidaaOrders
import Derived.Deep.DeepCutAuto
import Derived.Deep.CutBlock
namespace Go.Proofs.Ytcjeideiigdidaa.Net
open Go.RowKit Go.Proofs.YtcjeideiigdidaaW.PrintWords Go.Proofs.YtcjeideiigdidaaW.PrintLast Go.Proofs.YtcjeideiigdidaaW.PrintMore
attribute [local go_sem] min_two
set_option linter.unusedVariables false
set_option linter.unusedSimpArgs false

/-- A call. -/
abbrev S43 := Int × Int × Int × List Int
abbrev k43 : Kd S43 := Kd.pair (Kd.int .i64) (Kd.pair (Kd.int .i64) (Kd.pair (Kd.int .i64) (Kd.slice 5 (Kd.int .u8))))
def z43 : S43 := (0, 0, 0, [])
theorem add_cell (ad : Addr) (n j : Nat) : ad.add (n + (j + 1)) = ⟨(ad.add n).block, (ad.add n).off + (j + 1), none⟩ := by
  unfold Addr.add
  rw [if_neg (by omega)]
  split
  · simp_all
  · simp only [Nat.add_assoc]
theorem at_43 {w : World} {A : Option Addr} {n : Nat} {xs : List S43} (h : k43.C w A n xs) (i : Nat) (h1 : i < n) : ∃ ad A0 c0, A = some ad ∧
    w.cell? (ad.add (i * 4)) = some (.int .i64 (xs.getD i z43).1) ∧ w.cell? ⟨(ad.add (i * 4)).block, (ad.add (i * 4)).off + 1, none⟩ = some (.int .i64 (xs.getD i z43).2.1) ∧ w.cell? ⟨(ad.add (i * 4)).block, (ad.add (i * 4)).off + 2, none⟩ = some (.int .i64 (xs.getD i z43).2.2.1) ∧
    w.cell? ⟨(ad.add (i * 4)).block, (ad.add (i * 4)).off + 3, none⟩ = some (.slice A0 (xs.getD i z43).2.2.2.length c0) ∧ (xs.getD i z43).2.2.2.length ≤ c0 ∧ (Kd.int .u8).C w A0 (xs.getD i z43).2.2.2.length (xs.getD i z43).2.2.2 := by
  obtain ⟨ad, c, e, _, hK, hc0⟩ := Kd.C_get h z43 i (by omega) (by omega)
  have hc : ∀ j u, c[j]? = some u → w.cell? (ad.add ((i : Int).toNat * 4 + j)) = some u := hc0
  obtain ⟨x1, x2, rfl, e1, x3, x4, rfl, e2, x5, x6, rfl, e3, A0, c0, rfl, l0, g0⟩ := hK
  obtain rfl := e1
  obtain rfl := e2
  obtain rfl := e3
  rw [Int.toNat_natCast] at l0 g0 hc
  exact ⟨ad, A0, c0, e, hc 0 _ rfl, (add_cell ad (i * 4) 0) ▸ hc 1 _ rfl, (add_cell ad (i * 4) 1) ▸ hc 2 _ rfl, (add_cell ad (i * 4) 2) ▸ hc 3 _ rfl, l0, g0⟩

theorem info43' : ∃ i : TypeInfo, Try.prog.info? 43 = some i := Option.isSome_iff_exists.1 (by kernel_rfl : (Try.prog.info? 43).isSome = true)
theorem cut41 (A : Option Addr) (n c q : Nat) (h : q ≤ n) (hc : n ≤ c) : ∀ W : World, (Instr.slice 41 (.slice A n c) none (some (.int .i64 q)) none).run Try.prog W = .ok (.slice A q c) W := by
  obtain ⟨i, hi⟩ := info43'
  intro W
  have := cut_to (P := Try.prog) 41 43 .i64 Try.underlying41 hi A n c q (by omega) (by omega) hc W
  simpa using this

theorem lost_any' (b : Nat) (lost : Int) (w : World) (h0 : w.cell? ⟨b, 2, none⟩ = some (.int .i64 lost)) :
    Calls Try.prog 11 #[.pointer (some ⟨b, 0, none⟩)] w fun e w' => e = .returned (.int .i64 lost) ∧ w' = w := (lost_any b lost w h0).mono fun e w' h => ⟨h.1, h.2.symm⟩

/-- What is known at the head of a round. -/
def Kept (w0 : World) (size : Int) (k : Nat) (nin nout nlost : Int) (W : World) : Prop :=
  Below w0.heap.size w0 W ∧ ∃ sv xs, Net W w0.heap.size w0.heap.size (fun _ => True) sv xs size nlost ∧ nin - nout = xs.length ∧ xs.length ≤ size ∧ 0 ≤ nlost ∧ nlost ≤ k ∧ 0 ≤ nout ∧ nin ≤ k ∧ ∀ x ∈ xs, x.f1.length ≤ 60

theorem Kept.below {w0 W W' : World} {size : Int} {k : Nat} {nin nout nlost : Int} (h : Kept w0 size k nin nout nlost W) (b : Below W.heap.size W W') : Kept w0 size k nin nout nlost W' := by
  obtain ⟨h1, sv, xs, h2, h3⟩ := h
  exact ⟨below_step h1 b, sv, xs, h2.below b, h3⟩
theorem Kept.alloc {w0 W : World} {size : Int} {k : Nat} {nin nout nlost : Int} (h : Kept w0 size k nin nout nlost W) (o : Obj) : Kept w0 size k nin nout nlost (W.alloc o) := h.below (below_alloc (Below.refl _ _) _)

set_option maxRecDepth 100000 in
set_option maxHeartbeats 8000000 in
theorem keeps_walk (a0 : Int) (l : List S43) (A : Option Addr) (c : Nat) (w : World) (h0 : 0 ≤ a0) (h1 : a0 ≤ 255) (hC : k43.C w A l.length l) (hc : l.length ≤ c) :
    Calls Try.prog 5 #[.int .u8 a0, .slice A l.length c] w fun e w' => e = .returned (.bool true) ∧ Below w.heap.size w w' := by
  obtain ⟨q, hq⟩ : ∃ q, q = l.take 300 := ⟨_, rfl⟩
  have hmin : Builtin.min2 (.int .i64 (l.length : Int)) (.int .i64 300) = pure (.int .i64 ((l.take 300).length : Int)) := min_len 300 l
  rw [← hq] at hmin
  have hql : q.length ≤ l.length := by rw [hq, List.length_take]; omega
  have hq300 : q.length ≤ 300 := by rw [hq, List.length_take]; omega
  have hcut := cut41 A l.length c q.length hql hc
  have HQ := Aside0.mk (show k43.C w A q.length q from by rw [hq]; exact C_take' hC 300)
  have hqc : q.length ≤ c := Nat.le_trans hql hc
  clear hC hq
  obtain ⟨sz, hsz⟩ : ∃ sz : Int, sz = 1 + a0 := ⟨_, rfl⟩
  have hw1 : IntKind.i64.wrap a0 = a0 := wrap_sm _ (by omega) (by omega)
  have hw2 : IntKind.i64.wrap (1 + a0) = sz := (wrap_sm _ (by omega) (by omega)).trans hsz.symm
  have hsz1 : 1 ≤ sz := by omega
  have hsz2 : sz ≤ 256 := by omega
  clear hsz
  go_enter Try.func5, Try.ntmps5
  go_wp2_with fail
  refine (new_ok sz w hsz1 hsz2).mono ?_
  rintro e w1 ⟨rfl, hw1⟩
  have HN1 := Aside0.mk (show Kept w sz 0 0 0 0 w1 from hw1 ▸ ⟨below_alloc (Below.refl _ _) _, _, [], net_new w _ _ sz (Nat.le_refl _), by simp, by simp; omega, by omega, by omega, by omega, by omega, by simp⟩)
  clear hw1
  go_wp2_with fail
  go_loopg [37, 8, 9, 10] q.length (fun gk i s8 s9 s10 wr => ∃ (k : Nat) (nin nout nlost : Int), i = .int .i64 k ∧ s8 = .int .i64 nin ∧ s9 = .int .i64 nout ∧ s10 = .int .i64 nlost ∧ Aside0 (k + gk = q.length) ∧ Aside0 (Kept w sz k nin nout nlost wr))
  case atStart => exact ⟨0, 0, 0, 0, rfl, rfl, rfl, rfl, ⟨by omega⟩, ⟨HN1.out⟩⟩
  case round =>
    obtain ⟨k, nin, nout, nlost, rfl, rfl, rfl, rfl, HK, HR⟩ := hrel
    by_cases hk6 : k < q.length
    · have hlt : (k : Int) < q.length := by omega
      have h00 : (0 : Int) ≤ (k : Int) := by omega
      obtain ⟨gk, rfl⟩ : ∃ g, gk = g + 1 := ⟨gk - 1, by have := HK.out; omega⟩
      obtain ⟨ad, A0, c0, rfl, f0, f1, f2, f3, hlc, hCe⟩ := at_43 (Kd.C_below HQ.out HR.out.1) k hk6
      obtain ⟨cl, hcl⟩ : ∃ cl, cl = q.getD k z43 := ⟨_, rfl⟩
      rw [← hcl] at f0 f1 f2 f3 hlc hCe
      clear hcl
      obtain ⟨kd, t0, ix, bs⟩ := cl
      clear hmin hcut hw1 hw2
      have HCe := Aside0.mk (show (Kd.int .u8).C wr A0 bs.length bs from hCe)
      have hlc' : bs.length ≤ c0 := hlc
      obtain ⟨ndd, sv, xs, hn, hx1, hx2, hx3, hx4, hx5, hx6, hx7⟩ := HR.out
      have HN := Aside0.mk hn
      have HX7 := Aside0.mk hx7
      obtain ⟨B5, c5, e5, -, -⟩ := hn.form
      have n0 : wr.cell? ⟨w.heap.size, 0, none⟩ = some (.slice B5 xs.length c5) := e5 ▸ hn.cell0
      clear hn hx7 e5 hCe hlc ndd
      go_upto_block 2 with (go_at_call 10; refine (len_any w.heap.size xs.length c5 B5 _ (pw_cell_below (below_alloc (Below.refl _ _) _) n0)).mono ?_; rintro e w' ⟨rfl, rfl⟩)
      obtain ⟨W4, hW4⟩ : ∃ W4 : World, W4 = wr.alloc (.cells #[.int .i64 kd, .int .i64 t0, .int .i64 ix, .slice A0 bs.length c0] 43) := ⟨_, rfl⟩
      have HB4 := Aside0.mk (show Below wr.heap.size wr W4 from hW4 ▸ below_alloc (Below.refl _ _) _)
      have x0 : W4.cell? ⟨wr.heap.size, 0, none⟩ = some (.int .i64 kd) := by rw [hW4]; go_simp
      have x1 : W4.cell? ⟨wr.heap.size, 1, none⟩ = some (.int .i64 t0) := by rw [hW4]; go_simp
      have x2 : W4.cell? ⟨wr.heap.size, 2, none⟩ = some (.int .i64 ix) := by rw [hW4]; go_simp
      have x3 : W4.cell? ⟨wr.heap.size, 3, none⟩ = some (.slice A0 bs.length c0) := by rw [hW4]; go_simp
      have HW4 := Aside0.mk hW4
      clear hW4 f0 f1 f2 f3
      rw [← HW4.out]
      have HN4 := Aside0.mk (HN.out.below HB4.out)
      have HB04 := Aside0.mk (below_step HR.out.1 HB4.out)
      have hszW : w.heap.size ≤ W4.heap.size := HB04.out.size
      have n4 := pw_cell_below HB4.out n0
      clear n0
      obtain ⟨full, hfull⟩ : ∃ full : Bool, full = ((xs.length : Int) == sz) := ⟨_, rfl⟩
      rw [← hfull]
      have HF := Aside0.mk hfull
      clear hfull
      go_cut [8, 9, 10] (fun s8 s9 s10 wx => ∃ (nin nout nlost : Int), s8 = .int .i64 nin ∧ s9 = .int .i64 nout ∧ s10 = .int .i64 nlost ∧ Aside0 (Kept w sz (k + 1) nin nout nlost wx))
      case first =>
        have KEEP := Aside0.mk (show Kept w sz (k + 1) nin nout nlost W4 from ⟨HB04.out, sv, xs, HN4.out, hx1, hx2, hx3, by omega, hx5, by omega, HX7.out⟩)
        have w1' : IntKind.i64.wrap (nin + 1) = nin + 1 := wrap_sm _ (by omega) (by omega)
        have w2' : IntKind.i64.wrap (nout + 1) = nout + 1 := wrap_sm _ (by omega) (by omega)
        have w3' : IntKind.i64.wrap (nlost + 1) = nlost + 1 := wrap_sm _ (by omega) (by omega)
        by_cases k1 : kd = 1
        · subst k1
          obtain ⟨p, hp⟩ : ∃ p, p = bs.take 60 := ⟨_, rfl⟩
          have hpl : p.length ≤ bs.length := by rw [hp, List.length_take]; omega
          have hp60 : p.length ≤ 60 := by rw [hp, List.length_take]; omega
          have hmin2 : Builtin.min2 (.int .i64 (bs.length : Int)) (.int .i64 60) = pure (.int .i64 (p.length : Int)) := by rw [hp]; exact min_len 60 bs
          have hcut2 := cut34 A0 bs.length c0 p.length hpl hlc'
          have HP := Aside0.mk (show (Kd.int .u8).C W4 A0 p.length p from by rw [hp]; exact C_take' (Kd.C_below HCe.out HB4.out) 60)
          have HPL := Aside0.mk hp60
          clear hp
          by_cases hf : sz ≤ xs.length
          · obtain rfl : full = true := by rw [HF.out]; simp; omega
            go_upto_region 12 with fail
            go_region_law (go_simp; (go_at_call 13; refine (send_full w.heap.size w.heap.size (fun _ => True) sv xs sz nlost t0 A0 p.length c0 _ (HN4.out.below ?_) hf hx3 (by omega)).mono ?_; (repeat (first | exact Below.refl _ _ | apply Below.drew | apply pw_below_drewN)); rintro e w5 ⟨rfl, hn5, hs5⟩; have HE := Aside0.mk (show Kept w sz (k + 1) nin nout (nlost + 1) w5 from ⟨(HB04.out.trans (by repeat (first | exact Below.refl _ _ | apply Below.drew | apply pw_below_drewN))).trans (hs5.below (HN4.out.below (by repeat (first | exact Below.refl _ _ | apply Below.drew | apply pw_below_drewN)))), sv, xs, hn5, hx1, hx2, by omega, by omega, hx5, by omega, HX7.out⟩); clear hn5 hs5))
            all_goals go_wp2
            all_goals go_meet
            all_goals exact ⟨_, _, _, rfl, rfl, rfl, HE⟩
          · obtain rfl : full = false := by rw [HF.out]; simp; omega
            go_upto_region 12 with fail
            go_region_law (go_simp; (go_at_call 13; refine (send_room w.heap.size w.heap.size (fun _ => True) sv xs sz nlost t0 A0 c0 p _ (HN4.out.below ?_) (by omega) hsz2 (Kd.C_below HP.out ?_) (by omega) (by exact hszW) (fun _ _ => trivial)).mono ?_; (repeat (first | exact Below.refl _ _ | apply Below.drew | apply pw_below_drewN)); (repeat (first | exact Below.refl _ _ | apply Below.drew | apply pw_below_drewN)); rintro e w5 ⟨rfl, sv5, hn5, hs5⟩; have HE := Aside0.mk (show Kept w sz (k + 1) (nin + 1) nout nlost w5 from ⟨(HB04.out.trans (by repeat (first | exact Below.refl _ _ | apply Below.drew | apply pw_below_drewN))).trans (hs5.below (HN4.out.below (by repeat (first | exact Below.refl _ _ | apply Below.drew | apply pw_below_drewN)))), sv5, _, hn5, by simp; omega, by simp; omega, hx3, by omega, hx5, by omega, fun x hx => by
              rcases List.mem_append.1 hx with h | h
              · exact HX7.out x h
              · rw [List.mem_singleton.1 h]; exact HPL.out⟩); clear hn5 hs5))
            all_goals go_wp2
            all_goals go_meet
            all_goals exact ⟨_, _, _, rfl, rfl, rfl, HE⟩
        by_cases k2 : kd = 2
        · subst k2
          by_cases hix : 0 ≤ ix ∧ ix < xs.length
          · obtain ⟨m, rfl⟩ : ∃ m : Nat, ix = m := ⟨ix.toNat, by omega⟩
            go_wp2_with fail
            refine (take_yes w.heap.size w.heap.size (fun _ => True) sv xs sz nlost m W4 HN4.out (by omega) (by omega) hszW).mono ?_
            rintro e w5 ⟨A5, c5', rfl, ho5, sv5, hn5, hs5⟩
            have HE := Aside0.mk (show Kept w sz (k + 1) nin (nout + 1) nlost w5 from ⟨HB04.out.trans (hs5.below HN4.out), sv5, _, hn5, by rw [List.length_eraseIdx]; split <;> omega, by rw [List.length_eraseIdx]; split <;> omega, hx3, by omega, by omega, by omega, fun x hx => HX7.out x (List.mem_of_mem_eraseIdx hx)⟩)
            clear ho5 hn5 hs5
            go_wp2
            go_meet
            exact ⟨_, _, _, rfl, rfl, rfl, ⟨HE.out.alloc _⟩⟩
          · go_wp2_with fail
            refine (take_no w.heap.size w.heap.size (fun _ => True) sv xs sz nlost ix W4 HN4.out (by omega)).mono ?_
            rintro e w5 ⟨rfl, hb5⟩
            have HE := Aside0.mk (KEEP.out.below hb5)
            clear hb5
            go_wp2
            go_meet
            exact ⟨_, _, _, rfl, rfl, rfl, ⟨HE.out.alloc _⟩⟩
        by_cases k3 : kd = 3
        · subst k3
          by_cases hix : 0 ≤ ix ∧ ix < xs.length
          · obtain ⟨m, rfl⟩ : ∃ m : Nat, ix = m := ⟨ix.toNat, by omega⟩
            go_wp2_with fail
            refine (drop_yes w.heap.size w.heap.size (fun _ => True) sv xs sz nlost m W4 HN4.out (by omega) (by omega) hszW).mono ?_
            rintro e w5 ⟨rfl, sv5, hn5, hs5⟩
            have HE := Aside0.mk (show Kept w sz (k + 1) nin (nout + 1) nlost w5 from ⟨HB04.out.trans (hs5.below HN4.out), sv5, _, hn5, by rw [List.length_eraseIdx]; split <;> omega, by rw [List.length_eraseIdx]; split <;> omega, hx3, by omega, by omega, by omega, fun x hx => HX7.out x (List.mem_of_mem_eraseIdx hx)⟩)
            clear hn5 hs5
            go_wp2
            go_meet
            exact ⟨_, _, _, rfl, rfl, rfl, HE⟩
          · go_wp2_with fail
            refine (drop_no w.heap.size w.heap.size (fun _ => True) sv xs sz nlost ix W4 HN4.out (by omega)).mono ?_
            rintro e w5 ⟨rfl, rfl⟩
            go_wp2
            go_meet
            exact ⟨_, _, _, rfl, rfl, rfl, KEEP⟩
        by_cases k4 : kd = 4
        · subst k4
          by_cases hix : 0 ≤ ix ∧ ix < xs.length
          · obtain ⟨m, rfl⟩ : ∃ m : Nat, ix = m := ⟨ix.toNat, by omega⟩
            have hxm : (xs.getD m z37).f1.length ≤ 60 := HX7.out _ (by rw [List.getD_eq_getElem?_getD, List.getElem?_eq_getElem (by omega)]; exact List.getElem_mem _)
            by_cases hf : sz ≤ xs.length
            · go_wp2_with fail
              refine (double_full w.heap.size w.heap.size (fun _ => True) sv xs sz nlost m W4 HN4.out (by omega) hf).mono ?_
              rintro e w5 ⟨rfl, nn, rfl⟩
              go_wp2
              go_meet
              exact ⟨_, _, _, rfl, rfl, rfl, ⟨KEEP.out.below (pw_below_drewN (Below.refl _ _) _)⟩⟩
            · obtain rfl : full = false := by rw [HF.out]; simp; omega
              go_wp2_with fail
              refine (double_yes w.heap.size w.heap.size (fun _ => True) sv xs sz nlost m W4 HN4.out (by omega) (by omega) (by omega) (by omega) hszW (fun _ _ => trivial)).mono ?_
              rintro e w5 ⟨rfl, sv5, hn5, hs5⟩
              have HE := Aside0.mk (show Kept w sz (k + 1) (nin + 1) nout nlost w5 from ⟨HB04.out.trans (hs5.below HN4.out), sv5, _, hn5, by simp; omega, by simp; omega, hx3, by omega, by omega, by omega, fun x hx => by
                rcases List.mem_append.1 hx with h | h
                · exact HX7.out x h
                · rw [List.mem_singleton.1 h]; exact hxm⟩)
              clear hn5 hs5
              go_wp2
              go_meet
              exact ⟨_, _, _, rfl, rfl, rfl, HE⟩
          · go_wp2_with fail
            refine (double_out w.heap.size w.heap.size (fun _ => True) sv xs sz nlost ix W4 HN4.out (by omega)).mono ?_
            rintro e w5 ⟨rfl, nn, rfl⟩
            go_wp2
            go_meet
            exact ⟨_, _, _, rfl, rfl, rfl, ⟨KEEP.out.below (pw_below_drewN (Below.refl _ _) _)⟩⟩
        go_wp2
        go_meet
        exact ⟨_, _, _, rfl, rfl, rfl, KEEP⟩
      case rest =>
        clear HN HN4 HB4 HB04 HCe x0 x1 x2 x3 n4 HR HX7
        obtain ⟨nin, nout, nlost, rfl, rfl, rfl, HR⟩ := hcut
        obtain ⟨ndd, sv, xs, hn, hx1, hx2, hx3, hx4, hx5, hx6, hx7⟩ := HR.out
        have HN := Aside0.mk hn
        obtain ⟨B5, c5, e5, -, -⟩ := hn.form
        have n0 : wc.cell? ⟨w.heap.size, 0, none⟩ = some (.slice B5 xs.length c5) := e5 ▸ hn.cell0
        have n2 : wc.cell? ⟨w.heap.size, 2, none⟩ = some (.int .i64 nlost) := hn.cell2
        have s1 : IntKind.i64.wrap (nin - nout) = xs.length := (wrap_sm _ (by omega) (by omega)).trans (by omega)
        have hnd : ¬ (sz < (xs.length : Int)) := by omega
        clear hn hx7 e5 ndd
        go_wp2_with (first | (go_at_call 10; refine (len_any w.heap.size xs.length c5 B5 _ n0).mono ?_; rintro e w' ⟨rfl, rfl⟩) | (go_at_call 11; refine (lost_any w.heap.size nlost _ n2).mono ?_; rintro e w' ⟨rfl, rfl⟩))
        go_roundg gk
        case measure => omega
        case rel => exact ⟨k + 1, _, _, _, by go_num, rfl, rfl, rfl, ⟨by have := HK.out; omega⟩, ⟨by first | exact HR.out | exact HR.out.below (pw_below_drewN (Below.refl _ _) _)⟩⟩
    · have hge : ¬ ((k : Int) < q.length) := by omega
      have HB := Aside0.mk HR.out.1
      clear HR
      go_wp2_with fail
      refine (begun_any _).mono ?_
      rintro e w4 ⟨rfl, hb4⟩
      have HB4 := Aside0.mk (below_step HB.out hb4)
      clear hb4
      go_wp2
      go_ret
      exact ⟨rfl, HB4.out⟩
end Go.Proofs.Ytcjeideiigdidaa.Net
