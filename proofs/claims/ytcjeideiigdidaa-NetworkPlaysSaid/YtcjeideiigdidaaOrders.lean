/-
NetworkOrders answers true at every list of messages: the walk.
Conditions: none.
-/
import Derived.Test.YtcjeideiigdidaaNet4
namespace Go.Proofs.Ytcjeideiigdidaa.Net
open Go.RowKit Go.Proofs.YtcjeideiigdidaaW.PrintWords Go.Proofs.YtcjeideiigdidaaW.PrintLast Go.Proofs.YtcjeideiigdidaaW.PrintMore
attribute [local go_sem] min_two
set_option linter.unusedVariables false
set_option linter.unusedSimpArgs false

theorem info5' : ∃ i : TypeInfo, Try.prog.info? 5 = some i := by
  obtain ⟨i, hi, _⟩ := Option.map_eq_some_iff.1 info5
  exact ⟨i, hi⟩
theorem info34' : ∃ i : TypeInfo, Try.prog.info? 34 = some i := Option.isSome_iff_exists.1 (by kernel_rfl : (Try.prog.info? 34).isSome = true)

/-- 'min(len(b), most)' -/
theorem min_len (most : Nat) {α : Type} (l : List α) : Builtin.min2 (.int .i64 (l.length : Int)) (.int .i64 (most : Int)) = pure (.int .i64 ((l.take most).length : Int)) := by
  rw [min2_int, List.length_take]
  congr 2
  split <;> omega
theorem cut34 (A : Option Addr) (n c q : Nat) (h : q ≤ n) (hc : n ≤ c) : ∀ W : World, (Instr.slice 34 (.slice A n c) none (some (.int .i64 q)) none).run Try.prog W = .ok (.slice A q c) W := by
  obtain ⟨i, hi⟩ := info5'
  intro W
  have := cut_to (P := Try.prog) 34 5 .i64 Try.underlying34 hi A n c q (by omega) (by omega) hc W
  simpa using this
theorem cut33 (A : Option Addr) (n c q : Nat) (h : q ≤ n) (hc : n ≤ c) : ∀ W : World, (Instr.slice 33 (.slice A n c) none (some (.int .i64 q)) none).run Try.prog W = .ok (.slice A q c) W := by
  obtain ⟨i, hi⟩ := info34'
  intro W
  have := cut_to (P := Try.prog) 33 34 .i64 Try.underlying33 hi A n c q (by omega) (by omega) hc W
  simpa using this

def rdB (xs : List (List Int)) (i : Nat) : List Int := xs.getD i []
theorem at_B {w : World} {A : Option Addr} {n : Nat} {xs : List (List Int)} (h : Kd.C (Kd.slice 5 (Kd.int .u8)) w A n xs) (i : Nat) (h1 : i < n) : ∃ ad A0 c0, A = some ad ∧ w.cell? (ad.add i) = some (.slice A0 (rdB xs i).length c0) ∧ (rdB xs i).length ≤ c0 ∧ (Kd.int .u8).C w A0 (rdB xs i).length (rdB xs i) := by
  obtain ⟨ad, c, e, _, hK, hc0⟩ := Kd.C_get h ([] : List Int) i (by omega) (by omega)
  have hc : ∀ j u, c[j]? = some u → w.cell? (ad.add ((i : Int).toNat * 1 + j)) = some u := hc0
  obtain ⟨A0, c0, rfl, l0, g0⟩ := hK
  rw [Int.toNat_natCast] at l0 g0 hc
  exact ⟨ad, A0, c0, e, by have hq := hc 0 _ rfl; rwa [Nat.mul_one, Nat.add_zero] at hq, l0, g0⟩

theorem wrap_sm (n : Int) (h0 : 0 ≤ n) (h1 : n < 9223372036854775808) : IntKind.i64.wrap n = n := by
  have hm : n % 18446744073709551616 = n := by omega
  unfold IntKind.wrap
  simp [IntKind.bits, IntKind.signed, hm]
  omega

/-- What was sent. -/
def sent (t0 : Int) (l : List (List Int)) : List S37 := l.map fun b => ⟨t0, b.take 60⟩

theorem sent_snoc (t0 : Int) (q : List (List Int)) (k : Nat) (hk : k < q.length) : sent t0 (q.take k) ++ [⟨t0, (rdB q k).take 60⟩] = sent t0 (q.take (k + 1)) := by
  unfold sent rdB
  rw [List.take_succ_eq_append_getElem hk, List.map_append, List.getD_eq_getElem?_getD, List.getElem?_eq_getElem hk]
  rfl
theorem sent_len (t0 : Int) (q : List (List Int)) : (sent t0 q).length = q.length := by simp [sent]
theorem sent_drop (t0 : Int) (q : List (List Int)) (k : Nat) (hk : k < q.length) : sent t0 (q.drop k) = ⟨t0, (rdB q k).take 60⟩ :: sent t0 (q.drop (k + 1)) := by
  unfold sent rdB
  rw [List.drop_eq_getElem_cons hk, List.map_cons, List.getD_eq_getElem?_getD, List.getElem?_eq_getElem hk]
  rfl

theorem C_take' {α : Type} {k : Kd α} {w : World} {A : Option Addr} {xs : List α} (h : k.C w A xs.length xs) (m : Nat) : k.C w A (xs.take m).length (xs.take m) := by
  rcases Nat.le_total m xs.length with hm | hm
  · exact Kd.C_take h hm
  · rw [List.take_of_length_le hm]; exact h

theorem take_first (b base : Nat) (ok : Nat → Prop) (sv : Value) (x : S37) (xs : List S37) (room lost : Int) (w : World) (hn : Net w b base ok sv (x :: xs) room lost) (hl : xs.length < 999) (hbase : base ≤ w.heap.size) :
    Calls Try.prog 14 #[.pointer (some ⟨b, 0, none⟩), .int .i64 0] w fun e w' => ∃ A c, e = .returned (.tuple #[.agg #[.int .i64 x.f0, .slice A x.f1.length c], .bool true]) ∧ (Kd.int .u8).R 5 w' base ok (.slice A x.f1.length c) x.f1 ∧
      ∃ sv', Net w' b base ok sv' xs room lost ∧ Step w w' b sv sv' :=
  (take_yes b base ok sv (x :: xs) room lost 0 w hn (by simp) (by simp; omega) hbase).mono fun e w' h => h
theorem len_any' (b n c : Nat) (A : Option Addr) (w : World) (h0 : w.cell? ⟨b, 0, none⟩ = some (.slice A n c)) :
    Calls Try.prog 10 #[.pointer (some ⟨b, 0, none⟩)] w fun e w' => e = .returned (.int .i64 n) ∧ w' = w := (len_any b n c A w h0).mono fun e w' h => ⟨h.1, h.2.symm⟩

set_option maxHeartbeats 8000000 in
theorem orders_walk (l : List (List Int)) (A : Option Addr) (c : Nat) (t0 : Int) (w : World) (hC : (Kd.slice 5 (Kd.int .u8)).C w A l.length l) (hc : l.length ≤ c) :
    Calls Try.prog 4 #[.slice A l.length c, .int .i64 t0] w fun e w' => e = .returned (.bool true) ∧ Below w.heap.size w w' := by
  obtain ⟨q, hq⟩ : ∃ q, q = l.take 256 := ⟨_, rfl⟩
  have hmin : Builtin.min2 (.int .i64 (l.length : Int)) (.int .i64 256) = pure (.int .i64 ((l.take 256).length : Int)) := min_len 256 l
  rw [← hq] at hmin
  have hql : q.length ≤ l.length := by rw [hq, List.length_take]; omega
  have hq256 : q.length ≤ 256 := by rw [hq, List.length_take]; omega
  have hcut := cut33 A l.length c q.length hql hc
  have HQ := Aside0.mk (show (Kd.slice 5 (Kd.int .u8)).C w A q.length q from by rw [hq]; exact C_take' hC 256)
  have hqc : q.length ≤ c := Nat.le_trans hql hc
  clear hC hq
  go_enter Try.func4, Try.ntmps4
  go_wp2_with fail
  refine (new_ok 256 w (by omega) (by omega)).mono ?_
  rintro e w1 ⟨rfl, hw1⟩
  have HN1 := Aside0.mk (show Net w1 w.heap.size w.heap.size (fun _ => True) (.slice none 0 0) (sent t0 (q.take 0)) 256 0 from hw1 ▸ net_new w _ _ 256 (Nat.le_refl _))
  have HB1 := Aside0.mk (show Below w.heap.size w w1 from hw1 ▸ below_alloc (Below.refl _ _) _)
  clear hw1
  go_wp2_with fail
  go_loopg [32] q.length (fun gk i wr => ∃ k : Nat, i = .int .i64 k ∧ Aside0 (k + gk = q.length) ∧ Aside0 (Below w.heap.size w wr) ∧ Aside0 (∃ sv, Net wr w.heap.size w.heap.size (fun _ => True) sv (sent t0 (q.take k)) 256 0))
  case atStart => exact ⟨0, rfl, ⟨by omega⟩, ⟨HB1.out⟩, ⟨_, HN1.out⟩⟩
  case round =>
    obtain ⟨k, rfl, HK, HBr, HNr⟩ := hrel
    by_cases hk6 : k < q.length
    · have hlt : (k : Int) < q.length := by omega
      have h00 : (0 : Int) ≤ (k : Int) := by omega
      obtain ⟨gk, rfl⟩ : ∃ g, gk = g + 1 := ⟨gk - 1, by have := HK.out; omega⟩
      obtain ⟨ad, A0, c0, rfl, hcell, hlc, hCe⟩ := at_B (Kd.C_below HQ.out HBr.out) k hk6
      have hsn := Aside0.mk (sent_snoc t0 q k hk6)
      obtain ⟨bs, hbs⟩ : ∃ bs, bs = rdB q k := ⟨_, rfl⟩
      rw [← hbs] at hcell hlc hCe hsn
      obtain ⟨p, hp⟩ : ∃ p, p = bs.take 60 := ⟨_, rfl⟩
      rw [← hp] at hsn
      have hpl : p.length ≤ bs.length := by rw [hp, List.length_take]; omega
      have hp60 : p.length ≤ 60 := by rw [hp, List.length_take]; omega
      have hmin2 : Builtin.min2 (.int .i64 (bs.length : Int)) (.int .i64 60) = pure (.int .i64 (p.length : Int)) := by rw [hp]; exact min_len 60 bs
      have hcut2 := cut34 A0 bs.length c0 p.length hpl hlc
      have HP := Aside0.mk (show (Kd.int .u8).C wr A0 p.length p from by rw [hp]; exact C_take' hCe 60)
      clear hp hbs hCe
      obtain ⟨sv, hnr⟩ := HNr.out
      have HN := Aside0.mk hnr
      clear hnr
      go_wp2_with fail
      refine (send_room w.heap.size w.heap.size (fun _ => True) sv (sent t0 (q.take k)) 256 0 t0 A0 c0 p wr HN.out (by rw [sent_len, List.length_take]; omega) (by omega) HP.out (by omega) HBr.out.size (fun _ _ => trivial)).mono ?_
      rintro e w3 ⟨rfl, sv3, hn3, hs3⟩
      rw [hsn.out] at hn3
      have HN3 := Aside0.mk hn3
      have HB3 := Aside0.mk (HBr.out.trans (hs3.below HN.out))
      clear hn3 hs3
      go_wp2
      go_roundg gk
      case measure => omega
      case rel => exact ⟨k + 1, by go_num, ⟨by have := HK.out; omega⟩, HB3, ⟨_, HN3.out⟩⟩
    · have hge : ¬ ((k : Int) < q.length) := by omega
      have hkq : k = q.length := by have := HK.out; omega
      subst hkq
      rw [List.take_length] at HNr
      obtain ⟨sv, hnr⟩ := HNr.out
      have HN := Aside0.mk (show Net wr w.heap.size w.heap.size (fun _ => True) sv (sent t0 (q.drop 0)) 256 0 from hnr)
      clear hnr HNr
      go_wp2_with fail
      go_loopg [48] q.length (fun gk i wr => ∃ k : Nat, i = .int .i64 k ∧ Aside0 (k + gk = q.length) ∧ Aside0 (Below w.heap.size w wr) ∧ Aside0 (∃ sv, Net wr w.heap.size w.heap.size (fun _ => True) sv (sent t0 (q.drop k)) 256 0))
      case atStart => exact ⟨0, rfl, ⟨by omega⟩, ⟨HBr.out⟩, ⟨_, HN.out⟩⟩
      case round =>
        rename_i wr0 _
        obtain ⟨k, rfl, HK, HB2, HN2⟩ := hrel
        by_cases hk6 : k < q.length
        · have hlt : (k : Int) < q.length := by omega
          have h00 : (0 : Int) ≤ (k : Int) := by omega
          obtain ⟨gk, rfl⟩ : ∃ g, gk = g + 1 := ⟨gk - 1, by have := HK.out; omega⟩
          obtain ⟨ad, A0, c0, rfl, hcell0, hlc, hCe⟩ := at_B HQ.out k hk6
          have hcell := pw_cell_below HB2.out hcell0
          have hsd := sent_drop t0 q k hk6
          obtain ⟨sv2, hn2⟩ := HN2.out
          rw [hsd] at hn2
          clear hsd HN2 hcell0
          obtain ⟨bs, hbs⟩ : ∃ bs, bs = rdB q k := ⟨_, rfl⟩
          rw [← hbs] at hcell hlc hCe hn2
          obtain ⟨p, hp⟩ : ∃ p, p = bs.take 60 := ⟨_, rfl⟩
          rw [← hp] at hn2
          have HN2 := Aside0.mk hn2
          have hpl : p.length ≤ bs.length := by rw [hp, List.length_take]; omega
          have hmin2 : Builtin.min2 (.int .i64 (bs.length : Int)) (.int .i64 60) = pure (.int .i64 (p.length : Int)) := by rw [hp]; exact min_len 60 bs
          have hcut2 := cut34 A0 bs.length c0 p.length hpl hlc
          have HP := Aside0.mk (show (Kd.int .u8).C w A0 p.length p from by rw [hp]; exact C_take' hCe 60)
          clear hp hbs hCe hn2
          go_wp2_with fail
          refine (take_first w.heap.size w.heap.size (fun _ => True) sv2 ⟨t0, p⟩ (sent t0 (q.drop (k + 1))) 256 0 _ HN2.out (by rw [sent_len, List.length_drop]; omega) HB2.out.size).mono ?_
          rintro e w3 ⟨A3, c3, rfl, ho3, sv3, hn3, hs3⟩
          have HO3 := Aside0.mk (show (Kd.int .u8).R 5 w3 w.heap.size (fun _ => True) (.slice A3 p.length c3) p from ho3)
          have HN3 := Aside0.mk hn3
          have HB3 := Aside0.mk (HB2.out.trans (hs3.below HN2.out))
          clear ho3 hn3 hs3
          go_wp2_with fail
          have HC1 := Aside0.mk (show (Kd.int .u8).C w3 A3 p.length p from (Kd.R_reads' HO3.out).2.2)
          obtain ⟨W4, hW4⟩ : ∃ W4 : World, W4 = w3.alloc (.cells #[.int .i64 t0, .slice A3 p.length c3] 37) := ⟨_, rfl⟩
          have HB4 := Aside0.mk (show Below w3.heap.size w3 W4 from hW4 ▸ below_alloc (Below.refl _ _) _)
          have x0 : W4.cell? ⟨w3.heap.size, 0, none⟩ = some (.int .i64 t0) := by rw [hW4]; go_simp
          have x1 : W4.cell? ⟨w3.heap.size, 1, none⟩ = some (.slice A3 p.length c3) := by rw [hW4]; go_simp
          have HW4 := Aside0.mk hW4
          clear hW4
          rw [← HW4.out]
          have HN4 := Aside0.mk (HN3.out.below HB4.out)
          have HB04 := Aside0.mk (below_step HB3.out HB4.out)
          have s1 : ∀ n_, (convert 34 9 (.slice A3 p.length c3)).run Try.prog (W4.drewN n_) = .ok (.string (strOfNums p)) (W4.drewN n_) := fun n_ => Kd.C_string Try.underlying34 Try.underlying5 Try.underlying9 (Kd.C_below (Kd.C_below HC1.out HB4.out) (pw_below_drewN (Below.refl _ _) n_))
          have s2 : ∀ n_, (convert 34 9 (.slice A0 p.length c0)).run Try.prog (W4.drewN n_) = .ok (.string (strOfNums p)) (W4.drewN n_) := fun n_ => Kd.C_string Try.underlying34 Try.underlying5 Try.underlying9 (Kd.C_below HP.out (pw_below_drewN HB04.out n_))
          obtain ⟨A5, c5, e5, -, -⟩ := HN4.out.form
          have n0 : W4.cell? ⟨w.heap.size, 0, none⟩ = some (.slice A5 (sent t0 (q.drop (k + 1))).length c5) := e5 ▸ HN4.out.cell0
          clear e5
          obtain ⟨m, hm⟩ : ∃ m : Nat, m = (sent t0 (q.drop (k + 1))).length := ⟨_, rfl⟩
          have hmk : m + 1 + k = q.length := by rw [hm, sent_len, List.length_drop]; omega
          rw [← hm] at n0
          clear hm
          have a1 : IntKind.i64.wrap ((q.length : Int) - 1) = (q.length : Int) - 1 := wrap_sm _ (by omega) (by omega)
          have a2 : IntKind.i64.wrap ((q.length : Int) - 1 - (k : Int)) = (m : Int) := (wrap_sm _ (by omega) (by omega)).trans (by omega)
          clear hmk hmin
          go_quiet ((go_at_call 10; refine Calls.quiet_of_same (len_any' w.heap.size m c5 A5 _ n0)))
          go_wp2
          go_roundg gk
          case measure => omega
          case rel => exact ⟨k + 1, by go_num, ⟨by have := HK.out; omega⟩, ⟨by first | exact HB04.out | exact pw_below_drewN HB04.out _⟩, ⟨_, by first | exact HN4.out | exact HN4.out.drewN _⟩⟩
        · have hge : ¬ ((k : Int) < q.length) := by omega
          have hkq : k = q.length := by have := HK.out; omega
          subst hkq
          obtain ⟨sv2, hn2⟩ := HN2.out
          rw [List.drop_length] at hn2
          have HN3 := Aside0.mk hn2
          clear hn2 HN2
          go_wp2_with fail
          refine (take_no w.heap.size w.heap.size (fun _ => True) sv2 [] 256 0 0 _ HN3.out (Or.inr (by simp))).mono ?_
          rintro e w3 ⟨rfl, hb3⟩
          have HB3 := Aside0.mk (below_step HB2.out hb3)
          clear hb3
          go_wp2_with fail
          refine (begun_any _).mono ?_
          rintro e w4 ⟨rfl, hb4⟩
          have HB4 := Aside0.mk (below_step (below_step HB3.out (below_alloc (Below.refl _ _) _)) hb4)
          clear hb4
          go_wp2
          go_ret
          exact ⟨rfl, HB4.out⟩
end Go.Proofs.Ytcjeideiigdidaa.Net
