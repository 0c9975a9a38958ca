/- What the reference answers of amounts, files and directories: contracts. -/
import Derived.Test.YtdjlbbfgobbcmaaKNTree
namespace Go.Proofs.Ytdjlbbfgobbcmaa.Need
open Go.RowKit Go.Proofs.Ytdjlbbfgobbcmaa.PNeedFiles Go.Proofs.Ytdjlbbfgobbcmaa.PlainFloat Go.Proofs.Ytdjlbbfgobbcmaa.Turn Go.Proofs.YtdjlbbfgobbcmaaW.PrintWords Go.Proofs.YtdjlbbfgobbcmaaW.PrintLast Go.Proofs.YtdjlbbfgobbcmaaW.PrintMore
set_option linter.unusedVariables false
set_option linter.unusedSimpArgs false

structure RFine (k : Nat) (p0 : Int) (p1 : Int) (p2 : Int) (p3 : Int) (p4 : Int) (p5 : Int) (p6 : Int) (p7 : Int) (p8 : Int) (p9 : Int) (p10 : Int) (p11 : Int) (s : Int) : Prop where
  chk : skerryref05_Check.f k p0 p1 p2 p3 p4 p5 p6 p7 p8 p9 p10 p11 = some 0
  max : skerryref05_MaxSize.f k p0 p1 p2 p3 p4 p5 p6 p7 p8 p9 p10 p11 = some (s, 0)
  whole : ∀ n, skerryref05_Whole.f k p0 p1 p2 p3 p4 p5 p6 p7 p8 p9 p10 p11 n = some (if 0 ≤ n ∧ n ≤ s then (plan_Make.sh n p0, Pure.ptrs p0 (plan_Make.sh n p0), 0) else (0, 0, 2))
  r1 : 1 ≤ p1 ∧ p1 ≤ 4096
  r2 : 2 ≤ p2 ∧ p2 ≤ 1024
  r11 : 0 ≤ p11 ∧ p11 < p1
structure RFoul (k : Nat) (p0 : Int) (p1 : Int) (p2 : Int) (p3 : Int) (p4 : Int) (p5 : Int) (p6 : Int) (p7 : Int) (p8 : Int) (p9 : Int) (p10 : Int) (p11 : Int) : Prop where
  chk : skerryref05_Check.f k p0 p1 p2 p3 p4 p5 p6 p7 p8 p9 p10 p11 = some 4
  max : skerryref05_MaxSize.f k p0 p1 p2 p3 p4 p5 p6 p7 p8 p9 p10 p11 = some (0, 4)
  whole : ∀ n, skerryref05_Whole.f k p0 p1 p2 p3 p4 p5 p6 p7 p8 p9 p10 p11 n = some (0, 0, 4)
theorem ref_cases (p0 : Int) (p1 : Int) (p2 : Int) (p3 : Int) (p4 : Int) (p5 : Int) (p6 : Int) (p7 : Int) (p8 : Int) (p9 : Int) (p10 : Int) (p11 : Int) : (Foul p0 p1 p2 p3 p4 p5 p6 p7 p8 p9 p10 p11 ∧ RFoul 3000001 p0 p1 p2 p3 p4 p5 p6 p7 p8 p9 p10 p11) ∨ ∃ s, Fine p0 p1 p2 p3 p4 p5 p6 p7 p8 p9 p10 p11 s ∧ RFine 3000001 p0 p1 p2 p3 p4 p5 p6 p7 p8 p9 p10 p11 s := by
  rcases plan_cases p0 p1 p2 p3 p4 p5 p6 p7 p8 p9 p10 p11 with h | ⟨s, h⟩
  · obtain ⟨h1, h2, h3⟩ := Pure.rfoul (k := 3000001) (by decide) h.chk
    exact .inl ⟨h, h1, h2, h3⟩
  · rcases Pure.check_is p0 p1 p2 p3 p4 p5 p6 p7 p8 p9 p10 p11 with ⟨hc, S⟩ | ⟨hc, _⟩
    · have hm := Pure.max_is S hc
      have e : s = Pure.most p0 := h.size
      subst e
      obtain ⟨_, f1, f2, f3, e4, e5, f6, e7, f8, e9, f10, e11, f11, _⟩ := S.facts
      exact .inr ⟨_, h, by rw [Pure.rcheck_is (by decide)]; exact hc, Pure.rmax_is S hc (by decide), fun n => Pure.rwhole_is S hc (by decide) n, f1, f2, ⟨by omega, f11⟩⟩
    · have := h.chk
      rw [hc] at this
      cases this
theorem ramount_ok (a b : Int) (p : Part a) (q : Part b) (w : World) : Calls Try.prog 23 #[.int .i64 a, .int .i64 b] w fun e w' => e = .returned (.tuple #[.complex .f64 (floatOfInt .f64 a) (floatOfInt .f64 b), .int .i64 0]) ∧ Below w.heap.size w w' := by
  have H : skerryref10_sound.f a b = some true := by
    unfold Part at p q
    unfold skerryref10_sound.f
    rw [if_pos p.1, if_pos p.2, if_pos q.1, decide_eq_true q.2]
  have H := Aside0.mk H
  clear p q
  go_enter Try.func23, Try.ntmps23
  go_wp2_with fail
  refine (skerryref10_sound.calls a b true _ H.out).mono ?_
  rintro e w2 ⟨rfl, ⟨nd, rfl⟩⟩
  go_wp2
  go_ret2
  exact ⟨rfl, pw_below_drewN (Below.refl _ _) _⟩
theorem ramount_no (a b : Int) (p : 1073741824 < a) (w : World) : Calls Try.prog 23 #[.int .i64 a, .int .i64 b] w fun e w' => e = .returned (.tuple #[.complex .f64 0 0, .int .i64 3]) ∧ Below w.heap.size w w' := by
  have H : skerryref10_sound.f a b = some false := by
    unfold skerryref10_sound.f
    rw [if_pos (by omega), if_neg (by omega)]
  have H := Aside0.mk H
  clear p
  go_enter Try.func23, Try.ntmps23
  go_wp2_with fail
  refine (skerryref10_sound.calls a b false _ H.out).mono ?_
  rintro e w2 ⟨rfl, ⟨nd, rfl⟩⟩
  go_wp2
  go_ret2
  exact ⟨rfl, pw_below_drewN (Below.refl _ _) _⟩
theorem int_rep {a : Nat} {x : Int} (h : Rep a x) (hs : Part x) : floatToIntVal .f64 a .i64 = some x := by
  have ht : (FloatKind.f64.decode a).toInt .zero = some x := h.toInt
  unfold floatToIntVal
  rw [ht]
  unfold Part at hs
  simp only [IntKind.min, IntKind.max, IntKind.signed, IntKind.bits]
  rw [if_pos]
  simp
  omega
theorem rwhole (x : Nat) (a : Int) (h : Rep x a) (p : Part a) (w : World) : Calls Try.prog 39 #[.float .f64 x] w fun e w' => e = .returned (.tuple #[.int .i64 a, .bool true]) ∧ w = w' := by
  have hge := geq_bool h rep_zero p.1
  have hle := leq_bool h rep_most p.2
  have hcv := fun W => run_convert_float_int (P := Try.prog) W 31 3 .f64 .i64 x a (by kernel_rfl) (by kernel_rfl) (int_rep h p)
  have heq := same_ord (of_int (x := a) (by unfold Part at p; omega)) h
  have heq : FloatKind.f64.format.order (floatOfInt .f64 a) x = some .eq := heq
  clear h p
  go_enter Try.func39, Try.ntmps39
  go_wp2
  go_ret2
  exact ⟨rfl, rfl⟩
theorem rparts (x y : Nat) (a b : Int) (hx : Rep x a) (hy : Rep y b) (p : Part a) (q : Part b) (w : World) : Calls Try.prog 34 #[.complex .f64 x y] w fun e w' => e = .returned (.tuple #[.int .i64 a, .int .i64 b, .int .i64 0]) ∧ w = w' := by
  have H1 := Aside0.mk (fun W => rwhole x a hx p W)
  have H2 := Aside0.mk (fun W => rwhole y b hy q W)
  clear hx hy p q
  go_enter Try.func34, Try.ntmps34
  go_wp2_with fail
  ((with_reducible refine (H1.out _).mono ?_); rintro e w2 ⟨rfl, rfl⟩)
  go_wp2_with fail
  ((with_reducible refine (H2.out _).mono ?_); rintro e w2 ⟨rfl, rfl⟩)
  go_wp2
  go_ret3
  exact ⟨rfl, rfl⟩
set_option maxHeartbeats 4000000 in
set_option maxRecDepth 100000 in
theorem rsum_calls (w : World) (xs ys : Nat → Nat) (us vs : Nat → Int) (A : Option Addr) (g n cap : Nat) (hn : n ≤ 4194304) (hx : ∀ k, k < n → Rep (xs k) (us k) ∧ Rep (ys k) (vs k) ∧ Part (us k) ∧ Part (vs k))
    (hc : ∀ k, k < n → w.cell? ⟨g, k, none⟩ = some (.complex .f64 (xs k) (ys k))) (hb : Part (tot vs n)) (hA : n = 0 ∨ A = some ⟨g, 0, none⟩) :
    Calls Try.prog 26 #[.slice A n cap] w (Ends (SumOut (tot us n) (tot vs n)) w) := by
  have ha2 := tot_range (us := us) (n := n) (fun k hk => (hx k hk).2.2.1)
  have hb2 := tot_range (us := vs) (n := n) (fun k hk => (hx k hk).2.2.2)
  have HX := Aside0.mk hx
  have HC := Aside0.mk hc
  have HA := Aside0.mk hA
  have HT := Aside0.mk (And.intro ha2 hb2)
  have HBn := Aside0.mk hb
  have hn2 : (n : Int) ≤ 4194304 := by omega
  clear hx hc hA ha2 hb2 hb hn
  go_enter Try.func26, Try.ntmps26
  go_wp2
  go_loop [4, 5, 6] (fun b c i => ∃ k : Nat, k ≤ n ∧ i = .int .i64 k ∧ b = .int .i64 (tot us k) ∧ c = .int .i64 (tot vs k)) (fun _ _ i => n - (intOf i).toNat)
  case atStart => exact ⟨0, Nat.zero_le _, rfl, rfl, rfl⟩
  case round =>
    obtain ⟨k, hk, rfl, rfl, rfl⟩ := hrel
    by_cases hlt : k < n
    · obtain rfl : A = some ⟨g, 0, none⟩ := by
        rcases HA.out with h | h
        · omega
        · exact h
      have hcell := HC.out k hlt
      obtain ⟨r1, r2, p1, p2⟩ := HX.out k hlt
      have t1 := HT.out.1 k (by omega)
      have t2 := HT.out.2 k (by omega)
      have H1 := Aside0.mk (fun W => rparts (xs k) (ys k) _ _ r1 r2 p1 p2 W)
      unfold Part at p1 p2
      have e1 : tot us (k + 1) = tot us k + us k := rfl
      have e2 : tot vs (k + 1) = tot vs k + vs k := rfl
      have E := Aside0.mk (And.intro e1 e2)
      have w1 : IntKind.i64.wrap (tot us k + us k) = tot us k + us k := by rw [IntKind.wrap_i64]; omega
      have w2 : IntKind.i64.wrap (tot vs k + vs k) = tot vs k + vs k := by rw [IntKind.wrap_i64]; omega
      clear r1 r2 p1 p2 t1 t2 e1 e2
      generalize xs k = xk at *
      generalize ys k = yk at *
      go_wp2_with fail
      ((with_reducible refine (H1.out _).mono ?_); rintro e w2 ⟨rfl, rfl⟩)
      go_wp2
      go_round
      case rel => exact ⟨k + 1, by omega, by go_num, by rw [E.out.1], by rw [E.out.2]⟩
      case measure => simp [intOf]; omega
    · obtain rfl : k = n := by omega
      clear hlt hk
      have t0 := (HT.out.1 k (Nat.le_refl _)).1
      by_cases c : tot us k ≤ 1073741824
      · have H1 := Aside0.mk (fun W => ramount_ok (tot us k) (tot vs k) ⟨t0, c⟩ HBn.out W)
        have HCc := Aside0.mk (And.intro t0 c)
        clear c t0
        go_wp2_with fail
        ((with_reducible refine (H1.out _).mono ?_); rintro e w2 ⟨rfl, hb⟩)
        have HB := Aside0.mk hb
        clear hb
        go_wp2
        go_ret2
        have hv := HBn.out
        have hc := HCc.out
        unfold Part at hv
        exact ⟨_, _, 0, rfl, .inl ⟨hc.2, rfl, of_int (by omega), of_int (by omega)⟩, HB.out⟩
      · have H1 := Aside0.mk (fun W => ramount_no (tot us k) (tot vs k) (by omega) W)
        have HCc := Aside0.mk c
        clear c t0
        go_wp2_with fail
        ((with_reducible refine (H1.out _).mono ?_); rintro e w2 ⟨rfl, hb⟩)
        have HB := Aside0.mk hb
        clear hb
        go_wp2
        go_ret2
        exact ⟨0, 0, 3, rfl, .inr ⟨by have := HCc.out; omega, rfl, rfl, rfl⟩, HB.out⟩
/-- What the reference answers for a file. -/
def RFileOut (p0 s n : Int) (x y : Nat) (r : Int) : Prop := ((0 ≤ n ∧ n ≤ s) ∧ r = 0 ∧ x = floatOfInt .f64 (Pure.blocks p0 n) ∧ y = floatOfInt .f64 1) ∨ (¬ (0 ≤ n ∧ n ≤ s) ∧ r = 2 ∧ x = 0 ∧ y = 0)
/-- Nothing, and an error. -/
def Err (c : Int) (x y : Nat) (r : Int) : Prop := r = c ∧ x = 0 ∧ y = 0
set_option maxHeartbeats 4000000 in
set_option maxRecDepth 100000 in
theorem rfile_err (k : Nat) (p0 : Int) (p1 : Int) (p2 : Int) (p3 : Int) (p4 : Int) (p5 : Int) (p6 : Int) (p7 : Int) (p8 : Int) (p9 : Int) (p10 : Int) (p11 : Int) (n c : Int) (h : skerryref05_Whole.f k p0 p1 p2 p3 p4 p5 p6 p7 p8 p9 p10 p11 n = some (0, 0, c)) (hc : c ≠ 0) (w : World) :
    Calls Try.prog 12 #[.agg #[.int .i64 p0, .int .i64 p1, .int .i64 p2, .int .i64 p3, .int .i64 p4, .int .i64 p5, .int .i64 p6, .int .i64 p7, .int .i64 p8, .int .i64 p9, .int .i64 p10, .int .i64 p11], .int .i64 n] w (Ends (Err c) w) := by
  have hc2 : (c != 0) = true := bne_iff_ne.2 hc
  clear hc
  have hu := Try.underlying23
  have H := Aside0.mk h
  clear h
  go_enter Try.func12, Try.ntmps12
  go_wp2_with ((with_reducible refine gate_dst (N := 2) rfl ?_); refine box_event ?hg (N := 2) ?hd (cs := #[.int .i64 p0, .int .i64 p1, .int .i64 p2, .int .i64 p3, .int .i64 p4, .int .i64 p5, .int .i64 p6, .int .i64 p7, .int .i64 p8, .int .i64 p9, .int .i64 p10, .int .i64 p11]) (t := 23) ?hr ?_; (case hd => rfl); (case hg => rfl); (case hr => first | (go_simp; done) | (go_simp; rfl)); intro gb hg w1 hbox hb; have HB := Aside0.mk (below_step (Below.refl w.heap.size w) hb); have BK := Aside0.mk hbox; clear hb hbox hg; have c0 : w1.cell? ⟨gb, 0, none⟩ = some (.int .i64 p0) := (blk_cell BK.out 0).trans rfl; have c1 : w1.cell? ⟨gb, 1, none⟩ = some (.int .i64 p1) := (blk_cell BK.out 1).trans rfl; have c2 : w1.cell? ⟨gb, 2, none⟩ = some (.int .i64 p2) := (blk_cell BK.out 2).trans rfl; have c3 : w1.cell? ⟨gb, 3, none⟩ = some (.int .i64 p3) := (blk_cell BK.out 3).trans rfl; have c4 : w1.cell? ⟨gb, 4, none⟩ = some (.int .i64 p4) := (blk_cell BK.out 4).trans rfl; have c5 : w1.cell? ⟨gb, 5, none⟩ = some (.int .i64 p5) := (blk_cell BK.out 5).trans rfl; have c6 : w1.cell? ⟨gb, 6, none⟩ = some (.int .i64 p6) := (blk_cell BK.out 6).trans rfl; have c7 : w1.cell? ⟨gb, 7, none⟩ = some (.int .i64 p7) := (blk_cell BK.out 7).trans rfl; have c8 : w1.cell? ⟨gb, 8, none⟩ = some (.int .i64 p8) := (blk_cell BK.out 8).trans rfl; have c9 : w1.cell? ⟨gb, 9, none⟩ = some (.int .i64 p9) := (blk_cell BK.out 9).trans rfl; have c10 : w1.cell? ⟨gb, 10, none⟩ = some (.int .i64 p10) := (blk_cell BK.out 10).trans rfl; have c11 : w1.cell? ⟨gb, 11, none⟩ = some (.int .i64 p11) := (blk_cell BK.out 11).trans rfl)
  ((with_reducible refine (skerryref05_Whole.calls k p0 p1 p2 p3 p4 p5 p6 p7 p8 p9 p10 p11 n 0 0 c _ H.out).mono ?_); rintro e w2 ⟨rfl, hb⟩)
  have BK2 := Aside0.mk (blk_below BK.out hb)
  have HB2 := Aside0.mk (below_then HB.out HB.out.size hb)
  clear c0 c1 c2 c3 c4 c5 c6 c7 c8 c9 c10 c11
  clear hb BK HB
  have BK := BK2
  have HB := HB2
  clear BK2 HB2
  have c0 : w2.cell? ⟨gb, 0, none⟩ = some (.int .i64 p0) := (blk_cell BK.out 0).trans rfl; have c1 : w2.cell? ⟨gb, 1, none⟩ = some (.int .i64 p1) := (blk_cell BK.out 1).trans rfl; have c2 : w2.cell? ⟨gb, 2, none⟩ = some (.int .i64 p2) := (blk_cell BK.out 2).trans rfl; have c3 : w2.cell? ⟨gb, 3, none⟩ = some (.int .i64 p3) := (blk_cell BK.out 3).trans rfl; have c4 : w2.cell? ⟨gb, 4, none⟩ = some (.int .i64 p4) := (blk_cell BK.out 4).trans rfl; have c5 : w2.cell? ⟨gb, 5, none⟩ = some (.int .i64 p5) := (blk_cell BK.out 5).trans rfl; have c6 : w2.cell? ⟨gb, 6, none⟩ = some (.int .i64 p6) := (blk_cell BK.out 6).trans rfl; have c7 : w2.cell? ⟨gb, 7, none⟩ = some (.int .i64 p7) := (blk_cell BK.out 7).trans rfl; have c8 : w2.cell? ⟨gb, 8, none⟩ = some (.int .i64 p8) := (blk_cell BK.out 8).trans rfl; have c9 : w2.cell? ⟨gb, 9, none⟩ = some (.int .i64 p9) := (blk_cell BK.out 9).trans rfl; have c10 : w2.cell? ⟨gb, 10, none⟩ = some (.int .i64 p10) := (blk_cell BK.out 10).trans rfl; have c11 : w2.cell? ⟨gb, 11, none⟩ = some (.int .i64 p11) := (blk_cell BK.out 11).trans rfl
  go_wp2
  go_ret2
  exact ⟨_, _, _, rfl, ⟨rfl, rfl, rfl⟩, HB.out⟩
set_option maxHeartbeats 4000000 in
set_option maxRecDepth 100000 in
theorem rfile_ok (k : Nat) (p0 : Int) (p1 : Int) (p2 : Int) (p3 : Int) (p4 : Int) (p5 : Int) (p6 : Int) (p7 : Int) (p8 : Int) (p9 : Int) (p10 : Int) (p11 : Int) (n d q : Int) (h : skerryref05_Whole.f k p0 p1 p2 p3 p4 p5 p6 p7 p8 p9 p10 p11 n = some (d, q, 0)) (hp : Part (d + q)) (w : World) :
    Calls Try.prog 12 #[.agg #[.int .i64 p0, .int .i64 p1, .int .i64 p2, .int .i64 p3, .int .i64 p4, .int .i64 p5, .int .i64 p6, .int .i64 p7, .int .i64 p8, .int .i64 p9, .int .i64 p10, .int .i64 p11], .int .i64 n] w fun e w' => e = .returned (.tuple #[.complex .f64 (floatOfInt .f64 (d + q)) (floatOfInt .f64 1), .int .i64 0]) ∧ Below w.heap.size w w' := by
  have hw : IntKind.i64.wrap (d + q) = d + q := by unfold Part at hp; rw [IntKind.wrap_i64]; omega
  have HA := Aside0.mk (fun W => ramount_ok (d + q) 1 hp ⟨by decide, by decide⟩ W)
  clear hp
  have hu := Try.underlying23
  have H := Aside0.mk h
  clear h
  go_enter Try.func12, Try.ntmps12
  go_wp2_with ((with_reducible refine gate_dst (N := 2) rfl ?_); refine box_event ?hg (N := 2) ?hd (cs := #[.int .i64 p0, .int .i64 p1, .int .i64 p2, .int .i64 p3, .int .i64 p4, .int .i64 p5, .int .i64 p6, .int .i64 p7, .int .i64 p8, .int .i64 p9, .int .i64 p10, .int .i64 p11]) (t := 23) ?hr ?_; (case hd => rfl); (case hg => rfl); (case hr => first | (go_simp; done) | (go_simp; rfl)); intro gb hg w1 hbox hb; have HB := Aside0.mk (below_step (Below.refl w.heap.size w) hb); have BK := Aside0.mk hbox; clear hb hbox hg; have c0 : w1.cell? ⟨gb, 0, none⟩ = some (.int .i64 p0) := (blk_cell BK.out 0).trans rfl; have c1 : w1.cell? ⟨gb, 1, none⟩ = some (.int .i64 p1) := (blk_cell BK.out 1).trans rfl; have c2 : w1.cell? ⟨gb, 2, none⟩ = some (.int .i64 p2) := (blk_cell BK.out 2).trans rfl; have c3 : w1.cell? ⟨gb, 3, none⟩ = some (.int .i64 p3) := (blk_cell BK.out 3).trans rfl; have c4 : w1.cell? ⟨gb, 4, none⟩ = some (.int .i64 p4) := (blk_cell BK.out 4).trans rfl; have c5 : w1.cell? ⟨gb, 5, none⟩ = some (.int .i64 p5) := (blk_cell BK.out 5).trans rfl; have c6 : w1.cell? ⟨gb, 6, none⟩ = some (.int .i64 p6) := (blk_cell BK.out 6).trans rfl; have c7 : w1.cell? ⟨gb, 7, none⟩ = some (.int .i64 p7) := (blk_cell BK.out 7).trans rfl; have c8 : w1.cell? ⟨gb, 8, none⟩ = some (.int .i64 p8) := (blk_cell BK.out 8).trans rfl; have c9 : w1.cell? ⟨gb, 9, none⟩ = some (.int .i64 p9) := (blk_cell BK.out 9).trans rfl; have c10 : w1.cell? ⟨gb, 10, none⟩ = some (.int .i64 p10) := (blk_cell BK.out 10).trans rfl; have c11 : w1.cell? ⟨gb, 11, none⟩ = some (.int .i64 p11) := (blk_cell BK.out 11).trans rfl)
  ((with_reducible refine (skerryref05_Whole.calls k p0 p1 p2 p3 p4 p5 p6 p7 p8 p9 p10 p11 n d q 0 _ H.out).mono ?_); rintro e w2 ⟨rfl, hb⟩)
  have BK2 := Aside0.mk (blk_below BK.out hb)
  have HB2 := Aside0.mk (below_then HB.out HB.out.size hb)
  clear c0 c1 c2 c3 c4 c5 c6 c7 c8 c9 c10 c11
  clear hb BK HB
  have BK := BK2
  have HB := HB2
  clear BK2 HB2
  have c0 : w2.cell? ⟨gb, 0, none⟩ = some (.int .i64 p0) := (blk_cell BK.out 0).trans rfl; have c1 : w2.cell? ⟨gb, 1, none⟩ = some (.int .i64 p1) := (blk_cell BK.out 1).trans rfl; have c2 : w2.cell? ⟨gb, 2, none⟩ = some (.int .i64 p2) := (blk_cell BK.out 2).trans rfl; have c3 : w2.cell? ⟨gb, 3, none⟩ = some (.int .i64 p3) := (blk_cell BK.out 3).trans rfl; have c4 : w2.cell? ⟨gb, 4, none⟩ = some (.int .i64 p4) := (blk_cell BK.out 4).trans rfl; have c5 : w2.cell? ⟨gb, 5, none⟩ = some (.int .i64 p5) := (blk_cell BK.out 5).trans rfl; have c6 : w2.cell? ⟨gb, 6, none⟩ = some (.int .i64 p6) := (blk_cell BK.out 6).trans rfl; have c7 : w2.cell? ⟨gb, 7, none⟩ = some (.int .i64 p7) := (blk_cell BK.out 7).trans rfl; have c8 : w2.cell? ⟨gb, 8, none⟩ = some (.int .i64 p8) := (blk_cell BK.out 8).trans rfl; have c9 : w2.cell? ⟨gb, 9, none⟩ = some (.int .i64 p9) := (blk_cell BK.out 9).trans rfl; have c10 : w2.cell? ⟨gb, 10, none⟩ = some (.int .i64 p10) := (blk_cell BK.out 10).trans rfl; have c11 : w2.cell? ⟨gb, 11, none⟩ = some (.int .i64 p11) := (blk_cell BK.out 11).trans rfl
  go_wp2_with fail
  ((with_reducible refine (HA.out _).mono ?_); rintro e w3 ⟨rfl, hb⟩)
  have HB3 := Aside0.mk (below_then HB.out HB.out.size hb)
  clear hb
  go_wp2
  go_ret2
  exact ⟨rfl, HB3.out⟩
section
variable {p0 p1 p2 p3 p4 p5 p6 p7 p8 p9 p10 p11 s : Int}
theorem rfile_fine (G : Fine p0 p1 p2 p3 p4 p5 p6 p7 p8 p9 p10 p11 s) {k : Nat} (R : RFine k p0 p1 p2 p3 p4 p5 p6 p7 p8 p9 p10 p11 s) (n : Int) (w : World) : Calls Try.prog 12 #[.agg #[.int .i64 p0, .int .i64 p1, .int .i64 p2, .int .i64 p3, .int .i64 p4, .int .i64 p5, .int .i64 p6, .int .i64 p7, .int .i64 p8, .int .i64 p9, .int .i64 p10, .int .i64 p11], .int .i64 n] w (Ends (RFileOut p0 s n) w) := by
  have hw := R.whole n
  by_cases c : 0 ≤ n ∧ n ≤ s
  · rw [if_pos c] at hw
    have hp := Pure.blocks_part G.two c.1 (Int.le_trans c.2 G.high)
    refine (rfile_ok k p0 p1 p2 p3 p4 p5 p6 p7 p8 p9 p10 p11 n _ _ hw hp _).mono ?_
    rintro e w' ⟨rfl, hb⟩
    exact ⟨_, _, _, rfl, .inl ⟨c, rfl, rfl, rfl⟩, hb⟩
  · rw [if_neg c] at hw
    refine (rfile_err k p0 p1 p2 p3 p4 p5 p6 p7 p8 p9 p10 p11 n 2 hw (by decide) _).mono ?_
    rintro e w' ⟨x, y, r, rfl, ⟨rfl, rfl, rfl⟩, hb⟩
    exact ⟨_, _, _, rfl, .inr ⟨c, rfl, rfl, rfl⟩, hb⟩
end
theorem dstep {p0 n z : Int} (two : p0 = 64 ∨ p0 = 128 ∨ p0 = 256 ∨ p0 = 512 ∨ p0 = 1024 ∨ p0 = 2048 ∨ p0 = 4096) (h0 : 0 ≤ n) (h1 : 16 * n ≤ z) (h2 : z ≤ dsize p0 n) (h3 : z % 16 = 0) (h4 : z % p0 ≠ 0) : z + 16 ≤ dsize p0 n := by
  unfold dsize at *
  rcases two with rfl | rfl | rfl | rfl | rfl | rfl | rfl <;> omega
theorem dstop {p0 n z : Int} (two : p0 = 64 ∨ p0 = 128 ∨ p0 = 256 ∨ p0 = 512 ∨ p0 = 1024 ∨ p0 = 2048 ∨ p0 = 4096) (h0 : 0 ≤ n) (h1 : 16 * n ≤ z) (h2 : z ≤ dsize p0 n) (h4 : z % p0 = 0) : z = dsize p0 n := by
  unfold dsize at *
  rcases two with rfl | rfl | rfl | rfl | rfl | rfl | rfl <;> omega
theorem dlow {p0 n : Int} (two : p0 = 64 ∨ p0 = 128 ∨ p0 = 256 ∨ p0 = 512 ∨ p0 = 1024 ∨ p0 = 2048 ∨ p0 = 4096) (h0 : 0 ≤ n) : 16 * n ≤ dsize p0 n ∧ dsize p0 n ≤ 16 * n + 4096 := by
  unfold dsize at *
  rcases two with rfl | rfl | rfl | rfl | rfl | rfl | rfl <;> omega
/-- What the reference answers for a directory. -/
def RDirOut (p0 s n : Int) (x y : Nat) (r : Int) : Prop := ((0 ≤ n ∧ n ≤ s / 16) ∧ r = 0 ∧ x = floatOfInt .f64 (Pure.blocks p0 (dsize p0 n)) ∧ y = floatOfInt .f64 1) ∨ (¬ (0 ≤ n ∧ n ≤ s / 16) ∧ r = 2 ∧ x = 0 ∧ y = 0)
set_option maxHeartbeats 4000000 in
set_option maxRecDepth 100000 in
theorem rdir_foul {k : Nat} (p0 : Int) (p1 : Int) (p2 : Int) (p3 : Int) (p4 : Int) (p5 : Int) (p6 : Int) (p7 : Int) (p8 : Int) (p9 : Int) (p10 : Int) (p11 : Int) (R : RFoul k p0 p1 p2 p3 p4 p5 p6 p7 p8 p9 p10 p11) (n : Int) (w : World) :
    Calls Try.prog 13 #[.agg #[.int .i64 p0, .int .i64 p1, .int .i64 p2, .int .i64 p3, .int .i64 p4, .int .i64 p5, .int .i64 p6, .int .i64 p7, .int .i64 p8, .int .i64 p9, .int .i64 p10, .int .i64 p11], .int .i64 n] w (Ends (Err 4) w) := by
  have h := R.max
  clear R
  have hu := Try.underlying23
  have H := Aside0.mk h
  clear h
  go_enter Try.func13, Try.ntmps13
  go_wp2_with ((with_reducible refine gate_dst (N := 2) rfl ?_); refine box_event ?hg (N := 2) ?hd (cs := #[.int .i64 p0, .int .i64 p1, .int .i64 p2, .int .i64 p3, .int .i64 p4, .int .i64 p5, .int .i64 p6, .int .i64 p7, .int .i64 p8, .int .i64 p9, .int .i64 p10, .int .i64 p11]) (t := 23) ?hr ?_; (case hd => rfl); (case hg => rfl); (case hr => first | (go_simp; done) | (go_simp; rfl)); intro gb hg w1 hbox hb; have HB := Aside0.mk (below_step (Below.refl w.heap.size w) hb); have BK := Aside0.mk hbox; clear hb hbox hg; have c0 : w1.cell? ⟨gb, 0, none⟩ = some (.int .i64 p0) := (blk_cell BK.out 0).trans rfl; have c1 : w1.cell? ⟨gb, 1, none⟩ = some (.int .i64 p1) := (blk_cell BK.out 1).trans rfl; have c2 : w1.cell? ⟨gb, 2, none⟩ = some (.int .i64 p2) := (blk_cell BK.out 2).trans rfl; have c3 : w1.cell? ⟨gb, 3, none⟩ = some (.int .i64 p3) := (blk_cell BK.out 3).trans rfl; have c4 : w1.cell? ⟨gb, 4, none⟩ = some (.int .i64 p4) := (blk_cell BK.out 4).trans rfl; have c5 : w1.cell? ⟨gb, 5, none⟩ = some (.int .i64 p5) := (blk_cell BK.out 5).trans rfl; have c6 : w1.cell? ⟨gb, 6, none⟩ = some (.int .i64 p6) := (blk_cell BK.out 6).trans rfl; have c7 : w1.cell? ⟨gb, 7, none⟩ = some (.int .i64 p7) := (blk_cell BK.out 7).trans rfl; have c8 : w1.cell? ⟨gb, 8, none⟩ = some (.int .i64 p8) := (blk_cell BK.out 8).trans rfl; have c9 : w1.cell? ⟨gb, 9, none⟩ = some (.int .i64 p9) := (blk_cell BK.out 9).trans rfl; have c10 : w1.cell? ⟨gb, 10, none⟩ = some (.int .i64 p10) := (blk_cell BK.out 10).trans rfl; have c11 : w1.cell? ⟨gb, 11, none⟩ = some (.int .i64 p11) := (blk_cell BK.out 11).trans rfl)
  ((with_reducible refine (skerryref05_MaxSize.calls k p0 p1 p2 p3 p4 p5 p6 p7 p8 p9 p10 p11 0 4 _ H.out).mono ?_); rintro e w2 ⟨rfl, hb⟩)
  have BK2 := Aside0.mk (blk_below BK.out hb)
  have HB2 := Aside0.mk (below_then HB.out HB.out.size hb)
  clear c0 c1 c2 c3 c4 c5 c6 c7 c8 c9 c10 c11
  clear hb BK HB
  have BK := BK2
  have HB := HB2
  clear BK2 HB2
  have c0 : w2.cell? ⟨gb, 0, none⟩ = some (.int .i64 p0) := (blk_cell BK.out 0).trans rfl; have c1 : w2.cell? ⟨gb, 1, none⟩ = some (.int .i64 p1) := (blk_cell BK.out 1).trans rfl; have c2 : w2.cell? ⟨gb, 2, none⟩ = some (.int .i64 p2) := (blk_cell BK.out 2).trans rfl; have c3 : w2.cell? ⟨gb, 3, none⟩ = some (.int .i64 p3) := (blk_cell BK.out 3).trans rfl; have c4 : w2.cell? ⟨gb, 4, none⟩ = some (.int .i64 p4) := (blk_cell BK.out 4).trans rfl; have c5 : w2.cell? ⟨gb, 5, none⟩ = some (.int .i64 p5) := (blk_cell BK.out 5).trans rfl; have c6 : w2.cell? ⟨gb, 6, none⟩ = some (.int .i64 p6) := (blk_cell BK.out 6).trans rfl; have c7 : w2.cell? ⟨gb, 7, none⟩ = some (.int .i64 p7) := (blk_cell BK.out 7).trans rfl; have c8 : w2.cell? ⟨gb, 8, none⟩ = some (.int .i64 p8) := (blk_cell BK.out 8).trans rfl; have c9 : w2.cell? ⟨gb, 9, none⟩ = some (.int .i64 p9) := (blk_cell BK.out 9).trans rfl; have c10 : w2.cell? ⟨gb, 10, none⟩ = some (.int .i64 p10) := (blk_cell BK.out 10).trans rfl; have c11 : w2.cell? ⟨gb, 11, none⟩ = some (.int .i64 p11) := (blk_cell BK.out 11).trans rfl
  go_wp2
  go_ret2
  exact ⟨_, _, _, rfl, ⟨rfl, rfl, rfl⟩, HB.out⟩
set_option maxHeartbeats 4000000 in
set_option maxRecDepth 100000 in
theorem rdir_out {k : Nat} (p0 : Int) (p1 : Int) (p2 : Int) (p3 : Int) (p4 : Int) (p5 : Int) (p6 : Int) (p7 : Int) (p8 : Int) (p9 : Int) (p10 : Int) (p11 : Int) (s : Int) (h : skerryref05_MaxSize.f k p0 p1 p2 p3 p4 p5 p6 p7 p8 p9 p10 p11 = some (s, 0)) (n : Int) (hn : n < 0 ∨ s < n) (w : World) :
    Calls Try.prog 13 #[.agg #[.int .i64 p0, .int .i64 p1, .int .i64 p2, .int .i64 p3, .int .i64 p4, .int .i64 p5, .int .i64 p6, .int .i64 p7, .int .i64 p8, .int .i64 p9, .int .i64 p10, .int .i64 p11], .int .i64 n] w (Ends (Err 2) w) := by
  by_cases c0 : n < 0
  · have d0 : decide (n < 0) = true := decide_eq_true c0
    clear c0 hn
    have hu := Try.underlying23
    have H := Aside0.mk h
    clear h
    go_enter Try.func13, Try.ntmps13
    go_wp2_with ((with_reducible refine gate_dst (N := 2) rfl ?_); refine box_event ?hg (N := 2) ?hd (cs := #[.int .i64 p0, .int .i64 p1, .int .i64 p2, .int .i64 p3, .int .i64 p4, .int .i64 p5, .int .i64 p6, .int .i64 p7, .int .i64 p8, .int .i64 p9, .int .i64 p10, .int .i64 p11]) (t := 23) ?hr ?_; (case hd => rfl); (case hg => rfl); (case hr => first | (go_simp; done) | (go_simp; rfl)); intro gb hg w1 hbox hb; have HB := Aside0.mk (below_step (Below.refl w.heap.size w) hb); have BK := Aside0.mk hbox; clear hb hbox hg; have c0 : w1.cell? ⟨gb, 0, none⟩ = some (.int .i64 p0) := (blk_cell BK.out 0).trans rfl; have c1 : w1.cell? ⟨gb, 1, none⟩ = some (.int .i64 p1) := (blk_cell BK.out 1).trans rfl; have c2 : w1.cell? ⟨gb, 2, none⟩ = some (.int .i64 p2) := (blk_cell BK.out 2).trans rfl; have c3 : w1.cell? ⟨gb, 3, none⟩ = some (.int .i64 p3) := (blk_cell BK.out 3).trans rfl; have c4 : w1.cell? ⟨gb, 4, none⟩ = some (.int .i64 p4) := (blk_cell BK.out 4).trans rfl; have c5 : w1.cell? ⟨gb, 5, none⟩ = some (.int .i64 p5) := (blk_cell BK.out 5).trans rfl; have c6 : w1.cell? ⟨gb, 6, none⟩ = some (.int .i64 p6) := (blk_cell BK.out 6).trans rfl; have c7 : w1.cell? ⟨gb, 7, none⟩ = some (.int .i64 p7) := (blk_cell BK.out 7).trans rfl; have c8 : w1.cell? ⟨gb, 8, none⟩ = some (.int .i64 p8) := (blk_cell BK.out 8).trans rfl; have c9 : w1.cell? ⟨gb, 9, none⟩ = some (.int .i64 p9) := (blk_cell BK.out 9).trans rfl; have c10 : w1.cell? ⟨gb, 10, none⟩ = some (.int .i64 p10) := (blk_cell BK.out 10).trans rfl; have c11 : w1.cell? ⟨gb, 11, none⟩ = some (.int .i64 p11) := (blk_cell BK.out 11).trans rfl)
    ((with_reducible refine (skerryref05_MaxSize.calls k p0 p1 p2 p3 p4 p5 p6 p7 p8 p9 p10 p11 s 0 _ H.out).mono ?_); rintro e w2 ⟨rfl, hb⟩)
    have BK2 := Aside0.mk (blk_below BK.out hb)
    have HB2 := Aside0.mk (below_then HB.out HB.out.size hb)
    clear c0 c1 c2 c3 c4 c5 c6 c7 c8 c9 c10 c11
    clear hb BK HB
    have BK := BK2
    have HB := HB2
    clear BK2 HB2
    have c0 : w2.cell? ⟨gb, 0, none⟩ = some (.int .i64 p0) := (blk_cell BK.out 0).trans rfl; have c1 : w2.cell? ⟨gb, 1, none⟩ = some (.int .i64 p1) := (blk_cell BK.out 1).trans rfl; have c2 : w2.cell? ⟨gb, 2, none⟩ = some (.int .i64 p2) := (blk_cell BK.out 2).trans rfl; have c3 : w2.cell? ⟨gb, 3, none⟩ = some (.int .i64 p3) := (blk_cell BK.out 3).trans rfl; have c4 : w2.cell? ⟨gb, 4, none⟩ = some (.int .i64 p4) := (blk_cell BK.out 4).trans rfl; have c5 : w2.cell? ⟨gb, 5, none⟩ = some (.int .i64 p5) := (blk_cell BK.out 5).trans rfl; have c6 : w2.cell? ⟨gb, 6, none⟩ = some (.int .i64 p6) := (blk_cell BK.out 6).trans rfl; have c7 : w2.cell? ⟨gb, 7, none⟩ = some (.int .i64 p7) := (blk_cell BK.out 7).trans rfl; have c8 : w2.cell? ⟨gb, 8, none⟩ = some (.int .i64 p8) := (blk_cell BK.out 8).trans rfl; have c9 : w2.cell? ⟨gb, 9, none⟩ = some (.int .i64 p9) := (blk_cell BK.out 9).trans rfl; have c10 : w2.cell? ⟨gb, 10, none⟩ = some (.int .i64 p10) := (blk_cell BK.out 10).trans rfl; have c11 : w2.cell? ⟨gb, 11, none⟩ = some (.int .i64 p11) := (blk_cell BK.out 11).trans rfl
    go_wp2
    go_ret2
    exact ⟨_, _, _, rfl, ⟨rfl, rfl, rfl⟩, HB.out⟩
  · have d0 : decide (n < 0) = false := decide_eq_false c0
    have d1 : decide (s < n) = true := decide_eq_true (by omega)
    clear c0 hn
    have hu := Try.underlying23
    have H := Aside0.mk h
    clear h
    go_enter Try.func13, Try.ntmps13
    go_wp2_with ((with_reducible refine gate_dst (N := 2) rfl ?_); refine box_event ?hg (N := 2) ?hd (cs := #[.int .i64 p0, .int .i64 p1, .int .i64 p2, .int .i64 p3, .int .i64 p4, .int .i64 p5, .int .i64 p6, .int .i64 p7, .int .i64 p8, .int .i64 p9, .int .i64 p10, .int .i64 p11]) (t := 23) ?hr ?_; (case hd => rfl); (case hg => rfl); (case hr => first | (go_simp; done) | (go_simp; rfl)); intro gb hg w1 hbox hb; have HB := Aside0.mk (below_step (Below.refl w.heap.size w) hb); have BK := Aside0.mk hbox; clear hb hbox hg; have c0 : w1.cell? ⟨gb, 0, none⟩ = some (.int .i64 p0) := (blk_cell BK.out 0).trans rfl; have c1 : w1.cell? ⟨gb, 1, none⟩ = some (.int .i64 p1) := (blk_cell BK.out 1).trans rfl; have c2 : w1.cell? ⟨gb, 2, none⟩ = some (.int .i64 p2) := (blk_cell BK.out 2).trans rfl; have c3 : w1.cell? ⟨gb, 3, none⟩ = some (.int .i64 p3) := (blk_cell BK.out 3).trans rfl; have c4 : w1.cell? ⟨gb, 4, none⟩ = some (.int .i64 p4) := (blk_cell BK.out 4).trans rfl; have c5 : w1.cell? ⟨gb, 5, none⟩ = some (.int .i64 p5) := (blk_cell BK.out 5).trans rfl; have c6 : w1.cell? ⟨gb, 6, none⟩ = some (.int .i64 p6) := (blk_cell BK.out 6).trans rfl; have c7 : w1.cell? ⟨gb, 7, none⟩ = some (.int .i64 p7) := (blk_cell BK.out 7).trans rfl; have c8 : w1.cell? ⟨gb, 8, none⟩ = some (.int .i64 p8) := (blk_cell BK.out 8).trans rfl; have c9 : w1.cell? ⟨gb, 9, none⟩ = some (.int .i64 p9) := (blk_cell BK.out 9).trans rfl; have c10 : w1.cell? ⟨gb, 10, none⟩ = some (.int .i64 p10) := (blk_cell BK.out 10).trans rfl; have c11 : w1.cell? ⟨gb, 11, none⟩ = some (.int .i64 p11) := (blk_cell BK.out 11).trans rfl)
    ((with_reducible refine (skerryref05_MaxSize.calls k p0 p1 p2 p3 p4 p5 p6 p7 p8 p9 p10 p11 s 0 _ H.out).mono ?_); rintro e w2 ⟨rfl, hb⟩)
    have BK2 := Aside0.mk (blk_below BK.out hb)
    have HB2 := Aside0.mk (below_then HB.out HB.out.size hb)
    clear c0 c1 c2 c3 c4 c5 c6 c7 c8 c9 c10 c11
    clear hb BK HB
    have BK := BK2
    have HB := HB2
    clear BK2 HB2
    have c0 : w2.cell? ⟨gb, 0, none⟩ = some (.int .i64 p0) := (blk_cell BK.out 0).trans rfl; have c1 : w2.cell? ⟨gb, 1, none⟩ = some (.int .i64 p1) := (blk_cell BK.out 1).trans rfl; have c2 : w2.cell? ⟨gb, 2, none⟩ = some (.int .i64 p2) := (blk_cell BK.out 2).trans rfl; have c3 : w2.cell? ⟨gb, 3, none⟩ = some (.int .i64 p3) := (blk_cell BK.out 3).trans rfl; have c4 : w2.cell? ⟨gb, 4, none⟩ = some (.int .i64 p4) := (blk_cell BK.out 4).trans rfl; have c5 : w2.cell? ⟨gb, 5, none⟩ = some (.int .i64 p5) := (blk_cell BK.out 5).trans rfl; have c6 : w2.cell? ⟨gb, 6, none⟩ = some (.int .i64 p6) := (blk_cell BK.out 6).trans rfl; have c7 : w2.cell? ⟨gb, 7, none⟩ = some (.int .i64 p7) := (blk_cell BK.out 7).trans rfl; have c8 : w2.cell? ⟨gb, 8, none⟩ = some (.int .i64 p8) := (blk_cell BK.out 8).trans rfl; have c9 : w2.cell? ⟨gb, 9, none⟩ = some (.int .i64 p9) := (blk_cell BK.out 9).trans rfl; have c10 : w2.cell? ⟨gb, 10, none⟩ = some (.int .i64 p10) := (blk_cell BK.out 10).trans rfl; have c11 : w2.cell? ⟨gb, 11, none⟩ = some (.int .i64 p11) := (blk_cell BK.out 11).trans rfl
    go_wp2
    go_ret2
    exact ⟨_, _, _, rfl, ⟨rfl, rfl, rfl⟩, HB.out⟩
set_option maxHeartbeats 4000000 in
set_option maxRecDepth 100000 in
theorem rdir_in {k : Nat} (p0 : Int) (p1 : Int) (p2 : Int) (p3 : Int) (p4 : Int) (p5 : Int) (p6 : Int) (p7 : Int) (p8 : Int) (p9 : Int) (p10 : Int) (p11 : Int) (s : Int) (h : skerryref05_MaxSize.f k p0 p1 p2 p3 p4 p5 p6 p7 p8 p9 p10 p11 = some (s, 0)) (s1 : s ≤ 524288) (two : p0 = 64 ∨ p0 = 128 ∨ p0 = 256 ∨ p0 = 512 ∨ p0 = 1024 ∨ p0 = 2048 ∨ p0 = 4096) (n : Int) (n0 : 0 ≤ n) (n1 : n ≤ s) (Q : Nat → Nat → Int → Prop)
    (hF : ∀ W, Calls Try.prog 12 #[.agg #[.int .i64 p0, .int .i64 p1, .int .i64 p2, .int .i64 p3, .int .i64 p4, .int .i64 p5, .int .i64 p6, .int .i64 p7, .int .i64 p8, .int .i64 p9, .int .i64 p10, .int .i64 p11], .int .i64 (dsize p0 n)] W (Ends Q W)) (w : World) :
    Calls Try.prog 13 #[.agg #[.int .i64 p0, .int .i64 p1, .int .i64 p2, .int .i64 p3, .int .i64 p4, .int .i64 p5, .int .i64 p6, .int .i64 p7, .int .i64 p8, .int .i64 p9, .int .i64 p10, .int .i64 p11], .int .i64 n] w (Ends Q w) := by
  have d0 : decide (n < 0) = false := decide_eq_false (by omega)
  have d1 : decide (s < n) = false := decide_eq_false (by omega)
  have hp0 : 64 ≤ p0 := by omega
  have hp1 : p0 ≤ 4096 := by omega
  have hlow := dlow two n0
  have TW := Aside0.mk two
  have HF := Aside0.mk hF
  obtain ⟨D, hD⟩ : ∃ D, dsize p0 n = D := ⟨_, rfl⟩
  rw [hD] at hlow
  have HD := Aside0.mk hD
  have hD1 : D ≤ 9000000 := by omega
  have hD0 := hlow.1
  clear two hF hD hlow
  have hu := Try.underlying23
  have H := Aside0.mk h
  clear h
  go_enter Try.func13, Try.ntmps13
  go_wp2_with ((with_reducible refine gate_dst (N := 2) rfl ?_); refine box_event ?hg (N := 2) ?hd (cs := #[.int .i64 p0, .int .i64 p1, .int .i64 p2, .int .i64 p3, .int .i64 p4, .int .i64 p5, .int .i64 p6, .int .i64 p7, .int .i64 p8, .int .i64 p9, .int .i64 p10, .int .i64 p11]) (t := 23) ?hr ?_; (case hd => rfl); (case hg => rfl); (case hr => first | (go_simp; done) | (go_simp; rfl)); intro gb hg w1 hbox hb; have HB := Aside0.mk (below_step (Below.refl w.heap.size w) hb); have BK := Aside0.mk hbox; clear hb hbox hg; have c0 : w1.cell? ⟨gb, 0, none⟩ = some (.int .i64 p0) := (blk_cell BK.out 0).trans rfl; have c1 : w1.cell? ⟨gb, 1, none⟩ = some (.int .i64 p1) := (blk_cell BK.out 1).trans rfl; have c2 : w1.cell? ⟨gb, 2, none⟩ = some (.int .i64 p2) := (blk_cell BK.out 2).trans rfl; have c3 : w1.cell? ⟨gb, 3, none⟩ = some (.int .i64 p3) := (blk_cell BK.out 3).trans rfl; have c4 : w1.cell? ⟨gb, 4, none⟩ = some (.int .i64 p4) := (blk_cell BK.out 4).trans rfl; have c5 : w1.cell? ⟨gb, 5, none⟩ = some (.int .i64 p5) := (blk_cell BK.out 5).trans rfl; have c6 : w1.cell? ⟨gb, 6, none⟩ = some (.int .i64 p6) := (blk_cell BK.out 6).trans rfl; have c7 : w1.cell? ⟨gb, 7, none⟩ = some (.int .i64 p7) := (blk_cell BK.out 7).trans rfl; have c8 : w1.cell? ⟨gb, 8, none⟩ = some (.int .i64 p8) := (blk_cell BK.out 8).trans rfl; have c9 : w1.cell? ⟨gb, 9, none⟩ = some (.int .i64 p9) := (blk_cell BK.out 9).trans rfl; have c10 : w1.cell? ⟨gb, 10, none⟩ = some (.int .i64 p10) := (blk_cell BK.out 10).trans rfl; have c11 : w1.cell? ⟨gb, 11, none⟩ = some (.int .i64 p11) := (blk_cell BK.out 11).trans rfl)
  ((with_reducible refine (skerryref05_MaxSize.calls k p0 p1 p2 p3 p4 p5 p6 p7 p8 p9 p10 p11 s 0 _ H.out).mono ?_); rintro e w2 ⟨rfl, hb⟩)
  have BK2 := Aside0.mk (blk_below BK.out hb)
  have HB2 := Aside0.mk (below_then HB.out HB.out.size hb)
  clear c0 c1 c2 c3 c4 c5 c6 c7 c8 c9 c10 c11
  clear hb BK HB
  have BK := BK2
  have HB := HB2
  clear BK2 HB2
  have c0 : w2.cell? ⟨gb, 0, none⟩ = some (.int .i64 p0) := (blk_cell BK.out 0).trans rfl; have c1 : w2.cell? ⟨gb, 1, none⟩ = some (.int .i64 p1) := (blk_cell BK.out 1).trans rfl; have c2 : w2.cell? ⟨gb, 2, none⟩ = some (.int .i64 p2) := (blk_cell BK.out 2).trans rfl; have c3 : w2.cell? ⟨gb, 3, none⟩ = some (.int .i64 p3) := (blk_cell BK.out 3).trans rfl; have c4 : w2.cell? ⟨gb, 4, none⟩ = some (.int .i64 p4) := (blk_cell BK.out 4).trans rfl; have c5 : w2.cell? ⟨gb, 5, none⟩ = some (.int .i64 p5) := (blk_cell BK.out 5).trans rfl; have c6 : w2.cell? ⟨gb, 6, none⟩ = some (.int .i64 p6) := (blk_cell BK.out 6).trans rfl; have c7 : w2.cell? ⟨gb, 7, none⟩ = some (.int .i64 p7) := (blk_cell BK.out 7).trans rfl; have c8 : w2.cell? ⟨gb, 8, none⟩ = some (.int .i64 p8) := (blk_cell BK.out 8).trans rfl; have c9 : w2.cell? ⟨gb, 9, none⟩ = some (.int .i64 p9) := (blk_cell BK.out 9).trans rfl; have c10 : w2.cell? ⟨gb, 10, none⟩ = some (.int .i64 p10) := (blk_cell BK.out 10).trans rfl; have c11 : w2.cell? ⟨gb, 11, none⟩ = some (.int .i64 p11) := (blk_cell BK.out 11).trans rfl
  go_wp2_with fail
  go_loop [8] (fun z => ∃ x : Int, z = .int .i64 x ∧ 16 * n ≤ x ∧ x ≤ D ∧ Aside0 (x % 16 = 0)) (fun z => (D - intOf z).toNat)
  case atStart => exact ⟨_, rfl, by omega, by omega, ⟨by omega⟩⟩
  case round =>
    obtain ⟨x, rfl, x0, x1, HX⟩ := hrel
    have x2 : 0 ≤ x := by omega
    by_cases c : x % p0 = 0
    · have e1 : (x % p0 != 0) = false := by rw [c]; rfl
      have hx : x = dsize p0 n := dstop TW.out n0 x0 (by rw [HD.out]; exact x1) c
      have HX2 := Aside0.mk hx
      have H1 := HF.out
      rw [← hx] at H1
      have HF1 := Aside0.mk H1
      clear H1 hx c HF
      go_wp2_with fail
      ((with_reducible refine (HF1.out _).mono ?_); rintro e w3 ⟨u, v, r, rfl, hq, hb⟩)
      have HB3 := Aside0.mk (below_then HB.out HB.out.size hb)
      have HQ := Aside0.mk hq
      clear hb hq
      go_wp2
      go_ret2
      exact ⟨_, _, _, rfl, HQ.out, HB3.out⟩
    · have e1 : (x % p0 != 0) = true := bne_iff_ne.2 c
      have hs := dstep TW.out n0 x0 (by rw [HD.out]; exact x1) HX.out c
      rw [HD.out] at hs
      clear c
      go_wp2_with fail
      go_round
      case rel => exact ⟨x + 16, rfl, by omega, by omega, ⟨by have := HX.out; omega⟩⟩
      case measure => simp [intOf]; omega
theorem rdir_fine (p0 : Int) (p1 : Int) (p2 : Int) (p3 : Int) (p4 : Int) (p5 : Int) (p6 : Int) (p7 : Int) (p8 : Int) (p9 : Int) (p10 : Int) (p11 : Int) (s : Int) (G : Fine p0 p1 p2 p3 p4 p5 p6 p7 p8 p9 p10 p11 s) {k : Nat} (R : RFine k p0 p1 p2 p3 p4 p5 p6 p7 p8 p9 p10 p11 s) (n : Int) (w : World) : Calls Try.prog 13 #[.agg #[.int .i64 p0, .int .i64 p1, .int .i64 p2, .int .i64 p3, .int .i64 p4, .int .i64 p5, .int .i64 p6, .int .i64 p7, .int .i64 p8, .int .i64 p9, .int .i64 p10, .int .i64 p11], .int .i64 n] w (Ends (RDirOut p0 s n) w) := by
  have hs := G.low
  by_cases c : n < 0 ∨ s < n
  · refine (rdir_out p0 p1 p2 p3 p4 p5 p6 p7 p8 p9 p10 p11 s R.max n c w).mono ?_
    rintro e w' ⟨x, y, r, rfl, ⟨rfl, rfl, rfl⟩, hb⟩
    exact ⟨_, _, _, rfl, .inr ⟨by omega, rfl, rfl, rfl⟩, hb⟩
  · refine rdir_in p0 p1 p2 p3 p4 p5 p6 p7 p8 p9 p10 p11 s R.max G.high G.two n (by omega) (by omega) _ (fun W => ?_) w
    refine (rfile_fine G R (dsize p0 n) W).mono ?_
    rintro e w' ⟨x, y, r, rfl, hq, hb⟩
    refine ⟨_, _, _, rfl, ?_, hb⟩
    have hl := dlow G.two (show 0 ≤ n by omega)
    by_cases d : n ≤ s / 16
    · have hd := dsize_ok G.size G.two (show 0 ≤ n by omega) d
      rcases hq with ⟨_, h⟩ | ⟨h, _⟩
      · exact .inl ⟨⟨by omega, d⟩, h⟩
      · exact absurd hd h
    · rcases hq with ⟨h, _⟩ | ⟨_, h⟩
      · exfalso; omega
      · exact .inr ⟨by omega, h⟩
set_option maxHeartbeats 4000000 in
set_option maxRecDepth 100000 in
theorem have_foul (p0 : Int) (p1 : Int) (p2 : Int) (p3 : Int) (p4 : Int) (p5 : Int) (p6 : Int) (p7 : Int) (p8 : Int) (p9 : Int) (p10 : Int) (p11 : Int) (h : plan_Check.f p0 p1 p2 p3 p4 p5 p6 p7 p8 p9 p10 p11 = some 4) (w : World) :
    Calls Try.prog 14 #[.agg #[.int .i64 p0, .int .i64 p1, .int .i64 p2, .int .i64 p3, .int .i64 p4, .int .i64 p5, .int .i64 p6, .int .i64 p7, .int .i64 p8, .int .i64 p9, .int .i64 p10, .int .i64 p11]] w (Ends (Err 4) w) := by
  have hu := Try.underlying23
  have H := Aside0.mk h
  clear h
  go_enter Try.func14, Try.ntmps14
  go_wp2_with ((with_reducible refine gate_dst (N := 1) rfl ?_); refine box_event ?hg (N := 1) ?hd (cs := #[.int .i64 p0, .int .i64 p1, .int .i64 p2, .int .i64 p3, .int .i64 p4, .int .i64 p5, .int .i64 p6, .int .i64 p7, .int .i64 p8, .int .i64 p9, .int .i64 p10, .int .i64 p11]) (t := 23) ?hr ?_; (case hd => rfl); (case hg => rfl); (case hr => first | (go_simp; done) | (go_simp; rfl)); intro gb hg w1 hbox hb; have HB := Aside0.mk (below_step (Below.refl w.heap.size w) hb); have BK := Aside0.mk hbox; clear hb hbox hg; have c0 : w1.cell? ⟨gb, 0, none⟩ = some (.int .i64 p0) := (blk_cell BK.out 0).trans rfl; have c1 : w1.cell? ⟨gb, 1, none⟩ = some (.int .i64 p1) := (blk_cell BK.out 1).trans rfl; have c2 : w1.cell? ⟨gb, 2, none⟩ = some (.int .i64 p2) := (blk_cell BK.out 2).trans rfl; have c3 : w1.cell? ⟨gb, 3, none⟩ = some (.int .i64 p3) := (blk_cell BK.out 3).trans rfl; have c4 : w1.cell? ⟨gb, 4, none⟩ = some (.int .i64 p4) := (blk_cell BK.out 4).trans rfl; have c5 : w1.cell? ⟨gb, 5, none⟩ = some (.int .i64 p5) := (blk_cell BK.out 5).trans rfl; have c6 : w1.cell? ⟨gb, 6, none⟩ = some (.int .i64 p6) := (blk_cell BK.out 6).trans rfl; have c7 : w1.cell? ⟨gb, 7, none⟩ = some (.int .i64 p7) := (blk_cell BK.out 7).trans rfl; have c8 : w1.cell? ⟨gb, 8, none⟩ = some (.int .i64 p8) := (blk_cell BK.out 8).trans rfl; have c9 : w1.cell? ⟨gb, 9, none⟩ = some (.int .i64 p9) := (blk_cell BK.out 9).trans rfl; have c10 : w1.cell? ⟨gb, 10, none⟩ = some (.int .i64 p10) := (blk_cell BK.out 10).trans rfl; have c11 : w1.cell? ⟨gb, 11, none⟩ = some (.int .i64 p11) := (blk_cell BK.out 11).trans rfl)
  ((with_reducible refine (plan_Check.calls p0 p1 p2 p3 p4 p5 p6 p7 p8 p9 p10 p11 4 _ H.out).mono ?_); rintro e w2 ⟨rfl, hb⟩)
  have BK2 := Aside0.mk (blk_below BK.out hb)
  have HB2 := Aside0.mk (below_then HB.out HB.out.size hb)
  clear c0 c1 c2 c3 c4 c5 c6 c7 c8 c9 c10 c11
  clear hb BK HB
  have BK := BK2
  have HB := HB2
  clear BK2 HB2
  have c0 : w2.cell? ⟨gb, 0, none⟩ = some (.int .i64 p0) := (blk_cell BK.out 0).trans rfl; have c1 : w2.cell? ⟨gb, 1, none⟩ = some (.int .i64 p1) := (blk_cell BK.out 1).trans rfl; have c2 : w2.cell? ⟨gb, 2, none⟩ = some (.int .i64 p2) := (blk_cell BK.out 2).trans rfl; have c3 : w2.cell? ⟨gb, 3, none⟩ = some (.int .i64 p3) := (blk_cell BK.out 3).trans rfl; have c4 : w2.cell? ⟨gb, 4, none⟩ = some (.int .i64 p4) := (blk_cell BK.out 4).trans rfl; have c5 : w2.cell? ⟨gb, 5, none⟩ = some (.int .i64 p5) := (blk_cell BK.out 5).trans rfl; have c6 : w2.cell? ⟨gb, 6, none⟩ = some (.int .i64 p6) := (blk_cell BK.out 6).trans rfl; have c7 : w2.cell? ⟨gb, 7, none⟩ = some (.int .i64 p7) := (blk_cell BK.out 7).trans rfl; have c8 : w2.cell? ⟨gb, 8, none⟩ = some (.int .i64 p8) := (blk_cell BK.out 8).trans rfl; have c9 : w2.cell? ⟨gb, 9, none⟩ = some (.int .i64 p9) := (blk_cell BK.out 9).trans rfl; have c10 : w2.cell? ⟨gb, 10, none⟩ = some (.int .i64 p10) := (blk_cell BK.out 10).trans rfl; have c11 : w2.cell? ⟨gb, 11, none⟩ = some (.int .i64 p11) := (blk_cell BK.out 11).trans rfl
  go_wp2
  go_ret2
  exact ⟨_, _, _, rfl, ⟨rfl, rfl, rfl⟩, HB.out⟩
set_option maxHeartbeats 4000000 in
set_option maxRecDepth 100000 in
theorem have_fine (p0 : Int) (p1 : Int) (p2 : Int) (p3 : Int) (p4 : Int) (p5 : Int) (p6 : Int) (p7 : Int) (p8 : Int) (p9 : Int) (p10 : Int) (p11 : Int) (h : plan_Check.f p0 p1 p2 p3 p4 p5 p6 p7 p8 p9 p10 p11 = some 0) (r1 : 1 ≤ p1 ∧ p1 ≤ 4096) (r2 : 2 ≤ p2 ∧ p2 ≤ 1024) (r11 : 0 ≤ p11 ∧ p11 < p1) (w : World) :
    Calls Try.prog 14 #[.agg #[.int .i64 p0, .int .i64 p1, .int .i64 p2, .int .i64 p3, .int .i64 p4, .int .i64 p5, .int .i64 p6, .int .i64 p7, .int .i64 p8, .int .i64 p9, .int .i64 p10, .int .i64 p11]] w (Ends (fun x y r => r = 0 ∧ x = floatOfInt .f64 (p1 - p11) ∧ y = floatOfInt .f64 (p2 - 1)) w) := by
  have w1 : IntKind.i64.wrap (p1 - p11) = p1 - p11 := by rw [IntKind.wrap_i64]; omega
  have w2 : IntKind.i64.wrap (p2 - 1) = p2 - 1 := by rw [IntKind.wrap_i64]; omega
  have HA := Aside0.mk (fun W => amount (p1 - p11) (p2 - 1) ⟨by omega, by omega⟩ ⟨by omega, by omega⟩ W)
  clear r1 r2 r11
  have hu := Try.underlying23
  have H := Aside0.mk h
  clear h
  go_enter Try.func14, Try.ntmps14
  go_wp2_with ((with_reducible refine gate_dst (N := 1) rfl ?_); refine box_event ?hg (N := 1) ?hd (cs := #[.int .i64 p0, .int .i64 p1, .int .i64 p2, .int .i64 p3, .int .i64 p4, .int .i64 p5, .int .i64 p6, .int .i64 p7, .int .i64 p8, .int .i64 p9, .int .i64 p10, .int .i64 p11]) (t := 23) ?hr ?_; (case hd => rfl); (case hg => rfl); (case hr => first | (go_simp; done) | (go_simp; rfl)); intro gb hg w1 hbox hb; have HB := Aside0.mk (below_step (Below.refl w.heap.size w) hb); have BK := Aside0.mk hbox; clear hb hbox hg; have c0 : w1.cell? ⟨gb, 0, none⟩ = some (.int .i64 p0) := (blk_cell BK.out 0).trans rfl; have c1 : w1.cell? ⟨gb, 1, none⟩ = some (.int .i64 p1) := (blk_cell BK.out 1).trans rfl; have c2 : w1.cell? ⟨gb, 2, none⟩ = some (.int .i64 p2) := (blk_cell BK.out 2).trans rfl; have c3 : w1.cell? ⟨gb, 3, none⟩ = some (.int .i64 p3) := (blk_cell BK.out 3).trans rfl; have c4 : w1.cell? ⟨gb, 4, none⟩ = some (.int .i64 p4) := (blk_cell BK.out 4).trans rfl; have c5 : w1.cell? ⟨gb, 5, none⟩ = some (.int .i64 p5) := (blk_cell BK.out 5).trans rfl; have c6 : w1.cell? ⟨gb, 6, none⟩ = some (.int .i64 p6) := (blk_cell BK.out 6).trans rfl; have c7 : w1.cell? ⟨gb, 7, none⟩ = some (.int .i64 p7) := (blk_cell BK.out 7).trans rfl; have c8 : w1.cell? ⟨gb, 8, none⟩ = some (.int .i64 p8) := (blk_cell BK.out 8).trans rfl; have c9 : w1.cell? ⟨gb, 9, none⟩ = some (.int .i64 p9) := (blk_cell BK.out 9).trans rfl; have c10 : w1.cell? ⟨gb, 10, none⟩ = some (.int .i64 p10) := (blk_cell BK.out 10).trans rfl; have c11 : w1.cell? ⟨gb, 11, none⟩ = some (.int .i64 p11) := (blk_cell BK.out 11).trans rfl)
  ((with_reducible refine (plan_Check.calls p0 p1 p2 p3 p4 p5 p6 p7 p8 p9 p10 p11 0 _ H.out).mono ?_); rintro e w2 ⟨rfl, hb⟩)
  have BK2 := Aside0.mk (blk_below BK.out hb)
  have HB2 := Aside0.mk (below_then HB.out HB.out.size hb)
  clear c0 c1 c2 c3 c4 c5 c6 c7 c8 c9 c10 c11
  clear hb BK HB
  have BK := BK2
  have HB := HB2
  clear BK2 HB2
  have c0 : w2.cell? ⟨gb, 0, none⟩ = some (.int .i64 p0) := (blk_cell BK.out 0).trans rfl; have c1 : w2.cell? ⟨gb, 1, none⟩ = some (.int .i64 p1) := (blk_cell BK.out 1).trans rfl; have c2 : w2.cell? ⟨gb, 2, none⟩ = some (.int .i64 p2) := (blk_cell BK.out 2).trans rfl; have c3 : w2.cell? ⟨gb, 3, none⟩ = some (.int .i64 p3) := (blk_cell BK.out 3).trans rfl; have c4 : w2.cell? ⟨gb, 4, none⟩ = some (.int .i64 p4) := (blk_cell BK.out 4).trans rfl; have c5 : w2.cell? ⟨gb, 5, none⟩ = some (.int .i64 p5) := (blk_cell BK.out 5).trans rfl; have c6 : w2.cell? ⟨gb, 6, none⟩ = some (.int .i64 p6) := (blk_cell BK.out 6).trans rfl; have c7 : w2.cell? ⟨gb, 7, none⟩ = some (.int .i64 p7) := (blk_cell BK.out 7).trans rfl; have c8 : w2.cell? ⟨gb, 8, none⟩ = some (.int .i64 p8) := (blk_cell BK.out 8).trans rfl; have c9 : w2.cell? ⟨gb, 9, none⟩ = some (.int .i64 p9) := (blk_cell BK.out 9).trans rfl; have c10 : w2.cell? ⟨gb, 10, none⟩ = some (.int .i64 p10) := (blk_cell BK.out 10).trans rfl; have c11 : w2.cell? ⟨gb, 11, none⟩ = some (.int .i64 p11) := (blk_cell BK.out 11).trans rfl
  go_wp2_with fail
  ((with_reducible refine (HA.out _).mono ?_); rintro e w3 ⟨rfl, hb⟩)
  have HB3 := Aside0.mk (hb ▸ HB.out)
  clear hb
  go_wp2
  go_ret2
  exact ⟨_, _, _, rfl, ⟨rfl, rfl, rfl⟩, HB3.out⟩
set_option maxHeartbeats 4000000 in
set_option maxRecDepth 100000 in
theorem rhave_foul (k : Nat) (p0 : Int) (p1 : Int) (p2 : Int) (p3 : Int) (p4 : Int) (p5 : Int) (p6 : Int) (p7 : Int) (p8 : Int) (p9 : Int) (p10 : Int) (p11 : Int) (h : skerryref05_Check.f k p0 p1 p2 p3 p4 p5 p6 p7 p8 p9 p10 p11 = some 4) (w : World) :
    Calls Try.prog 15 #[.agg #[.int .i64 p0, .int .i64 p1, .int .i64 p2, .int .i64 p3, .int .i64 p4, .int .i64 p5, .int .i64 p6, .int .i64 p7, .int .i64 p8, .int .i64 p9, .int .i64 p10, .int .i64 p11]] w (Ends (Err 4) w) := by
  have hu := Try.underlying23
  have H := Aside0.mk h
  clear h
  go_enter Try.func15, Try.ntmps15
  go_wp2_with ((with_reducible refine gate_dst (N := 1) rfl ?_); refine box_event ?hg (N := 1) ?hd (cs := #[.int .i64 p0, .int .i64 p1, .int .i64 p2, .int .i64 p3, .int .i64 p4, .int .i64 p5, .int .i64 p6, .int .i64 p7, .int .i64 p8, .int .i64 p9, .int .i64 p10, .int .i64 p11]) (t := 23) ?hr ?_; (case hd => rfl); (case hg => rfl); (case hr => first | (go_simp; done) | (go_simp; rfl)); intro gb hg w1 hbox hb; have HB := Aside0.mk (below_step (Below.refl w.heap.size w) hb); have BK := Aside0.mk hbox; clear hb hbox hg; have c0 : w1.cell? ⟨gb, 0, none⟩ = some (.int .i64 p0) := (blk_cell BK.out 0).trans rfl; have c1 : w1.cell? ⟨gb, 1, none⟩ = some (.int .i64 p1) := (blk_cell BK.out 1).trans rfl; have c2 : w1.cell? ⟨gb, 2, none⟩ = some (.int .i64 p2) := (blk_cell BK.out 2).trans rfl; have c3 : w1.cell? ⟨gb, 3, none⟩ = some (.int .i64 p3) := (blk_cell BK.out 3).trans rfl; have c4 : w1.cell? ⟨gb, 4, none⟩ = some (.int .i64 p4) := (blk_cell BK.out 4).trans rfl; have c5 : w1.cell? ⟨gb, 5, none⟩ = some (.int .i64 p5) := (blk_cell BK.out 5).trans rfl; have c6 : w1.cell? ⟨gb, 6, none⟩ = some (.int .i64 p6) := (blk_cell BK.out 6).trans rfl; have c7 : w1.cell? ⟨gb, 7, none⟩ = some (.int .i64 p7) := (blk_cell BK.out 7).trans rfl; have c8 : w1.cell? ⟨gb, 8, none⟩ = some (.int .i64 p8) := (blk_cell BK.out 8).trans rfl; have c9 : w1.cell? ⟨gb, 9, none⟩ = some (.int .i64 p9) := (blk_cell BK.out 9).trans rfl; have c10 : w1.cell? ⟨gb, 10, none⟩ = some (.int .i64 p10) := (blk_cell BK.out 10).trans rfl; have c11 : w1.cell? ⟨gb, 11, none⟩ = some (.int .i64 p11) := (blk_cell BK.out 11).trans rfl)
  ((with_reducible refine (skerryref05_Check.calls k p0 p1 p2 p3 p4 p5 p6 p7 p8 p9 p10 p11 4 _ H.out).mono ?_); rintro e w2 ⟨rfl, hb⟩)
  have BK2 := Aside0.mk (blk_below BK.out hb)
  have HB2 := Aside0.mk (below_then HB.out HB.out.size hb)
  clear c0 c1 c2 c3 c4 c5 c6 c7 c8 c9 c10 c11
  clear hb BK HB
  have BK := BK2
  have HB := HB2
  clear BK2 HB2
  have c0 : w2.cell? ⟨gb, 0, none⟩ = some (.int .i64 p0) := (blk_cell BK.out 0).trans rfl; have c1 : w2.cell? ⟨gb, 1, none⟩ = some (.int .i64 p1) := (blk_cell BK.out 1).trans rfl; have c2 : w2.cell? ⟨gb, 2, none⟩ = some (.int .i64 p2) := (blk_cell BK.out 2).trans rfl; have c3 : w2.cell? ⟨gb, 3, none⟩ = some (.int .i64 p3) := (blk_cell BK.out 3).trans rfl; have c4 : w2.cell? ⟨gb, 4, none⟩ = some (.int .i64 p4) := (blk_cell BK.out 4).trans rfl; have c5 : w2.cell? ⟨gb, 5, none⟩ = some (.int .i64 p5) := (blk_cell BK.out 5).trans rfl; have c6 : w2.cell? ⟨gb, 6, none⟩ = some (.int .i64 p6) := (blk_cell BK.out 6).trans rfl; have c7 : w2.cell? ⟨gb, 7, none⟩ = some (.int .i64 p7) := (blk_cell BK.out 7).trans rfl; have c8 : w2.cell? ⟨gb, 8, none⟩ = some (.int .i64 p8) := (blk_cell BK.out 8).trans rfl; have c9 : w2.cell? ⟨gb, 9, none⟩ = some (.int .i64 p9) := (blk_cell BK.out 9).trans rfl; have c10 : w2.cell? ⟨gb, 10, none⟩ = some (.int .i64 p10) := (blk_cell BK.out 10).trans rfl; have c11 : w2.cell? ⟨gb, 11, none⟩ = some (.int .i64 p11) := (blk_cell BK.out 11).trans rfl
  go_wp2
  go_ret2
  exact ⟨_, _, _, rfl, ⟨rfl, rfl, rfl⟩, HB.out⟩
set_option maxHeartbeats 4000000 in
set_option maxRecDepth 100000 in
theorem rhave_fine (k : Nat) (p0 : Int) (p1 : Int) (p2 : Int) (p3 : Int) (p4 : Int) (p5 : Int) (p6 : Int) (p7 : Int) (p8 : Int) (p9 : Int) (p10 : Int) (p11 : Int) (h : skerryref05_Check.f k p0 p1 p2 p3 p4 p5 p6 p7 p8 p9 p10 p11 = some 0) (r1 : 1 ≤ p1 ∧ p1 ≤ 4096) (r2 : 2 ≤ p2 ∧ p2 ≤ 1024) (r11 : 0 ≤ p11 ∧ p11 < p1) (w : World) :
    Calls Try.prog 15 #[.agg #[.int .i64 p0, .int .i64 p1, .int .i64 p2, .int .i64 p3, .int .i64 p4, .int .i64 p5, .int .i64 p6, .int .i64 p7, .int .i64 p8, .int .i64 p9, .int .i64 p10, .int .i64 p11]] w (Ends (fun x y r => r = 0 ∧ x = floatOfInt .f64 (p1 - p11) ∧ y = floatOfInt .f64 (p2 - 1)) w) := by
  have w1 : IntKind.i64.wrap (p1 - p11) = p1 - p11 := by rw [IntKind.wrap_i64]; omega
  have w2 : IntKind.i64.wrap (p2 - 1) = p2 - 1 := by rw [IntKind.wrap_i64]; omega
  have HA := Aside0.mk (fun W => ramount_ok (p1 - p11) (p2 - 1) ⟨by omega, by omega⟩ ⟨by omega, by omega⟩ W)
  clear r1 r2 r11
  have hu := Try.underlying23
  have H := Aside0.mk h
  clear h
  go_enter Try.func15, Try.ntmps15
  go_wp2_with ((with_reducible refine gate_dst (N := 1) rfl ?_); refine box_event ?hg (N := 1) ?hd (cs := #[.int .i64 p0, .int .i64 p1, .int .i64 p2, .int .i64 p3, .int .i64 p4, .int .i64 p5, .int .i64 p6, .int .i64 p7, .int .i64 p8, .int .i64 p9, .int .i64 p10, .int .i64 p11]) (t := 23) ?hr ?_; (case hd => rfl); (case hg => rfl); (case hr => first | (go_simp; done) | (go_simp; rfl)); intro gb hg w1 hbox hb; have HB := Aside0.mk (below_step (Below.refl w.heap.size w) hb); have BK := Aside0.mk hbox; clear hb hbox hg; have c0 : w1.cell? ⟨gb, 0, none⟩ = some (.int .i64 p0) := (blk_cell BK.out 0).trans rfl; have c1 : w1.cell? ⟨gb, 1, none⟩ = some (.int .i64 p1) := (blk_cell BK.out 1).trans rfl; have c2 : w1.cell? ⟨gb, 2, none⟩ = some (.int .i64 p2) := (blk_cell BK.out 2).trans rfl; have c3 : w1.cell? ⟨gb, 3, none⟩ = some (.int .i64 p3) := (blk_cell BK.out 3).trans rfl; have c4 : w1.cell? ⟨gb, 4, none⟩ = some (.int .i64 p4) := (blk_cell BK.out 4).trans rfl; have c5 : w1.cell? ⟨gb, 5, none⟩ = some (.int .i64 p5) := (blk_cell BK.out 5).trans rfl; have c6 : w1.cell? ⟨gb, 6, none⟩ = some (.int .i64 p6) := (blk_cell BK.out 6).trans rfl; have c7 : w1.cell? ⟨gb, 7, none⟩ = some (.int .i64 p7) := (blk_cell BK.out 7).trans rfl; have c8 : w1.cell? ⟨gb, 8, none⟩ = some (.int .i64 p8) := (blk_cell BK.out 8).trans rfl; have c9 : w1.cell? ⟨gb, 9, none⟩ = some (.int .i64 p9) := (blk_cell BK.out 9).trans rfl; have c10 : w1.cell? ⟨gb, 10, none⟩ = some (.int .i64 p10) := (blk_cell BK.out 10).trans rfl; have c11 : w1.cell? ⟨gb, 11, none⟩ = some (.int .i64 p11) := (blk_cell BK.out 11).trans rfl)
  ((with_reducible refine (skerryref05_Check.calls k p0 p1 p2 p3 p4 p5 p6 p7 p8 p9 p10 p11 0 _ H.out).mono ?_); rintro e w2 ⟨rfl, hb⟩)
  have BK2 := Aside0.mk (blk_below BK.out hb)
  have HB2 := Aside0.mk (below_then HB.out HB.out.size hb)
  clear c0 c1 c2 c3 c4 c5 c6 c7 c8 c9 c10 c11
  clear hb BK HB
  have BK := BK2
  have HB := HB2
  clear BK2 HB2
  have c0 : w2.cell? ⟨gb, 0, none⟩ = some (.int .i64 p0) := (blk_cell BK.out 0).trans rfl; have c1 : w2.cell? ⟨gb, 1, none⟩ = some (.int .i64 p1) := (blk_cell BK.out 1).trans rfl; have c2 : w2.cell? ⟨gb, 2, none⟩ = some (.int .i64 p2) := (blk_cell BK.out 2).trans rfl; have c3 : w2.cell? ⟨gb, 3, none⟩ = some (.int .i64 p3) := (blk_cell BK.out 3).trans rfl; have c4 : w2.cell? ⟨gb, 4, none⟩ = some (.int .i64 p4) := (blk_cell BK.out 4).trans rfl; have c5 : w2.cell? ⟨gb, 5, none⟩ = some (.int .i64 p5) := (blk_cell BK.out 5).trans rfl; have c6 : w2.cell? ⟨gb, 6, none⟩ = some (.int .i64 p6) := (blk_cell BK.out 6).trans rfl; have c7 : w2.cell? ⟨gb, 7, none⟩ = some (.int .i64 p7) := (blk_cell BK.out 7).trans rfl; have c8 : w2.cell? ⟨gb, 8, none⟩ = some (.int .i64 p8) := (blk_cell BK.out 8).trans rfl; have c9 : w2.cell? ⟨gb, 9, none⟩ = some (.int .i64 p9) := (blk_cell BK.out 9).trans rfl; have c10 : w2.cell? ⟨gb, 10, none⟩ = some (.int .i64 p10) := (blk_cell BK.out 10).trans rfl; have c11 : w2.cell? ⟨gb, 11, none⟩ = some (.int .i64 p11) := (blk_cell BK.out 11).trans rfl
  go_wp2_with fail
  ((with_reducible refine (HA.out _).mono ?_); rintro e w3 ⟨rfl, hb⟩)
  have HB3 := Aside0.mk (below_then HB.out HB.out.size hb)
  clear hb
  go_wp2
  go_ret2
  exact ⟨_, _, _, rfl, ⟨rfl, rfl, rfl⟩, HB3.out⟩
end Go.Proofs.Ytdjlbbfgobbcmaa.Need
