/- A larger file needs no less: the walk of the law NeedGrows. No conditions. -/
import Derived.Test.YtdjlbbfgobbcmaaKNFile
namespace Go.Proofs.Ytdjlbbfgobbcmaa.Need
open Go.RowKit Go.Proofs.Ytdjlbbfgobbcmaa.PNeedGrows Go.Proofs.Ytdjlbbfgobbcmaa.PlainFloat Go.Proofs.Ytdjlbbfgobbcmaa.Turn Go.Proofs.YtdjlbbfgobbcmaaW.PrintWords Go.Proofs.YtdjlbbfgobbcmaaW.PrintLast Go.Proofs.YtdjlbbfgobbcmaaW.PrintMore
set_option linter.unusedVariables false
set_option linter.unusedSimpArgs false

/-- What a file needs, told in numbers. -/
def FileP (b n : Int) (x y : Nat) (r : Int) : Prop := r ≠ 0 ∧ x = 0 ∧ y = 0 ∨ r = 0 ∧ y = 4607182418800017408 ∧ Rep x (Pure.blocks b n) ∧ 0 ≤ n ∧ n ≤ 524288 ∧ (b = 64 ∨ b = 128 ∨ b = 256 ∨ b = 512 ∨ b = 1024 ∨ b = 2048 ∨ b = 4096)
theorem file_law (p0 : Int) (p1 : Int) (p2 : Int) (p3 : Int) (p4 : Int) (p5 : Int) (p6 : Int) (p7 : Int) (p8 : Int) (p9 : Int) (p10 : Int) (p11 : Int) (n : Int) (w : World) :
    Calls Try.prog 7 #[.agg #[.int .i64 p0, .int .i64 p1, .int .i64 p2, .int .i64 p3, .int .i64 p4, .int .i64 p5, .int .i64 p6, .int .i64 p7, .int .i64 p8, .int .i64 p9, .int .i64 p10, .int .i64 p11], .int .i64 n] w fun e w' => ∃ x y r, e = .returned (.tuple #[.complex .f64 x y, .int .i64 r]) ∧ FileP p0 n x y r ∧ Below w.heap.size w w' := by
  rcases Pure.max_cases p0 p1 p2 p3 p4 p5 p6 p7 p8 p9 p10 p11 with ⟨_, h⟩ | ⟨s, _, _, s1, f0, h⟩
  · refine (file_no p0 p1 p2 p3 p4 p5 p6 p7 p8 p9 p10 p11 n _ _ 4 (h n) (by decide) _).mono ?_
    rintro e w' ⟨rfl, hb⟩
    exact ⟨_, _, _, rfl, .inl ⟨by decide, rfl, rfl⟩, hb⟩
  · have hw := h n
    by_cases c : 0 ≤ n ∧ n ≤ s
    · rw [if_pos c] at hw
      have hp := Pure.blocks_part f0 c.1 (Int.le_trans c.2 s1)
      refine (file_ok p0 p1 p2 p3 p4 p5 p6 p7 p8 p9 p10 p11 n _ _ hw hp _).mono ?_
      rintro e w' ⟨rfl, hb⟩
      exact ⟨_, _, _, rfl, .inr ⟨rfl, rfl, of_int (x := Pure.blocks p0 n) (by omega), c.1, Int.le_trans c.2 s1, f0⟩, hb⟩
    · rw [if_neg c] at hw
      refine (file_no p0 p1 p2 p3 p4 p5 p6 p7 p8 p9 p10 p11 n _ _ 2 hw (by decide) _).mono ?_
      rintro e w' ⟨rfl, hb⟩
      exact ⟨_, _, _, rfl, .inl ⟨by decide, rfl, rfl⟩, hb⟩
theorem gtr_bool {a b : Nat} {x y : Int} (ha : Rep a x) (hb : Rep b y) (h : x ≤ y) : (FloatKind.f64.format.order a b == some Ordering.gt) = false := by
  rw [ord_rep ha hb]
  simp only [compare, compareOfLessAndEq]
  by_cases c : x < y
  · simp [c]
  · rw [if_neg c, if_pos (show x = y by omega)]
    rfl
set_option maxHeartbeats 4000000 in
set_option maxRecDepth 100000 in
theorem grows_walk (p0 : Int) (p1 : Int) (p2 : Int) (p3 : Int) (p4 : Int) (p5 : Int) (p6 : Int) (p7 : Int) (p8 : Int) (p9 : Int) (p10 : Int) (p11 : Int) (n m : Int) (w : World) :
    Calls Try.prog 3 #[.agg #[.int .i64 p0, .int .i64 p1, .int .i64 p2, .int .i64 p3, .int .i64 p4, .int .i64 p5, .int .i64 p6, .int .i64 p7, .int .i64 p8, .int .i64 p9, .int .i64 p10, .int .i64 p11], .int .i64 n, .int .i64 m] w fun e w' => e = .returned (.bool true) ∧ Below w.heap.size w w' := by
  have hu := Try.underlying23
  by_cases d0 : m < n
  · have d0b : decide (m < n) = true := decide_eq_true d0
    have ze := same_ord rep_zero rep_zero
    have oe := same_ord rep_one rep_one
    go_enter Try.func3, Try.ntmps3
    go_wp2_with ((with_reducible refine gate_dst (N := 3) rfl ?_); refine box_event ?hg (N := 3) ?hd (cs := #[.int .i64 p0, .int .i64 p1, .int .i64 p2, .int .i64 p3, .int .i64 p4, .int .i64 p5, .int .i64 p6, .int .i64 p7, .int .i64 p8, .int .i64 p9, .int .i64 p10, .int .i64 p11]) (t := 23) ?hr ?_; (case hd => rfl); (case hg => rfl); (case hr => first | (go_simp; done) | (go_simp; rfl)); intro gb hg w1 hbox hb; have HB := Aside0.mk (below_step (Below.refl w.heap.size w) hb); have BK := Aside0.mk hbox; clear hb hbox hg; have c0 : w1.cell? ⟨gb, 0, none⟩ = some (.int .i64 p0) := (blk_cell BK.out 0).trans rfl; have c1 : w1.cell? ⟨gb, 1, none⟩ = some (.int .i64 p1) := (blk_cell BK.out 1).trans rfl; have c2 : w1.cell? ⟨gb, 2, none⟩ = some (.int .i64 p2) := (blk_cell BK.out 2).trans rfl; have c3 : w1.cell? ⟨gb, 3, none⟩ = some (.int .i64 p3) := (blk_cell BK.out 3).trans rfl; have c4 : w1.cell? ⟨gb, 4, none⟩ = some (.int .i64 p4) := (blk_cell BK.out 4).trans rfl; have c5 : w1.cell? ⟨gb, 5, none⟩ = some (.int .i64 p5) := (blk_cell BK.out 5).trans rfl; have c6 : w1.cell? ⟨gb, 6, none⟩ = some (.int .i64 p6) := (blk_cell BK.out 6).trans rfl; have c7 : w1.cell? ⟨gb, 7, none⟩ = some (.int .i64 p7) := (blk_cell BK.out 7).trans rfl; have c8 : w1.cell? ⟨gb, 8, none⟩ = some (.int .i64 p8) := (blk_cell BK.out 8).trans rfl; have c9 : w1.cell? ⟨gb, 9, none⟩ = some (.int .i64 p9) := (blk_cell BK.out 9).trans rfl; have c10 : w1.cell? ⟨gb, 10, none⟩ = some (.int .i64 p10) := (blk_cell BK.out 10).trans rfl; have c11 : w1.cell? ⟨gb, 11, none⟩ = some (.int .i64 p11) := (blk_cell BK.out 11).trans rfl)
    refine (wakes _).mono ?_
    rintro e w2 ⟨rfl, rfl⟩
    go_wp2_with fail
    refine (file_law p0 p1 p2 p3 p4 p5 p6 p7 p8 p9 p10 p11 m _).mono ?_
    rintro e w2 ⟨x, y, r, rfl, ho, hb⟩
    have BK2 := Aside0.mk (blk_below BK.out hb)
    have HB2 := Aside0.mk (below_then HB.out HB.out.size hb)
    clear c0 c1 c2 c3 c4 c5 c6 c7 c8 c9 c10 c11
    clear hb BK HB
    have BK := BK2
    have HB := HB2
    clear BK2 HB2
    have c0 : w2.cell? ⟨gb, 0, none⟩ = some (.int .i64 p0) := (blk_cell BK.out 0).trans rfl; have c1 : w2.cell? ⟨gb, 1, none⟩ = some (.int .i64 p1) := (blk_cell BK.out 1).trans rfl; have c2 : w2.cell? ⟨gb, 2, none⟩ = some (.int .i64 p2) := (blk_cell BK.out 2).trans rfl; have c3 : w2.cell? ⟨gb, 3, none⟩ = some (.int .i64 p3) := (blk_cell BK.out 3).trans rfl; have c4 : w2.cell? ⟨gb, 4, none⟩ = some (.int .i64 p4) := (blk_cell BK.out 4).trans rfl; have c5 : w2.cell? ⟨gb, 5, none⟩ = some (.int .i64 p5) := (blk_cell BK.out 5).trans rfl; have c6 : w2.cell? ⟨gb, 6, none⟩ = some (.int .i64 p6) := (blk_cell BK.out 6).trans rfl; have c7 : w2.cell? ⟨gb, 7, none⟩ = some (.int .i64 p7) := (blk_cell BK.out 7).trans rfl; have c8 : w2.cell? ⟨gb, 8, none⟩ = some (.int .i64 p8) := (blk_cell BK.out 8).trans rfl; have c9 : w2.cell? ⟨gb, 9, none⟩ = some (.int .i64 p9) := (blk_cell BK.out 9).trans rfl; have c10 : w2.cell? ⟨gb, 10, none⟩ = some (.int .i64 p10) := (blk_cell BK.out 10).trans rfl; have c11 : w2.cell? ⟨gb, 11, none⟩ = some (.int .i64 p11) := (blk_cell BK.out 11).trans rfl
    have HO := Aside0.mk ho
    clear ho
    go_wp2_with fail
    refine (file_law p0 p1 p2 p3 p4 p5 p6 p7 p8 p9 p10 p11 n _).mono ?_
    rintro e w3 ⟨x2, y2, r2, rfl, ho2, hb⟩
    have BK2 := Aside0.mk (blk_below BK.out hb)
    have HB2 := Aside0.mk (below_then HB.out HB.out.size hb)
    clear c0 c1 c2 c3 c4 c5 c6 c7 c8 c9 c10 c11
    clear hb BK HB
    have BK := BK2
    have HB := HB2
    clear BK2 HB2
    have c0 : w3.cell? ⟨gb, 0, none⟩ = some (.int .i64 p0) := (blk_cell BK.out 0).trans rfl; have c1 : w3.cell? ⟨gb, 1, none⟩ = some (.int .i64 p1) := (blk_cell BK.out 1).trans rfl; have c2 : w3.cell? ⟨gb, 2, none⟩ = some (.int .i64 p2) := (blk_cell BK.out 2).trans rfl; have c3 : w3.cell? ⟨gb, 3, none⟩ = some (.int .i64 p3) := (blk_cell BK.out 3).trans rfl; have c4 : w3.cell? ⟨gb, 4, none⟩ = some (.int .i64 p4) := (blk_cell BK.out 4).trans rfl; have c5 : w3.cell? ⟨gb, 5, none⟩ = some (.int .i64 p5) := (blk_cell BK.out 5).trans rfl; have c6 : w3.cell? ⟨gb, 6, none⟩ = some (.int .i64 p6) := (blk_cell BK.out 6).trans rfl; have c7 : w3.cell? ⟨gb, 7, none⟩ = some (.int .i64 p7) := (blk_cell BK.out 7).trans rfl; have c8 : w3.cell? ⟨gb, 8, none⟩ = some (.int .i64 p8) := (blk_cell BK.out 8).trans rfl; have c9 : w3.cell? ⟨gb, 9, none⟩ = some (.int .i64 p9) := (blk_cell BK.out 9).trans rfl; have c10 : w3.cell? ⟨gb, 10, none⟩ = some (.int .i64 p10) := (blk_cell BK.out 10).trans rfl; have c11 : w3.cell? ⟨gb, 11, none⟩ = some (.int .i64 p11) := (blk_cell BK.out 11).trans rfl
    rcases HO.out with ⟨hr, rfl, rfl⟩ | ⟨rfl, rfl, F1⟩
    · have h1 : (r != 0) = true := bne_iff_ne.2 hr
      have h2 : (r == 0) = false := beq_eq_false_iff_ne.2 hr
      clear hr ho2 HO
      go_wp2
      go_ret
      exact ⟨rfl, HB.out⟩
    rcases ho2 with ⟨hr, rfl, rfl⟩ | ⟨rfl, rfl, F2⟩
    · have h1 : (r2 != 0) = true := bne_iff_ne.2 hr
      have h2 : (r2 == 0) = false := beq_eq_false_iff_ne.2 hr
      clear hr F1 HO
      go_wp2
      go_ret
      exact ⟨rfl, HB.out⟩
    obtain ⟨R1, n0, n1, f0⟩ := F1
    obtain ⟨R2, m0, m1, _⟩ := F2
    have P1 := Pure.blocks_part f0 n0 n1
    have P2 := Pure.blocks_part f0 m0 m1
    have M12 := Pure.blocks_mono f0 n0 (show m ≤ n by omega)
    have hw : IntKind.i64.wrap (m + 1) = m + 1 := by rw [IntKind.wrap_i64]; omega
    obtain ⟨z, ez, rz⟩ := R2.sub R1 (by omega)
    have hsub := fun W => run_float_arith (P := Try.prog) W .sub 31 .f64 x2 x z ez
    have hnext : n = m + 1 → (FloatKind.f64.format.order z 4613937818241073152 == some Ordering.gt) = false := fun e => gtr_bool rz rep_three (by
      have := Pure.blocks_next f0 n0
      rw [e]
      exact this)
    have G := Aside0.mk (And.intro R1 (And.intro R2 (And.intro P1 (And.intro P2 M12))))
    have HN := Aside0.mk hnext
    clear R1 R2 P1 P2 M12 ez rz hnext f0 n0 n1 m0 m1 HO
    go_wp2_with fail
    refine (fits x _ x2 _ _ 1 _ 1 G.out.1 rep_one G.out.2.1 rep_one G.out.2.2.1 ⟨by decide, by decide⟩ G.out.2.2.2.1 ⟨by decide, by decide⟩ G.out.2.2.2.2 (by decide) _).mono ?_
    rintro e w4 ⟨rfl, rfl⟩
    by_cases dn : n = m + 1
    · have hgt := HN.out dn
      have de : (n == m + 1) = true := beq_iff_eq.2 dn
      clear dn
      go_wp2_with fail
      refine (dir_calls p0 p1 p2 p3 p4 p5 p6 p7 p8 p9 p10 p11 m _).mono ?_
      rintro e w5 ⟨x3, y3, r3, rfl, ho3, hb⟩
      have HB5 := Aside0.mk (below_then HB.out HB.out.size hb)
      clear hb
      rcases ho3 with ⟨hr, rfl, rfl⟩ | ⟨rfl, rfl⟩
      · have h1 : (r3 != 0) = true := bne_iff_ne.2 hr
        clear hr
        go_wp2
        go_ret
        exact ⟨rfl, HB5.out⟩
      · go_wp2
        go_ret
        exact ⟨rfl, HB5.out⟩
    · have de : (n == m + 1) = false := beq_eq_false_iff_ne.2 dn
      clear dn
      go_wp2_with fail
      refine (dir_calls p0 p1 p2 p3 p4 p5 p6 p7 p8 p9 p10 p11 m _).mono ?_
      rintro e w5 ⟨x3, y3, r3, rfl, ho3, hb⟩
      have HB5 := Aside0.mk (below_then HB.out HB.out.size hb)
      clear hb
      rcases ho3 with ⟨hr, rfl, rfl⟩ | ⟨rfl, rfl⟩
      · have h1 : (r3 != 0) = true := bne_iff_ne.2 hr
        clear hr
        go_wp2
        go_ret
        exact ⟨rfl, HB5.out⟩
      · go_wp2
        go_ret
        exact ⟨rfl, HB5.out⟩
  · have d0b : decide (m < n) = false := decide_eq_false d0
    have ze := same_ord rep_zero rep_zero
    have oe := same_ord rep_one rep_one
    go_enter Try.func3, Try.ntmps3
    go_wp2_with ((with_reducible refine gate_dst (N := 3) rfl ?_); refine box_event ?hg (N := 3) ?hd (cs := #[.int .i64 p0, .int .i64 p1, .int .i64 p2, .int .i64 p3, .int .i64 p4, .int .i64 p5, .int .i64 p6, .int .i64 p7, .int .i64 p8, .int .i64 p9, .int .i64 p10, .int .i64 p11]) (t := 23) ?hr ?_; (case hd => rfl); (case hg => rfl); (case hr => first | (go_simp; done) | (go_simp; rfl)); intro gb hg w1 hbox hb; have HB := Aside0.mk (below_step (Below.refl w.heap.size w) hb); have BK := Aside0.mk hbox; clear hb hbox hg; have c0 : w1.cell? ⟨gb, 0, none⟩ = some (.int .i64 p0) := (blk_cell BK.out 0).trans rfl; have c1 : w1.cell? ⟨gb, 1, none⟩ = some (.int .i64 p1) := (blk_cell BK.out 1).trans rfl; have c2 : w1.cell? ⟨gb, 2, none⟩ = some (.int .i64 p2) := (blk_cell BK.out 2).trans rfl; have c3 : w1.cell? ⟨gb, 3, none⟩ = some (.int .i64 p3) := (blk_cell BK.out 3).trans rfl; have c4 : w1.cell? ⟨gb, 4, none⟩ = some (.int .i64 p4) := (blk_cell BK.out 4).trans rfl; have c5 : w1.cell? ⟨gb, 5, none⟩ = some (.int .i64 p5) := (blk_cell BK.out 5).trans rfl; have c6 : w1.cell? ⟨gb, 6, none⟩ = some (.int .i64 p6) := (blk_cell BK.out 6).trans rfl; have c7 : w1.cell? ⟨gb, 7, none⟩ = some (.int .i64 p7) := (blk_cell BK.out 7).trans rfl; have c8 : w1.cell? ⟨gb, 8, none⟩ = some (.int .i64 p8) := (blk_cell BK.out 8).trans rfl; have c9 : w1.cell? ⟨gb, 9, none⟩ = some (.int .i64 p9) := (blk_cell BK.out 9).trans rfl; have c10 : w1.cell? ⟨gb, 10, none⟩ = some (.int .i64 p10) := (blk_cell BK.out 10).trans rfl; have c11 : w1.cell? ⟨gb, 11, none⟩ = some (.int .i64 p11) := (blk_cell BK.out 11).trans rfl)
    refine (wakes _).mono ?_
    rintro e w2 ⟨rfl, rfl⟩
    go_wp2_with fail
    refine (file_law p0 p1 p2 p3 p4 p5 p6 p7 p8 p9 p10 p11 n _).mono ?_
    rintro e w2 ⟨x, y, r, rfl, ho, hb⟩
    have BK2 := Aside0.mk (blk_below BK.out hb)
    have HB2 := Aside0.mk (below_then HB.out HB.out.size hb)
    clear c0 c1 c2 c3 c4 c5 c6 c7 c8 c9 c10 c11
    clear hb BK HB
    have BK := BK2
    have HB := HB2
    clear BK2 HB2
    have c0 : w2.cell? ⟨gb, 0, none⟩ = some (.int .i64 p0) := (blk_cell BK.out 0).trans rfl; have c1 : w2.cell? ⟨gb, 1, none⟩ = some (.int .i64 p1) := (blk_cell BK.out 1).trans rfl; have c2 : w2.cell? ⟨gb, 2, none⟩ = some (.int .i64 p2) := (blk_cell BK.out 2).trans rfl; have c3 : w2.cell? ⟨gb, 3, none⟩ = some (.int .i64 p3) := (blk_cell BK.out 3).trans rfl; have c4 : w2.cell? ⟨gb, 4, none⟩ = some (.int .i64 p4) := (blk_cell BK.out 4).trans rfl; have c5 : w2.cell? ⟨gb, 5, none⟩ = some (.int .i64 p5) := (blk_cell BK.out 5).trans rfl; have c6 : w2.cell? ⟨gb, 6, none⟩ = some (.int .i64 p6) := (blk_cell BK.out 6).trans rfl; have c7 : w2.cell? ⟨gb, 7, none⟩ = some (.int .i64 p7) := (blk_cell BK.out 7).trans rfl; have c8 : w2.cell? ⟨gb, 8, none⟩ = some (.int .i64 p8) := (blk_cell BK.out 8).trans rfl; have c9 : w2.cell? ⟨gb, 9, none⟩ = some (.int .i64 p9) := (blk_cell BK.out 9).trans rfl; have c10 : w2.cell? ⟨gb, 10, none⟩ = some (.int .i64 p10) := (blk_cell BK.out 10).trans rfl; have c11 : w2.cell? ⟨gb, 11, none⟩ = some (.int .i64 p11) := (blk_cell BK.out 11).trans rfl
    have HO := Aside0.mk ho
    clear ho
    go_wp2_with fail
    refine (file_law p0 p1 p2 p3 p4 p5 p6 p7 p8 p9 p10 p11 m _).mono ?_
    rintro e w3 ⟨x2, y2, r2, rfl, ho2, hb⟩
    have BK2 := Aside0.mk (blk_below BK.out hb)
    have HB2 := Aside0.mk (below_then HB.out HB.out.size hb)
    clear c0 c1 c2 c3 c4 c5 c6 c7 c8 c9 c10 c11
    clear hb BK HB
    have BK := BK2
    have HB := HB2
    clear BK2 HB2
    have c0 : w3.cell? ⟨gb, 0, none⟩ = some (.int .i64 p0) := (blk_cell BK.out 0).trans rfl; have c1 : w3.cell? ⟨gb, 1, none⟩ = some (.int .i64 p1) := (blk_cell BK.out 1).trans rfl; have c2 : w3.cell? ⟨gb, 2, none⟩ = some (.int .i64 p2) := (blk_cell BK.out 2).trans rfl; have c3 : w3.cell? ⟨gb, 3, none⟩ = some (.int .i64 p3) := (blk_cell BK.out 3).trans rfl; have c4 : w3.cell? ⟨gb, 4, none⟩ = some (.int .i64 p4) := (blk_cell BK.out 4).trans rfl; have c5 : w3.cell? ⟨gb, 5, none⟩ = some (.int .i64 p5) := (blk_cell BK.out 5).trans rfl; have c6 : w3.cell? ⟨gb, 6, none⟩ = some (.int .i64 p6) := (blk_cell BK.out 6).trans rfl; have c7 : w3.cell? ⟨gb, 7, none⟩ = some (.int .i64 p7) := (blk_cell BK.out 7).trans rfl; have c8 : w3.cell? ⟨gb, 8, none⟩ = some (.int .i64 p8) := (blk_cell BK.out 8).trans rfl; have c9 : w3.cell? ⟨gb, 9, none⟩ = some (.int .i64 p9) := (blk_cell BK.out 9).trans rfl; have c10 : w3.cell? ⟨gb, 10, none⟩ = some (.int .i64 p10) := (blk_cell BK.out 10).trans rfl; have c11 : w3.cell? ⟨gb, 11, none⟩ = some (.int .i64 p11) := (blk_cell BK.out 11).trans rfl
    rcases HO.out with ⟨hr, rfl, rfl⟩ | ⟨rfl, rfl, F1⟩
    · have h1 : (r != 0) = true := bne_iff_ne.2 hr
      have h2 : (r == 0) = false := beq_eq_false_iff_ne.2 hr
      clear hr ho2 HO
      go_wp2
      go_ret
      exact ⟨rfl, HB.out⟩
    rcases ho2 with ⟨hr, rfl, rfl⟩ | ⟨rfl, rfl, F2⟩
    · have h1 : (r2 != 0) = true := bne_iff_ne.2 hr
      have h2 : (r2 == 0) = false := beq_eq_false_iff_ne.2 hr
      clear hr F1 HO
      go_wp2
      go_ret
      exact ⟨rfl, HB.out⟩
    obtain ⟨R1, n0, n1, f0⟩ := F1
    obtain ⟨R2, m0, m1, _⟩ := F2
    have P1 := Pure.blocks_part f0 n0 n1
    have P2 := Pure.blocks_part f0 m0 m1
    have M12 := Pure.blocks_mono f0 n0 (show n ≤ m by omega)
    have hw : IntKind.i64.wrap (n + 1) = n + 1 := by rw [IntKind.wrap_i64]; omega
    obtain ⟨z, ez, rz⟩ := R2.sub R1 (by omega)
    have hsub := fun W => run_float_arith (P := Try.prog) W .sub 31 .f64 x2 x z ez
    have hnext : m = n + 1 → (FloatKind.f64.format.order z 4613937818241073152 == some Ordering.gt) = false := fun e => gtr_bool rz rep_three (by
      have := Pure.blocks_next f0 n0
      rw [e]
      exact this)
    have G := Aside0.mk (And.intro R1 (And.intro R2 (And.intro P1 (And.intro P2 M12))))
    have HN := Aside0.mk hnext
    clear R1 R2 P1 P2 M12 ez rz hnext f0 n0 n1 m0 m1 HO
    go_wp2_with fail
    refine (fits x _ x2 _ _ 1 _ 1 G.out.1 rep_one G.out.2.1 rep_one G.out.2.2.1 ⟨by decide, by decide⟩ G.out.2.2.2.1 ⟨by decide, by decide⟩ G.out.2.2.2.2 (by decide) _).mono ?_
    rintro e w4 ⟨rfl, rfl⟩
    by_cases dn : m = n + 1
    · have hgt := HN.out dn
      have de : (m == n + 1) = true := beq_iff_eq.2 dn
      clear dn
      go_wp2_with fail
      refine (dir_calls p0 p1 p2 p3 p4 p5 p6 p7 p8 p9 p10 p11 n _).mono ?_
      rintro e w5 ⟨x3, y3, r3, rfl, ho3, hb⟩
      have HB5 := Aside0.mk (below_then HB.out HB.out.size hb)
      clear hb
      rcases ho3 with ⟨hr, rfl, rfl⟩ | ⟨rfl, rfl⟩
      · have h1 : (r3 != 0) = true := bne_iff_ne.2 hr
        clear hr
        go_wp2
        go_ret
        exact ⟨rfl, HB5.out⟩
      · go_wp2
        go_ret
        exact ⟨rfl, HB5.out⟩
    · have de : (m == n + 1) = false := beq_eq_false_iff_ne.2 dn
      clear dn
      go_wp2_with fail
      refine (dir_calls p0 p1 p2 p3 p4 p5 p6 p7 p8 p9 p10 p11 n _).mono ?_
      rintro e w5 ⟨x3, y3, r3, rfl, ho3, hb⟩
      have HB5 := Aside0.mk (below_then HB.out HB.out.size hb)
      clear hb
      rcases ho3 with ⟨hr, rfl, rfl⟩ | ⟨rfl, rfl⟩
      · have h1 : (r3 != 0) = true := bne_iff_ne.2 hr
        clear hr
        go_wp2
        go_ret
        exact ⟨rfl, HB5.out⟩
      · go_wp2
        go_ret
        exact ⟨rfl, HB5.out⟩
theorem grows_row (p0 : Int) (p1 : Int) (p2 : Int) (p3 : Int) (p4 : Int) (p5 : Int) (p6 : Int) (p7 : Int) (p8 : Int) (p9 : Int) (p10 : Int) (p11 : Int) (n m : Int) (w : World) (_ : (Lit.int .i64 p0).wf = true) (_ : (Lit.int .i64 p1).wf = true) (_ : (Lit.int .i64 p2).wf = true) (_ : (Lit.int .i64 p3).wf = true) (_ : (Lit.int .i64 p4).wf = true) (_ : (Lit.int .i64 p5).wf = true) (_ : (Lit.int .i64 p6).wf = true) (_ : (Lit.int .i64 p7).wf = true) (_ : (Lit.int .i64 p8).wf = true) (_ : (Lit.int .i64 p9).wf = true) (_ : (Lit.int .i64 p10).wf = true) (_ : (Lit.int .i64 p11).wf = true) (_ : (Lit.int .i64 n).wf = true) (_ : (Lit.int .i64 m).wf = true) :
    Calls Try.prog 3 #[.agg #[.int .i64 p0, .int .i64 p1, .int .i64 p2, .int .i64 p3, .int .i64 p4, .int .i64 p5, .int .i64 p6, .int .i64 p7, .int .i64 p8, .int .i64 p9, .int .i64 p10, .int .i64 p11], .int .i64 n, .int .i64 m] w fun e w' => e = .returned (.bool true) ∧ Below w.heap.size w w' := grows_walk p0 p1 p2 p3 p4 p5 p6 p7 p8 p9 p10 p11 n m w
end Go.Proofs.Ytdjlbbfgobbcmaa.Need
