/- What a file and a directory need: contracts. -/
import Derived.Test.YtdjlbbfgobbcmaaKNNum
import Derived.Test.YtdjlbbfgobbcmaaPureNeedFiles
import Derived.Test.YtdjlbbfgobbcmaaWTab
namespace Go.Proofs.Ytdjlbbfgobbcmaa.Need
open Go.RowKit Go.Proofs.Ytdjlbbfgobbcmaa.PNeedFiles Go.Proofs.Ytdjlbbfgobbcmaa.PlainFloat Go.Proofs.Ytdjlbbfgobbcmaa.Turn Go.Proofs.YtdjlbbfgobbcmaaW.PrintWords Go.Proofs.YtdjlbbfgobbcmaaW.PrintLast Go.Proofs.YtdjlbbfgobbcmaaW.PrintMore
set_option linter.unusedVariables false
set_option linter.unusedSimpArgs false

/-- What is answered: an error and nothing, or no error and one inode. -/
def OutP (x y : Nat) (r : Int) : Prop := r ≠ 0 ∧ x = 0 ∧ y = 0 ∨ r = 0 ∧ y = 4607182418800017408
set_option maxHeartbeats 4000000 in
set_option maxRecDepth 100000 in
theorem file_no (p0 : Int) (p1 : Int) (p2 : Int) (p3 : Int) (p4 : Int) (p5 : Int) (p6 : Int) (p7 : Int) (p8 : Int) (p9 : Int) (p10 : Int) (p11 : Int) (n d q r : Int) (h : plan_Whole.f p0 p1 p2 p3 p4 p5 p6 p7 p8 p9 p10 p11 n = some (d, q, r)) (hr : r ≠ 0) (w : World) :
    Calls Try.prog 7 #[.agg #[.int .i64 p0, .int .i64 p1, .int .i64 p2, .int .i64 p3, .int .i64 p4, .int .i64 p5, .int .i64 p6, .int .i64 p7, .int .i64 p8, .int .i64 p9, .int .i64 p10, .int .i64 p11], .int .i64 n] w fun e w' => e = .returned (.tuple #[.complex .f64 0 0, .int .i64 r]) ∧ Below w.heap.size w w' := by
  have hu := Try.underlying23
  have H := Aside0.mk h
  have hn : (r != 0) = true := bne_iff_ne.2 hr
  clear h
  go_enter Try.func7, Try.ntmps7
  go_wp2_with ((with_reducible refine gate_dst (N := 2) rfl ?_); refine box_event ?hg (N := 2) ?hd (cs := #[.int .i64 p0, .int .i64 p1, .int .i64 p2, .int .i64 p3, .int .i64 p4, .int .i64 p5, .int .i64 p6, .int .i64 p7, .int .i64 p8, .int .i64 p9, .int .i64 p10, .int .i64 p11]) (t := 23) ?hr ?_; (case hd => rfl); (case hg => rfl); (case hr => first | (go_simp; done) | (go_simp; rfl)); intro gb hg w1 hbox hb; have HB := Aside0.mk (below_step (Below.refl w.heap.size w) hb); have BK := Aside0.mk hbox; clear hb hbox hg; have c0 : w1.cell? ⟨gb, 0, none⟩ = some (.int .i64 p0) := (blk_cell BK.out 0).trans rfl; have c1 : w1.cell? ⟨gb, 1, none⟩ = some (.int .i64 p1) := (blk_cell BK.out 1).trans rfl; have c2 : w1.cell? ⟨gb, 2, none⟩ = some (.int .i64 p2) := (blk_cell BK.out 2).trans rfl; have c3 : w1.cell? ⟨gb, 3, none⟩ = some (.int .i64 p3) := (blk_cell BK.out 3).trans rfl; have c4 : w1.cell? ⟨gb, 4, none⟩ = some (.int .i64 p4) := (blk_cell BK.out 4).trans rfl; have c5 : w1.cell? ⟨gb, 5, none⟩ = some (.int .i64 p5) := (blk_cell BK.out 5).trans rfl; have c6 : w1.cell? ⟨gb, 6, none⟩ = some (.int .i64 p6) := (blk_cell BK.out 6).trans rfl; have c7 : w1.cell? ⟨gb, 7, none⟩ = some (.int .i64 p7) := (blk_cell BK.out 7).trans rfl; have c8 : w1.cell? ⟨gb, 8, none⟩ = some (.int .i64 p8) := (blk_cell BK.out 8).trans rfl; have c9 : w1.cell? ⟨gb, 9, none⟩ = some (.int .i64 p9) := (blk_cell BK.out 9).trans rfl; have c10 : w1.cell? ⟨gb, 10, none⟩ = some (.int .i64 p10) := (blk_cell BK.out 10).trans rfl; have c11 : w1.cell? ⟨gb, 11, none⟩ = some (.int .i64 p11) := (blk_cell BK.out 11).trans rfl)
  refine (plan_Whole.calls p0 p1 p2 p3 p4 p5 p6 p7 p8 p9 p10 p11 n d q r _ H.out).mono ?_
  rintro e w2 ⟨rfl, hb⟩
  have BK2 := Aside0.mk (blk_below BK.out hb)
  have HB2 := Aside0.mk (below_then HB.out HB.out.size hb)
  clear c0 c1 c2 c3 c4 c5 c6 c7 c8 c9 c10 c11
  clear hb BK HB
  have BK := BK2
  have HB := HB2
  clear BK2 HB2
  have c0 : w2.cell? ⟨gb, 0, none⟩ = some (.int .i64 p0) := (blk_cell BK.out 0).trans rfl; have c1 : w2.cell? ⟨gb, 1, none⟩ = some (.int .i64 p1) := (blk_cell BK.out 1).trans rfl; have c2 : w2.cell? ⟨gb, 2, none⟩ = some (.int .i64 p2) := (blk_cell BK.out 2).trans rfl; have c3 : w2.cell? ⟨gb, 3, none⟩ = some (.int .i64 p3) := (blk_cell BK.out 3).trans rfl; have c4 : w2.cell? ⟨gb, 4, none⟩ = some (.int .i64 p4) := (blk_cell BK.out 4).trans rfl; have c5 : w2.cell? ⟨gb, 5, none⟩ = some (.int .i64 p5) := (blk_cell BK.out 5).trans rfl; have c6 : w2.cell? ⟨gb, 6, none⟩ = some (.int .i64 p6) := (blk_cell BK.out 6).trans rfl; have c7 : w2.cell? ⟨gb, 7, none⟩ = some (.int .i64 p7) := (blk_cell BK.out 7).trans rfl; have c8 : w2.cell? ⟨gb, 8, none⟩ = some (.int .i64 p8) := (blk_cell BK.out 8).trans rfl; have c9 : w2.cell? ⟨gb, 9, none⟩ = some (.int .i64 p9) := (blk_cell BK.out 9).trans rfl; have c10 : w2.cell? ⟨gb, 10, none⟩ = some (.int .i64 p10) := (blk_cell BK.out 10).trans rfl; have c11 : w2.cell? ⟨gb, 11, none⟩ = some (.int .i64 p11) := (blk_cell BK.out 11).trans rfl
  go_wp2
  go_ret2
  exact ⟨rfl, HB.out⟩
set_option maxHeartbeats 4000000 in
set_option maxRecDepth 100000 in
theorem file_ok (p0 : Int) (p1 : Int) (p2 : Int) (p3 : Int) (p4 : Int) (p5 : Int) (p6 : Int) (p7 : Int) (p8 : Int) (p9 : Int) (p10 : Int) (p11 : Int) (n d q : Int) (h : plan_Whole.f p0 p1 p2 p3 p4 p5 p6 p7 p8 p9 p10 p11 n = some (d, q, 0)) (hp : Part (d + q)) (w : World) :
    Calls Try.prog 7 #[.agg #[.int .i64 p0, .int .i64 p1, .int .i64 p2, .int .i64 p3, .int .i64 p4, .int .i64 p5, .int .i64 p6, .int .i64 p7, .int .i64 p8, .int .i64 p9, .int .i64 p10, .int .i64 p11], .int .i64 n] w fun e w' => e = .returned (.tuple #[.complex .f64 (floatOfInt .f64 (d + q)) 4607182418800017408, .int .i64 0]) ∧ Below w.heap.size w w' := by
  have hu := Try.underlying23
  have H := Aside0.mk h
  have hw : IntKind.i64.wrap (d + q) = d + q := by unfold Part at hp; rw [IntKind.wrap_i64]; omega
  clear h hp
  go_enter Try.func7, Try.ntmps7
  go_wp2_with ((with_reducible refine gate_dst (N := 2) rfl ?_); refine box_event ?hg (N := 2) ?hd (cs := #[.int .i64 p0, .int .i64 p1, .int .i64 p2, .int .i64 p3, .int .i64 p4, .int .i64 p5, .int .i64 p6, .int .i64 p7, .int .i64 p8, .int .i64 p9, .int .i64 p10, .int .i64 p11]) (t := 23) ?hr ?_; (case hd => rfl); (case hg => rfl); (case hr => first | (go_simp; done) | (go_simp; rfl)); intro gb hg w1 hbox hb; have HB := Aside0.mk (below_step (Below.refl w.heap.size w) hb); have BK := Aside0.mk hbox; clear hb hbox hg; have c0 : w1.cell? ⟨gb, 0, none⟩ = some (.int .i64 p0) := (blk_cell BK.out 0).trans rfl; have c1 : w1.cell? ⟨gb, 1, none⟩ = some (.int .i64 p1) := (blk_cell BK.out 1).trans rfl; have c2 : w1.cell? ⟨gb, 2, none⟩ = some (.int .i64 p2) := (blk_cell BK.out 2).trans rfl; have c3 : w1.cell? ⟨gb, 3, none⟩ = some (.int .i64 p3) := (blk_cell BK.out 3).trans rfl; have c4 : w1.cell? ⟨gb, 4, none⟩ = some (.int .i64 p4) := (blk_cell BK.out 4).trans rfl; have c5 : w1.cell? ⟨gb, 5, none⟩ = some (.int .i64 p5) := (blk_cell BK.out 5).trans rfl; have c6 : w1.cell? ⟨gb, 6, none⟩ = some (.int .i64 p6) := (blk_cell BK.out 6).trans rfl; have c7 : w1.cell? ⟨gb, 7, none⟩ = some (.int .i64 p7) := (blk_cell BK.out 7).trans rfl; have c8 : w1.cell? ⟨gb, 8, none⟩ = some (.int .i64 p8) := (blk_cell BK.out 8).trans rfl; have c9 : w1.cell? ⟨gb, 9, none⟩ = some (.int .i64 p9) := (blk_cell BK.out 9).trans rfl; have c10 : w1.cell? ⟨gb, 10, none⟩ = some (.int .i64 p10) := (blk_cell BK.out 10).trans rfl; have c11 : w1.cell? ⟨gb, 11, none⟩ = some (.int .i64 p11) := (blk_cell BK.out 11).trans rfl)
  refine (plan_Whole.calls p0 p1 p2 p3 p4 p5 p6 p7 p8 p9 p10 p11 n d q 0 _ H.out).mono ?_
  rintro e w2 ⟨rfl, hb⟩
  have BK2 := Aside0.mk (blk_below BK.out hb)
  have HB2 := Aside0.mk (below_then HB.out HB.out.size hb)
  clear c0 c1 c2 c3 c4 c5 c6 c7 c8 c9 c10 c11
  clear hb BK HB
  have BK := BK2
  have HB := HB2
  clear BK2 HB2
  have c0 : w2.cell? ⟨gb, 0, none⟩ = some (.int .i64 p0) := (blk_cell BK.out 0).trans rfl; have c1 : w2.cell? ⟨gb, 1, none⟩ = some (.int .i64 p1) := (blk_cell BK.out 1).trans rfl; have c2 : w2.cell? ⟨gb, 2, none⟩ = some (.int .i64 p2) := (blk_cell BK.out 2).trans rfl; have c3 : w2.cell? ⟨gb, 3, none⟩ = some (.int .i64 p3) := (blk_cell BK.out 3).trans rfl; have c4 : w2.cell? ⟨gb, 4, none⟩ = some (.int .i64 p4) := (blk_cell BK.out 4).trans rfl; have c5 : w2.cell? ⟨gb, 5, none⟩ = some (.int .i64 p5) := (blk_cell BK.out 5).trans rfl; have c6 : w2.cell? ⟨gb, 6, none⟩ = some (.int .i64 p6) := (blk_cell BK.out 6).trans rfl; have c7 : w2.cell? ⟨gb, 7, none⟩ = some (.int .i64 p7) := (blk_cell BK.out 7).trans rfl; have c8 : w2.cell? ⟨gb, 8, none⟩ = some (.int .i64 p8) := (blk_cell BK.out 8).trans rfl; have c9 : w2.cell? ⟨gb, 9, none⟩ = some (.int .i64 p9) := (blk_cell BK.out 9).trans rfl; have c10 : w2.cell? ⟨gb, 10, none⟩ = some (.int .i64 p10) := (blk_cell BK.out 10).trans rfl; have c11 : w2.cell? ⟨gb, 11, none⟩ = some (.int .i64 p11) := (blk_cell BK.out 11).trans rfl
  go_wp2
  go_ret2
  exact ⟨rfl, HB.out⟩
theorem file_calls (p0 : Int) (p1 : Int) (p2 : Int) (p3 : Int) (p4 : Int) (p5 : Int) (p6 : Int) (p7 : Int) (p8 : Int) (p9 : Int) (p10 : Int) (p11 : Int) (n : Int) (w : World) :
    Calls Try.prog 7 #[.agg #[.int .i64 p0, .int .i64 p1, .int .i64 p2, .int .i64 p3, .int .i64 p4, .int .i64 p5, .int .i64 p6, .int .i64 p7, .int .i64 p8, .int .i64 p9, .int .i64 p10, .int .i64 p11], .int .i64 n] w fun e w' => ∃ x y r, e = .returned (.tuple #[.complex .f64 x y, .int .i64 r]) ∧ OutP x y r ∧ Below w.heap.size w w' := by
  rcases Pure.max_cases p0 p1 p2 p3 p4 p5 p6 p7 p8 p9 p10 p11 with ⟨_, h⟩ | ⟨s, _, _, s1, f0, h⟩
  · refine (file_no p0 p1 p2 p3 p4 p5 p6 p7 p8 p9 p10 p11 n _ _ 4 (h n) (by decide) _).mono ?_
    rintro e w' ⟨rfl, hb⟩
    exact ⟨_, _, _, rfl, .inl ⟨by decide, rfl, rfl⟩, hb⟩
  · have hw := h n
    by_cases c : 0 ≤ n ∧ n ≤ s
    · rw [if_pos c] at hw
      refine (file_ok p0 p1 p2 p3 p4 p5 p6 p7 p8 p9 p10 p11 n _ _ hw (Pure.blocks_part f0 c.1 (Int.le_trans c.2 s1)) _).mono ?_
      rintro e w' ⟨rfl, hb⟩
      exact ⟨_, _, _, rfl, .inr ⟨rfl, rfl⟩, hb⟩
    · rw [if_neg c] at hw
      refine (file_no p0 p1 p2 p3 p4 p5 p6 p7 p8 p9 p10 p11 n _ _ 2 hw (by decide) _).mono ?_
      rintro e w' ⟨rfl, hb⟩
      exact ⟨_, _, _, rfl, .inl ⟨by decide, rfl, rfl⟩, hb⟩
def dir.T7 : Bool × List (List Nat × List Nat) := (true, [([], []), ([], []), ([], []), ([1, 2], [1, 2]), ([3], [3]), ([], []), ([4, 5], [4, 5]), ([], []), ([7], [7]), ([6, 8], [6, 8]), ([0, 9], [0, 9]), ([10], [10]), ([10], [10]), ([11, 10, 0, 1, 2, 3, 4, 5, 6, 7, 8, 9, 10, 11, 12], [11]), ([12, 13, 0, 1, 2, 3, 4, 5, 6, 7, 8, 9, 10, 11, 12, 13], [12])])
def dir.B7 : List Nat := [0, 0, 0, 6, 14, 0, 62, 0, 128, 510, 1023, 2047, 2047, 8191, 16383]
theorem dir.tab7 : rtab .any (opsOf Try.f9 7) = dir.T7 := by kernel_rfl
theorem dir.bits7 : waitsOk dir.T7.2 dir.B7 = true := by kernel_rfl

set_option maxHeartbeats 4000000 in
set_option maxRecDepth 100000 in
theorem dir_calls (p0 : Int) (p1 : Int) (p2 : Int) (p3 : Int) (p4 : Int) (p5 : Int) (p6 : Int) (p7 : Int) (p8 : Int) (p9 : Int) (p10 : Int) (p11 : Int) (n : Int) (w : World) :
    Calls Try.prog 9 #[.agg #[.int .i64 p0, .int .i64 p1, .int .i64 p2, .int .i64 p3, .int .i64 p4, .int .i64 p5, .int .i64 p6, .int .i64 p7, .int .i64 p8, .int .i64 p9, .int .i64 p10, .int .i64 p11], .int .i64 n] w fun e w' => ∃ x y r, e = .returned (.tuple #[.complex .f64 x y, .int .i64 r]) ∧ OutP x y r ∧ Below w.heap.size w w' := by
  have hu := Try.underlying23
  rcases Pure.max_cases p0 p1 p2 p3 p4 p5 p6 p7 p8 p9 p10 p11 with ⟨h, _⟩ | ⟨s, h, s0, s1, f0, hW⟩
  · have H := Aside0.mk h
    clear h
    go_enter Try.func9, Try.ntmps9
    go_wp2_with ((with_reducible refine gate_dst (N := 2) rfl ?_); refine box_event ?hg (N := 2) ?hd (cs := #[.int .i64 p0, .int .i64 p1, .int .i64 p2, .int .i64 p3, .int .i64 p4, .int .i64 p5, .int .i64 p6, .int .i64 p7, .int .i64 p8, .int .i64 p9, .int .i64 p10, .int .i64 p11]) (t := 23) ?hr ?_; (case hd => rfl); (case hg => rfl); (case hr => first | (go_simp; done) | (go_simp; rfl)); intro gb hg w1 hbox hb; have HB := Aside0.mk (below_step (Below.refl w.heap.size w) hb); have BK := Aside0.mk hbox; clear hb hbox hg; have c0 : w1.cell? ⟨gb, 0, none⟩ = some (.int .i64 p0) := (blk_cell BK.out 0).trans rfl; have c1 : w1.cell? ⟨gb, 1, none⟩ = some (.int .i64 p1) := (blk_cell BK.out 1).trans rfl; have c2 : w1.cell? ⟨gb, 2, none⟩ = some (.int .i64 p2) := (blk_cell BK.out 2).trans rfl; have c3 : w1.cell? ⟨gb, 3, none⟩ = some (.int .i64 p3) := (blk_cell BK.out 3).trans rfl; have c4 : w1.cell? ⟨gb, 4, none⟩ = some (.int .i64 p4) := (blk_cell BK.out 4).trans rfl; have c5 : w1.cell? ⟨gb, 5, none⟩ = some (.int .i64 p5) := (blk_cell BK.out 5).trans rfl; have c6 : w1.cell? ⟨gb, 6, none⟩ = some (.int .i64 p6) := (blk_cell BK.out 6).trans rfl; have c7 : w1.cell? ⟨gb, 7, none⟩ = some (.int .i64 p7) := (blk_cell BK.out 7).trans rfl; have c8 : w1.cell? ⟨gb, 8, none⟩ = some (.int .i64 p8) := (blk_cell BK.out 8).trans rfl; have c9 : w1.cell? ⟨gb, 9, none⟩ = some (.int .i64 p9) := (blk_cell BK.out 9).trans rfl; have c10 : w1.cell? ⟨gb, 10, none⟩ = some (.int .i64 p10) := (blk_cell BK.out 10).trans rfl; have c11 : w1.cell? ⟨gb, 11, none⟩ = some (.int .i64 p11) := (blk_cell BK.out 11).trans rfl)
    refine (plan_MaxSize.calls p0 p1 p2 p3 p4 p5 p6 p7 p8 p9 p10 p11 0 4 _ H.out).mono ?_
    rintro e w2 ⟨rfl, hb⟩
    have BK2 := Aside0.mk (blk_below BK.out hb)
    have HB2 := Aside0.mk (below_then HB.out HB.out.size hb)
    clear c0 c1 c2 c3 c4 c5 c6 c7 c8 c9 c10 c11
    clear hb BK HB
    have BK := BK2
    have HB := HB2
    clear BK2 HB2
    have c0 : w2.cell? ⟨gb, 0, none⟩ = some (.int .i64 p0) := (blk_cell BK.out 0).trans rfl; have c1 : w2.cell? ⟨gb, 1, none⟩ = some (.int .i64 p1) := (blk_cell BK.out 1).trans rfl; have c2 : w2.cell? ⟨gb, 2, none⟩ = some (.int .i64 p2) := (blk_cell BK.out 2).trans rfl; have c3 : w2.cell? ⟨gb, 3, none⟩ = some (.int .i64 p3) := (blk_cell BK.out 3).trans rfl; have c4 : w2.cell? ⟨gb, 4, none⟩ = some (.int .i64 p4) := (blk_cell BK.out 4).trans rfl; have c5 : w2.cell? ⟨gb, 5, none⟩ = some (.int .i64 p5) := (blk_cell BK.out 5).trans rfl; have c6 : w2.cell? ⟨gb, 6, none⟩ = some (.int .i64 p6) := (blk_cell BK.out 6).trans rfl; have c7 : w2.cell? ⟨gb, 7, none⟩ = some (.int .i64 p7) := (blk_cell BK.out 7).trans rfl; have c8 : w2.cell? ⟨gb, 8, none⟩ = some (.int .i64 p8) := (blk_cell BK.out 8).trans rfl; have c9 : w2.cell? ⟨gb, 9, none⟩ = some (.int .i64 p9) := (blk_cell BK.out 9).trans rfl; have c10 : w2.cell? ⟨gb, 10, none⟩ = some (.int .i64 p10) := (blk_cell BK.out 10).trans rfl; have c11 : w2.cell? ⟨gb, 11, none⟩ = some (.int .i64 p11) := (blk_cell BK.out 11).trans rfl
    go_wp2
    go_ret2
    exact ⟨_, _, _, rfl, .inl ⟨by decide, rfl, rfl⟩, HB.out⟩
  have H := Aside0.mk h
  have HW := Aside0.mk hW
  have HF := Aside0.mk f0
  have S1 := Aside0.mk s1
  have hp0 : 64 ≤ p0 ∧ p0 ≤ 4096 := by omega
  obtain ⟨u, hu1⟩ : ∃ u, wrap64 (Int.tdiv s 16) = u := ⟨_, rfl⟩
  obtain ⟨q, hq1⟩ : ∃ q, wrap64 (Int.tdiv p0 16) = q := ⟨_, rfl⟩
  have hu2 : u = s / 16 := by rw [← hu1, Int.tdiv_eq_ediv_of_nonneg (by omega)]; unfold wrap64; omega
  have hq2 : q = p0 / 16 := by rw [← hq1, Int.tdiv_eq_ediv_of_nonneg (by omega)]; unfold wrap64; omega
  clear h hW f0
  by_cases c0 : n < 0
  · clear hu1 hq1 hu2 hq2 s0 s1 hp0
    go_enter Try.func9, Try.ntmps9
    go_wp2_with ((with_reducible refine gate_dst (N := 2) rfl ?_); refine box_event ?hg (N := 2) ?hd (cs := #[.int .i64 p0, .int .i64 p1, .int .i64 p2, .int .i64 p3, .int .i64 p4, .int .i64 p5, .int .i64 p6, .int .i64 p7, .int .i64 p8, .int .i64 p9, .int .i64 p10, .int .i64 p11]) (t := 23) ?hr ?_; (case hd => rfl); (case hg => rfl); (case hr => first | (go_simp; done) | (go_simp; rfl)); intro gb hg w1 hbox hb; have HB := Aside0.mk (below_step (Below.refl w.heap.size w) hb); have BK := Aside0.mk hbox; clear hb hbox hg; have c0 : w1.cell? ⟨gb, 0, none⟩ = some (.int .i64 p0) := (blk_cell BK.out 0).trans rfl; have c1 : w1.cell? ⟨gb, 1, none⟩ = some (.int .i64 p1) := (blk_cell BK.out 1).trans rfl; have c2 : w1.cell? ⟨gb, 2, none⟩ = some (.int .i64 p2) := (blk_cell BK.out 2).trans rfl; have c3 : w1.cell? ⟨gb, 3, none⟩ = some (.int .i64 p3) := (blk_cell BK.out 3).trans rfl; have c4 : w1.cell? ⟨gb, 4, none⟩ = some (.int .i64 p4) := (blk_cell BK.out 4).trans rfl; have c5 : w1.cell? ⟨gb, 5, none⟩ = some (.int .i64 p5) := (blk_cell BK.out 5).trans rfl; have c6 : w1.cell? ⟨gb, 6, none⟩ = some (.int .i64 p6) := (blk_cell BK.out 6).trans rfl; have c7 : w1.cell? ⟨gb, 7, none⟩ = some (.int .i64 p7) := (blk_cell BK.out 7).trans rfl; have c8 : w1.cell? ⟨gb, 8, none⟩ = some (.int .i64 p8) := (blk_cell BK.out 8).trans rfl; have c9 : w1.cell? ⟨gb, 9, none⟩ = some (.int .i64 p9) := (blk_cell BK.out 9).trans rfl; have c10 : w1.cell? ⟨gb, 10, none⟩ = some (.int .i64 p10) := (blk_cell BK.out 10).trans rfl; have c11 : w1.cell? ⟨gb, 11, none⟩ = some (.int .i64 p11) := (blk_cell BK.out 11).trans rfl)
    refine (plan_MaxSize.calls p0 p1 p2 p3 p4 p5 p6 p7 p8 p9 p10 p11 s 0 _ H.out).mono ?_
    rintro e w2 ⟨rfl, hb⟩
    have BK2 := Aside0.mk (blk_below BK.out hb)
    have HB2 := Aside0.mk (below_then HB.out HB.out.size hb)
    clear c0 c1 c2 c3 c4 c5 c6 c7 c8 c9 c10 c11
    clear hb BK HB
    have BK := BK2
    have HB := HB2
    clear BK2 HB2
    have c0 : w2.cell? ⟨gb, 0, none⟩ = some (.int .i64 p0) := (blk_cell BK.out 0).trans rfl; have c1 : w2.cell? ⟨gb, 1, none⟩ = some (.int .i64 p1) := (blk_cell BK.out 1).trans rfl; have c2 : w2.cell? ⟨gb, 2, none⟩ = some (.int .i64 p2) := (blk_cell BK.out 2).trans rfl; have c3 : w2.cell? ⟨gb, 3, none⟩ = some (.int .i64 p3) := (blk_cell BK.out 3).trans rfl; have c4 : w2.cell? ⟨gb, 4, none⟩ = some (.int .i64 p4) := (blk_cell BK.out 4).trans rfl; have c5 : w2.cell? ⟨gb, 5, none⟩ = some (.int .i64 p5) := (blk_cell BK.out 5).trans rfl; have c6 : w2.cell? ⟨gb, 6, none⟩ = some (.int .i64 p6) := (blk_cell BK.out 6).trans rfl; have c7 : w2.cell? ⟨gb, 7, none⟩ = some (.int .i64 p7) := (blk_cell BK.out 7).trans rfl; have c8 : w2.cell? ⟨gb, 8, none⟩ = some (.int .i64 p8) := (blk_cell BK.out 8).trans rfl; have c9 : w2.cell? ⟨gb, 9, none⟩ = some (.int .i64 p9) := (blk_cell BK.out 9).trans rfl; have c10 : w2.cell? ⟨gb, 10, none⟩ = some (.int .i64 p10) := (blk_cell BK.out 10).trans rfl; have c11 : w2.cell? ⟨gb, 11, none⟩ = some (.int .i64 p11) := (blk_cell BK.out 11).trans rfl
    go_wp2
    go_ret2
    exact ⟨_, _, _, rfl, .inl ⟨by decide, rfl, rfl⟩, HB.out⟩
  have c0b : decide (n < 0) = false := decide_eq_false c0
  by_cases c1 : u < n
  · have c1b : decide (u < n) = true := decide_eq_true c1
    clear hq1 hu2 hq2 s0 s1 hp0 c0 c1
    go_enter Try.func9, Try.ntmps9
    go_wp2_with ((with_reducible refine gate_dst (N := 2) rfl ?_); refine box_event ?hg (N := 2) ?hd (cs := #[.int .i64 p0, .int .i64 p1, .int .i64 p2, .int .i64 p3, .int .i64 p4, .int .i64 p5, .int .i64 p6, .int .i64 p7, .int .i64 p8, .int .i64 p9, .int .i64 p10, .int .i64 p11]) (t := 23) ?hr ?_; (case hd => rfl); (case hg => rfl); (case hr => first | (go_simp; done) | (go_simp; rfl)); intro gb hg w1 hbox hb; have HB := Aside0.mk (below_step (Below.refl w.heap.size w) hb); have BK := Aside0.mk hbox; clear hb hbox hg; have c0 : w1.cell? ⟨gb, 0, none⟩ = some (.int .i64 p0) := (blk_cell BK.out 0).trans rfl; have c1 : w1.cell? ⟨gb, 1, none⟩ = some (.int .i64 p1) := (blk_cell BK.out 1).trans rfl; have c2 : w1.cell? ⟨gb, 2, none⟩ = some (.int .i64 p2) := (blk_cell BK.out 2).trans rfl; have c3 : w1.cell? ⟨gb, 3, none⟩ = some (.int .i64 p3) := (blk_cell BK.out 3).trans rfl; have c4 : w1.cell? ⟨gb, 4, none⟩ = some (.int .i64 p4) := (blk_cell BK.out 4).trans rfl; have c5 : w1.cell? ⟨gb, 5, none⟩ = some (.int .i64 p5) := (blk_cell BK.out 5).trans rfl; have c6 : w1.cell? ⟨gb, 6, none⟩ = some (.int .i64 p6) := (blk_cell BK.out 6).trans rfl; have c7 : w1.cell? ⟨gb, 7, none⟩ = some (.int .i64 p7) := (blk_cell BK.out 7).trans rfl; have c8 : w1.cell? ⟨gb, 8, none⟩ = some (.int .i64 p8) := (blk_cell BK.out 8).trans rfl; have c9 : w1.cell? ⟨gb, 9, none⟩ = some (.int .i64 p9) := (blk_cell BK.out 9).trans rfl; have c10 : w1.cell? ⟨gb, 10, none⟩ = some (.int .i64 p10) := (blk_cell BK.out 10).trans rfl; have c11 : w1.cell? ⟨gb, 11, none⟩ = some (.int .i64 p11) := (blk_cell BK.out 11).trans rfl)
    refine (plan_MaxSize.calls p0 p1 p2 p3 p4 p5 p6 p7 p8 p9 p10 p11 s 0 _ H.out).mono ?_
    rintro e w2 ⟨rfl, hb⟩
    have BK2 := Aside0.mk (blk_below BK.out hb)
    have HB2 := Aside0.mk (below_then HB.out HB.out.size hb)
    clear c0 c1 c2 c3 c4 c5 c6 c7 c8 c9 c10 c11
    clear hb BK HB
    have BK := BK2
    have HB := HB2
    clear BK2 HB2
    have c0 : w2.cell? ⟨gb, 0, none⟩ = some (.int .i64 p0) := (blk_cell BK.out 0).trans rfl; have c1 : w2.cell? ⟨gb, 1, none⟩ = some (.int .i64 p1) := (blk_cell BK.out 1).trans rfl; have c2 : w2.cell? ⟨gb, 2, none⟩ = some (.int .i64 p2) := (blk_cell BK.out 2).trans rfl; have c3 : w2.cell? ⟨gb, 3, none⟩ = some (.int .i64 p3) := (blk_cell BK.out 3).trans rfl; have c4 : w2.cell? ⟨gb, 4, none⟩ = some (.int .i64 p4) := (blk_cell BK.out 4).trans rfl; have c5 : w2.cell? ⟨gb, 5, none⟩ = some (.int .i64 p5) := (blk_cell BK.out 5).trans rfl; have c6 : w2.cell? ⟨gb, 6, none⟩ = some (.int .i64 p6) := (blk_cell BK.out 6).trans rfl; have c7 : w2.cell? ⟨gb, 7, none⟩ = some (.int .i64 p7) := (blk_cell BK.out 7).trans rfl; have c8 : w2.cell? ⟨gb, 8, none⟩ = some (.int .i64 p8) := (blk_cell BK.out 8).trans rfl; have c9 : w2.cell? ⟨gb, 9, none⟩ = some (.int .i64 p9) := (blk_cell BK.out 9).trans rfl; have c10 : w2.cell? ⟨gb, 10, none⟩ = some (.int .i64 p10) := (blk_cell BK.out 10).trans rfl; have c11 : w2.cell? ⟨gb, 11, none⟩ = some (.int .i64 p11) := (blk_cell BK.out 11).trans rfl
    go_wp2
    go_ret2
    exact ⟨_, _, _, rfl, .inl ⟨by decide, rfl, rfl⟩, HB.out⟩
  have c1b : decide (u < n) = false := decide_eq_false c1
  have e1 : IntKind.i64.wrap (n + q) = n + q := by rw [IntKind.wrap_i64]; omega
  have e2 : IntKind.i64.wrap (n + q - 1) = n + q - 1 := by rw [IntKind.wrap_i64]; omega
  have hq0 : q ≠ 0 := by omega
  obtain ⟨r, hr1⟩ : ∃ r, IntKind.i64.wrap (Int.tdiv (n + q - 1) q) = r := ⟨_, rfl⟩
  have hr2 : 0 ≤ r ∧ r ≤ 40000 := by
    have z0 : 0 ≤ (n + q - 1) / q := Int.ediv_nonneg (by omega) (by omega)
    have z1 : (n + q - 1) / q ≤ n + q - 1 := Int.ediv_le_self _ (by omega)
    rw [← hr1, Int.tdiv_eq_ediv_of_nonneg (by omega), IntKind.wrap_i64]
    omega
  obtain ⟨t, ht⟩ : ∃ t, r * p0 = t := ⟨_, rfl⟩
  have t0 : 0 ≤ t ∧ t ≤ 40000 * 4096 := by
    rw [← ht]
    exact ⟨Int.mul_nonneg (by omega) (by omega), Int.mul_le_mul (by omega) (by omega) (by omega) (by omega)⟩
  have e3 : IntKind.i64.wrap (r * p0) = t := by rw [ht, IntKind.wrap_i64]; omega
  clear hr2 ht hu2 hq2 hp0 c0 c1 t0 s0 s1
  go_enter Try.func9, Try.ntmps9
  go_wp2_with ((with_reducible refine gate_dst (N := 2) rfl ?_); refine box_event ?hg (N := 2) ?hd (cs := #[.int .i64 p0, .int .i64 p1, .int .i64 p2, .int .i64 p3, .int .i64 p4, .int .i64 p5, .int .i64 p6, .int .i64 p7, .int .i64 p8, .int .i64 p9, .int .i64 p10, .int .i64 p11]) (t := 23) ?hr ?_; (case hd => rfl); (case hg => rfl); (case hr => first | (go_simp; done) | (go_simp; rfl)); intro gb hg w1 hbox hb; have HB := Aside0.mk (below_step (Below.refl w.heap.size w) hb); have BK := Aside0.mk hbox; clear hb hbox hg; have c0 : w1.cell? ⟨gb, 0, none⟩ = some (.int .i64 p0) := (blk_cell BK.out 0).trans rfl; have c1 : w1.cell? ⟨gb, 1, none⟩ = some (.int .i64 p1) := (blk_cell BK.out 1).trans rfl; have c2 : w1.cell? ⟨gb, 2, none⟩ = some (.int .i64 p2) := (blk_cell BK.out 2).trans rfl; have c3 : w1.cell? ⟨gb, 3, none⟩ = some (.int .i64 p3) := (blk_cell BK.out 3).trans rfl; have c4 : w1.cell? ⟨gb, 4, none⟩ = some (.int .i64 p4) := (blk_cell BK.out 4).trans rfl; have c5 : w1.cell? ⟨gb, 5, none⟩ = some (.int .i64 p5) := (blk_cell BK.out 5).trans rfl; have c6 : w1.cell? ⟨gb, 6, none⟩ = some (.int .i64 p6) := (blk_cell BK.out 6).trans rfl; have c7 : w1.cell? ⟨gb, 7, none⟩ = some (.int .i64 p7) := (blk_cell BK.out 7).trans rfl; have c8 : w1.cell? ⟨gb, 8, none⟩ = some (.int .i64 p8) := (blk_cell BK.out 8).trans rfl; have c9 : w1.cell? ⟨gb, 9, none⟩ = some (.int .i64 p9) := (blk_cell BK.out 9).trans rfl; have c10 : w1.cell? ⟨gb, 10, none⟩ = some (.int .i64 p10) := (blk_cell BK.out 10).trans rfl; have c11 : w1.cell? ⟨gb, 11, none⟩ = some (.int .i64 p11) := (blk_cell BK.out 11).trans rfl)
  refine (plan_MaxSize.calls p0 p1 p2 p3 p4 p5 p6 p7 p8 p9 p10 p11 s 0 _ H.out).mono ?_
  rintro e w2 ⟨rfl, hb⟩
  have BK2 := Aside0.mk (blk_below BK.out hb)
  have HB2 := Aside0.mk (below_then HB.out HB.out.size hb)
  clear c0 c1 c2 c3 c4 c5 c6 c7 c8 c9 c10 c11
  clear hb BK HB
  have BK := BK2
  have HB := HB2
  clear BK2 HB2
  have c0 : w2.cell? ⟨gb, 0, none⟩ = some (.int .i64 p0) := (blk_cell BK.out 0).trans rfl; have c1 : w2.cell? ⟨gb, 1, none⟩ = some (.int .i64 p1) := (blk_cell BK.out 1).trans rfl; have c2 : w2.cell? ⟨gb, 2, none⟩ = some (.int .i64 p2) := (blk_cell BK.out 2).trans rfl; have c3 : w2.cell? ⟨gb, 3, none⟩ = some (.int .i64 p3) := (blk_cell BK.out 3).trans rfl; have c4 : w2.cell? ⟨gb, 4, none⟩ = some (.int .i64 p4) := (blk_cell BK.out 4).trans rfl; have c5 : w2.cell? ⟨gb, 5, none⟩ = some (.int .i64 p5) := (blk_cell BK.out 5).trans rfl; have c6 : w2.cell? ⟨gb, 6, none⟩ = some (.int .i64 p6) := (blk_cell BK.out 6).trans rfl; have c7 : w2.cell? ⟨gb, 7, none⟩ = some (.int .i64 p7) := (blk_cell BK.out 7).trans rfl; have c8 : w2.cell? ⟨gb, 8, none⟩ = some (.int .i64 p8) := (blk_cell BK.out 8).trans rfl; have c9 : w2.cell? ⟨gb, 9, none⟩ = some (.int .i64 p9) := (blk_cell BK.out 9).trans rfl; have c10 : w2.cell? ⟨gb, 10, none⟩ = some (.int .i64 p10) := (blk_cell BK.out 10).trans rfl; have c11 : w2.cell? ⟨gb, 11, none⟩ = some (.int .i64 p11) := (blk_cell BK.out 11).trans rfl
  go_wp2
  simp only [hq1]
  clear hq1 hu1
  refine start_ (n := 15) (S := (fun w' => w'.cell? ⟨gb, 0, none⟩ = some (.int .i64 p0) ∧ w'.cell? ⟨gb, 1, none⟩ = some (.int .i64 p1) ∧ w'.cell? ⟨gb, 2, none⟩ = some (.int .i64 p2) ∧ w'.cell? ⟨gb, 3, none⟩ = some (.int .i64 p3) ∧ w'.cell? ⟨gb, 4, none⟩ = some (.int .i64 p4) ∧ w'.cell? ⟨gb, 5, none⟩ = some (.int .i64 p5) ∧ w'.cell? ⟨gb, 6, none⟩ = some (.int .i64 p6) ∧ w'.cell? ⟨gb, 7, none⟩ = some (.int .i64 p7) ∧ w'.cell? ⟨gb, 8, none⟩ = some (.int .i64 p8) ∧ w'.cell? ⟨gb, 9, none⟩ = some (.int .i64 p9) ∧ w'.cell? ⟨gb, 10, none⟩ = some (.int .i64 p10) ∧ w'.cell? ⟨gb, 11, none⟩ = some (.int .i64 p11))) (ds := [10]) #[false, false, false, false, false, false, false, false, false, false, false, false, false, false, false] (by kernel_rfl) rfl rfl ⟨c0, c1, c2, c3, c4, c5, c6, c7, c8, c9, c10, c11⟩ (fun hHeld => ?_); refine with_tabW dir.tab7 dir.bits7 (fun HT_ HW_ => ?_)
  refine take_ (i := 0) (N := (some 28)) (v := ?_) (a' := ?_) #[true, false, false, false, false, false, false, false, false, false, false, false, false, false, false] rfl rfl (take_ofW HT_.out HW_.out (by kernel_rfl)) (fun _ _ _ h => h) (Or.inl ⟨by rfl, ?_⟩) hHeld ?_ ?_
  rotate_left
  · rintro w' ⟨s0, s1, s2, s3, s4, s5, s6, s7, s8, s9, s10, s11⟩
    go_simp
    with_reducible rfl
  rotate_left
  · simp only [Act.put, List.setIfInBounds_toArray, List.set_cons_zero, List.set_cons_succ, i64_w, i32_w]
    rfl
  refine pure_ (i := 1) (N := (some 29)) (v := ?_) (a' := ?_) #[true, true, false, false, false, false, false, false, false, false, false, false, false, false, false] rfl rfl (any_of HT_.out (by kernel_rfl)) (fun _ _ _ h => h) (Or.inl ⟨by rfl, ?_⟩) ?_ ?_
  rotate_left
  · intro w'
    go_simp
    with_reducible rfl
  rotate_left
  · simp only [Act.put, List.setIfInBounds_toArray, List.set_cons_zero, List.set_cons_succ, i64_w, i32_w]
    rfl
  refine pure_ (i := 2) (N := (some 30)) (v := ?_) (a' := ?_) #[true, true, true, false, false, false, false, false, false, false, false, false, false, false, false] rfl rfl (any_of HT_.out (by kernel_rfl)) (fun _ _ _ h => h) (Or.inl ⟨by rfl, ?_⟩) ?_ ?_
  rotate_left
  · intro w'
    go_simp
    with_reducible rfl
  rotate_left
  · simp only [Act.put, List.setIfInBounds_toArray, List.set_cons_zero, List.set_cons_succ, i64_w, i32_w]
    rfl
  refine pure_ (i := 3) (N := (some 31)) (v := ?_) (a' := ?_) #[true, true, true, true, false, false, false, false, false, false, false, false, false, false, false] rfl rfl (any_of HT_.out (by kernel_rfl)) (fun _ _ _ h => h) (Or.inl ⟨by rfl, ?_⟩) ?_ ?_
  rotate_left
  · intro w'
    go_simp
    with_reducible rfl
  rotate_left
  · simp only [Act.put, List.setIfInBounds_toArray, List.set_cons_zero, List.set_cons_succ, i64_w, i32_w]
    rfl
  refine pure_ (i := 4) (N := (some 32)) (v := ?_) (a' := ?_) #[true, true, true, true, true, false, false, false, false, false, false, false, false, false, false] rfl rfl (any_of HT_.out (by kernel_rfl)) (fun _ _ _ h => h) (Or.inl ⟨by rfl, ?_⟩) ?_ ?_
  rotate_left
  · intro w'
    go_simp
    with_reducible rfl
  rotate_left
  · simp only [Act.put, List.setIfInBounds_toArray, List.set_cons_zero, List.set_cons_succ, i64_w, i32_w]
    rfl
  refine pure_ (i := 5) (N := (some 33)) (v := ?_) (a' := ?_) #[true, true, true, true, true, true, false, false, false, false, false, false, false, false, false] rfl rfl (any_of HT_.out (by kernel_rfl)) (fun _ _ _ h => h) (Or.inl ⟨by rfl, ?_⟩) ?_ ?_
  rotate_left
  · intro w'
    go_simp
    with_reducible rfl
  rotate_left
  · simp only [Act.put, List.setIfInBounds_toArray, List.set_cons_zero, List.set_cons_succ, i64_w, i32_w]
    rfl
  refine pure_ (i := 6) (N := (some 34)) (v := ?_) (a' := ?_) #[true, true, true, true, true, true, true, false, false, false, false, false, false, false, false] rfl rfl (any_of HT_.out (by kernel_rfl)) (fun _ _ _ h => h) (Or.inl ⟨by rfl, ?_⟩) ?_ ?_
  rotate_left
  · intro w'
    go_simp
    with_reducible rfl
  rotate_left
  · simp only [Act.put, List.setIfInBounds_toArray, List.set_cons_zero, List.set_cons_succ, i64_w, i32_w]
    rfl
  refine pure_ (i := 7) (N := (some 35)) (v := ?_) (a' := ?_) #[true, true, true, true, true, true, true, true, false, false, false, false, false, false, false] rfl rfl (any_of HT_.out (by kernel_rfl)) (fun _ _ _ h => h) (Or.inl ⟨by rfl, ?_⟩) ?_ ?_
  rotate_left
  · intro w'
    go_simp
    with_reducible rfl
  rotate_left
  · simp only [Act.put, List.setIfInBounds_toArray, List.set_cons_zero, List.set_cons_succ, i64_w, i32_w]
    rfl
  refine take_ (i := 8) (N := (some 36)) (v := ?_) (a' := ?_) #[true, true, true, true, true, true, true, true, true, false, false, false, false, false, false] rfl rfl (take_ofW HT_.out HW_.out (by kernel_rfl)) (fun _ _ _ h => h) (Or.inl ⟨by rfl, ?_⟩) hHeld ?_ ?_
  rotate_left
  · rintro w' ⟨s0, s1, s2, s3, s4, s5, s6, s7, s8, s9, s10, s11⟩
    go_simp
    with_reducible rfl
  rotate_left
  · simp only [Act.put, List.setIfInBounds_toArray, List.set_cons_zero, List.set_cons_succ, i64_w, i32_w]
    rfl
  refine pure_ (i := 9) (N := (some 37)) (v := ?_) (a' := ?_) #[true, true, true, true, true, true, true, true, true, true, false, false, false, false, false] rfl rfl (any_of HT_.out (by kernel_rfl)) (fun _ _ _ h => h) (Or.inl ⟨by rfl, ?_⟩) ?_ ?_
  rotate_left
  · intro w'
    go_simp
    with_reducible rfl
  rotate_left
  · simp only [Act.put, List.setIfInBounds_toArray, List.set_cons_zero, List.set_cons_succ, i64_w, i32_w]
    rfl
  refine last_ (i := 10) (N := (some 38)) #[true, true, true, true, true, true, true, true, true, true, true, false, false, false, false] rfl rfl (one_of HT_.out (by kernel_rfl)) (by decide) (fun K hK => ?_)
  refine goes_ Try.func7 (by kernel_rfl) rfl #[.agg #[.int .i64 p0, .int .i64 p1, .int .i64 p2, .int .i64 p3, .int .i64 p4, .int .i64 p5, .int .i64 p6, .int .i64 p7, .int .i64 p8, .int .i64 p9, .int .i64 p10, .int .i64 p11], .int .i64 t] (by rfl) rfl rfl (by simp [Act.eval]) ?_
  refine (file_calls p0 p1 p2 p3 p4 p5 p6 p7 p8 p9 p10 p11 t w2.drew).mono ?_
  rintro e W1 ⟨x, y, z, rfl, ho, hb1⟩
  refine ⟨_, rfl, ?_⟩
  have HO := Aside0.mk ho
  have HB3 := Aside0.mk (below_then (below_drew HB.out) (below_drew HB.out).size hb1)
  clear ho hb1
  refine hK.out _ _ ?_
  clear hK K
  refine norm_ (a' := ?_) ?_ ?_
  rotate_left
  · show Act.put _ (some 38) _ = _
    simp only [Act.put, List.setIfInBounds_toArray, List.set_cons_zero, List.set_cons_succ, i64_w, i32_w]
    rfl
  refine pure_ (i := 11) (N := (some 39)) (v := ?_) (a' := ?_) #[true, true, true, true, true, true, true, true, true, true, true, true, false, false, false] rfl rfl (any_of HT_.out (by kernel_rfl)) (fun _ _ _ h => h) (Or.inl ⟨by rfl, ?_⟩) ?_ ?_
  rotate_left
  · intro w'
    go_simp
    with_reducible rfl
  rotate_left
  · simp only [Act.put, List.setIfInBounds_toArray, List.set_cons_zero, List.set_cons_succ, i64_w, i32_w]
    rfl
  refine pure_ (i := 12) (N := (some 40)) (v := ?_) (a' := ?_) #[true, true, true, true, true, true, true, true, true, true, true, true, true, false, false] rfl rfl (any_of HT_.out (by kernel_rfl)) (fun _ _ _ h => h) (Or.inl ⟨by rfl, ?_⟩) ?_ ?_
  rotate_left
  · intro w'
    go_simp
    with_reducible rfl
  rotate_left
  · simp only [Act.put, List.setIfInBounds_toArray, List.set_cons_zero, List.set_cons_succ, i64_w, i32_w]
    rfl
  refine pure_ (i := 13) (N := (some 4)) (v := ?_) (a' := ?_) #[true, true, true, true, true, true, true, true, true, true, true, true, true, true, false] rfl rfl (any_of HT_.out (by kernel_rfl)) (fun _ _ _ h => h) (Or.inl ⟨by rfl, ?_⟩) ?_ ?_
  rotate_left
  · intro w'
    go_simp
    with_reducible rfl
  rotate_left
  · simp only [Act.put, List.setIfInBounds_toArray, List.set_cons_zero, List.set_cons_succ, i64_w, i32_w]
    rfl
  refine pure_ (i := 14) (N := (some 5)) (v := ?_) (a' := ?_) #[true, true, true, true, true, true, true, true, true, true, true, true, true, true, true] rfl rfl (any_of HT_.out (by kernel_rfl)) (fun _ _ _ h => h) (Or.inl ⟨by rfl, ?_⟩) ?_ ?_
  rotate_left
  · intro w'
    go_simp
    with_reducible rfl
  rotate_left
  · simp only [Act.put, List.setIfInBounds_toArray, List.set_cons_zero, List.set_cons_succ, i64_w, i32_w]
    rfl
  refine done_ (done_of HT_.out (by kernel_rfl)) ?_
  go_wp2
  go_ret2
  exact ⟨_, _, _, rfl, HO.out, HB3.out⟩

end Go.Proofs.Ytdjlbbfgobbcmaa.Need
