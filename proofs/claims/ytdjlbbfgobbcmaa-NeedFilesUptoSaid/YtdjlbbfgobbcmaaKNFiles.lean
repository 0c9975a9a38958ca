/- Of every plan what each file, directory and tree needs, and what the device has: the walk of the law NeedFiles. No conditions. -/
import Derived.Test.YtdjlbbfgobbcmaaKNRTree
namespace Go.Proofs.Ytdjlbbfgobbcmaa.Need
open Go.RowKit Go.Proofs.Ytdjlbbfgobbcmaa.PNeedFiles Go.Proofs.Ytdjlbbfgobbcmaa.PlainFloat Go.Proofs.Ytdjlbbfgobbcmaa.Turn Go.Proofs.YtdjlbbfgobbcmaaW.PrintWords Go.Proofs.YtdjlbbfgobbcmaaW.PrintLast Go.Proofs.YtdjlbbfgobbcmaaW.PrintMore
set_option linter.unusedVariables false
set_option linter.unusedSimpArgs false

/-- The same answers. -/
def Same (x y : Nat) (r : Int) (x' y' : Nat) (r' : Int) : Prop := r = r' ∧ FloatKind.f64.format.order x x' = some .eq ∧ FloatKind.f64.format.order y y' = some .eq
theorem same_err {c : Int} {x y : Nat} {r : Int} {x' y' : Nat} {r' : Int} (h : Err c x y r) (h' : Err c x' y' r') : Same x y r x' y' r' := by
  obtain ⟨rfl, rfl, rfl⟩ := h
  obtain ⟨rfl, rfl, rfl⟩ := h'
  exact ⟨rfl, same_ord rep_zero rep_zero, same_ord rep_zero rep_zero⟩
theorem same_rep {x y x' y' : Nat} {r : Int} {a b : Int} (h1 : Rep x a) (h2 : Rep y b) (h3 : Rep x' a) (h4 : Rep y' b) : Same x y r x' y' r := ⟨rfl, same_ord h1 h3, same_ord h2 h4⟩
theorem same_file {p0 p1 p2 p3 p4 p5 p6 p7 p8 p9 p10 p11 s : Int} (F : Fine p0 p1 p2 p3 p4 p5 p6 p7 p8 p9 p10 p11 s) {n : Int} {x y : Nat} {r : Int} {x' y' : Nat} {r' : Int} (h : FileOut p0 s n x y r) (h' : RFileOut p0 s n x' y' r') : Same x y r x' y' r' := by
  rcases h with ⟨c, rfl, rfl, rfl⟩ | ⟨c, h⟩
  · rcases h' with ⟨_, rfl, rfl, rfl⟩ | ⟨d, _⟩
    · have hb := Pure.blocks_part F.two c.1 (Int.le_trans c.2 F.high)
      exact same_rep (of_int (by omega)) rep_one (of_int (by omega)) (of_int (by decide))
    · exact absurd c d
  · rcases h' with ⟨d, _⟩ | ⟨_, h'⟩
    · exact absurd d c
    · exact same_err (c := 2) h h'
theorem same_dir {p0 p1 p2 p3 p4 p5 p6 p7 p8 p9 p10 p11 s : Int} (F : Fine p0 p1 p2 p3 p4 p5 p6 p7 p8 p9 p10 p11 s) {n : Int} {x y : Nat} {r : Int} {x' y' : Nat} {r' : Int} (h : DirOut p0 s n x y r) (h' : RDirOut p0 s n x' y' r') : Same x y r x' y' r' := by
  rcases h with ⟨c, rfl, rfl, rfl⟩ | ⟨c, h⟩
  · rcases h' with ⟨_, rfl, rfl, rfl⟩ | ⟨d, _⟩
    · have hd := dsize_ok F.size F.two c.1 c.2
      have hb := Pure.blocks_part F.two hd.1 (Int.le_trans hd.2 F.high)
      exact same_rep (of_int (by omega)) rep_one (of_int (by omega)) (of_int (by decide))
    · exact absurd c d
  · rcases h' with ⟨d, _⟩ | ⟨_, h'⟩
    · exact absurd d c
    · exact same_err (c := 2) h h'
theorem same_tree {p0 s : Int} {l m : List Int} {x y : Nat} {r : Int} {x' y' : Nat} {r' : Int} (h : TreeOut p0 s l m x y r) (h' : TreeOut p0 s l m x' y' r') : Same x y r x' y' r' := by
  rcases h with ⟨c, h⟩ | ⟨c, h⟩
  · rcases h' with ⟨_, h'⟩ | ⟨d, _⟩
    · exact same_err (c := 2) h h'
    · exact absurd d c
  · rcases h' with ⟨d, _⟩ | ⟨_, h'⟩
    · exact absurd c d
    · rcases h with ⟨e, rfl, h1, h2⟩ | ⟨e, h⟩
      · rcases h' with ⟨_, rfl, h3, h4⟩ | ⟨g, _⟩
        · exact same_rep h1 h2 h3 h4
        · omega
      · rcases h' with ⟨g, _⟩ | ⟨_, h'⟩
        · omega
        · exact same_err (c := 3) h h'
set_option maxHeartbeats 4000000 in
set_option maxRecDepth 100000 in
theorem files_walk (p0 : Int) (p1 : Int) (p2 : Int) (p3 : Int) (p4 : Int) (p5 : Int) (p6 : Int) (p7 : Int) (p8 : Int) (p9 : Int) (p10 : Int) (p11 : Int) (n : Int) (A1 A2 : Option Addr) (ca cb : Nat) (l m : List Int) (w : World) (hr1 : ReadsInt w .i64 A1 l.length l) (hr2 : ReadsInt w .i64 A2 m.length m)
    (Q1 Q2 Q3 Q4 Q5 Q6 Q7 Q8 : Nat → Nat → Int → Prop)
    (h1 : ∀ W, Calls Try.prog 7 #[.agg #[.int .i64 p0, .int .i64 p1, .int .i64 p2, .int .i64 p3, .int .i64 p4, .int .i64 p5, .int .i64 p6, .int .i64 p7, .int .i64 p8, .int .i64 p9, .int .i64 p10, .int .i64 p11], .int .i64 n] W (Ends Q1 W))
    (h2 : ∀ W, Calls Try.prog 12 #[.agg #[.int .i64 p0, .int .i64 p1, .int .i64 p2, .int .i64 p3, .int .i64 p4, .int .i64 p5, .int .i64 p6, .int .i64 p7, .int .i64 p8, .int .i64 p9, .int .i64 p10, .int .i64 p11], .int .i64 n] W (Ends Q2 W))
    (h3 : ∀ W, Calls Try.prog 9 #[.agg #[.int .i64 p0, .int .i64 p1, .int .i64 p2, .int .i64 p3, .int .i64 p4, .int .i64 p5, .int .i64 p6, .int .i64 p7, .int .i64 p8, .int .i64 p9, .int .i64 p10, .int .i64 p11], .int .i64 n] W (Ends Q3 W))
    (h4 : ∀ W, Calls Try.prog 13 #[.agg #[.int .i64 p0, .int .i64 p1, .int .i64 p2, .int .i64 p3, .int .i64 p4, .int .i64 p5, .int .i64 p6, .int .i64 p7, .int .i64 p8, .int .i64 p9, .int .i64 p10, .int .i64 p11], .int .i64 n] W (Ends Q4 W))
    (h5 : ∀ W, Calls Try.prog 14 #[.agg #[.int .i64 p0, .int .i64 p1, .int .i64 p2, .int .i64 p3, .int .i64 p4, .int .i64 p5, .int .i64 p6, .int .i64 p7, .int .i64 p8, .int .i64 p9, .int .i64 p10, .int .i64 p11]] W (Ends Q5 W))
    (h6 : ∀ W, Calls Try.prog 15 #[.agg #[.int .i64 p0, .int .i64 p1, .int .i64 p2, .int .i64 p3, .int .i64 p4, .int .i64 p5, .int .i64 p6, .int .i64 p7, .int .i64 p8, .int .i64 p9, .int .i64 p10, .int .i64 p11]] W (Ends Q6 W))
    (h7 : ∀ W, ReadsInt W .i64 A1 l.length l → ReadsInt W .i64 A2 m.length m → Calls Try.prog 10 #[.agg #[.int .i64 p0, .int .i64 p1, .int .i64 p2, .int .i64 p3, .int .i64 p4, .int .i64 p5, .int .i64 p6, .int .i64 p7, .int .i64 p8, .int .i64 p9, .int .i64 p10, .int .i64 p11], .slice A1 l.length ca, .slice A2 m.length cb] W (Ends Q7 W))
    (h8 : ∀ W, ReadsInt W .i64 A1 l.length l → ReadsInt W .i64 A2 m.length m → Calls Try.prog 16 #[.agg #[.int .i64 p0, .int .i64 p1, .int .i64 p2, .int .i64 p3, .int .i64 p4, .int .i64 p5, .int .i64 p6, .int .i64 p7, .int .i64 p8, .int .i64 p9, .int .i64 p10, .int .i64 p11], .slice A1 l.length ca, .slice A2 m.length cb] W (Ends Q8 W))
    (s0 : ∀ x y r x' y' r', Q1 x y r → Q2 x' y' r' → Same x y r x' y' r') (s1 : ∀ x y r x' y' r', Q3 x y r → Q4 x' y' r' → Same x y r x' y' r') (s2 : ∀ x y r x' y' r', Q5 x y r → Q6 x' y' r' → Same x y r x' y' r') (s3 : ∀ x y r x' y' r', Q7 x y r → Q8 x' y' r' → Same x y r x' y' r') :
    Calls Try.prog 5 #[.agg #[.int .i64 p0, .int .i64 p1, .int .i64 p2, .int .i64 p3, .int .i64 p4, .int .i64 p5, .int .i64 p6, .int .i64 p7, .int .i64 p8, .int .i64 p9, .int .i64 p10, .int .i64 p11], .int .i64 n, .slice A1 l.length ca, .slice A2 m.length cb] w fun e w' => e = .returned (.bool true) ∧ Below w.heap.size w w' := by
  have hu := Try.underlying23
  have R1 := Aside0.mk hr1
  have R2 := Aside0.mk hr2
  have H1 := Aside0.mk h1
  have H2 := Aside0.mk h2
  have H3 := Aside0.mk h3
  have H4 := Aside0.mk h4
  have H5 := Aside0.mk h5
  have H6 := Aside0.mk h6
  have H7 := Aside0.mk h7
  have H8 := Aside0.mk h8
  have S0 := Aside0.mk s0
  have S1 := Aside0.mk s1
  have S2 := Aside0.mk s2
  have S3 := Aside0.mk s3
  clear hr1 hr2 h1 h2 h3 h4 h5 h6 h7 h8 s0 s1 s2 s3
  go_enter Try.func5, Try.ntmps5
  go_wp2_with ((with_reducible refine gate_dst (N := 4) rfl ?_); refine box_event ?hg (N := 4) ?hd (cs := #[.int .i64 p0, .int .i64 p1, .int .i64 p2, .int .i64 p3, .int .i64 p4, .int .i64 p5, .int .i64 p6, .int .i64 p7, .int .i64 p8, .int .i64 p9, .int .i64 p10, .int .i64 p11]) (t := 23) ?hr ?_; (case hd => rfl); (case hg => rfl); (case hr => first | (go_simp; done) | (go_simp; rfl)); intro gb hg w1 hbox hb; have HB := Aside0.mk (below_step (Below.refl w.heap.size w) hb); have BK := Aside0.mk hbox; clear hb hbox hg; have c0 : w1.cell? ⟨gb, 0, none⟩ = some (.int .i64 p0) := (blk_cell BK.out 0).trans rfl; have c1 : w1.cell? ⟨gb, 1, none⟩ = some (.int .i64 p1) := (blk_cell BK.out 1).trans rfl; have c2 : w1.cell? ⟨gb, 2, none⟩ = some (.int .i64 p2) := (blk_cell BK.out 2).trans rfl; have c3 : w1.cell? ⟨gb, 3, none⟩ = some (.int .i64 p3) := (blk_cell BK.out 3).trans rfl; have c4 : w1.cell? ⟨gb, 4, none⟩ = some (.int .i64 p4) := (blk_cell BK.out 4).trans rfl; have c5 : w1.cell? ⟨gb, 5, none⟩ = some (.int .i64 p5) := (blk_cell BK.out 5).trans rfl; have c6 : w1.cell? ⟨gb, 6, none⟩ = some (.int .i64 p6) := (blk_cell BK.out 6).trans rfl; have c7 : w1.cell? ⟨gb, 7, none⟩ = some (.int .i64 p7) := (blk_cell BK.out 7).trans rfl; have c8 : w1.cell? ⟨gb, 8, none⟩ = some (.int .i64 p8) := (blk_cell BK.out 8).trans rfl; have c9 : w1.cell? ⟨gb, 9, none⟩ = some (.int .i64 p9) := (blk_cell BK.out 9).trans rfl; have c10 : w1.cell? ⟨gb, 10, none⟩ = some (.int .i64 p10) := (blk_cell BK.out 10).trans rfl; have c11 : w1.cell? ⟨gb, 11, none⟩ = some (.int .i64 p11) := (blk_cell BK.out 11).trans rfl)
  refine (wakes _).mono ?_
  rintro e w2 ⟨rfl, rfl⟩
  go_wp2_with fail
  ((with_reducible refine (H1.out _).mono ?_); rintro e w3 ⟨x1, y1, r1, rfl, hq, hb⟩)
  have G1 := Aside0.mk hq
  clear hq
  have BK2 := Aside0.mk (blk_below BK.out hb)
  have HB2 := Aside0.mk (below_then HB.out HB.out.size hb)
  clear c0 c1 c2 c3 c4 c5 c6 c7 c8 c9 c10 c11
  clear hb BK HB
  have BK := BK2
  have HB := HB2
  clear BK2 HB2
  have c0 : w3.cell? ⟨gb, 0, none⟩ = some (.int .i64 p0) := (blk_cell BK.out 0).trans rfl; have c1 : w3.cell? ⟨gb, 1, none⟩ = some (.int .i64 p1) := (blk_cell BK.out 1).trans rfl; have c2 : w3.cell? ⟨gb, 2, none⟩ = some (.int .i64 p2) := (blk_cell BK.out 2).trans rfl; have c3 : w3.cell? ⟨gb, 3, none⟩ = some (.int .i64 p3) := (blk_cell BK.out 3).trans rfl; have c4 : w3.cell? ⟨gb, 4, none⟩ = some (.int .i64 p4) := (blk_cell BK.out 4).trans rfl; have c5 : w3.cell? ⟨gb, 5, none⟩ = some (.int .i64 p5) := (blk_cell BK.out 5).trans rfl; have c6 : w3.cell? ⟨gb, 6, none⟩ = some (.int .i64 p6) := (blk_cell BK.out 6).trans rfl; have c7 : w3.cell? ⟨gb, 7, none⟩ = some (.int .i64 p7) := (blk_cell BK.out 7).trans rfl; have c8 : w3.cell? ⟨gb, 8, none⟩ = some (.int .i64 p8) := (blk_cell BK.out 8).trans rfl; have c9 : w3.cell? ⟨gb, 9, none⟩ = some (.int .i64 p9) := (blk_cell BK.out 9).trans rfl; have c10 : w3.cell? ⟨gb, 10, none⟩ = some (.int .i64 p10) := (blk_cell BK.out 10).trans rfl; have c11 : w3.cell? ⟨gb, 11, none⟩ = some (.int .i64 p11) := (blk_cell BK.out 11).trans rfl
  go_wp2_with fail
  ((with_reducible refine (H2.out _).mono ?_); rintro e w4 ⟨x2, y2, r2, rfl, hq, hb⟩)
  have G2 := Aside0.mk hq
  clear hq
  have BK2 := Aside0.mk (blk_below BK.out hb)
  have HB2 := Aside0.mk (below_then HB.out HB.out.size hb)
  clear c0 c1 c2 c3 c4 c5 c6 c7 c8 c9 c10 c11
  clear hb BK HB
  have BK := BK2
  have HB := HB2
  clear BK2 HB2
  have c0 : w4.cell? ⟨gb, 0, none⟩ = some (.int .i64 p0) := (blk_cell BK.out 0).trans rfl; have c1 : w4.cell? ⟨gb, 1, none⟩ = some (.int .i64 p1) := (blk_cell BK.out 1).trans rfl; have c2 : w4.cell? ⟨gb, 2, none⟩ = some (.int .i64 p2) := (blk_cell BK.out 2).trans rfl; have c3 : w4.cell? ⟨gb, 3, none⟩ = some (.int .i64 p3) := (blk_cell BK.out 3).trans rfl; have c4 : w4.cell? ⟨gb, 4, none⟩ = some (.int .i64 p4) := (blk_cell BK.out 4).trans rfl; have c5 : w4.cell? ⟨gb, 5, none⟩ = some (.int .i64 p5) := (blk_cell BK.out 5).trans rfl; have c6 : w4.cell? ⟨gb, 6, none⟩ = some (.int .i64 p6) := (blk_cell BK.out 6).trans rfl; have c7 : w4.cell? ⟨gb, 7, none⟩ = some (.int .i64 p7) := (blk_cell BK.out 7).trans rfl; have c8 : w4.cell? ⟨gb, 8, none⟩ = some (.int .i64 p8) := (blk_cell BK.out 8).trans rfl; have c9 : w4.cell? ⟨gb, 9, none⟩ = some (.int .i64 p9) := (blk_cell BK.out 9).trans rfl; have c10 : w4.cell? ⟨gb, 10, none⟩ = some (.int .i64 p10) := (blk_cell BK.out 10).trans rfl; have c11 : w4.cell? ⟨gb, 11, none⟩ = some (.int .i64 p11) := (blk_cell BK.out 11).trans rfl
  go_wp2_with fail
  ((with_reducible refine (H3.out _).mono ?_); rintro e w5 ⟨x3, y3, r3, rfl, hq, hb⟩)
  have G3 := Aside0.mk hq
  clear hq
  have BK2 := Aside0.mk (blk_below BK.out hb)
  have HB2 := Aside0.mk (below_then HB.out HB.out.size hb)
  clear c0 c1 c2 c3 c4 c5 c6 c7 c8 c9 c10 c11
  clear hb BK HB
  have BK := BK2
  have HB := HB2
  clear BK2 HB2
  have c0 : w5.cell? ⟨gb, 0, none⟩ = some (.int .i64 p0) := (blk_cell BK.out 0).trans rfl; have c1 : w5.cell? ⟨gb, 1, none⟩ = some (.int .i64 p1) := (blk_cell BK.out 1).trans rfl; have c2 : w5.cell? ⟨gb, 2, none⟩ = some (.int .i64 p2) := (blk_cell BK.out 2).trans rfl; have c3 : w5.cell? ⟨gb, 3, none⟩ = some (.int .i64 p3) := (blk_cell BK.out 3).trans rfl; have c4 : w5.cell? ⟨gb, 4, none⟩ = some (.int .i64 p4) := (blk_cell BK.out 4).trans rfl; have c5 : w5.cell? ⟨gb, 5, none⟩ = some (.int .i64 p5) := (blk_cell BK.out 5).trans rfl; have c6 : w5.cell? ⟨gb, 6, none⟩ = some (.int .i64 p6) := (blk_cell BK.out 6).trans rfl; have c7 : w5.cell? ⟨gb, 7, none⟩ = some (.int .i64 p7) := (blk_cell BK.out 7).trans rfl; have c8 : w5.cell? ⟨gb, 8, none⟩ = some (.int .i64 p8) := (blk_cell BK.out 8).trans rfl; have c9 : w5.cell? ⟨gb, 9, none⟩ = some (.int .i64 p9) := (blk_cell BK.out 9).trans rfl; have c10 : w5.cell? ⟨gb, 10, none⟩ = some (.int .i64 p10) := (blk_cell BK.out 10).trans rfl; have c11 : w5.cell? ⟨gb, 11, none⟩ = some (.int .i64 p11) := (blk_cell BK.out 11).trans rfl
  go_wp2_with fail
  ((with_reducible refine (H4.out _).mono ?_); rintro e w6 ⟨x4, y4, r4, rfl, hq, hb⟩)
  have G4 := Aside0.mk hq
  clear hq
  have BK2 := Aside0.mk (blk_below BK.out hb)
  have HB2 := Aside0.mk (below_then HB.out HB.out.size hb)
  clear c0 c1 c2 c3 c4 c5 c6 c7 c8 c9 c10 c11
  clear hb BK HB
  have BK := BK2
  have HB := HB2
  clear BK2 HB2
  have c0 : w6.cell? ⟨gb, 0, none⟩ = some (.int .i64 p0) := (blk_cell BK.out 0).trans rfl; have c1 : w6.cell? ⟨gb, 1, none⟩ = some (.int .i64 p1) := (blk_cell BK.out 1).trans rfl; have c2 : w6.cell? ⟨gb, 2, none⟩ = some (.int .i64 p2) := (blk_cell BK.out 2).trans rfl; have c3 : w6.cell? ⟨gb, 3, none⟩ = some (.int .i64 p3) := (blk_cell BK.out 3).trans rfl; have c4 : w6.cell? ⟨gb, 4, none⟩ = some (.int .i64 p4) := (blk_cell BK.out 4).trans rfl; have c5 : w6.cell? ⟨gb, 5, none⟩ = some (.int .i64 p5) := (blk_cell BK.out 5).trans rfl; have c6 : w6.cell? ⟨gb, 6, none⟩ = some (.int .i64 p6) := (blk_cell BK.out 6).trans rfl; have c7 : w6.cell? ⟨gb, 7, none⟩ = some (.int .i64 p7) := (blk_cell BK.out 7).trans rfl; have c8 : w6.cell? ⟨gb, 8, none⟩ = some (.int .i64 p8) := (blk_cell BK.out 8).trans rfl; have c9 : w6.cell? ⟨gb, 9, none⟩ = some (.int .i64 p9) := (blk_cell BK.out 9).trans rfl; have c10 : w6.cell? ⟨gb, 10, none⟩ = some (.int .i64 p10) := (blk_cell BK.out 10).trans rfl; have c11 : w6.cell? ⟨gb, 11, none⟩ = some (.int .i64 p11) := (blk_cell BK.out 11).trans rfl
  go_wp2_with fail
  ((with_reducible refine (H5.out _).mono ?_); rintro e w7 ⟨x5, y5, r5, rfl, hq, hb⟩)
  have G5 := Aside0.mk hq
  clear hq
  have BK2 := Aside0.mk (blk_below BK.out hb)
  have HB2 := Aside0.mk (below_then HB.out HB.out.size hb)
  clear c0 c1 c2 c3 c4 c5 c6 c7 c8 c9 c10 c11
  clear hb BK HB
  have BK := BK2
  have HB := HB2
  clear BK2 HB2
  have c0 : w7.cell? ⟨gb, 0, none⟩ = some (.int .i64 p0) := (blk_cell BK.out 0).trans rfl; have c1 : w7.cell? ⟨gb, 1, none⟩ = some (.int .i64 p1) := (blk_cell BK.out 1).trans rfl; have c2 : w7.cell? ⟨gb, 2, none⟩ = some (.int .i64 p2) := (blk_cell BK.out 2).trans rfl; have c3 : w7.cell? ⟨gb, 3, none⟩ = some (.int .i64 p3) := (blk_cell BK.out 3).trans rfl; have c4 : w7.cell? ⟨gb, 4, none⟩ = some (.int .i64 p4) := (blk_cell BK.out 4).trans rfl; have c5 : w7.cell? ⟨gb, 5, none⟩ = some (.int .i64 p5) := (blk_cell BK.out 5).trans rfl; have c6 : w7.cell? ⟨gb, 6, none⟩ = some (.int .i64 p6) := (blk_cell BK.out 6).trans rfl; have c7 : w7.cell? ⟨gb, 7, none⟩ = some (.int .i64 p7) := (blk_cell BK.out 7).trans rfl; have c8 : w7.cell? ⟨gb, 8, none⟩ = some (.int .i64 p8) := (blk_cell BK.out 8).trans rfl; have c9 : w7.cell? ⟨gb, 9, none⟩ = some (.int .i64 p9) := (blk_cell BK.out 9).trans rfl; have c10 : w7.cell? ⟨gb, 10, none⟩ = some (.int .i64 p10) := (blk_cell BK.out 10).trans rfl; have c11 : w7.cell? ⟨gb, 11, none⟩ = some (.int .i64 p11) := (blk_cell BK.out 11).trans rfl
  go_wp2_with fail
  ((with_reducible refine (H6.out _).mono ?_); rintro e w8 ⟨x6, y6, r6, rfl, hq, hb⟩)
  have G6 := Aside0.mk hq
  clear hq
  have BK2 := Aside0.mk (blk_below BK.out hb)
  have HB2 := Aside0.mk (below_then HB.out HB.out.size hb)
  clear c0 c1 c2 c3 c4 c5 c6 c7 c8 c9 c10 c11
  clear hb BK HB
  have BK := BK2
  have HB := HB2
  clear BK2 HB2
  have c0 : w8.cell? ⟨gb, 0, none⟩ = some (.int .i64 p0) := (blk_cell BK.out 0).trans rfl; have c1 : w8.cell? ⟨gb, 1, none⟩ = some (.int .i64 p1) := (blk_cell BK.out 1).trans rfl; have c2 : w8.cell? ⟨gb, 2, none⟩ = some (.int .i64 p2) := (blk_cell BK.out 2).trans rfl; have c3 : w8.cell? ⟨gb, 3, none⟩ = some (.int .i64 p3) := (blk_cell BK.out 3).trans rfl; have c4 : w8.cell? ⟨gb, 4, none⟩ = some (.int .i64 p4) := (blk_cell BK.out 4).trans rfl; have c5 : w8.cell? ⟨gb, 5, none⟩ = some (.int .i64 p5) := (blk_cell BK.out 5).trans rfl; have c6 : w8.cell? ⟨gb, 6, none⟩ = some (.int .i64 p6) := (blk_cell BK.out 6).trans rfl; have c7 : w8.cell? ⟨gb, 7, none⟩ = some (.int .i64 p7) := (blk_cell BK.out 7).trans rfl; have c8 : w8.cell? ⟨gb, 8, none⟩ = some (.int .i64 p8) := (blk_cell BK.out 8).trans rfl; have c9 : w8.cell? ⟨gb, 9, none⟩ = some (.int .i64 p9) := (blk_cell BK.out 9).trans rfl; have c10 : w8.cell? ⟨gb, 10, none⟩ = some (.int .i64 p10) := (blk_cell BK.out 10).trans rfl; have c11 : w8.cell? ⟨gb, 11, none⟩ = some (.int .i64 p11) := (blk_cell BK.out 11).trans rfl
  go_wp2_with fail
  ((with_reducible refine (H7.out _ (R1.out.below HB.out) (R2.out.below HB.out)).mono ?_); rintro e w9 ⟨x7, y7, r7, rfl, hq, hb⟩)
  have G7 := Aside0.mk hq
  clear hq
  have BK2 := Aside0.mk (blk_below BK.out hb)
  have HB2 := Aside0.mk (below_then HB.out HB.out.size hb)
  clear c0 c1 c2 c3 c4 c5 c6 c7 c8 c9 c10 c11
  clear hb BK HB
  have BK := BK2
  have HB := HB2
  clear BK2 HB2
  have c0 : w9.cell? ⟨gb, 0, none⟩ = some (.int .i64 p0) := (blk_cell BK.out 0).trans rfl; have c1 : w9.cell? ⟨gb, 1, none⟩ = some (.int .i64 p1) := (blk_cell BK.out 1).trans rfl; have c2 : w9.cell? ⟨gb, 2, none⟩ = some (.int .i64 p2) := (blk_cell BK.out 2).trans rfl; have c3 : w9.cell? ⟨gb, 3, none⟩ = some (.int .i64 p3) := (blk_cell BK.out 3).trans rfl; have c4 : w9.cell? ⟨gb, 4, none⟩ = some (.int .i64 p4) := (blk_cell BK.out 4).trans rfl; have c5 : w9.cell? ⟨gb, 5, none⟩ = some (.int .i64 p5) := (blk_cell BK.out 5).trans rfl; have c6 : w9.cell? ⟨gb, 6, none⟩ = some (.int .i64 p6) := (blk_cell BK.out 6).trans rfl; have c7 : w9.cell? ⟨gb, 7, none⟩ = some (.int .i64 p7) := (blk_cell BK.out 7).trans rfl; have c8 : w9.cell? ⟨gb, 8, none⟩ = some (.int .i64 p8) := (blk_cell BK.out 8).trans rfl; have c9 : w9.cell? ⟨gb, 9, none⟩ = some (.int .i64 p9) := (blk_cell BK.out 9).trans rfl; have c10 : w9.cell? ⟨gb, 10, none⟩ = some (.int .i64 p10) := (blk_cell BK.out 10).trans rfl; have c11 : w9.cell? ⟨gb, 11, none⟩ = some (.int .i64 p11) := (blk_cell BK.out 11).trans rfl
  go_wp2_with fail
  ((with_reducible refine (H8.out _ (R1.out.below HB.out) (R2.out.below HB.out)).mono ?_); rintro e w10 ⟨x8, y8, r8, rfl, hq, hb⟩)
  have G8 := Aside0.mk hq
  clear hq
  have BK2 := Aside0.mk (blk_below BK.out hb)
  have HB2 := Aside0.mk (below_then HB.out HB.out.size hb)
  clear c0 c1 c2 c3 c4 c5 c6 c7 c8 c9 c10 c11
  clear hb BK HB
  have BK := BK2
  have HB := HB2
  clear BK2 HB2
  have c0 : w10.cell? ⟨gb, 0, none⟩ = some (.int .i64 p0) := (blk_cell BK.out 0).trans rfl; have c1 : w10.cell? ⟨gb, 1, none⟩ = some (.int .i64 p1) := (blk_cell BK.out 1).trans rfl; have c2 : w10.cell? ⟨gb, 2, none⟩ = some (.int .i64 p2) := (blk_cell BK.out 2).trans rfl; have c3 : w10.cell? ⟨gb, 3, none⟩ = some (.int .i64 p3) := (blk_cell BK.out 3).trans rfl; have c4 : w10.cell? ⟨gb, 4, none⟩ = some (.int .i64 p4) := (blk_cell BK.out 4).trans rfl; have c5 : w10.cell? ⟨gb, 5, none⟩ = some (.int .i64 p5) := (blk_cell BK.out 5).trans rfl; have c6 : w10.cell? ⟨gb, 6, none⟩ = some (.int .i64 p6) := (blk_cell BK.out 6).trans rfl; have c7 : w10.cell? ⟨gb, 7, none⟩ = some (.int .i64 p7) := (blk_cell BK.out 7).trans rfl; have c8 : w10.cell? ⟨gb, 8, none⟩ = some (.int .i64 p8) := (blk_cell BK.out 8).trans rfl; have c9 : w10.cell? ⟨gb, 9, none⟩ = some (.int .i64 p9) := (blk_cell BK.out 9).trans rfl; have c10 : w10.cell? ⟨gb, 10, none⟩ = some (.int .i64 p10) := (blk_cell BK.out 10).trans rfl; have c11 : w10.cell? ⟨gb, 11, none⟩ = some (.int .i64 p11) := (blk_cell BK.out 11).trans rfl

  clear R1 R2 H1 H2 H3 H4 H5 H6 H7 H8 c0 c1 c2 c3 c4 c5 c6 c7 c8 c9 c10 c11
  obtain ⟨e0, a0, b0⟩ := S0.out _ _ _ _ _ _ G1.out G2.out
  subst e0
  obtain ⟨e1, a1, b1⟩ := S1.out _ _ _ _ _ _ G3.out G4.out
  subst e1
  obtain ⟨e2, a2, b2⟩ := S2.out _ _ _ _ _ _ G5.out G6.out
  subst e2
  obtain ⟨e3, a3, b3⟩ := S3.out _ _ _ _ _ _ G7.out G8.out
  subst e3

  clear S0 S1 S2 S3 G1 G2 G3 G4 G5 G6 G7 G8
  go_wp2
  go_ret
  exact ⟨rfl, HB.out⟩
theorem files_row (p0 : Int) (p1 : Int) (p2 : Int) (p3 : Int) (p4 : Int) (p5 : Int) (p6 : Int) (p7 : Int) (p8 : Int) (p9 : Int) (p10 : Int) (p11 : Int) (n : Int) (A1 : Option Addr) (ca : Nat) (l : List Int) (A2 : Option Addr) (cb : Nat) (m : List Int) (w : World) (_ : (Lit.int .i64 p0).wf = true) (_ : (Lit.int .i64 p1).wf = true) (_ : (Lit.int .i64 p2).wf = true) (_ : (Lit.int .i64 p3).wf = true) (_ : (Lit.int .i64 p4).wf = true) (_ : (Lit.int .i64 p5).wf = true) (_ : (Lit.int .i64 p6).wf = true) (_ : (Lit.int .i64 p7).wf = true) (_ : (Lit.int .i64 p8).wf = true) (_ : (Lit.int .i64 p9).wf = true) (_ : (Lit.int .i64 p10).wf = true) (_ : (Lit.int .i64 p11).wf = true) (_ : (Lit.int .i64 n).wf = true) (hr1 : ReadsInt w .i64 A1 l.length l) (_ : l.length ≤ ca) (_ : ∀ x ∈ l, (Lit.int .i64 x).wf = true) (hl1 : l.length ≤ 1048576) (hr2 : ReadsInt w .i64 A2 m.length m) (_ : m.length ≤ cb) (_ : ∀ x ∈ m, (Lit.int .i64 x).wf = true) (hl2 : m.length ≤ 1048576) :
    Calls Try.prog 5 #[.agg #[.int .i64 p0, .int .i64 p1, .int .i64 p2, .int .i64 p3, .int .i64 p4, .int .i64 p5, .int .i64 p6, .int .i64 p7, .int .i64 p8, .int .i64 p9, .int .i64 p10, .int .i64 p11], .int .i64 n, .slice A1 l.length ca, .slice A2 m.length cb] w fun e w' => e = .returned (.bool true) ∧ Below w.heap.size w w' := by
  have same_any : ∀ {c : Int} {W : World} {f : FuncId} {args : Array Value}, (Calls Try.prog f args W fun e w' => e = .returned (.tuple #[.complex .f64 0 0, .int .i64 c]) ∧ Below W.heap.size W w') → Calls Try.prog f args W (Ends (Err c) W) := by
    intro c W f args h
    refine h.mono ?_
    rintro e w' ⟨rfl, hb⟩
    exact ⟨_, _, _, rfl, ⟨rfl, rfl, rfl⟩, hb⟩
  rcases ref_cases p0 p1 p2 p3 p4 p5 p6 p7 p8 p9 p10 p11 with ⟨F, R⟩ | ⟨s, F, R⟩
  · exact files_walk p0 p1 p2 p3 p4 p5 p6 p7 p8 p9 p10 p11 n A1 A2 ca cb l m w hr1 hr2 (Err 4) (Err 4) (Err 4) (Err 4) (Err 4) (Err 4) (Err 4) (Err 4) (fun W => same_any (file_foul F n W)) (fun W => rfile_err _ p0 p1 p2 p3 p4 p5 p6 p7 p8 p9 p10 p11 n 4 (R.whole n) (by decide) W) (fun W => same_any (dir_foul p0 p1 p2 p3 p4 p5 p6 p7 p8 p9 p10 p11 F n W)) (fun W => rdir_foul p0 p1 p2 p3 p4 p5 p6 p7 p8 p9 p10 p11 R n W) (fun W => have_foul p0 p1 p2 p3 p4 p5 p6 p7 p8 p9 p10 p11 F.chk W) (fun W => rhave_foul _ p0 p1 p2 p3 p4 p5 p6 p7 p8 p9 p10 p11 R.chk W) (fun W _ _ => same_any (tree_foul p0 p1 p2 p3 p4 p5 p6 p7 p8 p9 p10 p11 F _ _ W)) (fun W _ _ => rtree_foul p0 p1 p2 p3 p4 p5 p6 p7 p8 p9 p10 p11 R _ _ W)
      (fun _ _ _ _ _ _ h h' => same_err h h') (fun _ _ _ _ _ _ h h' => same_err h h') (fun _ _ _ _ _ _ h h' => same_err h h') (fun _ _ _ _ _ _ h h' => same_err h h')
  · have r1 := R.r1
    have r2 := R.r2
    have r11 := R.r11
    exact files_walk p0 p1 p2 p3 p4 p5 p6 p7 p8 p9 p10 p11 n A1 A2 ca cb l m w hr1 hr2 (FileOut p0 s n) (RFileOut p0 s n) (DirOut p0 s n) (RDirOut p0 s n) (fun x y r => r = 0 ∧ x = floatOfInt .f64 (p1 - p11) ∧ y = floatOfInt .f64 (p2 - 1)) (fun x y r => r = 0 ∧ x = floatOfInt .f64 (p1 - p11) ∧ y = floatOfInt .f64 (p2 - 1)) (TreeOut p0 s l m) (TreeOut p0 s l m)
      (fun W => file_fine F n W) (fun W => rfile_fine F R n W) (fun W => dir_fine p0 p1 p2 p3 p4 p5 p6 p7 p8 p9 p10 p11 s F n W) (fun W => rdir_fine p0 p1 p2 p3 p4 p5 p6 p7 p8 p9 p10 p11 s F R n W) (fun W => have_fine p0 p1 p2 p3 p4 p5 p6 p7 p8 p9 p10 p11 F.chk r1 r2 r11 W) (fun W => rhave_fine _ p0 p1 p2 p3 p4 p5 p6 p7 p8 p9 p10 p11 R.chk r1 r2 r11 W) (fun W g1 g2 => tree_fine p0 p1 p2 p3 p4 p5 p6 p7 p8 p9 p10 p11 s F A1 A2 ca cb l m W g1 g2 (by omega)) (fun W g1 g2 => rtree_fine p0 p1 p2 p3 p4 p5 p6 p7 p8 p9 p10 p11 s F R A1 A2 ca cb l m W g1 g2 (by omega))
      (fun _ _ _ _ _ _ h h' => same_file F h h') (fun _ _ _ _ _ _ h h' => same_dir F h h') (by
        rintro x y r x' y' r' ⟨rfl, rfl, rfl⟩ ⟨rfl, rfl, rfl⟩
        exact same_rep (of_int (x := p1 - p11) (by omega)) (of_int (x := p2 - 1) (by omega)) (of_int (x := p1 - p11) (by omega)) (of_int (x := p2 - 1) (by omega))) (fun _ _ _ _ _ _ h h' => same_tree h h')
end Go.Proofs.Ytdjlbbfgobbcmaa.Need
