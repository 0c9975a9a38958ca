/- The law of heads: the walk. -/
import Derived.Test.YtbplffdmggbcdaaKKUnhead
import Derived.Test.YtbplffdmggbcdaaKKWakes
namespace Go.Proofs.Ytbplffdmggbcdaa.Codec
open Go.RowKit Go.Proofs.Ytbplffdmggbcdaa.PCodecHeads Go.Proofs.Ytbplffdmggbcdaa.Plain Go.Proofs.Ytbplffdmggbcdaa.Pure Go.Proofs.YtbplffdmggbcdaaW.PrintWords Go.Proofs.YtbplffdmggbcdaaW.PrintLast Go.Proofs.YtbplffdmggbcdaaW.PrintMore
set_option linter.unusedVariables false
set_option linter.unusedSimpArgs false

theorem plan_eql (m0 m1 m2 m3 m4 m5 m6 m7 m8 m9 m10 m11 : Int) (w : World) : (binOp .eql 37 (.agg #[.int .i64 m0, .int .i64 m1, .int .i64 m2, .int .i64 m3, .int .i64 m4, .int .i64 m5, .int .i64 m6, .int .i64 m7, .int .i64 m8, .int .i64 m9, .int .i64 m10, .int .i64 m11]) (.agg #[.int .i64 m0, .int .i64 m1, .int .i64 m2, .int .i64 m3, .int .i64 m4, .int .i64 m5, .int .i64 m6, .int .i64 m7, .int .i64 m8, .int .i64 m9, .int .i64 m10, .int .i64 m11])).run Try.prog w = .ok (.bool true) w := by
  have u3 := Try.underlying3
  have a3 := Try.isAgg3
  have hS : Try.prog.underlying 37 = some (.struct (Try.prog.fieldsOf 37)) := by kernel_rfl
  have hr : (Op.equalIn (9998 + 2) 37 (.agg #[.int .i64 m0, .int .i64 m1, .int .i64 m2, .int .i64 m3, .int .i64 m4, .int .i64 m5, .int .i64 m6, .int .i64 m7, .int .i64 m8, .int .i64 m9, .int .i64 m10, .int .i64 m11]) (.agg #[.int .i64 m0, .int .i64 m1, .int .i64 m2, .int .i64 m3, .int .i64 m4, .int .i64 m5, .int .i64 m6, .int .i64 m7, .int .i64 m8, .int .i64 m9, .int .i64 m10, .int .i64 m11])).run Try.prog w = .ok true w := by
    rw [run_equalIn_agg w 9999 37 _ _ hS (by kernel_rfl)]
    simp only [Program.fieldsOf, Try.underlying37]
    go_simp
    try simp
  simp only [Nat.reduceAdd] at hr
  rw [run_eql_struct, hr, Result.andThen_ok]
theorem head_eql (q0 q1 q2 : Int) (w : World) : (binOp .eql 39 (.agg #[.int .i64 q0, .int .i64 q1, .int .i64 q2]) (.agg #[.int .i64 q0, .int .i64 q1, .int .i64 q2])).run Try.prog w = .ok (.bool true) w := by
  have u3 := Try.underlying3
  have a3 := Try.isAgg3
  have hS : Try.prog.underlying 39 = some (.struct (Try.prog.fieldsOf 39)) := by kernel_rfl
  have hr : (Op.equalIn (9998 + 2) 39 (.agg #[.int .i64 q0, .int .i64 q1, .int .i64 q2]) (.agg #[.int .i64 q0, .int .i64 q1, .int .i64 q2])).run Try.prog w = .ok true w := by
    rw [run_equalIn_agg w 9999 39 _ _ hS (by kernel_rfl)]
    simp only [Program.fieldsOf, Try.underlying39]
    go_simp
    try simp
  simp only [Nat.reduceAdd] at hr
  rw [run_eql_struct, hr, Result.andThen_ok]
theorem same_bytesH (l : List Int) : skerryref01_SameBytes.f l l = some true := by unfold skerryref01_SameBytes.f; simp
set_option maxHeartbeats 4000000 in
set_option maxRecDepth 100000 in
theorem heads_calls (p0 p1 p2 p3 p4 p5 p6 p7 p8 p9 p10 p11 s t u b : Int) (A : Option Addr) (c : Nat) (l : List Int) (w : World) (hr : Kd.C (Kd.int .u8) w A l.length l) (hc : l.length ≤ c) (hl : Bytes l) (hs : l.length ≤ 140737488351232) :
    Calls Try.prog 4 #[.agg #[.int .i64 p0, .int .i64 p1, .int .i64 p2, .int .i64 p3, .int .i64 p4, .int .i64 p5, .int .i64 p6, .int .i64 p7, .int .i64 p8, .int .i64 p9, .int .i64 p10, .int .i64 p11], .agg #[.int .i64 s, .int .i64 t, .int .i64 u], .int .i64 b, .slice A l.length c] w fun e w' => e = .returned (.bool true) ∧ Below w.heap.size w w' := by
  have hu := Try.underlying37
  have hu2 := Try.underlying39
  have HWK := Aside0.mk wakes_calls
  have HS1 := Aside0.mk (super_calls p0 p1 p2 p3 p4 p5 p6 p7 p8 p9 p10 p11)
  have HS2 := Aside0.mk (rsuper_calls p0 p1 p2 p3 p4 p5 p6 p7 p8 p9 p10 p11)
  have HS3 := Aside0.mk (header_calls s t u b)
  have HS4 := Aside0.mk (rhead_calls s t u b)
  obtain ⟨⟨l1, e1⟩, h1⟩ : ∃ o, superOut p0 p1 p2 p3 p4 p5 p6 p7 p8 p9 p10 p11 = o := ⟨_, rfl⟩
  obtain ⟨⟨l2, e2⟩, h2⟩ : ∃ o, headOut s t u b = o := ⟨_, rfl⟩
  rw [h1] at HS1 HS2
  rw [h2] at HS3 HS4
  obtain ⟨k, hk⟩ : ∃ k : Nat, 3000000 < k := ⟨3000001, by omega⟩
  obtain ⟨⟨m0, m1, m2, m3, m4, m5, m6, m7, m8, m9, m10, m11, m12⟩, hU⟩ : ∃ o, unsuperOut l = o := ⟨_, rfl⟩
  obtain ⟨⟨q0, q1, q2, q3⟩, hV⟩ : ∃ o, unheadOut l = o := ⟨_, rfl⟩
  have HU1 := Aside0.mk (fun W h => unsuper_calls A c l W h hc hl hs m0 m1 m2 m3 m4 m5 m6 m7 m8 m9 m10 m11 m12 hU)
  have HU2 := Aside0.mk (fun W h => skerryref06_Unsuper.calls k A c l m0 m1 m2 m3 m4 m5 m6 m7 m8 m9 m10 m11 m12 W h hc (by rw [runsuper_is hl hs hk, hU]))
  have HU3 := Aside0.mk (fun W h => unheader_calls A c l W h hc hl hs q0 q1 q2 q3 hV)
  have HU4 := Aside0.mk (fun W h => skerryref06_Unheader.calls k A c l q0 q1 q2 q3 W h hc (by rw [runhead_is hl hs (by omega), hV]))
  have HC0 := Aside0.mk hr
  clear hr hc hl hs h1 h2 hk hU hV
  go_enter Try.func4, Try.ntmps4
  go_upto_region 1 with (first | ((with_reducible refine gate_dst (N := 4) rfl ?_); refine box_event ?hg (N := 4) ?hd (cs := #[.int .i64 p0, .int .i64 p1, .int .i64 p2, .int .i64 p3, .int .i64 p4, .int .i64 p5, .int .i64 p6, .int .i64 p7, .int .i64 p8, .int .i64 p9, .int .i64 p10, .int .i64 p11]) (t := 37) ?hr ?_; (case hd => rfl); (case hg => rfl); (case hr => first | (go_simp; done) | (go_simp; rfl)); intro gp hggp wp hbox hb; have BKgp := Aside0.mk hbox; have BHgp := Aside0.mk hb; have GEgp := Aside0.mk hggp; clear hb hbox hggp) | ((with_reducible refine gate_dst (N := 5) rfl ?_); refine box_event ?hg (N := 5) ?hd (cs := #[.int .i64 s, .int .i64 t, .int .i64 u]) (t := 39) ?hr ?_; (case hd => rfl); (case hg => rfl); (case hr => first | (go_simp; done) | (go_simp; rfl)); intro gh hggh wh hbox hb; have BKgh := Aside0.mk hbox; have BHgh := Aside0.mk hb; have GEgh := Aside0.mk hggh; clear hb hbox hggh))
  have HG := Aside0.mk (blk_below BKgp.out BHgh.out)
  have HH := BKgh
  have HB := Aside0.mk (below_then BHgp.out BHgp.out.size BHgh.out)
  have HC := Aside0.mk (Kd.C_below HC0.out HB.out)
  clear BKgp BHgp GEgp BKgh BHgh GEgh HC0
  go_wp2_with fail
  ((with_reducible refine (HWK.out _).mono ?_); rintro e w1 ⟨rfl, hb⟩)
  replace HG := Aside0.mk (blk_below HG.out hb); replace HH := Aside0.mk (blk_below HH.out hb); replace HC := Aside0.mk (Kd.C_below HC.out hb); replace HB := Aside0.mk (below_then HB.out HB.out.size hb)
  clear hb HWK
  have x0 : w1.cell? ⟨gp, 0, none⟩ = some (.int .i64 p0) := (blk_cell HG.out 0).trans rfl; have x1 : w1.cell? ⟨gp, 1, none⟩ = some (.int .i64 p1) := (blk_cell HG.out 1).trans rfl; have x2 : w1.cell? ⟨gp, 2, none⟩ = some (.int .i64 p2) := (blk_cell HG.out 2).trans rfl; have x3 : w1.cell? ⟨gp, 3, none⟩ = some (.int .i64 p3) := (blk_cell HG.out 3).trans rfl; have x4 : w1.cell? ⟨gp, 4, none⟩ = some (.int .i64 p4) := (blk_cell HG.out 4).trans rfl; have x5 : w1.cell? ⟨gp, 5, none⟩ = some (.int .i64 p5) := (blk_cell HG.out 5).trans rfl; have x6 : w1.cell? ⟨gp, 6, none⟩ = some (.int .i64 p6) := (blk_cell HG.out 6).trans rfl; have x7 : w1.cell? ⟨gp, 7, none⟩ = some (.int .i64 p7) := (blk_cell HG.out 7).trans rfl; have x8 : w1.cell? ⟨gp, 8, none⟩ = some (.int .i64 p8) := (blk_cell HG.out 8).trans rfl; have x9 : w1.cell? ⟨gp, 9, none⟩ = some (.int .i64 p9) := (blk_cell HG.out 9).trans rfl; have x10 : w1.cell? ⟨gp, 10, none⟩ = some (.int .i64 p10) := (blk_cell HG.out 10).trans rfl; have x11 : w1.cell? ⟨gp, 11, none⟩ = some (.int .i64 p11) := (blk_cell HG.out 11).trans rfl
  go_wp2_with fail
  ((with_reducible refine (HS1.out _).mono ?_); rintro e w2 ⟨v, rfl, hv, hb⟩)
  obtain ⟨A1, k1, rfl, hk1, hv1⟩ := brow_reads hv
  replace HG := Aside0.mk (blk_below HG.out hb); replace HH := Aside0.mk (blk_below HH.out hb); replace HC := Aside0.mk (Kd.C_below HC.out hb); replace HB := Aside0.mk (below_then HB.out HB.out.size hb)
  have HV1 := Aside0.mk hv1; have HK1 := Aside0.mk hk1
  clear hb hv hk1 hv1 HS1
  clear x0 x1 x2 x3 x4 x5 x6 x7 x8 x9 x10 x11
  have x0 : w2.cell? ⟨gp, 0, none⟩ = some (.int .i64 p0) := (blk_cell HG.out 0).trans rfl; have x1 : w2.cell? ⟨gp, 1, none⟩ = some (.int .i64 p1) := (blk_cell HG.out 1).trans rfl; have x2 : w2.cell? ⟨gp, 2, none⟩ = some (.int .i64 p2) := (blk_cell HG.out 2).trans rfl; have x3 : w2.cell? ⟨gp, 3, none⟩ = some (.int .i64 p3) := (blk_cell HG.out 3).trans rfl; have x4 : w2.cell? ⟨gp, 4, none⟩ = some (.int .i64 p4) := (blk_cell HG.out 4).trans rfl; have x5 : w2.cell? ⟨gp, 5, none⟩ = some (.int .i64 p5) := (blk_cell HG.out 5).trans rfl; have x6 : w2.cell? ⟨gp, 6, none⟩ = some (.int .i64 p6) := (blk_cell HG.out 6).trans rfl; have x7 : w2.cell? ⟨gp, 7, none⟩ = some (.int .i64 p7) := (blk_cell HG.out 7).trans rfl; have x8 : w2.cell? ⟨gp, 8, none⟩ = some (.int .i64 p8) := (blk_cell HG.out 8).trans rfl; have x9 : w2.cell? ⟨gp, 9, none⟩ = some (.int .i64 p9) := (blk_cell HG.out 9).trans rfl; have x10 : w2.cell? ⟨gp, 10, none⟩ = some (.int .i64 p10) := (blk_cell HG.out 10).trans rfl; have x11 : w2.cell? ⟨gp, 11, none⟩ = some (.int .i64 p11) := (blk_cell HG.out 11).trans rfl
  go_wp2_with fail
  ((with_reducible refine (HS2.out _).mono ?_); rintro e w3 ⟨v, rfl, hv, hb⟩)
  obtain ⟨A2, k2, rfl, hk2, hv2⟩ := brow_reads hv
  replace HG := Aside0.mk (blk_below HG.out hb); replace HH := Aside0.mk (blk_below HH.out hb); replace HC := Aside0.mk (Kd.C_below HC.out hb); replace HV1 := Aside0.mk (Kd.C_below HV1.out hb); replace HB := Aside0.mk (below_then HB.out HB.out.size hb)
  have HV2 := Aside0.mk hv2; have HK2 := Aside0.mk hk2
  clear hb hv hk2 hv2 HS2
  clear x0 x1 x2 x3 x4 x5 x6 x7 x8 x9 x10 x11
  have y0 : w3.cell? ⟨gh, 0, none⟩ = some (.int .i64 s) := (blk_cell HH.out 0).trans rfl; have y1 : w3.cell? ⟨gh, 1, none⟩ = some (.int .i64 t) := (blk_cell HH.out 1).trans rfl; have y2 : w3.cell? ⟨gh, 2, none⟩ = some (.int .i64 u) := (blk_cell HH.out 2).trans rfl
  go_wp2_with fail
  ((with_reducible refine (HS3.out _).mono ?_); rintro e w4 ⟨v, rfl, hv, hb⟩)
  obtain ⟨A3, k3, rfl, hk3, hv3⟩ := brow_reads hv
  replace HG := Aside0.mk (blk_below HG.out hb); replace HH := Aside0.mk (blk_below HH.out hb); replace HC := Aside0.mk (Kd.C_below HC.out hb); replace HV1 := Aside0.mk (Kd.C_below HV1.out hb); replace HV2 := Aside0.mk (Kd.C_below HV2.out hb); replace HB := Aside0.mk (below_then HB.out HB.out.size hb)
  have HV3 := Aside0.mk hv3; have HK3 := Aside0.mk hk3
  clear hb hv hk3 hv3 HS3
  clear y0 y1 y2
  have y0 : w4.cell? ⟨gh, 0, none⟩ = some (.int .i64 s) := (blk_cell HH.out 0).trans rfl; have y1 : w4.cell? ⟨gh, 1, none⟩ = some (.int .i64 t) := (blk_cell HH.out 1).trans rfl; have y2 : w4.cell? ⟨gh, 2, none⟩ = some (.int .i64 u) := (blk_cell HH.out 2).trans rfl
  go_wp2_with fail
  ((with_reducible refine (HS4.out _).mono ?_); rintro e w5 ⟨v, rfl, hv, hb⟩)
  obtain ⟨A4, k4, rfl, hk4, hv4⟩ := brow_reads hv
  replace HG := Aside0.mk (blk_below HG.out hb); replace HH := Aside0.mk (blk_below HH.out hb); replace HC := Aside0.mk (Kd.C_below HC.out hb); replace HV1 := Aside0.mk (Kd.C_below HV1.out hb); replace HV2 := Aside0.mk (Kd.C_below HV2.out hb); replace HV3 := Aside0.mk (Kd.C_below HV3.out hb); replace HB := Aside0.mk (below_then HB.out HB.out.size hb)
  have HV4 := Aside0.mk hv4; have HK4 := Aside0.mk hk4
  clear hb hv hk4 hv4 HS4
  clear y0 y1 y2
  go_wp2_with fail
  ((with_reducible refine (HU1.out _ HC.out).mono ?_); rintro e w6 ⟨rfl, hb⟩)
  replace HG := Aside0.mk (blk_below HG.out hb); replace HH := Aside0.mk (blk_below HH.out hb); replace HC := Aside0.mk (Kd.C_below HC.out hb); replace HV1 := Aside0.mk (Kd.C_below HV1.out hb); replace HV2 := Aside0.mk (Kd.C_below HV2.out hb); replace HV3 := Aside0.mk (Kd.C_below HV3.out hb); replace HV4 := Aside0.mk (Kd.C_below HV4.out hb); replace HB := Aside0.mk (below_then HB.out HB.out.size hb)
  clear hb HU1
  go_wp2_with (((with_reducible refine gate_dst (N := 17) rfl ?_); refine box_event ?hg (N := 17) ?hd (cs := #[.int .i64 0, .int .i64 0, .int .i64 0, .int .i64 0, .int .i64 0, .int .i64 0, .int .i64 0, .int .i64 0, .int .i64 0, .int .i64 0, .int .i64 0, .int .i64 0]) (t := 37) ?hr ?_; (case hd => rfl); (case hg => rfl); (case hr => first | (go_simp; done) | (go_simp; rfl)); intro X1 hgX1 w7 hbox hb; have BKX1 := Aside0.mk hbox; have BHX1 := Aside0.mk hb; have GEX1 := Aside0.mk hgX1; clear hb hbox hgX1; have z0 : w7.cell? ⟨X1, 0, none⟩ = some (.int .i64 0) := (blk_cell BKX1.out 0).trans rfl; have z1 : w7.cell? ⟨X1, 1, none⟩ = some (.int .i64 0) := (blk_cell BKX1.out 1).trans rfl; have z2 : w7.cell? ⟨X1, 2, none⟩ = some (.int .i64 0) := (blk_cell BKX1.out 2).trans rfl; have z3 : w7.cell? ⟨X1, 3, none⟩ = some (.int .i64 0) := (blk_cell BKX1.out 3).trans rfl; have z4 : w7.cell? ⟨X1, 4, none⟩ = some (.int .i64 0) := (blk_cell BKX1.out 4).trans rfl; have z5 : w7.cell? ⟨X1, 5, none⟩ = some (.int .i64 0) := (blk_cell BKX1.out 5).trans rfl; have z6 : w7.cell? ⟨X1, 6, none⟩ = some (.int .i64 0) := (blk_cell BKX1.out 6).trans rfl; have z7 : w7.cell? ⟨X1, 7, none⟩ = some (.int .i64 0) := (blk_cell BKX1.out 7).trans rfl; have z8 : w7.cell? ⟨X1, 8, none⟩ = some (.int .i64 0) := (blk_cell BKX1.out 8).trans rfl; have z9 : w7.cell? ⟨X1, 9, none⟩ = some (.int .i64 0) := (blk_cell BKX1.out 9).trans rfl; have z10 : w7.cell? ⟨X1, 10, none⟩ = some (.int .i64 0) := (blk_cell BKX1.out 10).trans rfl; have z11 : w7.cell? ⟨X1, 11, none⟩ = some (.int .i64 0) := (blk_cell BKX1.out 11).trans rfl; have f0 : w7.frozen? ⟨X1, 0, none⟩ = false := blk_frozen BKX1.out 0; have f1 : w7.frozen? ⟨X1, 1, none⟩ = false := blk_frozen BKX1.out 1; have f2 : w7.frozen? ⟨X1, 2, none⟩ = false := blk_frozen BKX1.out 2; have f3 : w7.frozen? ⟨X1, 3, none⟩ = false := blk_frozen BKX1.out 3; have f4 : w7.frozen? ⟨X1, 4, none⟩ = false := blk_frozen BKX1.out 4; have f5 : w7.frozen? ⟨X1, 5, none⟩ = false := blk_frozen BKX1.out 5; have f6 : w7.frozen? ⟨X1, 6, none⟩ = false := blk_frozen BKX1.out 6; have f7 : w7.frozen? ⟨X1, 7, none⟩ = false := blk_frozen BKX1.out 7; have f8 : w7.frozen? ⟨X1, 8, none⟩ = false := blk_frozen BKX1.out 8; have f9 : w7.frozen? ⟨X1, 9, none⟩ = false := blk_frozen BKX1.out 9; have f10 : w7.frozen? ⟨X1, 10, none⟩ = false := blk_frozen BKX1.out 10; have f11 : w7.frozen? ⟨X1, 11, none⟩ = false := blk_frozen BKX1.out 11))
  have HBx : Aside0 (Below w6.heap.size w6 ((((((((((((w7.setCell ⟨X1, 0, none⟩ (.int .i64 m0)).setCell ⟨X1, 1, none⟩ (.int .i64 m1)).setCell ⟨X1, 2, none⟩ (.int .i64 m2)).setCell ⟨X1, 3, none⟩ (.int .i64 m3)).setCell ⟨X1, 4, none⟩ (.int .i64 m4)).setCell ⟨X1, 5, none⟩ (.int .i64 m5)).setCell ⟨X1, 6, none⟩ (.int .i64 m6)).setCell ⟨X1, 7, none⟩ (.int .i64 m7)).setCell ⟨X1, 8, none⟩ (.int .i64 m8)).setCell ⟨X1, 9, none⟩ (.int .i64 m9)).setCell ⟨X1, 10, none⟩ (.int .i64 m10)).setCell ⟨X1, 11, none⟩ (.int .i64 m11))) := ⟨below12 BHX1.out (by have := GEX1.out; omega) (.int .i64 m0) (.int .i64 m1) (.int .i64 m2) (.int .i64 m3) (.int .i64 m4) (.int .i64 m5) (.int .i64 m6) (.int .i64 m7) (.int .i64 m8) (.int .i64 m9) (.int .i64 m10) (.int .i64 m11)⟩
  have HZX1 := Aside0.mk (put12 BKX1.out (.int .i64 m0) (.int .i64 m1) (.int .i64 m2) (.int .i64 m3) (.int .i64 m4) (.int .i64 m5) (.int .i64 m6) (.int .i64 m7) (.int .i64 m8) (.int .i64 m9) (.int .i64 m10) (.int .i64 m11))
  clear BKX1 BHX1 GEX1 z0 f0 z1 f1 z2 f2 z3 f3 z4 f4 z5 f5 z6 f6 z7 f7 z8 f8 z9 f9 z10 f10 z11 f11
  generalize ((((((((((((w7.setCell ⟨X1, 0, none⟩ (.int .i64 m0)).setCell ⟨X1, 1, none⟩ (.int .i64 m1)).setCell ⟨X1, 2, none⟩ (.int .i64 m2)).setCell ⟨X1, 3, none⟩ (.int .i64 m3)).setCell ⟨X1, 4, none⟩ (.int .i64 m4)).setCell ⟨X1, 5, none⟩ (.int .i64 m5)).setCell ⟨X1, 6, none⟩ (.int .i64 m6)).setCell ⟨X1, 7, none⟩ (.int .i64 m7)).setCell ⟨X1, 8, none⟩ (.int .i64 m8)).setCell ⟨X1, 9, none⟩ (.int .i64 m9)).setCell ⟨X1, 10, none⟩ (.int .i64 m10)).setCell ⟨X1, 11, none⟩ (.int .i64 m11)) = w8 at HBx HZX1 ⊢
  have hb := HBx.out
  replace HG := Aside0.mk (blk_below HG.out hb); replace HH := Aside0.mk (blk_below HH.out hb); replace HC := Aside0.mk (Kd.C_below HC.out hb); replace HV1 := Aside0.mk (Kd.C_below HV1.out hb); replace HV2 := Aside0.mk (Kd.C_below HV2.out hb); replace HV3 := Aside0.mk (Kd.C_below HV3.out hb); replace HV4 := Aside0.mk (Kd.C_below HV4.out hb); replace HB := Aside0.mk (below_then HB.out HB.out.size hb)
  clear hb HBx
  ((with_reducible refine (HU2.out _ HC.out).mono ?_); rintro e w9 ⟨rfl, hb⟩)
  replace HG := Aside0.mk (blk_below HG.out hb); replace HH := Aside0.mk (blk_below HH.out hb); replace HC := Aside0.mk (Kd.C_below HC.out hb); replace HV1 := Aside0.mk (Kd.C_below HV1.out hb); replace HV2 := Aside0.mk (Kd.C_below HV2.out hb); replace HV3 := Aside0.mk (Kd.C_below HV3.out hb); replace HV4 := Aside0.mk (Kd.C_below HV4.out hb); replace HZX1 := Aside0.mk (blk_below HZX1.out hb); replace HB := Aside0.mk (below_then HB.out HB.out.size hb)
  clear hb HU2
  go_wp2_with (((with_reducible refine gate_dst (N := 19) rfl ?_); refine box_event ?hg (N := 19) ?hd (cs := #[.int .i64 0, .int .i64 0, .int .i64 0, .int .i64 0, .int .i64 0, .int .i64 0, .int .i64 0, .int .i64 0, .int .i64 0, .int .i64 0, .int .i64 0, .int .i64 0]) (t := 37) ?hr ?_; (case hd => rfl); (case hg => rfl); (case hr => first | (go_simp; done) | (go_simp; rfl)); intro X2 hgX2 w10 hbox hb; have BKX2 := Aside0.mk hbox; have BHX2 := Aside0.mk hb; have GEX2 := Aside0.mk hgX2; clear hb hbox hgX2; have z0 : w10.cell? ⟨X2, 0, none⟩ = some (.int .i64 0) := (blk_cell BKX2.out 0).trans rfl; have z1 : w10.cell? ⟨X2, 1, none⟩ = some (.int .i64 0) := (blk_cell BKX2.out 1).trans rfl; have z2 : w10.cell? ⟨X2, 2, none⟩ = some (.int .i64 0) := (blk_cell BKX2.out 2).trans rfl; have z3 : w10.cell? ⟨X2, 3, none⟩ = some (.int .i64 0) := (blk_cell BKX2.out 3).trans rfl; have z4 : w10.cell? ⟨X2, 4, none⟩ = some (.int .i64 0) := (blk_cell BKX2.out 4).trans rfl; have z5 : w10.cell? ⟨X2, 5, none⟩ = some (.int .i64 0) := (blk_cell BKX2.out 5).trans rfl; have z6 : w10.cell? ⟨X2, 6, none⟩ = some (.int .i64 0) := (blk_cell BKX2.out 6).trans rfl; have z7 : w10.cell? ⟨X2, 7, none⟩ = some (.int .i64 0) := (blk_cell BKX2.out 7).trans rfl; have z8 : w10.cell? ⟨X2, 8, none⟩ = some (.int .i64 0) := (blk_cell BKX2.out 8).trans rfl; have z9 : w10.cell? ⟨X2, 9, none⟩ = some (.int .i64 0) := (blk_cell BKX2.out 9).trans rfl; have z10 : w10.cell? ⟨X2, 10, none⟩ = some (.int .i64 0) := (blk_cell BKX2.out 10).trans rfl; have z11 : w10.cell? ⟨X2, 11, none⟩ = some (.int .i64 0) := (blk_cell BKX2.out 11).trans rfl; have f0 : w10.frozen? ⟨X2, 0, none⟩ = false := blk_frozen BKX2.out 0; have f1 : w10.frozen? ⟨X2, 1, none⟩ = false := blk_frozen BKX2.out 1; have f2 : w10.frozen? ⟨X2, 2, none⟩ = false := blk_frozen BKX2.out 2; have f3 : w10.frozen? ⟨X2, 3, none⟩ = false := blk_frozen BKX2.out 3; have f4 : w10.frozen? ⟨X2, 4, none⟩ = false := blk_frozen BKX2.out 4; have f5 : w10.frozen? ⟨X2, 5, none⟩ = false := blk_frozen BKX2.out 5; have f6 : w10.frozen? ⟨X2, 6, none⟩ = false := blk_frozen BKX2.out 6; have f7 : w10.frozen? ⟨X2, 7, none⟩ = false := blk_frozen BKX2.out 7; have f8 : w10.frozen? ⟨X2, 8, none⟩ = false := blk_frozen BKX2.out 8; have f9 : w10.frozen? ⟨X2, 9, none⟩ = false := blk_frozen BKX2.out 9; have f10 : w10.frozen? ⟨X2, 10, none⟩ = false := blk_frozen BKX2.out 10; have f11 : w10.frozen? ⟨X2, 11, none⟩ = false := blk_frozen BKX2.out 11))
  have HBx : Aside0 (Below w9.heap.size w9 ((((((((((((w10.setCell ⟨X2, 0, none⟩ (.int .i64 m0)).setCell ⟨X2, 1, none⟩ (.int .i64 m1)).setCell ⟨X2, 2, none⟩ (.int .i64 m2)).setCell ⟨X2, 3, none⟩ (.int .i64 m3)).setCell ⟨X2, 4, none⟩ (.int .i64 m4)).setCell ⟨X2, 5, none⟩ (.int .i64 m5)).setCell ⟨X2, 6, none⟩ (.int .i64 m6)).setCell ⟨X2, 7, none⟩ (.int .i64 m7)).setCell ⟨X2, 8, none⟩ (.int .i64 m8)).setCell ⟨X2, 9, none⟩ (.int .i64 m9)).setCell ⟨X2, 10, none⟩ (.int .i64 m10)).setCell ⟨X2, 11, none⟩ (.int .i64 m11))) := ⟨below12 BHX2.out (by have := GEX2.out; omega) (.int .i64 m0) (.int .i64 m1) (.int .i64 m2) (.int .i64 m3) (.int .i64 m4) (.int .i64 m5) (.int .i64 m6) (.int .i64 m7) (.int .i64 m8) (.int .i64 m9) (.int .i64 m10) (.int .i64 m11)⟩
  have HZX2 := Aside0.mk (put12 BKX2.out (.int .i64 m0) (.int .i64 m1) (.int .i64 m2) (.int .i64 m3) (.int .i64 m4) (.int .i64 m5) (.int .i64 m6) (.int .i64 m7) (.int .i64 m8) (.int .i64 m9) (.int .i64 m10) (.int .i64 m11))
  clear BKX2 BHX2 GEX2 z0 f0 z1 f1 z2 f2 z3 f3 z4 f4 z5 f5 z6 f6 z7 f7 z8 f8 z9 f9 z10 f10 z11 f11
  generalize ((((((((((((w10.setCell ⟨X2, 0, none⟩ (.int .i64 m0)).setCell ⟨X2, 1, none⟩ (.int .i64 m1)).setCell ⟨X2, 2, none⟩ (.int .i64 m2)).setCell ⟨X2, 3, none⟩ (.int .i64 m3)).setCell ⟨X2, 4, none⟩ (.int .i64 m4)).setCell ⟨X2, 5, none⟩ (.int .i64 m5)).setCell ⟨X2, 6, none⟩ (.int .i64 m6)).setCell ⟨X2, 7, none⟩ (.int .i64 m7)).setCell ⟨X2, 8, none⟩ (.int .i64 m8)).setCell ⟨X2, 9, none⟩ (.int .i64 m9)).setCell ⟨X2, 10, none⟩ (.int .i64 m10)).setCell ⟨X2, 11, none⟩ (.int .i64 m11)) = w11 at HBx HZX2 ⊢
  have hb := HBx.out
  replace HG := Aside0.mk (blk_below HG.out hb); replace HH := Aside0.mk (blk_below HH.out hb); replace HC := Aside0.mk (Kd.C_below HC.out hb); replace HV1 := Aside0.mk (Kd.C_below HV1.out hb); replace HV2 := Aside0.mk (Kd.C_below HV2.out hb); replace HV3 := Aside0.mk (Kd.C_below HV3.out hb); replace HV4 := Aside0.mk (Kd.C_below HV4.out hb); replace HZX1 := Aside0.mk (blk_below HZX1.out hb); replace HB := Aside0.mk (below_then HB.out HB.out.size hb)
  clear hb HBx
  ((with_reducible refine (HU3.out _ HC.out).mono ?_); rintro e w12 ⟨rfl, hb⟩)
  replace HG := Aside0.mk (blk_below HG.out hb); replace HH := Aside0.mk (blk_below HH.out hb); replace HC := Aside0.mk (Kd.C_below HC.out hb); replace HV1 := Aside0.mk (Kd.C_below HV1.out hb); replace HV2 := Aside0.mk (Kd.C_below HV2.out hb); replace HV3 := Aside0.mk (Kd.C_below HV3.out hb); replace HV4 := Aside0.mk (Kd.C_below HV4.out hb); replace HZX1 := Aside0.mk (blk_below HZX1.out hb); replace HZX2 := Aside0.mk (blk_below HZX2.out hb); replace HB := Aside0.mk (below_then HB.out HB.out.size hb)
  clear hb HU3
  go_wp2_with (((with_reducible refine gate_dst (N := 21) rfl ?_); refine box_event ?hg (N := 21) ?hd (cs := #[.int .i64 0, .int .i64 0, .int .i64 0]) (t := 39) ?hr ?_; (case hd => rfl); (case hg => rfl); (case hr => first | (go_simp; done) | (go_simp; rfl)); intro X3 hgX3 w13 hbox hb; have BKX3 := Aside0.mk hbox; have BHX3 := Aside0.mk hb; have GEX3 := Aside0.mk hgX3; clear hb hbox hgX3; have z0 : w13.cell? ⟨X3, 0, none⟩ = some (.int .i64 0) := (blk_cell BKX3.out 0).trans rfl; have z1 : w13.cell? ⟨X3, 1, none⟩ = some (.int .i64 0) := (blk_cell BKX3.out 1).trans rfl; have z2 : w13.cell? ⟨X3, 2, none⟩ = some (.int .i64 0) := (blk_cell BKX3.out 2).trans rfl; have f0 : w13.frozen? ⟨X3, 0, none⟩ = false := blk_frozen BKX3.out 0; have f1 : w13.frozen? ⟨X3, 1, none⟩ = false := blk_frozen BKX3.out 1; have f2 : w13.frozen? ⟨X3, 2, none⟩ = false := blk_frozen BKX3.out 2))
  have HBx : Aside0 (Below w12.heap.size w12 (((w13.setCell ⟨X3, 0, none⟩ (.int .i64 q0)).setCell ⟨X3, 1, none⟩ (.int .i64 q1)).setCell ⟨X3, 2, none⟩ (.int .i64 q2))) := ⟨below3 BHX3.out (by have := GEX3.out; omega) (.int .i64 q0) (.int .i64 q1) (.int .i64 q2)⟩
  have HZX3 := Aside0.mk (put3 BKX3.out (.int .i64 q0) (.int .i64 q1) (.int .i64 q2))
  clear BKX3 BHX3 GEX3 z0 f0 z1 f1 z2 f2
  generalize (((w13.setCell ⟨X3, 0, none⟩ (.int .i64 q0)).setCell ⟨X3, 1, none⟩ (.int .i64 q1)).setCell ⟨X3, 2, none⟩ (.int .i64 q2)) = w14 at HBx HZX3 ⊢
  have hb := HBx.out
  replace HG := Aside0.mk (blk_below HG.out hb); replace HH := Aside0.mk (blk_below HH.out hb); replace HC := Aside0.mk (Kd.C_below HC.out hb); replace HV1 := Aside0.mk (Kd.C_below HV1.out hb); replace HV2 := Aside0.mk (Kd.C_below HV2.out hb); replace HV3 := Aside0.mk (Kd.C_below HV3.out hb); replace HV4 := Aside0.mk (Kd.C_below HV4.out hb); replace HZX1 := Aside0.mk (blk_below HZX1.out hb); replace HZX2 := Aside0.mk (blk_below HZX2.out hb); replace HB := Aside0.mk (below_then HB.out HB.out.size hb)
  clear hb HBx
  ((with_reducible refine (HU4.out _ HC.out).mono ?_); rintro e w15 ⟨rfl, hb⟩)
  replace HG := Aside0.mk (blk_below HG.out hb); replace HH := Aside0.mk (blk_below HH.out hb); replace HC := Aside0.mk (Kd.C_below HC.out hb); replace HV1 := Aside0.mk (Kd.C_below HV1.out hb); replace HV2 := Aside0.mk (Kd.C_below HV2.out hb); replace HV3 := Aside0.mk (Kd.C_below HV3.out hb); replace HV4 := Aside0.mk (Kd.C_below HV4.out hb); replace HZX1 := Aside0.mk (blk_below HZX1.out hb); replace HZX2 := Aside0.mk (blk_below HZX2.out hb); replace HZX3 := Aside0.mk (blk_below HZX3.out hb); replace HB := Aside0.mk (below_then HB.out HB.out.size hb)
  clear hb HU4
  go_upto_region 11 with (((with_reducible refine gate_dst (N := 23) rfl ?_); refine box_event ?hg (N := 23) ?hd (cs := #[.int .i64 0, .int .i64 0, .int .i64 0]) (t := 39) ?hr ?_; (case hd => rfl); (case hg => rfl); (case hr => first | (go_simp; done) | (go_simp; rfl)); intro X4 hgX4 w16 hbox hb; have BKX4 := Aside0.mk hbox; have BHX4 := Aside0.mk hb; have GEX4 := Aside0.mk hgX4; clear hb hbox hgX4; have z0 : w16.cell? ⟨X4, 0, none⟩ = some (.int .i64 0) := (blk_cell BKX4.out 0).trans rfl; have z1 : w16.cell? ⟨X4, 1, none⟩ = some (.int .i64 0) := (blk_cell BKX4.out 1).trans rfl; have z2 : w16.cell? ⟨X4, 2, none⟩ = some (.int .i64 0) := (blk_cell BKX4.out 2).trans rfl; have f0 : w16.frozen? ⟨X4, 0, none⟩ = false := blk_frozen BKX4.out 0; have f1 : w16.frozen? ⟨X4, 1, none⟩ = false := blk_frozen BKX4.out 1; have f2 : w16.frozen? ⟨X4, 2, none⟩ = false := blk_frozen BKX4.out 2))
  have HBx : Aside0 (Below w15.heap.size w15 (((w16.setCell ⟨X4, 0, none⟩ (.int .i64 q0)).setCell ⟨X4, 1, none⟩ (.int .i64 q1)).setCell ⟨X4, 2, none⟩ (.int .i64 q2))) := ⟨below3 BHX4.out (by have := GEX4.out; omega) (.int .i64 q0) (.int .i64 q1) (.int .i64 q2)⟩
  have HZX4 := Aside0.mk (put3 BKX4.out (.int .i64 q0) (.int .i64 q1) (.int .i64 q2))
  clear BKX4 BHX4 GEX4 z0 f0 z1 f1 z2 f2
  generalize (((w16.setCell ⟨X4, 0, none⟩ (.int .i64 q0)).setCell ⟨X4, 1, none⟩ (.int .i64 q1)).setCell ⟨X4, 2, none⟩ (.int .i64 q2)) = w17 at HBx HZX4 ⊢
  have hb := HBx.out
  replace HG := Aside0.mk (blk_below HG.out hb); replace HH := Aside0.mk (blk_below HH.out hb); replace HC := Aside0.mk (Kd.C_below HC.out hb); replace HV1 := Aside0.mk (Kd.C_below HV1.out hb); replace HV2 := Aside0.mk (Kd.C_below HV2.out hb); replace HV3 := Aside0.mk (Kd.C_below HV3.out hb); replace HV4 := Aside0.mk (Kd.C_below HV4.out hb); replace HZX1 := Aside0.mk (blk_below HZX1.out hb); replace HZX2 := Aside0.mk (blk_below HZX2.out hb); replace HZX3 := Aside0.mk (blk_below HZX3.out hb); replace HB := Aside0.mk (below_then HB.out HB.out.size hb)
  clear hb HBx
  have HSB := Aside0.mk (skerryref01_SameBytes.calls A1 k1 l1 A2 k2 l1 true w17 HV1.out HK1.out HV2.out HK2.out (same_bytesH l1))
  go_wp2_with fail
  ((with_reducible refine HSB.out.mono ?_); rintro e w18 ⟨rfl, hd⟩)
  have hb := hd.below
  replace HG := Aside0.mk (blk_below HG.out hb); replace HH := Aside0.mk (blk_below HH.out hb); replace HC := Aside0.mk (Kd.C_below HC.out hb); replace HV1 := Aside0.mk (Kd.C_below HV1.out hb); replace HV2 := Aside0.mk (Kd.C_below HV2.out hb); replace HV3 := Aside0.mk (Kd.C_below HV3.out hb); replace HV4 := Aside0.mk (Kd.C_below HV4.out hb); replace HZX1 := Aside0.mk (blk_below HZX1.out hb); replace HZX2 := Aside0.mk (blk_below HZX2.out hb); replace HZX3 := Aside0.mk (blk_below HZX3.out hb); replace HZX4 := Aside0.mk (blk_below HZX4.out hb); replace HB := Aside0.mk (below_then HB.out HB.out.size hb)
  clear hb hd HSB
  have HSB := Aside0.mk (skerryref01_SameBytes.calls A3 k3 l2 A4 k4 l2 true w18 HV3.out HK3.out HV4.out HK4.out (same_bytesH l2))
  go_wp2_with fail
  ((with_reducible refine HSB.out.mono ?_); rintro e w19 ⟨rfl, hd⟩)
  have hb := hd.below
  replace HG := Aside0.mk (blk_below HG.out hb); replace HH := Aside0.mk (blk_below HH.out hb); replace HC := Aside0.mk (Kd.C_below HC.out hb); replace HV1 := Aside0.mk (Kd.C_below HV1.out hb); replace HV2 := Aside0.mk (Kd.C_below HV2.out hb); replace HV3 := Aside0.mk (Kd.C_below HV3.out hb); replace HV4 := Aside0.mk (Kd.C_below HV4.out hb); replace HZX1 := Aside0.mk (blk_below HZX1.out hb); replace HZX2 := Aside0.mk (blk_below HZX2.out hb); replace HZX3 := Aside0.mk (blk_below HZX3.out hb); replace HZX4 := Aside0.mk (blk_below HZX4.out hb); replace HB := Aside0.mk (below_then HB.out HB.out.size hb)
  clear hb hd HSB
  have a0 : w19.cell? ⟨X1, 0, none⟩ = some (.int .i64 m0) := (blk_cell HZX1.out 0).trans rfl; have a1 : w19.cell? ⟨X1, 1, none⟩ = some (.int .i64 m1) := (blk_cell HZX1.out 1).trans rfl; have a2 : w19.cell? ⟨X1, 2, none⟩ = some (.int .i64 m2) := (blk_cell HZX1.out 2).trans rfl; have a3 : w19.cell? ⟨X1, 3, none⟩ = some (.int .i64 m3) := (blk_cell HZX1.out 3).trans rfl; have a4 : w19.cell? ⟨X1, 4, none⟩ = some (.int .i64 m4) := (blk_cell HZX1.out 4).trans rfl; have a5 : w19.cell? ⟨X1, 5, none⟩ = some (.int .i64 m5) := (blk_cell HZX1.out 5).trans rfl; have a6 : w19.cell? ⟨X1, 6, none⟩ = some (.int .i64 m6) := (blk_cell HZX1.out 6).trans rfl; have a7 : w19.cell? ⟨X1, 7, none⟩ = some (.int .i64 m7) := (blk_cell HZX1.out 7).trans rfl; have a8 : w19.cell? ⟨X1, 8, none⟩ = some (.int .i64 m8) := (blk_cell HZX1.out 8).trans rfl; have a9 : w19.cell? ⟨X1, 9, none⟩ = some (.int .i64 m9) := (blk_cell HZX1.out 9).trans rfl; have a10 : w19.cell? ⟨X1, 10, none⟩ = some (.int .i64 m10) := (blk_cell HZX1.out 10).trans rfl; have a11 : w19.cell? ⟨X1, 11, none⟩ = some (.int .i64 m11) := (blk_cell HZX1.out 11).trans rfl
  have b0 : w19.cell? ⟨X2, 0, none⟩ = some (.int .i64 m0) := (blk_cell HZX2.out 0).trans rfl; have b1 : w19.cell? ⟨X2, 1, none⟩ = some (.int .i64 m1) := (blk_cell HZX2.out 1).trans rfl; have b2 : w19.cell? ⟨X2, 2, none⟩ = some (.int .i64 m2) := (blk_cell HZX2.out 2).trans rfl; have b3 : w19.cell? ⟨X2, 3, none⟩ = some (.int .i64 m3) := (blk_cell HZX2.out 3).trans rfl; have b4 : w19.cell? ⟨X2, 4, none⟩ = some (.int .i64 m4) := (blk_cell HZX2.out 4).trans rfl; have b5 : w19.cell? ⟨X2, 5, none⟩ = some (.int .i64 m5) := (blk_cell HZX2.out 5).trans rfl; have b6 : w19.cell? ⟨X2, 6, none⟩ = some (.int .i64 m6) := (blk_cell HZX2.out 6).trans rfl; have b7 : w19.cell? ⟨X2, 7, none⟩ = some (.int .i64 m7) := (blk_cell HZX2.out 7).trans rfl; have b8 : w19.cell? ⟨X2, 8, none⟩ = some (.int .i64 m8) := (blk_cell HZX2.out 8).trans rfl; have b9 : w19.cell? ⟨X2, 9, none⟩ = some (.int .i64 m9) := (blk_cell HZX2.out 9).trans rfl; have b10 : w19.cell? ⟨X2, 10, none⟩ = some (.int .i64 m10) := (blk_cell HZX2.out 10).trans rfl; have b11 : w19.cell? ⟨X2, 11, none⟩ = some (.int .i64 m11) := (blk_cell HZX2.out 11).trans rfl
  have c0 : w19.cell? ⟨X3, 0, none⟩ = some (.int .i64 q0) := (blk_cell HZX3.out 0).trans rfl; have c1 : w19.cell? ⟨X3, 1, none⟩ = some (.int .i64 q1) := (blk_cell HZX3.out 1).trans rfl; have c2 : w19.cell? ⟨X3, 2, none⟩ = some (.int .i64 q2) := (blk_cell HZX3.out 2).trans rfl
  have d0 : w19.cell? ⟨X4, 0, none⟩ = some (.int .i64 q0) := (blk_cell HZX4.out 0).trans rfl; have d1 : w19.cell? ⟨X4, 1, none⟩ = some (.int .i64 q1) := (blk_cell HZX4.out 1).trans rfl; have d2 : w19.cell? ⟨X4, 2, none⟩ = some (.int .i64 q2) := (blk_cell HZX4.out 2).trans rfl
  have heq1 : ∀ W : World, (binOp .eql 37 (.agg #[.int .i64 m0, .int .i64 m1, .int .i64 m2, .int .i64 m3, .int .i64 m4, .int .i64 m5, .int .i64 m6, .int .i64 m7, .int .i64 m8, .int .i64 m9, .int .i64 m10, .int .i64 m11]) (.agg #[.int .i64 m0, .int .i64 m1, .int .i64 m2, .int .i64 m3, .int .i64 m4, .int .i64 m5, .int .i64 m6, .int .i64 m7, .int .i64 m8, .int .i64 m9, .int .i64 m10, .int .i64 m11])).run Try.prog W = .ok (.bool true) W := plan_eql m0 m1 m2 m3 m4 m5 m6 m7 m8 m9 m10 m11
  have heq2 : ∀ W : World, (binOp .eql 39 (.agg #[.int .i64 q0, .int .i64 q1, .int .i64 q2]) (.agg #[.int .i64 q0, .int .i64 q1, .int .i64 q2])).run Try.prog W = .ok (.bool true) W := head_eql q0 q1 q2
  go_wp2
  go_ret
  exact ⟨rfl, HB.out⟩
end Go.Proofs.Ytbplffdmggbcdaa.Codec
