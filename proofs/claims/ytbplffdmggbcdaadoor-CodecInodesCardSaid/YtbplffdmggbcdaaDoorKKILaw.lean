/- The law of inodes: the walk. -/
import Derived.Test.YtbplffdmggbcdaaDoorKKRundir
import Derived.Test.YtbplffdmggbcdaaDoorKKRname
import Derived.Test.YtbplffdmggbcdaaDoorKKWakes
namespace Go.Proofs.YtbplffdmggbcdaaDoor.Codec
open Go.RowKit Go.Proofs.YtbplffdmggbcdaaDoor.PCodecInodes Go.Proofs.YtbplffdmggbcdaaDoor.Plain Go.Proofs.YtbplffdmggbcdaaDoor.Pure Go.Proofs.YtbplffdmggbcdaaDoorW.PrintWords Go.Proofs.YtbplffdmggbcdaaDoorW.PrintLast Go.Proofs.YtbplffdmggbcdaaDoorW.PrintMore
set_option linter.unusedVariables false
set_option linter.unusedSimpArgs false

theorem dent_eql (r0 : Int) (r1 : ByteArray) (w : World) : (binOp .eql 26 (.agg #[.int .i64 r0, .string r1]) (.agg #[.int .i64 r0, .string r1])).run Tryd.prog w = .ok (.bool true) w := by
  have u3 := Tryd.underlying3
  have a3 := Tryd.isAgg3
  have u9 := Tryd.underlying9
  have a9 := Tryd.isAgg9
  have hS : Tryd.prog.underlying 26 = some (.struct (Tryd.prog.fieldsOf 26)) := by kernel_rfl
  have hr : (Op.equalIn (9998 + 2) 26 (.agg #[.int .i64 r0, .string r1]) (.agg #[.int .i64 r0, .string r1])).run Tryd.prog w = .ok true w := by
    rw [run_equalIn_agg w 9999 26 _ _ hS (by kernel_rfl)]
    simp only [Program.fieldsOf, Tryd.underlying26]
    go_simp
    try simp
  simp only [Nat.reduceAdd] at hr
  rw [run_eql_struct, hr, Result.andThen_ok]
theorem same_bytesI (l : List Int) : skerryref01_SameBytes.f l l = some true := by unfold skerryref01_SameBytes.f; simp
theorem uniVals_form (l : List Int) : ∃ (m0 m1 m2 m3 m4 m5 m6 m7 m8 m9 m10 m11 m12 : Int), uniVals l = [m0, m1, m2, m3, m4, m5, m6, m7, m8, m9, m10, m11, m12] := by
  unfold uniVals
  split
  · exact ⟨_, _, _, _, _, _, _, _, _, _, _, _, _, rfl⟩
  · exact ⟨_, _, _, _, _, _, _, _, _, _, _, _, _, rfl⟩
theorem aggI_lit (m0 m1 m2 m3 m4 m5 m6 m7 m8 m9 m10 m11 m12 : Int) : aggI [m0, m1, m2, m3, m4, m5, m6, m7, m8, m9, m10, m11, m12] = .agg #[.int .i64 m0, .int .i64 m1, .int .i64 m2, .int .i64 m3, .int .i64 m4, .int .i64 m5, .int .i64 m6, .int .i64 m7, .int .i64 m8, .int .i64 m9, .int .i64 m10, .int .i64 m11, .int .i64 m12] := rfl
def inodes.T11 : Bool × List (List Nat × List Nat) := (true, [([], []), ([], []), ([0, 1], [0, 1]), ([2], [2]), ([3], [3]), ([3], [3]), ([4, 5, 3, 3], [3, 4, 5]), ([3, 6], [3, 6]), ([7, 6], [7]), ([8], [8]), ([8], [8]), ([9, 10, 8], [8, 9, 10]), ([8, 11], [8, 11]), ([12, 8], [12]), ([13], [13]), ([13], [13]), ([14, 15, 13], [13, 14, 15]), ([13, 16], [13, 16]), ([17, 13], [17]), ([18], [18]), ([18], [18]), ([19, 20, 18], [18, 19, 20]), ([18, 21], [18, 21]), ([22, 18], [22]), ([23], [23]), ([23], [23]), ([24, 25, 23, 23], [23, 24, 25]), ([23, 26], [23, 26]), ([27, 26], [27]), ([28], [28]), ([28], [28]), ([29, 30, 28], [28, 29, 30]), ([28, 31], [28, 31]), ([32, 28], [32]), ([33], [33]), ([33], [33]), ([34, 35, 33], [33, 34, 35]), ([33, 36], [33, 36]), ([37, 33], [37]), ([38], [38]), ([39, 38], [38, 39]), ([40, 38, 38], [38, 40]), ([38], [38]), ([42, 38], [38, 42]), ([43, 41, 38], [38, 43]), ([41, 44, 38], [38, 41, 44]), ([38, 45], [38, 45]), ([46, 44, 0, 1, 2, 3, 4, 5, 6, 7, 8, 9, 10, 11, 12, 13, 14, 15, 16, 17, 18, 19, 20, 21, 22, 23, 24, 25, 26, 27, 28, 29, 30, 31, 32, 33, 34, 35, 36, 37, 38, 39, 40, 41, 42, 43, 44, 45, 46], [46])])
def inodes.B11 : List Nat := [0, 0, 3, 7, 15, 15, 63, 127, 255, 511, 511, 2047, 4095, 8191, 16383, 16383, 65535, 131071, 262143, 524287, 524287, 2097151, 4194303, 8388607, 16777215, 16777215, 67108863, 134217727, 268435455, 536870911, 536870911, 2147483647, 4294967295, 8589934591, 17179869183, 17179869183, 68719476735, 137438953471, 274877906943, 549755813887, 1099511627775, 2199023255551, 549755813887, 4947802324991, 17592186044415, 35184372088831, 70368744177663, 140737488355327]
theorem inodes.tab11 : rtab .any (opsOf Tryd.f3 11) = inodes.T11 := by kernel_rfl
theorem inodes.bits11 : waitsOk inodes.T11.2 inodes.B11 = true := by kernel_rfl

set_option maxHeartbeats 4000000 in
set_option maxRecDepth 100000 in
theorem inodes_calls (p0 p1 p2 p3 p4 p5 p6 p7 p8 p9 p10 p11 p12 di : Int) (ds : ByteArray) (A : Option Addr) (c : Nat) (l : List Int) (w : World) (hr : Kd.C (Kd.int .u8) w A l.length l) (hc : l.length ≤ c) (hl : Bytes l) (hs : l.length ≤ 140737488351232) :
    Calls Tryd.prog 3 #[.agg #[.int .i64 p0, .int .i64 p1, .int .i64 p2, .int .i64 p3, .int .i64 p4, .int .i64 p5, .int .i64 p6, .int .i64 p7, .int .i64 p8, .int .i64 p9, .int .i64 p10, .int .i64 p11, .int .i64 p12], .agg #[.int .i64 di, .string ds], .slice A l.length c] w fun e w' => e = .returned (.bool true) ∧ Below w.heap.size w w' := by
  have hu := Tryd.underlying24
  have hu2 := Tryd.underlying26
  have u22 := Tryd.underlying22
  have HWK := Aside0.mk wakes_calls
  have HS1 := Aside0.mk (inode_calls p0 p1 p2 p3 p4 p5 p6 p7 p8 p9 p10 p11 p12)
  have HS2 := Aside0.mk (rinode_calls p0 p1 p2 p3 p4 p5 p6 p7 p8 p9 p10 p11 p12)
  have HS3 := Aside0.mk (dirent_calls di ds)
  have HS4 := Aside0.mk (rdirent_calls di ds)
  have HN1 := Aside0.mk (name_calls ds)
  have HN2 := Aside0.mk (rname_calls ds)
  obtain ⟨⟨l1, e1⟩, h1⟩ : ∃ o, inoOut p0 p1 p2 p3 p4 p5 p6 p7 p8 p9 p10 p11 p12 = o := ⟨_, rfl⟩
  obtain ⟨⟨l2, e2⟩, h2⟩ : ∃ o, dirAll di ds = o := ⟨_, rfl⟩
  obtain ⟨nm, h3⟩ : ∃ o, nameOut ds = o := ⟨_, rfl⟩
  rw [h1] at HS1 HS2
  rw [h2] at HS3 HS4
  rw [h3] at HN1 HN2
  obtain ⟨m0, m1, m2, m3, m4, m5, m6, m7, m8, m9, m10, m11, m12, hm⟩ := uniVals_form l
  obtain ⟨me, hme⟩ : ∃ o, uniErr l = o := ⟨_, rfl⟩
  obtain ⟨⟨r0, r1, re⟩, hV⟩ : ∃ o, undOut l = o := ⟨_, rfl⟩
  have HU1 := Aside0.mk (fun W h => uninode_calls A c l W h hc hl hs)
  have HU2 := Aside0.mk (fun W h => runinode_calls A c l W h hc hl hs)
  have HU3 := Aside0.mk (fun W h => undirent_calls A c l W h hc hl hs)
  have HU4 := Aside0.mk (fun W h => rundirent_calls A c l W h hc hl hs)
  rw [hm, hme, aggI_lit] at HU1 HU2
  rw [hV] at HU3 HU4
  have HC0 := Aside0.mk hr
  clear hr hc hl hs h1 h2 h3 hm hme hV
  go_enter Tryd.func3, Tryd.ntmps3
  go_upto_region 1 with (first | ((with_reducible refine gate_dst (N := 3) rfl ?_); refine box_event ?hg (N := 3) ?hd (cs := #[.int .i64 p0, .int .i64 p1, .int .i64 p2, .int .i64 p3, .int .i64 p4, .int .i64 p5, .int .i64 p6, .int .i64 p7, .int .i64 p8, .int .i64 p9, .int .i64 p10, .int .i64 p11, .int .i64 p12]) (t := 24) ?hr ?_; (case hd => rfl); (case hg => rfl); (case hr => first | (go_simp; done) | (go_simp; rfl)); intro gp hggp wp hbox hb; have BKgp := Aside0.mk hbox; have BHgp := Aside0.mk hb; have GEgp := Aside0.mk hggp; clear hb hbox hggp) | ((with_reducible refine gate_dst (N := 4) rfl ?_); refine box_event ?hg (N := 4) ?hd (cs := #[.int .i64 di, .string ds]) (t := 26) ?hr ?_; (case hd => rfl); (case hg => rfl); (case hr => first | (go_simp; done) | (go_simp; rfl)); intro gh hggh wh hbox hb; have BKgh := Aside0.mk hbox; have BHgh := Aside0.mk hb; have GEgh := Aside0.mk hggh; clear hb hbox hggh))
  have HG := Aside0.mk (blk_below BKgp.out BHgh.out)
  have HH := BKgh
  have HB := Aside0.mk (below_then BHgp.out BHgp.out.size BHgh.out)
  have HC := Aside0.mk (Kd.C_below HC0.out HB.out)
  clear BKgp BHgp GEgp BKgh BHgh GEgh HC0
  go_wp2_with fail
  ((with_reducible refine (HWK.out _).mono ?_); rintro e w1 ⟨rfl, hb⟩)
  replace HG := Aside0.mk (blk_below HG.out hb); replace HH := Aside0.mk (blk_below HH.out hb); replace HC := Aside0.mk (Kd.C_below HC.out hb); replace HB := Aside0.mk (below_then HB.out HB.out.size hb)
  clear hb HWK
  have x0 : w1.cell? ⟨gp, 0, none⟩ = some (.int .i64 p0) := (blk_cell HG.out 0).trans rfl; have x1 : w1.cell? ⟨gp, 1, none⟩ = some (.int .i64 p1) := (blk_cell HG.out 1).trans rfl; have x2 : w1.cell? ⟨gp, 2, none⟩ = some (.int .i64 p2) := (blk_cell HG.out 2).trans rfl; have x3 : w1.cell? ⟨gp, 3, none⟩ = some (.int .i64 p3) := (blk_cell HG.out 3).trans rfl; have x4 : w1.cell? ⟨gp, 4, none⟩ = some (.int .i64 p4) := (blk_cell HG.out 4).trans rfl; have x5 : w1.cell? ⟨gp, 5, none⟩ = some (.int .i64 p5) := (blk_cell HG.out 5).trans rfl; have x6 : w1.cell? ⟨gp, 6, none⟩ = some (.int .i64 p6) := (blk_cell HG.out 6).trans rfl; have x7 : w1.cell? ⟨gp, 7, none⟩ = some (.int .i64 p7) := (blk_cell HG.out 7).trans rfl; have x8 : w1.cell? ⟨gp, 8, none⟩ = some (.int .i64 p8) := (blk_cell HG.out 8).trans rfl; have x9 : w1.cell? ⟨gp, 9, none⟩ = some (.int .i64 p9) := (blk_cell HG.out 9).trans rfl; have x10 : w1.cell? ⟨gp, 10, none⟩ = some (.int .i64 p10) := (blk_cell HG.out 10).trans rfl; have x11 : w1.cell? ⟨gp, 11, none⟩ = some (.int .i64 p11) := (blk_cell HG.out 11).trans rfl; have x12 : w1.cell? ⟨gp, 12, none⟩ = some (.int .i64 p12) := (blk_cell HG.out 12).trans rfl
  go_wp2_with fail
  ((with_reducible refine (HS1.out _).mono ?_); rintro e w2 ⟨v, rfl, hv, hb⟩)
  obtain ⟨A1, k1, rfl, hk1, hv1⟩ := brow_reads hv
  replace HG := Aside0.mk (blk_below HG.out hb); replace HH := Aside0.mk (blk_below HH.out hb); replace HC := Aside0.mk (Kd.C_below HC.out hb); replace HB := Aside0.mk (below_then HB.out HB.out.size hb)
  have HV1 := Aside0.mk hv1; have HK1 := Aside0.mk hk1
  clear hb hv hk1 hv1 HS1
  clear x0 x1 x2 x3 x4 x5 x6 x7 x8 x9 x10 x11 x12
  have x0 : w2.cell? ⟨gp, 0, none⟩ = some (.int .i64 p0) := (blk_cell HG.out 0).trans rfl; have x1 : w2.cell? ⟨gp, 1, none⟩ = some (.int .i64 p1) := (blk_cell HG.out 1).trans rfl; have x2 : w2.cell? ⟨gp, 2, none⟩ = some (.int .i64 p2) := (blk_cell HG.out 2).trans rfl; have x3 : w2.cell? ⟨gp, 3, none⟩ = some (.int .i64 p3) := (blk_cell HG.out 3).trans rfl; have x4 : w2.cell? ⟨gp, 4, none⟩ = some (.int .i64 p4) := (blk_cell HG.out 4).trans rfl; have x5 : w2.cell? ⟨gp, 5, none⟩ = some (.int .i64 p5) := (blk_cell HG.out 5).trans rfl; have x6 : w2.cell? ⟨gp, 6, none⟩ = some (.int .i64 p6) := (blk_cell HG.out 6).trans rfl; have x7 : w2.cell? ⟨gp, 7, none⟩ = some (.int .i64 p7) := (blk_cell HG.out 7).trans rfl; have x8 : w2.cell? ⟨gp, 8, none⟩ = some (.int .i64 p8) := (blk_cell HG.out 8).trans rfl; have x9 : w2.cell? ⟨gp, 9, none⟩ = some (.int .i64 p9) := (blk_cell HG.out 9).trans rfl; have x10 : w2.cell? ⟨gp, 10, none⟩ = some (.int .i64 p10) := (blk_cell HG.out 10).trans rfl; have x11 : w2.cell? ⟨gp, 11, none⟩ = some (.int .i64 p11) := (blk_cell HG.out 11).trans rfl; have x12 : w2.cell? ⟨gp, 12, none⟩ = some (.int .i64 p12) := (blk_cell HG.out 12).trans rfl
  go_wp2_with fail
  ((with_reducible refine (HS2.out _).mono ?_); rintro e w3 ⟨v, rfl, hv, hb⟩)
  obtain ⟨A2, k2, rfl, hk2, hv2⟩ := brow_reads hv
  replace HG := Aside0.mk (blk_below HG.out hb); replace HH := Aside0.mk (blk_below HH.out hb); replace HC := Aside0.mk (Kd.C_below HC.out hb); replace HV1 := Aside0.mk (Kd.C_below HV1.out hb); replace HB := Aside0.mk (below_then HB.out HB.out.size hb)
  have HV2 := Aside0.mk hv2; have HK2 := Aside0.mk hk2
  clear hb hv hk2 hv2 HS2
  clear x0 x1 x2 x3 x4 x5 x6 x7 x8 x9 x10 x11 x12
  go_wp2_with fail
  ((with_reducible refine (HU1.out _ HC.out).mono ?_); rintro e w4 ⟨rfl, hb⟩)
  replace HG := Aside0.mk (blk_below HG.out hb); replace HH := Aside0.mk (blk_below HH.out hb); replace HC := Aside0.mk (Kd.C_below HC.out hb); replace HV1 := Aside0.mk (Kd.C_below HV1.out hb); replace HV2 := Aside0.mk (Kd.C_below HV2.out hb); replace HB := Aside0.mk (below_then HB.out HB.out.size hb)
  clear hb HU1
  go_upto_region 6 with (((with_reducible refine gate_dst (N := 11) rfl ?_); refine box_event ?hg (N := 11) ?hd (cs := #[.int .i64 0, .int .i64 0, .int .i64 0, .int .i64 0, .int .i64 0, .int .i64 0, .int .i64 0, .int .i64 0, .int .i64 0, .int .i64 0, .int .i64 0, .int .i64 0, .int .i64 0]) (t := 24) ?hr ?_; (case hd => rfl); (case hg => rfl); (case hr => first | (go_simp; done) | (go_simp; rfl)); intro X1 hgX1 w5 hbox hb; have BKX1 := Aside0.mk hbox; have BHX1 := Aside0.mk hb; have GEX1 := Aside0.mk hgX1; clear hb hbox hgX1; have z0 : w5.cell? ⟨X1, 0, none⟩ = some (.int .i64 0) := (blk_cell BKX1.out 0).trans rfl; have z1 : w5.cell? ⟨X1, 1, none⟩ = some (.int .i64 0) := (blk_cell BKX1.out 1).trans rfl; have z2 : w5.cell? ⟨X1, 2, none⟩ = some (.int .i64 0) := (blk_cell BKX1.out 2).trans rfl; have z3 : w5.cell? ⟨X1, 3, none⟩ = some (.int .i64 0) := (blk_cell BKX1.out 3).trans rfl; have z4 : w5.cell? ⟨X1, 4, none⟩ = some (.int .i64 0) := (blk_cell BKX1.out 4).trans rfl; have z5 : w5.cell? ⟨X1, 5, none⟩ = some (.int .i64 0) := (blk_cell BKX1.out 5).trans rfl; have z6 : w5.cell? ⟨X1, 6, none⟩ = some (.int .i64 0) := (blk_cell BKX1.out 6).trans rfl; have z7 : w5.cell? ⟨X1, 7, none⟩ = some (.int .i64 0) := (blk_cell BKX1.out 7).trans rfl; have z8 : w5.cell? ⟨X1, 8, none⟩ = some (.int .i64 0) := (blk_cell BKX1.out 8).trans rfl; have z9 : w5.cell? ⟨X1, 9, none⟩ = some (.int .i64 0) := (blk_cell BKX1.out 9).trans rfl; have z10 : w5.cell? ⟨X1, 10, none⟩ = some (.int .i64 0) := (blk_cell BKX1.out 10).trans rfl; have z11 : w5.cell? ⟨X1, 11, none⟩ = some (.int .i64 0) := (blk_cell BKX1.out 11).trans rfl; have z12 : w5.cell? ⟨X1, 12, none⟩ = some (.int .i64 0) := (blk_cell BKX1.out 12).trans rfl; have f0 : w5.frozen? ⟨X1, 0, none⟩ = false := blk_frozen BKX1.out 0; have f1 : w5.frozen? ⟨X1, 1, none⟩ = false := blk_frozen BKX1.out 1; have f2 : w5.frozen? ⟨X1, 2, none⟩ = false := blk_frozen BKX1.out 2; have f3 : w5.frozen? ⟨X1, 3, none⟩ = false := blk_frozen BKX1.out 3; have f4 : w5.frozen? ⟨X1, 4, none⟩ = false := blk_frozen BKX1.out 4; have f5 : w5.frozen? ⟨X1, 5, none⟩ = false := blk_frozen BKX1.out 5; have f6 : w5.frozen? ⟨X1, 6, none⟩ = false := blk_frozen BKX1.out 6; have f7 : w5.frozen? ⟨X1, 7, none⟩ = false := blk_frozen BKX1.out 7; have f8 : w5.frozen? ⟨X1, 8, none⟩ = false := blk_frozen BKX1.out 8; have f9 : w5.frozen? ⟨X1, 9, none⟩ = false := blk_frozen BKX1.out 9; have f10 : w5.frozen? ⟨X1, 10, none⟩ = false := blk_frozen BKX1.out 10; have f11 : w5.frozen? ⟨X1, 11, none⟩ = false := blk_frozen BKX1.out 11; have f12 : w5.frozen? ⟨X1, 12, none⟩ = false := blk_frozen BKX1.out 12))
  have HBx : Aside0 (Below w4.heap.size w4 (((((((((((((w5.setCell ⟨X1, 0, none⟩ (.int .i64 m0)).setCell ⟨X1, 1, none⟩ (.int .i64 m1)).setCell ⟨X1, 2, none⟩ (.int .i64 m2)).setCell ⟨X1, 3, none⟩ (.int .i64 m3)).setCell ⟨X1, 4, none⟩ (.int .i64 m4)).setCell ⟨X1, 5, none⟩ (.int .i64 m5)).setCell ⟨X1, 6, none⟩ (.int .i64 m6)).setCell ⟨X1, 7, none⟩ (.int .i64 m7)).setCell ⟨X1, 8, none⟩ (.int .i64 m8)).setCell ⟨X1, 9, none⟩ (.int .i64 m9)).setCell ⟨X1, 10, none⟩ (.int .i64 m10)).setCell ⟨X1, 11, none⟩ (.int .i64 m11)).setCell ⟨X1, 12, none⟩ (.int .i64 m12))) := ⟨below13 BHX1.out (by have := GEX1.out; omega) (.int .i64 m0) (.int .i64 m1) (.int .i64 m2) (.int .i64 m3) (.int .i64 m4) (.int .i64 m5) (.int .i64 m6) (.int .i64 m7) (.int .i64 m8) (.int .i64 m9) (.int .i64 m10) (.int .i64 m11) (.int .i64 m12)⟩
  have HZX1 := Aside0.mk (put13 BKX1.out (.int .i64 m0) (.int .i64 m1) (.int .i64 m2) (.int .i64 m3) (.int .i64 m4) (.int .i64 m5) (.int .i64 m6) (.int .i64 m7) (.int .i64 m8) (.int .i64 m9) (.int .i64 m10) (.int .i64 m11) (.int .i64 m12))
  clear BKX1 BHX1 GEX1 z0 f0 z1 f1 z2 f2 z3 f3 z4 f4 z5 f5 z6 f6 z7 f7 z8 f8 z9 f9 z10 f10 z11 f11 z12 f12
  generalize (((((((((((((w5.setCell ⟨X1, 0, none⟩ (.int .i64 m0)).setCell ⟨X1, 1, none⟩ (.int .i64 m1)).setCell ⟨X1, 2, none⟩ (.int .i64 m2)).setCell ⟨X1, 3, none⟩ (.int .i64 m3)).setCell ⟨X1, 4, none⟩ (.int .i64 m4)).setCell ⟨X1, 5, none⟩ (.int .i64 m5)).setCell ⟨X1, 6, none⟩ (.int .i64 m6)).setCell ⟨X1, 7, none⟩ (.int .i64 m7)).setCell ⟨X1, 8, none⟩ (.int .i64 m8)).setCell ⟨X1, 9, none⟩ (.int .i64 m9)).setCell ⟨X1, 10, none⟩ (.int .i64 m10)).setCell ⟨X1, 11, none⟩ (.int .i64 m11)).setCell ⟨X1, 12, none⟩ (.int .i64 m12)) = w6 at HBx HZX1 ⊢
  have hb := HBx.out
  replace HG := Aside0.mk (blk_below HG.out hb); replace HH := Aside0.mk (blk_below HH.out hb); replace HC := Aside0.mk (Kd.C_below HC.out hb); replace HV1 := Aside0.mk (Kd.C_below HV1.out hb); replace HV2 := Aside0.mk (Kd.C_below HV2.out hb); replace HB := Aside0.mk (below_then HB.out HB.out.size hb)
  clear hb HBx
  go_wp2_with fail
  ((with_reducible refine (HU2.out _ HC.out).mono ?_); rintro e w7 ⟨rfl, hb⟩)
  replace HG := Aside0.mk (blk_below HG.out hb); replace HH := Aside0.mk (blk_below HH.out hb); replace HC := Aside0.mk (Kd.C_below HC.out hb); replace HV1 := Aside0.mk (Kd.C_below HV1.out hb); replace HV2 := Aside0.mk (Kd.C_below HV2.out hb); replace HZX1 := Aside0.mk (blk_below HZX1.out hb); replace HB := Aside0.mk (below_then HB.out HB.out.size hb)
  clear hb HU2
  go_upto_region 7 with (((with_reducible refine gate_dst (N := 13) rfl ?_); refine box_event ?hg (N := 13) ?hd (cs := #[.int .i64 0, .int .i64 0, .int .i64 0, .int .i64 0, .int .i64 0, .int .i64 0, .int .i64 0, .int .i64 0, .int .i64 0, .int .i64 0, .int .i64 0, .int .i64 0, .int .i64 0]) (t := 24) ?hr ?_; (case hd => rfl); (case hg => rfl); (case hr => first | (go_simp; done) | (go_simp; rfl)); intro X2 hgX2 w8 hbox hb; have BKX2 := Aside0.mk hbox; have BHX2 := Aside0.mk hb; have GEX2 := Aside0.mk hgX2; clear hb hbox hgX2; have z0 : w8.cell? ⟨X2, 0, none⟩ = some (.int .i64 0) := (blk_cell BKX2.out 0).trans rfl; have z1 : w8.cell? ⟨X2, 1, none⟩ = some (.int .i64 0) := (blk_cell BKX2.out 1).trans rfl; have z2 : w8.cell? ⟨X2, 2, none⟩ = some (.int .i64 0) := (blk_cell BKX2.out 2).trans rfl; have z3 : w8.cell? ⟨X2, 3, none⟩ = some (.int .i64 0) := (blk_cell BKX2.out 3).trans rfl; have z4 : w8.cell? ⟨X2, 4, none⟩ = some (.int .i64 0) := (blk_cell BKX2.out 4).trans rfl; have z5 : w8.cell? ⟨X2, 5, none⟩ = some (.int .i64 0) := (blk_cell BKX2.out 5).trans rfl; have z6 : w8.cell? ⟨X2, 6, none⟩ = some (.int .i64 0) := (blk_cell BKX2.out 6).trans rfl; have z7 : w8.cell? ⟨X2, 7, none⟩ = some (.int .i64 0) := (blk_cell BKX2.out 7).trans rfl; have z8 : w8.cell? ⟨X2, 8, none⟩ = some (.int .i64 0) := (blk_cell BKX2.out 8).trans rfl; have z9 : w8.cell? ⟨X2, 9, none⟩ = some (.int .i64 0) := (blk_cell BKX2.out 9).trans rfl; have z10 : w8.cell? ⟨X2, 10, none⟩ = some (.int .i64 0) := (blk_cell BKX2.out 10).trans rfl; have z11 : w8.cell? ⟨X2, 11, none⟩ = some (.int .i64 0) := (blk_cell BKX2.out 11).trans rfl; have z12 : w8.cell? ⟨X2, 12, none⟩ = some (.int .i64 0) := (blk_cell BKX2.out 12).trans rfl; have f0 : w8.frozen? ⟨X2, 0, none⟩ = false := blk_frozen BKX2.out 0; have f1 : w8.frozen? ⟨X2, 1, none⟩ = false := blk_frozen BKX2.out 1; have f2 : w8.frozen? ⟨X2, 2, none⟩ = false := blk_frozen BKX2.out 2; have f3 : w8.frozen? ⟨X2, 3, none⟩ = false := blk_frozen BKX2.out 3; have f4 : w8.frozen? ⟨X2, 4, none⟩ = false := blk_frozen BKX2.out 4; have f5 : w8.frozen? ⟨X2, 5, none⟩ = false := blk_frozen BKX2.out 5; have f6 : w8.frozen? ⟨X2, 6, none⟩ = false := blk_frozen BKX2.out 6; have f7 : w8.frozen? ⟨X2, 7, none⟩ = false := blk_frozen BKX2.out 7; have f8 : w8.frozen? ⟨X2, 8, none⟩ = false := blk_frozen BKX2.out 8; have f9 : w8.frozen? ⟨X2, 9, none⟩ = false := blk_frozen BKX2.out 9; have f10 : w8.frozen? ⟨X2, 10, none⟩ = false := blk_frozen BKX2.out 10; have f11 : w8.frozen? ⟨X2, 11, none⟩ = false := blk_frozen BKX2.out 11; have f12 : w8.frozen? ⟨X2, 12, none⟩ = false := blk_frozen BKX2.out 12))
  have HBx : Aside0 (Below w7.heap.size w7 (((((((((((((w8.setCell ⟨X2, 0, none⟩ (.int .i64 m0)).setCell ⟨X2, 1, none⟩ (.int .i64 m1)).setCell ⟨X2, 2, none⟩ (.int .i64 m2)).setCell ⟨X2, 3, none⟩ (.int .i64 m3)).setCell ⟨X2, 4, none⟩ (.int .i64 m4)).setCell ⟨X2, 5, none⟩ (.int .i64 m5)).setCell ⟨X2, 6, none⟩ (.int .i64 m6)).setCell ⟨X2, 7, none⟩ (.int .i64 m7)).setCell ⟨X2, 8, none⟩ (.int .i64 m8)).setCell ⟨X2, 9, none⟩ (.int .i64 m9)).setCell ⟨X2, 10, none⟩ (.int .i64 m10)).setCell ⟨X2, 11, none⟩ (.int .i64 m11)).setCell ⟨X2, 12, none⟩ (.int .i64 m12))) := ⟨below13 BHX2.out (by have := GEX2.out; omega) (.int .i64 m0) (.int .i64 m1) (.int .i64 m2) (.int .i64 m3) (.int .i64 m4) (.int .i64 m5) (.int .i64 m6) (.int .i64 m7) (.int .i64 m8) (.int .i64 m9) (.int .i64 m10) (.int .i64 m11) (.int .i64 m12)⟩
  have HZX2 := Aside0.mk (put13 BKX2.out (.int .i64 m0) (.int .i64 m1) (.int .i64 m2) (.int .i64 m3) (.int .i64 m4) (.int .i64 m5) (.int .i64 m6) (.int .i64 m7) (.int .i64 m8) (.int .i64 m9) (.int .i64 m10) (.int .i64 m11) (.int .i64 m12))
  clear BKX2 BHX2 GEX2 z0 f0 z1 f1 z2 f2 z3 f3 z4 f4 z5 f5 z6 f6 z7 f7 z8 f8 z9 f9 z10 f10 z11 f11 z12 f12
  generalize (((((((((((((w8.setCell ⟨X2, 0, none⟩ (.int .i64 m0)).setCell ⟨X2, 1, none⟩ (.int .i64 m1)).setCell ⟨X2, 2, none⟩ (.int .i64 m2)).setCell ⟨X2, 3, none⟩ (.int .i64 m3)).setCell ⟨X2, 4, none⟩ (.int .i64 m4)).setCell ⟨X2, 5, none⟩ (.int .i64 m5)).setCell ⟨X2, 6, none⟩ (.int .i64 m6)).setCell ⟨X2, 7, none⟩ (.int .i64 m7)).setCell ⟨X2, 8, none⟩ (.int .i64 m8)).setCell ⟨X2, 9, none⟩ (.int .i64 m9)).setCell ⟨X2, 10, none⟩ (.int .i64 m10)).setCell ⟨X2, 11, none⟩ (.int .i64 m11)).setCell ⟨X2, 12, none⟩ (.int .i64 m12)) = w9 at HBx HZX2 ⊢
  have hb := HBx.out
  replace HG := Aside0.mk (blk_below HG.out hb); replace HH := Aside0.mk (blk_below HH.out hb); replace HC := Aside0.mk (Kd.C_below HC.out hb); replace HV1 := Aside0.mk (Kd.C_below HV1.out hb); replace HV2 := Aside0.mk (Kd.C_below HV2.out hb); replace HZX1 := Aside0.mk (blk_below HZX1.out hb); replace HB := Aside0.mk (below_then HB.out HB.out.size hb)
  clear hb HBx
  have y0 : w9.cell? ⟨gh, 0, none⟩ = some (.int .i64 di) := (blk_cell HH.out 0).trans rfl; have y1 : w9.cell? ⟨gh, 1, none⟩ = some (.string ds) := (blk_cell HH.out 1).trans rfl
  go_wp2_with fail
  ((with_reducible refine (HS3.out _).mono ?_); rintro e w10 ⟨v, rfl, hv, hb⟩)
  obtain ⟨A3, k3, rfl, hk3, hv3⟩ := brow_reads hv
  replace HG := Aside0.mk (blk_below HG.out hb); replace HH := Aside0.mk (blk_below HH.out hb); replace HC := Aside0.mk (Kd.C_below HC.out hb); replace HV1 := Aside0.mk (Kd.C_below HV1.out hb); replace HV2 := Aside0.mk (Kd.C_below HV2.out hb); replace HZX1 := Aside0.mk (blk_below HZX1.out hb); replace HZX2 := Aside0.mk (blk_below HZX2.out hb); replace HB := Aside0.mk (below_then HB.out HB.out.size hb)
  have HV3 := Aside0.mk hv3; have HK3 := Aside0.mk hk3
  clear hb hv hk3 hv3 HS3
  clear y0 y1
  have y0 : w10.cell? ⟨gh, 0, none⟩ = some (.int .i64 di) := (blk_cell HH.out 0).trans rfl; have y1 : w10.cell? ⟨gh, 1, none⟩ = some (.string ds) := (blk_cell HH.out 1).trans rfl
  go_wp2_with fail
  ((with_reducible refine (HS4.out _).mono ?_); rintro e w11 ⟨v, rfl, hv, hb⟩)
  obtain ⟨A4, k4, rfl, hk4, hv4⟩ := brow_reads hv
  replace HG := Aside0.mk (blk_below HG.out hb); replace HH := Aside0.mk (blk_below HH.out hb); replace HC := Aside0.mk (Kd.C_below HC.out hb); replace HV1 := Aside0.mk (Kd.C_below HV1.out hb); replace HV2 := Aside0.mk (Kd.C_below HV2.out hb); replace HZX1 := Aside0.mk (blk_below HZX1.out hb); replace HZX2 := Aside0.mk (blk_below HZX2.out hb); replace HV3 := Aside0.mk (Kd.C_below HV3.out hb); replace HB := Aside0.mk (below_then HB.out HB.out.size hb)
  have HV4 := Aside0.mk hv4; have HK4 := Aside0.mk hk4
  clear hb hv hk4 hv4 HS4
  clear y0 y1
  go_wp2_with fail
  ((with_reducible refine (HU3.out _ HC.out).mono ?_); rintro e w12 ⟨rfl, hb⟩)
  replace HG := Aside0.mk (blk_below HG.out hb); replace HH := Aside0.mk (blk_below HH.out hb); replace HC := Aside0.mk (Kd.C_below HC.out hb); replace HV1 := Aside0.mk (Kd.C_below HV1.out hb); replace HV2 := Aside0.mk (Kd.C_below HV2.out hb); replace HZX1 := Aside0.mk (blk_below HZX1.out hb); replace HZX2 := Aside0.mk (blk_below HZX2.out hb); replace HV3 := Aside0.mk (Kd.C_below HV3.out hb); replace HV4 := Aside0.mk (Kd.C_below HV4.out hb); replace HB := Aside0.mk (below_then HB.out HB.out.size hb)
  clear hb HU3
  go_upto_region 10 with (((with_reducible refine gate_dst (N := 19) rfl ?_); refine box_event ?hg (N := 19) ?hd (cs := #[.int .i64 0, .string ⟨#[]⟩]) (t := 26) ?hr ?_; (case hd => rfl); (case hg => rfl); (case hr => first | (go_simp; done) | (go_simp; rfl)); intro X3 hgX3 w13 hbox hb; have BKX3 := Aside0.mk hbox; have BHX3 := Aside0.mk hb; have GEX3 := Aside0.mk hgX3; clear hb hbox hgX3; have z0 : w13.cell? ⟨X3, 0, none⟩ = some (.int .i64 0) := (blk_cell BKX3.out 0).trans rfl; have z1 : w13.cell? ⟨X3, 1, none⟩ = some (.string ⟨#[]⟩) := (blk_cell BKX3.out 1).trans rfl; have f0 : w13.frozen? ⟨X3, 0, none⟩ = false := blk_frozen BKX3.out 0; have f1 : w13.frozen? ⟨X3, 1, none⟩ = false := blk_frozen BKX3.out 1))
  have HBx : Aside0 (Below w12.heap.size w12 ((w13.setCell ⟨X3, 0, none⟩ (.int .i64 r0)).setCell ⟨X3, 1, none⟩ (.string r1))) := ⟨below2 BHX3.out (by have := GEX3.out; omega) (.int .i64 r0) (.string r1)⟩
  have HZX3 := Aside0.mk (put2 BKX3.out (.int .i64 r0) (.string r1))
  clear BKX3 BHX3 GEX3 z0 f0 z1 f1
  generalize ((w13.setCell ⟨X3, 0, none⟩ (.int .i64 r0)).setCell ⟨X3, 1, none⟩ (.string r1)) = w14 at HBx HZX3 ⊢
  have hb := HBx.out
  replace HG := Aside0.mk (blk_below HG.out hb); replace HH := Aside0.mk (blk_below HH.out hb); replace HC := Aside0.mk (Kd.C_below HC.out hb); replace HV1 := Aside0.mk (Kd.C_below HV1.out hb); replace HV2 := Aside0.mk (Kd.C_below HV2.out hb); replace HZX1 := Aside0.mk (blk_below HZX1.out hb); replace HZX2 := Aside0.mk (blk_below HZX2.out hb); replace HV3 := Aside0.mk (Kd.C_below HV3.out hb); replace HV4 := Aside0.mk (Kd.C_below HV4.out hb); replace HB := Aside0.mk (below_then HB.out HB.out.size hb)
  clear hb HBx
  go_wp2_with fail
  ((with_reducible refine (HU4.out _ HC.out).mono ?_); rintro e w15 ⟨rfl, hb⟩)
  replace HG := Aside0.mk (blk_below HG.out hb); replace HH := Aside0.mk (blk_below HH.out hb); replace HC := Aside0.mk (Kd.C_below HC.out hb); replace HV1 := Aside0.mk (Kd.C_below HV1.out hb); replace HV2 := Aside0.mk (Kd.C_below HV2.out hb); replace HZX1 := Aside0.mk (blk_below HZX1.out hb); replace HZX2 := Aside0.mk (blk_below HZX2.out hb); replace HV3 := Aside0.mk (Kd.C_below HV3.out hb); replace HV4 := Aside0.mk (Kd.C_below HV4.out hb); replace HZX3 := Aside0.mk (blk_below HZX3.out hb); replace HB := Aside0.mk (below_then HB.out HB.out.size hb)
  clear hb HU4
  go_upto_region 11 with (((with_reducible refine gate_dst (N := 21) rfl ?_); refine box_event ?hg (N := 21) ?hd (cs := #[.int .i64 0, .string ⟨#[]⟩]) (t := 26) ?hr ?_; (case hd => rfl); (case hg => rfl); (case hr => first | (go_simp; done) | (go_simp; rfl)); intro X4 hgX4 w16 hbox hb; have BKX4 := Aside0.mk hbox; have BHX4 := Aside0.mk hb; have GEX4 := Aside0.mk hgX4; clear hb hbox hgX4; have z0 : w16.cell? ⟨X4, 0, none⟩ = some (.int .i64 0) := (blk_cell BKX4.out 0).trans rfl; have z1 : w16.cell? ⟨X4, 1, none⟩ = some (.string ⟨#[]⟩) := (blk_cell BKX4.out 1).trans rfl; have f0 : w16.frozen? ⟨X4, 0, none⟩ = false := blk_frozen BKX4.out 0; have f1 : w16.frozen? ⟨X4, 1, none⟩ = false := blk_frozen BKX4.out 1))
  have HBx : Aside0 (Below w15.heap.size w15 ((w16.setCell ⟨X4, 0, none⟩ (.int .i64 r0)).setCell ⟨X4, 1, none⟩ (.string r1))) := ⟨below2 BHX4.out (by have := GEX4.out; omega) (.int .i64 r0) (.string r1)⟩
  have HZX4 := Aside0.mk (put2 BKX4.out (.int .i64 r0) (.string r1))
  clear BKX4 BHX4 GEX4 z0 f0 z1 f1
  generalize ((w16.setCell ⟨X4, 0, none⟩ (.int .i64 r0)).setCell ⟨X4, 1, none⟩ (.string r1)) = w17 at HBx HZX4 ⊢
  have hb := HBx.out
  replace HG := Aside0.mk (blk_below HG.out hb); replace HH := Aside0.mk (blk_below HH.out hb); replace HC := Aside0.mk (Kd.C_below HC.out hb); replace HV1 := Aside0.mk (Kd.C_below HV1.out hb); replace HV2 := Aside0.mk (Kd.C_below HV2.out hb); replace HZX1 := Aside0.mk (blk_below HZX1.out hb); replace HZX2 := Aside0.mk (blk_below HZX2.out hb); replace HV3 := Aside0.mk (Kd.C_below HV3.out hb); replace HV4 := Aside0.mk (Kd.C_below HV4.out hb); replace HZX3 := Aside0.mk (blk_below HZX3.out hb); replace HB := Aside0.mk (below_then HB.out HB.out.size hb)
  clear hb HBx
  have heq1 : ∀ W : World, (binOp .eql 24 (.agg #[.int .i64 m0, .int .i64 m1, .int .i64 m2, .int .i64 m3, .int .i64 m4, .int .i64 m5, .int .i64 m6, .int .i64 m7, .int .i64 m8, .int .i64 m9, .int .i64 m10, .int .i64 m11, .int .i64 m12]) (.agg #[.int .i64 m0, .int .i64 m1, .int .i64 m2, .int .i64 m3, .int .i64 m4, .int .i64 m5, .int .i64 m6, .int .i64 m7, .int .i64 m8, .int .i64 m9, .int .i64 m10, .int .i64 m11, .int .i64 m12])).run Tryd.prog W = .ok (.bool true) W := ino_eql m0 m1 m2 m3 m4 m5 m6 m7 m8 m9 m10 m11 m12
  have heq2 : ∀ W : World, (binOp .eql 26 (.agg #[.int .i64 r0, .string r1]) (.agg #[.int .i64 r0, .string r1])).run Tryd.prog W = .ok (.bool true) W := dent_eql r0 r1
  refine start_ (n := 48) (S := (fun w' => w'.heap[X1]? = some (.cells #[.int .i64 m0, .int .i64 m1, .int .i64 m2, .int .i64 m3, .int .i64 m4, .int .i64 m5, .int .i64 m6, .int .i64 m7, .int .i64 m8, .int .i64 m9, .int .i64 m10, .int .i64 m11, .int .i64 m12] 24 (0, 0)) ∧ w'.heap[X2]? = some (.cells #[.int .i64 m0, .int .i64 m1, .int .i64 m2, .int .i64 m3, .int .i64 m4, .int .i64 m5, .int .i64 m6, .int .i64 m7, .int .i64 m8, .int .i64 m9, .int .i64 m10, .int .i64 m11, .int .i64 m12] 24 (0, 0)) ∧ w'.heap[X3]? = some (.cells #[.int .i64 r0, .string r1] 26 (0, 0)) ∧ w'.heap[X4]? = some (.cells #[.int .i64 r0, .string r1] 26 (0, 0)) ∧ w'.heap[gh]? = some (.cells #[.int .i64 di, .string ds] 26 (0, 0)))) (ds := [44]) #[false, false, false, false, false, false, false, false, false, false, false, false, false, false, false, false, false, false, false, false, false, false, false, false, false, false, false, false, false, false, false, false, false, false, false, false, false, false, false, false, false, false, false, false, false, false, false, false] (by kernel_rfl) rfl rfl ⟨blk_drew HZX1.out, blk_drew HZX2.out, blk_drew HZX3.out, blk_drew HZX4.out, blk_drew HH.out⟩ (fun hHeld => ?_); refine with_tabW inodes.tab11 inodes.bits11 (fun HT_ HW_ => ?_)
  have hb : Below w17.heap.size w17 w17.drew := below_drew (Below.refl _ _)
  replace HG := Aside0.mk (blk_below HG.out hb); replace HH := Aside0.mk (blk_below HH.out hb); replace HC := Aside0.mk (Kd.C_below HC.out hb); replace HV1 := Aside0.mk (Kd.C_below HV1.out hb); replace HV2 := Aside0.mk (Kd.C_below HV2.out hb); replace HZX1 := Aside0.mk (blk_below HZX1.out hb); replace HZX2 := Aside0.mk (blk_below HZX2.out hb); replace HV3 := Aside0.mk (Kd.C_below HV3.out hb); replace HV4 := Aside0.mk (Kd.C_below HV4.out hb); replace HZX3 := Aside0.mk (blk_below HZX3.out hb); replace HZX4 := Aside0.mk (blk_below HZX4.out hb); replace HB := Aside0.mk (below_then HB.out HB.out.size hb)
  clear hb
  generalize w17.drew = wd at HG HH HC HV1 HV2 HZX1 HZX2 HV3 HV4 HZX3 HZX4 HB hHeld ⊢
  refine pure_ (i := 0) (N := (some 65)) (v := ?_) (a' := ?_) #[true, false, false, false, false, false, false, false, false, false, false, false, false, false, false, false, false, false, false, false, false, false, false, false, false, false, false, false, false, false, false, false, false, false, false, false, false, false, false, false, false, false, false, false, false, false, false, false] rfl rfl (any_of HT_.out (by kernel_rfl)) (fun _ _ _ h => h) (Or.inl ⟨by rfl, ?_⟩) ?_ ?_
  rotate_left
  · intro w'
    go_simp
    with_reducible rfl
  rotate_left
  · simp only [Act.put, List.setIfInBounds_toArray, List.set_cons_zero, List.set_cons_succ, i64_w, i32_w]
    rfl
  refine pure_ (i := 1) (N := (some 66)) (v := ?_) (a' := ?_) #[true, true, false, false, false, false, false, false, false, false, false, false, false, false, false, false, false, false, false, false, false, false, false, false, false, false, false, false, false, false, false, false, false, false, false, false, false, false, false, false, false, false, false, false, false, false, false, false] rfl rfl (any_of HT_.out (by kernel_rfl)) (fun _ _ _ h => h) (Or.inl ⟨by rfl, ?_⟩) ?_ ?_
  rotate_left
  · intro w'
    go_simp
    with_reducible rfl
  rotate_left
  · simp only [Act.put, List.setIfInBounds_toArray, List.set_cons_zero, List.set_cons_succ, i64_w, i32_w]
    rfl
  refine pure_ (i := 2) (N := (some 67)) (v := ?_) (a' := ?_) #[true, true, true, false, false, false, false, false, false, false, false, false, false, false, false, false, false, false, false, false, false, false, false, false, false, false, false, false, false, false, false, false, false, false, false, false, false, false, false, false, false, false, false, false, false, false, false, false] rfl rfl (any_of HT_.out (by kernel_rfl)) (fun _ _ _ h => h) (Or.inl ⟨by rfl, ?_⟩) ?_ ?_
  rotate_left
  · intro w'
    go_simp
    with_reducible rfl
  rotate_left
  · simp only [Act.put, List.setIfInBounds_toArray, List.set_cons_zero, List.set_cons_succ, i64_w, i32_w]
    rfl
  refine pure_ (i := 3) (N := (some 68)) (v := ?_) (a' := ?_) #[true, true, true, true, false, false, false, false, false, false, false, false, false, false, false, false, false, false, false, false, false, false, false, false, false, false, false, false, false, false, false, false, false, false, false, false, false, false, false, false, false, false, false, false, false, false, false, false] rfl rfl (any_of HT_.out (by kernel_rfl)) (fun _ _ _ h => h) (Or.inl ⟨by rfl, ?_⟩) ?_ ?_
  rotate_left
  · intro w'
    go_simp
    with_reducible rfl
  rotate_left
  · simp only [Act.put, List.setIfInBounds_toArray, List.set_cons_zero, List.set_cons_succ, i64_w, i32_w]
    rfl
  refine pure_ (i := 4) (N := (some 69)) (v := ?_) (a' := ?_) #[true, true, true, true, true, false, false, false, false, false, false, false, false, false, false, false, false, false, false, false, false, false, false, false, false, false, false, false, false, false, false, false, false, false, false, false, false, false, false, false, false, false, false, false, false, false, false, false] rfl rfl (any_of HT_.out (by kernel_rfl)) (fun _ _ _ h => h) (Or.inl ⟨by rfl, ?_⟩) ?_ ?_
  rotate_left
  · intro w'
    go_simp
    with_reducible rfl
  rotate_left
  · simp only [Act.put, List.setIfInBounds_toArray, List.set_cons_zero, List.set_cons_succ, i64_w, i32_w]
    rfl
  refine pure_ (i := 5) (N := (some 70)) (v := ?_) (a' := ?_) #[true, true, true, true, true, true, false, false, false, false, false, false, false, false, false, false, false, false, false, false, false, false, false, false, false, false, false, false, false, false, false, false, false, false, false, false, false, false, false, false, false, false, false, false, false, false, false, false] rfl rfl (any_of HT_.out (by kernel_rfl)) (fun _ _ _ h => h) (Or.inl ⟨by rfl, ?_⟩) ?_ ?_
  rotate_left
  · intro w'
    go_simp
    with_reducible rfl
  rotate_left
  · simp only [Act.put, List.setIfInBounds_toArray, List.set_cons_zero, List.set_cons_succ, i64_w, i32_w]
    rfl
  refine one_ (i := 6) (N := (some 71)) #[true, true, true, true, true, true, true, false, false, false, false, false, false, false, false, false, false, false, false, false, false, false, false, false, false, false, false, false, false, false, false, false, false, false, false, false, false, false, false, false, false, false, false, false, false, false, false, false] rfl rfl (one_of HT_.out (by kernel_rfl)) (by decide) (fun K hK => ?_)
  refine goes_ Tryd.func15 (by kernel_rfl) rfl #[.slice A1 l1.length k1, .slice A2 l1.length k2] (by rfl) rfl rfl (by simp [Act.eval]) ?_
  ((refine (skerryref01_SameBytes.calls A1 k1 l1 A2 k2 l1 true wd HV1.out HK1.out HV2.out HK2.out (same_bytesI l1)).mono ?_); rintro e w18 ⟨rfl, hd⟩)
  refine ⟨_, rfl, ?_⟩
  have hb := hd.below
  replace HG := Aside0.mk (blk_below HG.out hb); replace HH := Aside0.mk (blk_below HH.out hb); replace HC := Aside0.mk (Kd.C_below HC.out hb); replace HV1 := Aside0.mk (Kd.C_below HV1.out hb); replace HV2 := Aside0.mk (Kd.C_below HV2.out hb); replace HZX1 := Aside0.mk (blk_below HZX1.out hb); replace HZX2 := Aside0.mk (blk_below HZX2.out hb); replace HV3 := Aside0.mk (Kd.C_below HV3.out hb); replace HV4 := Aside0.mk (Kd.C_below HV4.out hb); replace HZX3 := Aside0.mk (blk_below HZX3.out hb); replace HZX4 := Aside0.mk (blk_below HZX4.out hb); replace HB := Aside0.mk (below_then HB.out HB.out.size hb)
  clear hb hd hHeld
  refine hK.out _ _ ⟨HZX1.out, HZX2.out, HZX3.out, HZX4.out, HH.out⟩ (fun hHeld => ?_)
  clear hK K
  refine norm_ (a' := ?_) ?_ ?_
  rotate_left
  · show Act.put _ (some 71) _ = _
    simp only [Act.put, List.setIfInBounds_toArray, List.set_cons_zero, List.set_cons_succ, i64_w, i32_w]
    rfl
  refine pure_ (i := 7) (N := (some 72)) (v := ?_) (a' := ?_) #[true, true, true, true, true, true, true, true, false, false, false, false, false, false, false, false, false, false, false, false, false, false, false, false, false, false, false, false, false, false, false, false, false, false, false, false, false, false, false, false, false, false, false, false, false, false, false, false] rfl rfl (any_of HT_.out (by kernel_rfl)) (fun _ _ _ h => h) (Or.inl ⟨by rfl, ?_⟩) ?_ ?_
  rotate_left
  · intro w'
    go_simp
    with_reducible rfl
  rotate_left
  · simp only [Act.put, List.setIfInBounds_toArray, List.set_cons_zero, List.set_cons_succ, i64_w, i32_w]
    rfl
  refine pure_ (i := 8) (N := (some 73)) (v := ?_) (a' := ?_) #[true, true, true, true, true, true, true, true, true, false, false, false, false, false, false, false, false, false, false, false, false, false, false, false, false, false, false, false, false, false, false, false, false, false, false, false, false, false, false, false, false, false, false, false, false, false, false, false] rfl rfl (any_of HT_.out (by kernel_rfl)) (fun _ _ _ h => h) (Or.inl ⟨by rfl, ?_⟩) ?_ ?_
  rotate_left
  · intro w'
    go_simp
    with_reducible rfl
  rotate_left
  · simp only [Act.put, List.setIfInBounds_toArray, List.set_cons_zero, List.set_cons_succ, i64_w, i32_w]
    rfl
  refine take_ (i := 9) (N := (some 74)) (v := ?_) (a' := ?_) #[true, true, true, true, true, true, true, true, true, true, false, false, false, false, false, false, false, false, false, false, false, false, false, false, false, false, false, false, false, false, false, false, false, false, false, false, false, false, false, false, false, false, false, false, false, false, false, false] rfl rfl (take_ofW HT_.out HW_.out (by kernel_rfl)) (fun _ _ _ h => h) (Or.inl ⟨by rfl, ?_⟩) hHeld ?_ ?_
  rotate_left
  · rintro w' ⟨b1, b2, b3, b4, b5⟩
    have a0 : w'.cell? ⟨X1, 0, none⟩ = some (.int .i64 m0) := (blk_cell b1 0).trans rfl
    have a1 : w'.cell? ⟨X1, 1, none⟩ = some (.int .i64 m1) := (blk_cell b1 1).trans rfl
    have a2 : w'.cell? ⟨X1, 2, none⟩ = some (.int .i64 m2) := (blk_cell b1 2).trans rfl
    have a3 : w'.cell? ⟨X1, 3, none⟩ = some (.int .i64 m3) := (blk_cell b1 3).trans rfl
    have a4 : w'.cell? ⟨X1, 4, none⟩ = some (.int .i64 m4) := (blk_cell b1 4).trans rfl
    have a5 : w'.cell? ⟨X1, 5, none⟩ = some (.int .i64 m5) := (blk_cell b1 5).trans rfl
    have a6 : w'.cell? ⟨X1, 6, none⟩ = some (.int .i64 m6) := (blk_cell b1 6).trans rfl
    have a7 : w'.cell? ⟨X1, 7, none⟩ = some (.int .i64 m7) := (blk_cell b1 7).trans rfl
    have a8 : w'.cell? ⟨X1, 8, none⟩ = some (.int .i64 m8) := (blk_cell b1 8).trans rfl
    have a9 : w'.cell? ⟨X1, 9, none⟩ = some (.int .i64 m9) := (blk_cell b1 9).trans rfl
    have a10 : w'.cell? ⟨X1, 10, none⟩ = some (.int .i64 m10) := (blk_cell b1 10).trans rfl
    have a11 : w'.cell? ⟨X1, 11, none⟩ = some (.int .i64 m11) := (blk_cell b1 11).trans rfl
    have a12 : w'.cell? ⟨X1, 12, none⟩ = some (.int .i64 m12) := (blk_cell b1 12).trans rfl
    clear b1 b2 b3 b4 b5
    go_simp
    with_reducible rfl
  rotate_left
  · simp only [Act.put, List.setIfInBounds_toArray, List.set_cons_zero, List.set_cons_succ, i64_w, i32_w]
    rfl
  refine take_ (i := 10) (N := (some 75)) (v := ?_) (a' := ?_) #[true, true, true, true, true, true, true, true, true, true, true, false, false, false, false, false, false, false, false, false, false, false, false, false, false, false, false, false, false, false, false, false, false, false, false, false, false, false, false, false, false, false, false, false, false, false, false, false] rfl rfl (take_ofW HT_.out HW_.out (by kernel_rfl)) (fun _ _ _ h => h) (Or.inl ⟨by rfl, ?_⟩) hHeld ?_ ?_
  rotate_left
  · rintro w' ⟨b1, b2, b3, b4, b5⟩
    have a0 : w'.cell? ⟨X2, 0, none⟩ = some (.int .i64 m0) := (blk_cell b2 0).trans rfl
    have a1 : w'.cell? ⟨X2, 1, none⟩ = some (.int .i64 m1) := (blk_cell b2 1).trans rfl
    have a2 : w'.cell? ⟨X2, 2, none⟩ = some (.int .i64 m2) := (blk_cell b2 2).trans rfl
    have a3 : w'.cell? ⟨X2, 3, none⟩ = some (.int .i64 m3) := (blk_cell b2 3).trans rfl
    have a4 : w'.cell? ⟨X2, 4, none⟩ = some (.int .i64 m4) := (blk_cell b2 4).trans rfl
    have a5 : w'.cell? ⟨X2, 5, none⟩ = some (.int .i64 m5) := (blk_cell b2 5).trans rfl
    have a6 : w'.cell? ⟨X2, 6, none⟩ = some (.int .i64 m6) := (blk_cell b2 6).trans rfl
    have a7 : w'.cell? ⟨X2, 7, none⟩ = some (.int .i64 m7) := (blk_cell b2 7).trans rfl
    have a8 : w'.cell? ⟨X2, 8, none⟩ = some (.int .i64 m8) := (blk_cell b2 8).trans rfl
    have a9 : w'.cell? ⟨X2, 9, none⟩ = some (.int .i64 m9) := (blk_cell b2 9).trans rfl
    have a10 : w'.cell? ⟨X2, 10, none⟩ = some (.int .i64 m10) := (blk_cell b2 10).trans rfl
    have a11 : w'.cell? ⟨X2, 11, none⟩ = some (.int .i64 m11) := (blk_cell b2 11).trans rfl
    have a12 : w'.cell? ⟨X2, 12, none⟩ = some (.int .i64 m12) := (blk_cell b2 12).trans rfl
    clear b1 b2 b3 b4 b5
    go_simp
    with_reducible rfl
  rotate_left
  · simp only [Act.put, List.setIfInBounds_toArray, List.set_cons_zero, List.set_cons_succ, i64_w, i32_w]
    rfl
  refine pure_ (i := 11) (N := (some 76)) (v := ?_) (a' := ?_) #[true, true, true, true, true, true, true, true, true, true, true, true, false, false, false, false, false, false, false, false, false, false, false, false, false, false, false, false, false, false, false, false, false, false, false, false, false, false, false, false, false, false, false, false, false, false, false, false] rfl rfl (any_of HT_.out (by kernel_rfl)) (fun _ _ _ h => h) (Or.inl ⟨by rfl, ?_⟩) ?_ ?_
  rotate_left
  · intro w'
    go_simp
    with_reducible rfl
  rotate_left
  · simp only [Act.put, List.setIfInBounds_toArray, List.set_cons_zero, List.set_cons_succ, i64_w, i32_w]
    rfl
  refine pure_ (i := 12) (N := (some 77)) (v := ?_) (a' := ?_) #[true, true, true, true, true, true, true, true, true, true, true, true, true, false, false, false, false, false, false, false, false, false, false, false, false, false, false, false, false, false, false, false, false, false, false, false, false, false, false, false, false, false, false, false, false, false, false, false] rfl rfl (any_of HT_.out (by kernel_rfl)) (fun _ _ _ h => h) (Or.inl ⟨by rfl, ?_⟩) ?_ ?_
  rotate_left
  · intro w'
    go_simp
    with_reducible rfl
  rotate_left
  · simp only [Act.put, List.setIfInBounds_toArray, List.set_cons_zero, List.set_cons_succ, i64_w, i32_w]
    rfl
  refine pure_ (i := 13) (N := (some 78)) (v := ?_) (a' := ?_) #[true, true, true, true, true, true, true, true, true, true, true, true, true, true, false, false, false, false, false, false, false, false, false, false, false, false, false, false, false, false, false, false, false, false, false, false, false, false, false, false, false, false, false, false, false, false, false, false] rfl rfl (any_of HT_.out (by kernel_rfl)) (fun _ _ _ h => h) (Or.inl ⟨by rfl, ?_⟩) ?_ ?_
  rotate_left
  · intro w'
    go_simp
    with_reducible rfl
  rotate_left
  · simp only [Act.put, List.setIfInBounds_toArray, List.set_cons_zero, List.set_cons_succ, i64_w, i32_w]
    rfl
  refine pure_ (i := 14) (N := (some 79)) (v := ?_) (a' := ?_) #[true, true, true, true, true, true, true, true, true, true, true, true, true, true, true, false, false, false, false, false, false, false, false, false, false, false, false, false, false, false, false, false, false, false, false, false, false, false, false, false, false, false, false, false, false, false, false, false] rfl rfl (any_of HT_.out (by kernel_rfl)) (fun _ _ _ h => h) (Or.inl ⟨by rfl, ?_⟩) ?_ ?_
  rotate_left
  · intro w'
    go_simp
    with_reducible rfl
  rotate_left
  · simp only [Act.put, List.setIfInBounds_toArray, List.set_cons_zero, List.set_cons_succ, i64_w, i32_w]
    rfl
  refine pure_ (i := 15) (N := (some 80)) (v := ?_) (a' := ?_) #[true, true, true, true, true, true, true, true, true, true, true, true, true, true, true, true, false, false, false, false, false, false, false, false, false, false, false, false, false, false, false, false, false, false, false, false, false, false, false, false, false, false, false, false, false, false, false, false] rfl rfl (any_of HT_.out (by kernel_rfl)) (fun _ _ _ h => h) (Or.inl ⟨by rfl, ?_⟩) ?_ ?_
  rotate_left
  · intro w'
    go_simp
    with_reducible rfl
  rotate_left
  · simp only [Act.put, List.setIfInBounds_toArray, List.set_cons_zero, List.set_cons_succ, i64_w, i32_w]
    rfl
  refine pure_ (i := 16) (N := (some 81)) (v := ?_) (a' := ?_) #[true, true, true, true, true, true, true, true, true, true, true, true, true, true, true, true, true, false, false, false, false, false, false, false, false, false, false, false, false, false, false, false, false, false, false, false, false, false, false, false, false, false, false, false, false, false, false, false] rfl rfl (any_of HT_.out (by kernel_rfl)) (fun _ _ _ h => h) (Or.inl ⟨by rfl, ?_⟩) ?_ ?_
  rotate_left
  · intro w'
    go_simp
    with_reducible rfl
  rotate_left
  · simp only [Act.put, List.setIfInBounds_toArray, List.set_cons_zero, List.set_cons_succ, i64_w, i32_w]
    rfl
  refine pure_ (i := 17) (N := (some 82)) (v := ?_) (a' := ?_) #[true, true, true, true, true, true, true, true, true, true, true, true, true, true, true, true, true, true, false, false, false, false, false, false, false, false, false, false, false, false, false, false, false, false, false, false, false, false, false, false, false, false, false, false, false, false, false, false] rfl rfl (any_of HT_.out (by kernel_rfl)) (fun _ _ _ h => h) (Or.inl ⟨by rfl, ?_⟩) ?_ ?_
  rotate_left
  · intro w'
    go_simp
    with_reducible rfl
  rotate_left
  · simp only [Act.put, List.setIfInBounds_toArray, List.set_cons_zero, List.set_cons_succ, i64_w, i32_w]
    rfl
  refine pure_ (i := 18) (N := (some 83)) (v := ?_) (a' := ?_) #[true, true, true, true, true, true, true, true, true, true, true, true, true, true, true, true, true, true, true, false, false, false, false, false, false, false, false, false, false, false, false, false, false, false, false, false, false, false, false, false, false, false, false, false, false, false, false, false] rfl rfl (any_of HT_.out (by kernel_rfl)) (fun _ _ _ h => h) (Or.inl ⟨by rfl, ?_⟩) ?_ ?_
  rotate_left
  · intro w'
    go_simp
    with_reducible rfl
  rotate_left
  · simp only [Act.put, List.setIfInBounds_toArray, List.set_cons_zero, List.set_cons_succ, i64_w, i32_w]
    rfl
  refine pure_ (i := 19) (N := (some 84)) (v := ?_) (a' := ?_) #[true, true, true, true, true, true, true, true, true, true, true, true, true, true, true, true, true, true, true, true, false, false, false, false, false, false, false, false, false, false, false, false, false, false, false, false, false, false, false, false, false, false, false, false, false, false, false, false] rfl rfl (any_of HT_.out (by kernel_rfl)) (fun _ _ _ h => h) (Or.inl ⟨by rfl, ?_⟩) ?_ ?_
  rotate_left
  · intro w'
    go_simp
    with_reducible rfl
  rotate_left
  · simp only [Act.put, List.setIfInBounds_toArray, List.set_cons_zero, List.set_cons_succ, i64_w, i32_w]
    rfl
  refine pure_ (i := 20) (N := (some 85)) (v := ?_) (a' := ?_) #[true, true, true, true, true, true, true, true, true, true, true, true, true, true, true, true, true, true, true, true, true, false, false, false, false, false, false, false, false, false, false, false, false, false, false, false, false, false, false, false, false, false, false, false, false, false, false, false] rfl rfl (any_of HT_.out (by kernel_rfl)) (fun _ _ _ h => h) (Or.inl ⟨by rfl, ?_⟩) ?_ ?_
  rotate_left
  · intro w'
    go_simp
    with_reducible rfl
  rotate_left
  · simp only [Act.put, List.setIfInBounds_toArray, List.set_cons_zero, List.set_cons_succ, i64_w, i32_w]
    rfl
  refine pure_ (i := 21) (N := (some 86)) (v := ?_) (a' := ?_) #[true, true, true, true, true, true, true, true, true, true, true, true, true, true, true, true, true, true, true, true, true, true, false, false, false, false, false, false, false, false, false, false, false, false, false, false, false, false, false, false, false, false, false, false, false, false, false, false] rfl rfl (any_of HT_.out (by kernel_rfl)) (fun _ _ _ h => h) (Or.inl ⟨by rfl, ?_⟩) ?_ ?_
  rotate_left
  · intro w'
    go_simp
    with_reducible rfl
  rotate_left
  · simp only [Act.put, List.setIfInBounds_toArray, List.set_cons_zero, List.set_cons_succ, i64_w, i32_w]
    rfl
  refine pure_ (i := 22) (N := (some 87)) (v := ?_) (a' := ?_) #[true, true, true, true, true, true, true, true, true, true, true, true, true, true, true, true, true, true, true, true, true, true, true, false, false, false, false, false, false, false, false, false, false, false, false, false, false, false, false, false, false, false, false, false, false, false, false, false] rfl rfl (any_of HT_.out (by kernel_rfl)) (fun _ _ _ h => h) (Or.inl ⟨by rfl, ?_⟩) ?_ ?_
  rotate_left
  · intro w'
    go_simp
    with_reducible rfl
  rotate_left
  · simp only [Act.put, List.setIfInBounds_toArray, List.set_cons_zero, List.set_cons_succ, i64_w, i32_w]
    rfl
  refine pure_ (i := 23) (N := (some 88)) (v := ?_) (a' := ?_) #[true, true, true, true, true, true, true, true, true, true, true, true, true, true, true, true, true, true, true, true, true, true, true, true, false, false, false, false, false, false, false, false, false, false, false, false, false, false, false, false, false, false, false, false, false, false, false, false] rfl rfl (any_of HT_.out (by kernel_rfl)) (fun _ _ _ h => h) (Or.inl ⟨by rfl, ?_⟩) ?_ ?_
  rotate_left
  · intro w'
    go_simp
    with_reducible rfl
  rotate_left
  · simp only [Act.put, List.setIfInBounds_toArray, List.set_cons_zero, List.set_cons_succ, i64_w, i32_w]
    rfl
  refine pure_ (i := 24) (N := (some 89)) (v := ?_) (a' := ?_) #[true, true, true, true, true, true, true, true, true, true, true, true, true, true, true, true, true, true, true, true, true, true, true, true, true, false, false, false, false, false, false, false, false, false, false, false, false, false, false, false, false, false, false, false, false, false, false, false] rfl rfl (any_of HT_.out (by kernel_rfl)) (fun _ _ _ h => h) (Or.inl ⟨by rfl, ?_⟩) ?_ ?_
  rotate_left
  · intro w'
    go_simp
    with_reducible rfl
  rotate_left
  · simp only [Act.put, List.setIfInBounds_toArray, List.set_cons_zero, List.set_cons_succ, i64_w, i32_w]
    rfl
  refine pure_ (i := 25) (N := (some 90)) (v := ?_) (a' := ?_) #[true, true, true, true, true, true, true, true, true, true, true, true, true, true, true, true, true, true, true, true, true, true, true, true, true, true, false, false, false, false, false, false, false, false, false, false, false, false, false, false, false, false, false, false, false, false, false, false] rfl rfl (any_of HT_.out (by kernel_rfl)) (fun _ _ _ h => h) (Or.inl ⟨by rfl, ?_⟩) ?_ ?_
  rotate_left
  · intro w'
    go_simp
    with_reducible rfl
  rotate_left
  · simp only [Act.put, List.setIfInBounds_toArray, List.set_cons_zero, List.set_cons_succ, i64_w, i32_w]
    rfl
  refine one_ (i := 26) (N := (some 91)) #[true, true, true, true, true, true, true, true, true, true, true, true, true, true, true, true, true, true, true, true, true, true, true, true, true, true, true, false, false, false, false, false, false, false, false, false, false, false, false, false, false, false, false, false, false, false, false, false] rfl rfl (one_of HT_.out (by kernel_rfl)) (by decide) (fun K hK => ?_)
  refine goes_ Tryd.func15 (by kernel_rfl) rfl #[.slice A3 l2.length k3, .slice A4 l2.length k4] (by rfl) rfl rfl (by simp [Act.eval]) ?_
  ((refine (skerryref01_SameBytes.calls A3 k3 l2 A4 k4 l2 true w18 HV3.out HK3.out HV4.out HK4.out (same_bytesI l2)).mono ?_); rintro e w19 ⟨rfl, hd⟩)
  refine ⟨_, rfl, ?_⟩
  have hb := hd.below
  replace HG := Aside0.mk (blk_below HG.out hb); replace HH := Aside0.mk (blk_below HH.out hb); replace HC := Aside0.mk (Kd.C_below HC.out hb); replace HV1 := Aside0.mk (Kd.C_below HV1.out hb); replace HV2 := Aside0.mk (Kd.C_below HV2.out hb); replace HZX1 := Aside0.mk (blk_below HZX1.out hb); replace HZX2 := Aside0.mk (blk_below HZX2.out hb); replace HV3 := Aside0.mk (Kd.C_below HV3.out hb); replace HV4 := Aside0.mk (Kd.C_below HV4.out hb); replace HZX3 := Aside0.mk (blk_below HZX3.out hb); replace HZX4 := Aside0.mk (blk_below HZX4.out hb); replace HB := Aside0.mk (below_then HB.out HB.out.size hb)
  clear hb hd hHeld
  refine hK.out _ _ ⟨HZX1.out, HZX2.out, HZX3.out, HZX4.out, HH.out⟩ (fun hHeld => ?_)
  clear hK K
  refine norm_ (a' := ?_) ?_ ?_
  rotate_left
  · show Act.put _ (some 91) _ = _
    simp only [Act.put, List.setIfInBounds_toArray, List.set_cons_zero, List.set_cons_succ, i64_w, i32_w]
    rfl
  refine pure_ (i := 27) (N := (some 92)) (v := ?_) (a' := ?_) #[true, true, true, true, true, true, true, true, true, true, true, true, true, true, true, true, true, true, true, true, true, true, true, true, true, true, true, true, false, false, false, false, false, false, false, false, false, false, false, false, false, false, false, false, false, false, false, false] rfl rfl (any_of HT_.out (by kernel_rfl)) (fun _ _ _ h => h) (Or.inl ⟨by rfl, ?_⟩) ?_ ?_
  rotate_left
  · intro w'
    go_simp
    with_reducible rfl
  rotate_left
  · simp only [Act.put, List.setIfInBounds_toArray, List.set_cons_zero, List.set_cons_succ, i64_w, i32_w]
    rfl
  refine pure_ (i := 28) (N := (some 93)) (v := ?_) (a' := ?_) #[true, true, true, true, true, true, true, true, true, true, true, true, true, true, true, true, true, true, true, true, true, true, true, true, true, true, true, true, true, false, false, false, false, false, false, false, false, false, false, false, false, false, false, false, false, false, false, false] rfl rfl (any_of HT_.out (by kernel_rfl)) (fun _ _ _ h => h) (Or.inl ⟨by rfl, ?_⟩) ?_ ?_
  rotate_left
  · intro w'
    go_simp
    with_reducible rfl
  rotate_left
  · simp only [Act.put, List.setIfInBounds_toArray, List.set_cons_zero, List.set_cons_succ, i64_w, i32_w]
    rfl
  refine take_ (i := 29) (N := (some 94)) (v := ?_) (a' := ?_) #[true, true, true, true, true, true, true, true, true, true, true, true, true, true, true, true, true, true, true, true, true, true, true, true, true, true, true, true, true, true, false, false, false, false, false, false, false, false, false, false, false, false, false, false, false, false, false, false] rfl rfl (take_ofW HT_.out HW_.out (by kernel_rfl)) (fun _ _ _ h => h) (Or.inl ⟨by rfl, ?_⟩) hHeld ?_ ?_
  rotate_left
  · rintro w' ⟨b1, b2, b3, b4, b5⟩
    have a0 : w'.cell? ⟨X3, 0, none⟩ = some (.int .i64 r0) := (blk_cell b3 0).trans rfl
    have a1 : w'.cell? ⟨X3, 1, none⟩ = some (.string r1) := (blk_cell b3 1).trans rfl
    clear b1 b2 b3 b4 b5
    go_simp
    with_reducible rfl
  rotate_left
  · simp only [Act.put, List.setIfInBounds_toArray, List.set_cons_zero, List.set_cons_succ, i64_w, i32_w]
    rfl
  refine take_ (i := 30) (N := (some 95)) (v := ?_) (a' := ?_) #[true, true, true, true, true, true, true, true, true, true, true, true, true, true, true, true, true, true, true, true, true, true, true, true, true, true, true, true, true, true, true, false, false, false, false, false, false, false, false, false, false, false, false, false, false, false, false, false] rfl rfl (take_ofW HT_.out HW_.out (by kernel_rfl)) (fun _ _ _ h => h) (Or.inl ⟨by rfl, ?_⟩) hHeld ?_ ?_
  rotate_left
  · rintro w' ⟨b1, b2, b3, b4, b5⟩
    have a0 : w'.cell? ⟨X4, 0, none⟩ = some (.int .i64 r0) := (blk_cell b4 0).trans rfl
    have a1 : w'.cell? ⟨X4, 1, none⟩ = some (.string r1) := (blk_cell b4 1).trans rfl
    clear b1 b2 b3 b4 b5
    go_simp
    with_reducible rfl
  rotate_left
  · simp only [Act.put, List.setIfInBounds_toArray, List.set_cons_zero, List.set_cons_succ, i64_w, i32_w]
    rfl
  refine pure_ (i := 31) (N := (some 96)) (v := ?_) (a' := ?_) #[true, true, true, true, true, true, true, true, true, true, true, true, true, true, true, true, true, true, true, true, true, true, true, true, true, true, true, true, true, true, true, true, false, false, false, false, false, false, false, false, false, false, false, false, false, false, false, false] rfl rfl (any_of HT_.out (by kernel_rfl)) (fun _ _ _ h => h) (Or.inl ⟨by rfl, ?_⟩) ?_ ?_
  rotate_left
  · intro w'
    go_simp
    with_reducible rfl
  rotate_left
  · simp only [Act.put, List.setIfInBounds_toArray, List.set_cons_zero, List.set_cons_succ, i64_w, i32_w]
    rfl
  refine pure_ (i := 32) (N := (some 97)) (v := ?_) (a' := ?_) #[true, true, true, true, true, true, true, true, true, true, true, true, true, true, true, true, true, true, true, true, true, true, true, true, true, true, true, true, true, true, true, true, true, false, false, false, false, false, false, false, false, false, false, false, false, false, false, false] rfl rfl (any_of HT_.out (by kernel_rfl)) (fun _ _ _ h => h) (Or.inl ⟨by rfl, ?_⟩) ?_ ?_
  rotate_left
  · intro w'
    go_simp
    with_reducible rfl
  rotate_left
  · simp only [Act.put, List.setIfInBounds_toArray, List.set_cons_zero, List.set_cons_succ, i64_w, i32_w]
    rfl
  refine pure_ (i := 33) (N := (some 98)) (v := ?_) (a' := ?_) #[true, true, true, true, true, true, true, true, true, true, true, true, true, true, true, true, true, true, true, true, true, true, true, true, true, true, true, true, true, true, true, true, true, true, false, false, false, false, false, false, false, false, false, false, false, false, false, false] rfl rfl (any_of HT_.out (by kernel_rfl)) (fun _ _ _ h => h) (Or.inl ⟨by rfl, ?_⟩) ?_ ?_
  rotate_left
  · intro w'
    go_simp
    with_reducible rfl
  rotate_left
  · simp only [Act.put, List.setIfInBounds_toArray, List.set_cons_zero, List.set_cons_succ, i64_w, i32_w]
    rfl
  refine pure_ (i := 34) (N := (some 99)) (v := ?_) (a' := ?_) #[true, true, true, true, true, true, true, true, true, true, true, true, true, true, true, true, true, true, true, true, true, true, true, true, true, true, true, true, true, true, true, true, true, true, true, false, false, false, false, false, false, false, false, false, false, false, false, false] rfl rfl (any_of HT_.out (by kernel_rfl)) (fun _ _ _ h => h) (Or.inl ⟨by rfl, ?_⟩) ?_ ?_
  rotate_left
  · intro w'
    go_simp
    with_reducible rfl
  rotate_left
  · simp only [Act.put, List.setIfInBounds_toArray, List.set_cons_zero, List.set_cons_succ, i64_w, i32_w]
    rfl
  refine pure_ (i := 35) (N := (some 100)) (v := ?_) (a' := ?_) #[true, true, true, true, true, true, true, true, true, true, true, true, true, true, true, true, true, true, true, true, true, true, true, true, true, true, true, true, true, true, true, true, true, true, true, true, false, false, false, false, false, false, false, false, false, false, false, false] rfl rfl (any_of HT_.out (by kernel_rfl)) (fun _ _ _ h => h) (Or.inl ⟨by rfl, ?_⟩) ?_ ?_
  rotate_left
  · intro w'
    go_simp
    with_reducible rfl
  rotate_left
  · simp only [Act.put, List.setIfInBounds_toArray, List.set_cons_zero, List.set_cons_succ, i64_w, i32_w]
    rfl
  refine pure_ (i := 36) (N := (some 101)) (v := ?_) (a' := ?_) #[true, true, true, true, true, true, true, true, true, true, true, true, true, true, true, true, true, true, true, true, true, true, true, true, true, true, true, true, true, true, true, true, true, true, true, true, true, false, false, false, false, false, false, false, false, false, false, false] rfl rfl (any_of HT_.out (by kernel_rfl)) (fun _ _ _ h => h) (Or.inl ⟨by rfl, ?_⟩) ?_ ?_
  rotate_left
  · intro w'
    go_simp
    with_reducible rfl
  rotate_left
  · simp only [Act.put, List.setIfInBounds_toArray, List.set_cons_zero, List.set_cons_succ, i64_w, i32_w]
    rfl
  refine pure_ (i := 37) (N := (some 102)) (v := ?_) (a' := ?_) #[true, true, true, true, true, true, true, true, true, true, true, true, true, true, true, true, true, true, true, true, true, true, true, true, true, true, true, true, true, true, true, true, true, true, true, true, true, true, false, false, false, false, false, false, false, false, false, false] rfl rfl (any_of HT_.out (by kernel_rfl)) (fun _ _ _ h => h) (Or.inl ⟨by rfl, ?_⟩) ?_ ?_
  rotate_left
  · intro w'
    go_simp
    with_reducible rfl
  rotate_left
  · simp only [Act.put, List.setIfInBounds_toArray, List.set_cons_zero, List.set_cons_succ, i64_w, i32_w]
    rfl
  refine pure_ (i := 38) (N := (some 103)) (v := ?_) (a' := ?_) #[true, true, true, true, true, true, true, true, true, true, true, true, true, true, true, true, true, true, true, true, true, true, true, true, true, true, true, true, true, true, true, true, true, true, true, true, true, true, true, false, false, false, false, false, false, false, false, false] rfl rfl (any_of HT_.out (by kernel_rfl)) (fun _ _ _ h => h) (Or.inl ⟨by rfl, ?_⟩) ?_ ?_
  rotate_left
  · intro w'
    go_simp
    with_reducible rfl
  rotate_left
  · simp only [Act.put, List.setIfInBounds_toArray, List.set_cons_zero, List.set_cons_succ, i64_w, i32_w]
    rfl
  refine pure_ (i := 39) (N := (some 104)) (v := ?_) (a' := ?_) #[true, true, true, true, true, true, true, true, true, true, true, true, true, true, true, true, true, true, true, true, true, true, true, true, true, true, true, true, true, true, true, true, true, true, true, true, true, true, true, true, false, false, false, false, false, false, false, false] rfl rfl (any_of HT_.out (by kernel_rfl)) (fun _ _ _ h => h) (Or.inl ⟨by rfl, ?_⟩) ?_ ?_
  rotate_left
  · intro w'
    go_simp
    with_reducible rfl
  rotate_left
  · simp only [Act.put, List.setIfInBounds_toArray, List.set_cons_zero, List.set_cons_succ, i64_w, i32_w]
    rfl
  refine take_ (i := 40) (N := (some 105)) (v := ?_) (a' := ?_) #[true, true, true, true, true, true, true, true, true, true, true, true, true, true, true, true, true, true, true, true, true, true, true, true, true, true, true, true, true, true, true, true, true, true, true, true, true, true, true, true, true, false, false, false, false, false, false, false] rfl rfl (take_ofW HT_.out HW_.out (by kernel_rfl)) (fun _ _ _ h => h) (Or.inl ⟨by rfl, ?_⟩) hHeld ?_ ?_
  rotate_left
  · rintro w' ⟨b1, b2, b3, b4, b5⟩
    have a0 : w'.cell? ⟨gh, 0, none⟩ = some (.int .i64 di) := (blk_cell b5 0).trans rfl
    have a1 : w'.cell? ⟨gh, 1, none⟩ = some (.string ds) := (blk_cell b5 1).trans rfl
    clear b1 b2 b3 b4 b5
    go_simp
    with_reducible rfl
  rotate_left
  · simp only [Act.put, List.setIfInBounds_toArray, List.set_cons_zero, List.set_cons_succ, i64_w, i32_w]
    rfl
  refine pure_ (i := 42) (N := (some 107)) (v := ?_) (a' := ?_) #[true, true, true, true, true, true, true, true, true, true, true, true, true, true, true, true, true, true, true, true, true, true, true, true, true, true, true, true, true, true, true, true, true, true, true, true, true, true, true, true, true, false, true, false, false, false, false, false] rfl rfl (any_of HT_.out (by kernel_rfl)) (fun _ _ _ h => h) (Or.inl ⟨by rfl, ?_⟩) ?_ ?_
  rotate_left
  · intro w'
    go_simp
    with_reducible rfl
  rotate_left
  · simp only [Act.put, List.setIfInBounds_toArray, List.set_cons_zero, List.set_cons_succ, i64_w, i32_w]
    rfl
  refine take_ (i := 43) (N := (some 108)) (v := ?_) (a' := ?_) #[true, true, true, true, true, true, true, true, true, true, true, true, true, true, true, true, true, true, true, true, true, true, true, true, true, true, true, true, true, true, true, true, true, true, true, true, true, true, true, true, true, false, true, true, false, false, false, false] rfl rfl (take_ofW HT_.out HW_.out (by kernel_rfl)) (fun _ _ _ h => h) (Or.inl ⟨by rfl, ?_⟩) hHeld ?_ ?_
  rotate_left
  · rintro w' ⟨b1, b2, b3, b4, b5⟩
    have a0 : w'.cell? ⟨gh, 0, none⟩ = some (.int .i64 di) := (blk_cell b5 0).trans rfl
    have a1 : w'.cell? ⟨gh, 1, none⟩ = some (.string ds) := (blk_cell b5 1).trans rfl
    clear b1 b2 b3 b4 b5
    go_simp
    with_reducible rfl
  rotate_left
  · simp only [Act.put, List.setIfInBounds_toArray, List.set_cons_zero, List.set_cons_succ, i64_w, i32_w]
    rfl
  refine one_ (i := 41) (N := (some 106)) #[true, true, true, true, true, true, true, true, true, true, true, true, true, true, true, true, true, true, true, true, true, true, true, true, true, true, true, true, true, true, true, true, true, true, true, true, true, true, true, true, true, true, true, true, false, false, false, false] rfl rfl (one_of HT_.out (by kernel_rfl)) (by decide) (fun K hK => ?_)
  refine goes_ Tryd.func16 (by kernel_rfl) rfl #[.string ds] (by rfl) rfl rfl (by simp [Act.eval]) ?_
  ((refine (HN1.out _).mono ?_); rintro e w20 ⟨rfl, hb⟩)
  refine ⟨_, rfl, ?_⟩
  replace HG := Aside0.mk (blk_below HG.out hb); replace HH := Aside0.mk (blk_below HH.out hb); replace HC := Aside0.mk (Kd.C_below HC.out hb); replace HV1 := Aside0.mk (Kd.C_below HV1.out hb); replace HV2 := Aside0.mk (Kd.C_below HV2.out hb); replace HZX1 := Aside0.mk (blk_below HZX1.out hb); replace HZX2 := Aside0.mk (blk_below HZX2.out hb); replace HV3 := Aside0.mk (Kd.C_below HV3.out hb); replace HV4 := Aside0.mk (Kd.C_below HV4.out hb); replace HZX3 := Aside0.mk (blk_below HZX3.out hb); replace HZX4 := Aside0.mk (blk_below HZX4.out hb); replace HB := Aside0.mk (below_then HB.out HB.out.size hb)
  clear hb hHeld
  refine hK.out _ _ ⟨HZX1.out, HZX2.out, HZX3.out, HZX4.out, HH.out⟩ (fun hHeld => ?_)
  clear hK K
  refine norm_ (a' := ?_) ?_ ?_
  rotate_left
  · show Act.put _ (some 106) _ = _
    simp only [Act.put, List.setIfInBounds_toArray, List.set_cons_zero, List.set_cons_succ, i64_w, i32_w]
    rfl
  refine last_ (i := 44) (N := (some 109)) #[true, true, true, true, true, true, true, true, true, true, true, true, true, true, true, true, true, true, true, true, true, true, true, true, true, true, true, true, true, true, true, true, true, true, true, true, true, true, true, true, true, true, true, true, true, false, false, false] rfl rfl (one_of HT_.out (by kernel_rfl)) (by decide) (fun K hK => ?_)
  refine goes_ Tryd.func17 (by kernel_rfl) rfl #[.string ds] (by rfl) rfl rfl (by simp [Act.eval]) ?_
  ((refine (HN2.out _).mono ?_); rintro e w21 ⟨rfl, hb⟩)
  refine ⟨_, rfl, ?_⟩
  replace HG := Aside0.mk (blk_below HG.out hb); replace HH := Aside0.mk (blk_below HH.out hb); replace HC := Aside0.mk (Kd.C_below HC.out hb); replace HV1 := Aside0.mk (Kd.C_below HV1.out hb); replace HV2 := Aside0.mk (Kd.C_below HV2.out hb); replace HZX1 := Aside0.mk (blk_below HZX1.out hb); replace HZX2 := Aside0.mk (blk_below HZX2.out hb); replace HV3 := Aside0.mk (Kd.C_below HV3.out hb); replace HV4 := Aside0.mk (Kd.C_below HV4.out hb); replace HZX3 := Aside0.mk (blk_below HZX3.out hb); replace HZX4 := Aside0.mk (blk_below HZX4.out hb); replace HB := Aside0.mk (below_then HB.out HB.out.size hb)
  clear hb hHeld
  refine hK.out _ _ ?_
  clear hK K
  refine norm_ (a' := ?_) ?_ ?_
  rotate_left
  · show Act.put _ (some 109) _ = _
    simp only [Act.put, List.setIfInBounds_toArray, List.set_cons_zero, List.set_cons_succ, i64_w, i32_w]
    rfl
  refine pure_ (i := 45) (N := (some 110)) (v := ?_) (a' := ?_) #[true, true, true, true, true, true, true, true, true, true, true, true, true, true, true, true, true, true, true, true, true, true, true, true, true, true, true, true, true, true, true, true, true, true, true, true, true, true, true, true, true, true, true, true, true, true, false, false] rfl rfl (any_of HT_.out (by kernel_rfl)) (fun _ _ _ h => h) (Or.inl ⟨by rfl, ?_⟩) ?_ ?_
  rotate_left
  · intro w'
    go_simp
    with_reducible rfl
  rotate_left
  · simp only [Act.put, List.setIfInBounds_toArray, List.set_cons_zero, List.set_cons_succ, i64_w, i32_w]
    rfl
  refine pure_ (i := 46) (N := (some 111)) (v := ?_) (a' := ?_) #[true, true, true, true, true, true, true, true, true, true, true, true, true, true, true, true, true, true, true, true, true, true, true, true, true, true, true, true, true, true, true, true, true, true, true, true, true, true, true, true, true, true, true, true, true, true, true, false] rfl rfl (any_of HT_.out (by kernel_rfl)) (fun _ _ _ h => h) (Or.inl ⟨by rfl, ?_⟩) ?_ ?_
  rotate_left
  · intro w'
    go_simp
    with_reducible rfl
  rotate_left
  · simp only [Act.put, List.setIfInBounds_toArray, List.set_cons_zero, List.set_cons_succ, i64_w, i32_w]
    rfl
  refine pure_ (i := 47) (N := (some 6)) (v := ?_) (a' := ?_) #[true, true, true, true, true, true, true, true, true, true, true, true, true, true, true, true, true, true, true, true, true, true, true, true, true, true, true, true, true, true, true, true, true, true, true, true, true, true, true, true, true, true, true, true, true, true, true, true] rfl rfl (any_of HT_.out (by kernel_rfl)) (fun _ _ _ h => h) (Or.inl ⟨by rfl, ?_⟩) ?_ ?_
  rotate_left
  · intro w'
    go_simp
    with_reducible rfl
  rotate_left
  · simp only [Act.put, List.setIfInBounds_toArray, List.set_cons_zero, List.set_cons_succ, i64_w, i32_w]
    rfl
  refine done_ (done_of HT_.out (by kernel_rfl)) ?_
  go_wp2
  go_ret
  exact ⟨rfl, HB.out⟩
end Go.Proofs.YtbplffdmggbcdaaDoor.Codec
