/- The law of what is written and read again: the walk. -/
import Derived.Test.YtbplffdmggbcdaaDoorKKBPlain
import Derived.Test.YtbplffdmggbcdaaDoorKKEql
import Derived.Test.YtbplffdmggbcdaaDoorKKWakes
import Derived.Deep.DeepCutAuto
import Derived.Deep.Cut
namespace Go.Proofs.YtbplffdmggbcdaaDoor.Codec
open Go.RowKit Go.Proofs.YtbplffdmggbcdaaDoor.PCodecBack Go.Proofs.YtbplffdmggbcdaaDoor.Plain Go.Proofs.YtbplffdmggbcdaaDoor.Pure Go.Proofs.YtbplffdmggbcdaaDoorW.PrintWords Go.Proofs.YtbplffdmggbcdaaDoorW.PrintLast Go.Proofs.YtbplffdmggbcdaaDoorW.PrintMore
set_option linter.unusedVariables false
set_option linter.unusedSimpArgs false

theorem plan_same (p0 p1 p2 p3 p4 p5 p6 p7 p8 p9 p10 p11 : Int) (w : World) : (binOp .neq 41 (.agg #[.int .i64 p0, .int .i64 p1, .int .i64 p2, .int .i64 p3, .int .i64 p4, .int .i64 p5, .int .i64 p6, .int .i64 p7, .int .i64 p8, .int .i64 p9, .int .i64 p10, .int .i64 p11]) (.agg #[.int .i64 p0, .int .i64 p1, .int .i64 p2, .int .i64 p3, .int .i64 p4, .int .i64 p5, .int .i64 p6, .int .i64 p7, .int .i64 p8, .int .i64 p9, .int .i64 p10, .int .i64 p11])).run Tryd.prog w = .ok (.bool false) w := by
  have u3 := Tryd.underlying3
  have a3 := Tryd.isAgg3
  have hS : Tryd.prog.underlying 41 = some (.struct (Tryd.prog.fieldsOf 41)) := by kernel_rfl
  have hr : (Op.equalIn (9998 + 2) 41 (.agg #[.int .i64 p0, .int .i64 p1, .int .i64 p2, .int .i64 p3, .int .i64 p4, .int .i64 p5, .int .i64 p6, .int .i64 p7, .int .i64 p8, .int .i64 p9, .int .i64 p10, .int .i64 p11]) (.agg #[.int .i64 p0, .int .i64 p1, .int .i64 p2, .int .i64 p3, .int .i64 p4, .int .i64 p5, .int .i64 p6, .int .i64 p7, .int .i64 p8, .int .i64 p9, .int .i64 p10, .int .i64 p11])).run Tryd.prog w = .ok true w := by
    rw [run_equalIn_agg w 9999 41 _ _ hS (by kernel_rfl)]
    simp only [Program.fieldsOf, Tryd.underlying41]
    go_simp
    try simp
  simp only [Nat.reduceAdd] at hr
  rw [run_neq_struct, hr, Result.andThen_ok]
  rfl
theorem head_same (g0 g1 g2 : Int) (w : World) : (binOp .neq 43 (.agg #[.int .i64 g0, .int .i64 g1, .int .i64 g2]) (.agg #[.int .i64 g0, .int .i64 g1, .int .i64 g2])).run Tryd.prog w = .ok (.bool false) w := by
  have u3 := Tryd.underlying3
  have a3 := Tryd.isAgg3
  have hS : Tryd.prog.underlying 43 = some (.struct (Tryd.prog.fieldsOf 43)) := by kernel_rfl
  have hr : (Op.equalIn (9998 + 2) 43 (.agg #[.int .i64 g0, .int .i64 g1, .int .i64 g2]) (.agg #[.int .i64 g0, .int .i64 g1, .int .i64 g2])).run Tryd.prog w = .ok true w := by
    rw [run_equalIn_agg w 9999 43 _ _ hS (by kernel_rfl)]
    simp only [Program.fieldsOf, Tryd.underlying43]
    go_simp
    try simp
  simp only [Nat.reduceAdd] at hr
  rw [run_neq_struct, hr, Result.andThen_ok]
  rfl
theorem ino_same (m0 m1 m2 m3 m4 m5 m6 m7 m8 m9 m10 m11 m12 : Int) (w : World) : (binOp .neq 24 (.agg #[.int .i64 m0, .int .i64 m1, .int .i64 m2, .int .i64 m3, .int .i64 m4, .int .i64 m5, .int .i64 m6, .int .i64 m7, .int .i64 m8, .int .i64 m9, .int .i64 m10, .int .i64 m11, .int .i64 m12]) (.agg #[.int .i64 m0, .int .i64 m1, .int .i64 m2, .int .i64 m3, .int .i64 m4, .int .i64 m5, .int .i64 m6, .int .i64 m7, .int .i64 m8, .int .i64 m9, .int .i64 m10, .int .i64 m11, .int .i64 m12])).run Tryd.prog w = .ok (.bool false) w := by
  have hr := ino_equal 9997 m0 m1 m2 m3 m4 m5 m6 m7 m8 m9 m10 m11 m12 m0 m1 m2 m3 m4 m5 m6 m7 m8 m9 m10 m11 m12 w
  simp only [Nat.reduceAdd] at hr
  rw [run_neq_struct, hr, Result.andThen_ok]
  simp
theorem rec_same (r0 r1 r2 r3 r4 r5 r6 r7 : Int) (rt : ByteArray) (w : World) : (binOp .neq 48 (.agg #[.int .i64 r0, .int .i64 r1, .int .i64 r2, .int .i64 r3, .int .i64 r4, .int .i64 r5, .int .i64 r6, .int .i64 r7, .string rt]) (.agg #[.int .i64 r0, .int .i64 r1, .int .i64 r2, .int .i64 r3, .int .i64 r4, .int .i64 r5, .int .i64 r6, .int .i64 r7, .string rt])).run Tryd.prog w = .ok (.bool false) w := by
  have hr := rec_equal 9997 r0 r1 r2 r3 r4 r5 r6 r7 rt w
  simp only [Nat.reduceAdd] at hr
  rw [run_neq_struct, hr, Result.andThen_ok]
  rfl
theorem same_bytesI (l : List Int) : skerryref01_SameBytes.f l l = some true := by unfold skerryref01_SameBytes.f; simp
theorem uniVals_form (l : List Int) : ∃ (m0 m1 m2 m3 m4 m5 m6 m7 m8 m9 m10 m11 m12 : Int), uniVals l = [m0, m1, m2, m3, m4, m5, m6, m7, m8, m9, m10, m11, m12] := by
  unfold uniVals
  split
  · exact ⟨_, _, _, _, _, _, _, _, _, _, _, _, _, rfl⟩
  · exact ⟨_, _, _, _, _, _, _, _, _, _, _, _, _, rfl⟩
theorem aggI_lit (m0 m1 m2 m3 m4 m5 m6 m7 m8 m9 m10 m11 m12 : Int) : aggI [m0, m1, m2, m3, m4, m5, m6, m7, m8, m9, m10, m11, m12] = .agg #[.int .i64 m0, .int .i64 m1, .int .i64 m2, .int .i64 m3, .int .i64 m4, .int .i64 m5, .int .i64 m6, .int .i64 m7, .int .i64 m8, .int .i64 m9, .int .i64 m10, .int .i64 m11, .int .i64 m12] := rfl
set_option maxHeartbeats 4000000 in
set_option maxRecDepth 100000 in
theorem back_calls (p0 p1 p2 p3 p4 p5 p6 p7 p8 p9 p10 p11 g0 g1 g2 i0 i1 i2 i3 i4 i5 i6 i7 i8 i9 i10 i11 i12 r0 r1 r2 r3 r4 r5 r6 r7 : Int) (rt : ByteArray) (ht : rt.size ≤ 140737488351232) (A : Option Addr) (c : Nat) (l : List Int) (w : World) (hr : Kd.C (Kd.int .u8) w A l.length l) (hc : l.length ≤ c) (hl : Bytes l) (hs : l.length ≤ 140737488351232) :
    Calls Tryd.prog 4 #[.agg #[.int .i64 p0, .int .i64 p1, .int .i64 p2, .int .i64 p3, .int .i64 p4, .int .i64 p5, .int .i64 p6, .int .i64 p7, .int .i64 p8, .int .i64 p9, .int .i64 p10, .int .i64 p11], .agg #[.int .i64 g0, .int .i64 g1, .int .i64 g2], .agg #[.int .i64 i0, .int .i64 i1, .int .i64 i2, .int .i64 i3, .int .i64 i4, .int .i64 i5, .int .i64 i6, .int .i64 i7, .int .i64 i8, .int .i64 i9, .int .i64 i10, .int .i64 i11, .int .i64 i12], .agg #[.int .i64 r0, .int .i64 r1, .int .i64 r2, .int .i64 r3, .int .i64 r4, .int .i64 r5, .int .i64 r6, .int .i64 r7, .string rt], .slice A l.length c] w fun e w' => e = .returned (.bool true) ∧ Below w.heap.size w w' := by
  have hu := Tryd.underlying41
  have hu2 := Tryd.underlying43
  have hu3 := Tryd.underlying24
  have hu4 := Tryd.underlying48
  have hu5 := Tryd.underlying26
  have u22 := Tryd.underlying22
  have u4 := Tryd.underlying44
  have uE := Tryd.underlying46
  have HWK := Aside0.mk wakes_calls
  have HS1 := Aside0.mk (super_calls p0 p1 p2 p3 p4 p5 p6 p7 p8 p9 p10 p11)
  have HS2 := Aside0.mk (header_calls g0 g1 g2 64)
  have HS3 := Aside0.mk (inode_calls i0 i1 i2 i3 i4 i5 i6 i7 i8 i9 i10 i11 i12)
  have HS4 := Aside0.mk (record_calls r0 r1 r2 r3 r4 r5 r6 r7 rt ht)
  obtain ⟨⟨l1, e1⟩, h1⟩ : ∃ o, superOut p0 p1 p2 p3 p4 p5 p6 p7 p8 p9 p10 p11 = o := ⟨_, rfl⟩
  obtain ⟨⟨l2, e2⟩, h2⟩ : ∃ o, headOut g0 g1 g2 64 = o := ⟨_, rfl⟩
  obtain ⟨⟨l3, e3⟩, h3⟩ : ∃ o, inoOut i0 i1 i2 i3 i4 i5 i6 i7 i8 i9 i10 i11 i12 = o := ⟨_, rfl⟩
  obtain ⟨⟨l4, e4⟩, h4⟩ : ∃ o, recOut r0 r1 r2 r3 r4 r5 r6 r7 (bytesOf rt) = o := ⟨_, rfl⟩
  rw [h1] at HS1
  rw [h2] at HS2
  rw [h3] at HS3
  rw [h4] at HS4
  have H1 := Aside0.mk h1
  have H2 := Aside0.mk h2
  have H3 := Aside0.mk h3
  have H4 := Aside0.mk h4
  obtain ⟨m0, m1, m2, m3, m4, m5, m6, m7, m8, m9, m10, m11, m12, hm⟩ := uniVals_form l
  obtain ⟨ue, hme⟩ : ∃ o, uniErr l = o := ⟨_, rfl⟩
  obtain ⟨⟨xn, xs, xe⟩, hV⟩ : ∃ o, undOut l = o := ⟨_, rfl⟩
  have HU5 := Aside0.mk (fun W h => uninode_calls A c l W h hc hl hs)
  have HU6 := Aside0.mk (fun W h => undirent_calls A c l W h hc hl hs)
  rw [hm, hme, aggI_lit] at HU5
  rw [hV] at HU6
  have HM := Aside0.mk hm
  have HUE := Aside0.mk hme
  have HUN := Aside0.mk hV
  have HLB := Aside0.mk hl
  have HLC := Aside0.mk hc
  have HC0 := Aside0.mk hr
  clear ht hr hc hl hs h1 h2 h3 h4 hm hme hV
  go_enter Tryd.func4, Tryd.ntmps4
  go_upto_region 1 with (first | ((with_reducible refine gate_dst (N := 5) rfl ?_); refine box_event ?hg (N := 5) ?hd (cs := #[.int .i64 p0, .int .i64 p1, .int .i64 p2, .int .i64 p3, .int .i64 p4, .int .i64 p5, .int .i64 p6, .int .i64 p7, .int .i64 p8, .int .i64 p9, .int .i64 p10, .int .i64 p11]) (t := 41) ?hr ?_; (case hd => rfl); (case hg => rfl); (case hr => first | (go_simp; done) | (go_simp; rfl)); intro gp hggp wp0 hbox hb; have BKgp := Aside0.mk hbox; have BHgp := Aside0.mk hb; have GEgp := Aside0.mk hggp; clear hb hbox hggp) | ((with_reducible refine gate_dst (N := 6) rfl ?_); refine box_event ?hg (N := 6) ?hd (cs := #[.int .i64 g0, .int .i64 g1, .int .i64 g2]) (t := 43) ?hr ?_; (case hd => rfl); (case hg => rfl); (case hr => first | (go_simp; done) | (go_simp; rfl)); intro gh hggh wp1 hbox hb; have BKgh := Aside0.mk hbox; have BHgh := Aside0.mk hb; have GEgh := Aside0.mk hggh; clear hb hbox hggh) | ((with_reducible refine gate_dst (N := 7) rfl ?_); refine box_event ?hg (N := 7) ?hd (cs := #[.int .i64 i0, .int .i64 i1, .int .i64 i2, .int .i64 i3, .int .i64 i4, .int .i64 i5, .int .i64 i6, .int .i64 i7, .int .i64 i8, .int .i64 i9, .int .i64 i10, .int .i64 i11, .int .i64 i12]) (t := 24) ?hr ?_; (case hd => rfl); (case hg => rfl); (case hr => first | (go_simp; done) | (go_simp; rfl)); intro gi hggi wp2 hbox hb; have BKgi := Aside0.mk hbox; have BHgi := Aside0.mk hb; have GEgi := Aside0.mk hggi; clear hb hbox hggi) | ((with_reducible refine gate_dst (N := 8) rfl ?_); refine box_event ?hg (N := 8) ?hd (cs := #[.int .i64 r0, .int .i64 r1, .int .i64 r2, .int .i64 r3, .int .i64 r4, .int .i64 r5, .int .i64 r6, .int .i64 r7, .string rt]) (t := 48) ?hr ?_; (case hd => rfl); (case hg => rfl); (case hr => first | (go_simp; done) | (go_simp; rfl)); intro gr hggr wp3 hbox hb; have BKgr := Aside0.mk hbox; have BHgr := Aside0.mk hb; have GEgr := Aside0.mk hggr; clear hb hbox hggr))
  have HB := Aside0.mk (below_then (below_then (below_then BHgp.out BHgp.out.size BHgh.out) (below_then BHgp.out BHgp.out.size BHgh.out).size BHgi.out) (below_then (below_then BHgp.out BHgp.out.size BHgh.out) (below_then BHgp.out BHgp.out.size BHgh.out).size BHgi.out).size BHgr.out)
  have HG := Aside0.mk (blk_below (blk_below (blk_below BKgp.out BHgh.out) BHgi.out) BHgr.out)
  have HH := Aside0.mk (blk_below (blk_below BKgh.out BHgi.out) BHgr.out)
  have HI := Aside0.mk (blk_below BKgi.out BHgr.out)
  have HR := BKgr
  have HC := Aside0.mk (Kd.C_below HC0.out HB.out)
  clear BKgp BHgp GEgp BKgh BHgh GEgh BKgi BHgi GEgi BKgr BHgr GEgr
  go_wp2_with fail
  ((with_reducible refine (HWK.out _).mono ?_); rintro e w1 ⟨rfl, hb⟩)
  replace HG := Aside0.mk (blk_below HG.out hb); replace HH := Aside0.mk (blk_below HH.out hb); replace HI := Aside0.mk (blk_below HI.out hb); replace HR := Aside0.mk (blk_below HR.out hb); replace HC := Aside0.mk (Kd.C_below HC.out hb); replace HB := Aside0.mk (below_then HB.out HB.out.size hb)
  clear hb HWK
  obtain ⟨x0, x1, x2, x3, x4, x5, x6, x7, x8, x9, x10, x11⟩ := cl12 HG
  go_wp2_with fail
  ((with_reducible refine (HS1.out _).mono ?_); rintro e u10 ⟨vv, rfl, hv, hb⟩)
  obtain ⟨A1, k1, rfl, hk, hv1⟩ := brow_reads hv
  replace HG := Aside0.mk (blk_below HG.out hb); replace HH := Aside0.mk (blk_below HH.out hb); replace HI := Aside0.mk (blk_below HI.out hb); replace HR := Aside0.mk (blk_below HR.out hb); replace HC := Aside0.mk (Kd.C_below HC.out hb); replace HB := Aside0.mk (below_then HB.out HB.out.size hb)
  have HV := Aside0.mk hv1; have HK := Aside0.mk hk
  clear hb hv hv1 hk HS1 x0 x1 x2 x3 x4 x5 x6 x7 x8 x9 x10 x11
  go_upto_if 39 with fail
  go_cut [] (fun wx => wx.heap[gp]? = some (.cells #[.int .i64 p0, .int .i64 p1, .int .i64 p2, .int .i64 p3, .int .i64 p4, .int .i64 p5, .int .i64 p6, .int .i64 p7, .int .i64 p8, .int .i64 p9, .int .i64 p10, .int .i64 p11] 41 (0, 0)) ∧ wx.heap[gh]? = some (.cells #[.int .i64 g0, .int .i64 g1, .int .i64 g2] 43 (0, 0)) ∧ wx.heap[gi]? = some (.cells #[.int .i64 i0, .int .i64 i1, .int .i64 i2, .int .i64 i3, .int .i64 i4, .int .i64 i5, .int .i64 i6, .int .i64 i7, .int .i64 i8, .int .i64 i9, .int .i64 i10, .int .i64 i11, .int .i64 i12] 24 (0, 0)) ∧ wx.heap[gr]? = some (.cells #[.int .i64 r0, .int .i64 r1, .int .i64 r2, .int .i64 r3, .int .i64 r4, .int .i64 r5, .int .i64 r6, .int .i64 r7, .string rt] 48 (0, 0)) ∧ Below w.heap.size w wx)
  case first =>
    by_cases he : e1 = 0
    · have d1 : (e1 == 0) = true := beq_iff_eq.2 he
      have h1 := H1.out
      rw [he] at h1
      obtain ⟨hd2, hU, hbb, hbl⟩ := super_back h1
      have HU := Aside0.mk (unsuper_calls A1 k1 l1 u10 HV.out HK.out hbb (by omega) p0 p1 p2 p3 p4 p5 p6 p7 p8 p9 p10 p11 0 hU)
      clear h1 hU hbb hbl he HV HK 
      go_wp2_with fail
      ((with_reducible refine HU.out.mono ?_); rintro e u11 ⟨rfl, hb⟩)
      replace HG := Aside0.mk (blk_below HG.out hb); replace HH := Aside0.mk (blk_below HH.out hb); replace HI := Aside0.mk (blk_below HI.out hb); replace HR := Aside0.mk (blk_below HR.out hb); replace HC := Aside0.mk (Kd.C_below HC.out hb); replace HB := Aside0.mk (below_then HB.out HB.out.size hb)
      clear hb HU
      go_upto_region 6 with (((with_reducible refine gate_dst (N := 13) rfl ?_); refine box_event ?hg (N := 13) ?hd (cs := #[.int .i64 0, .int .i64 0, .int .i64 0, .int .i64 0, .int .i64 0, .int .i64 0, .int .i64 0, .int .i64 0, .int .i64 0, .int .i64 0, .int .i64 0, .int .i64 0]) (t := 41) ?hr ?_; (case hd => rfl); (case hg => rfl); (case hr => first | (go_simp; done) | (go_simp; rfl)); intro X1 hgX1 u12 hbox hb; have BKX1 := Aside0.mk hbox; have BHX1 := Aside0.mk hb; have GEX1 := Aside0.mk hgX1; clear hb hbox hgX1; obtain ⟨z0, z1, z2, z3, z4, z5, z6, z7, z8, z9, z10, z11⟩ := cl12 BKX1; obtain ⟨f0, f1, f2, f3, f4, f5, f6, f7, f8, f9, f10, f11⟩ := fz12 BKX1))
      have HBx : Aside0 (Below u11.heap.size u11 ((((((((((((u12.setCell ⟨X1, 0, none⟩ (.int .i64 p0)).setCell ⟨X1, 1, none⟩ (.int .i64 p1)).setCell ⟨X1, 2, none⟩ (.int .i64 p2)).setCell ⟨X1, 3, none⟩ (.int .i64 p3)).setCell ⟨X1, 4, none⟩ (.int .i64 p4)).setCell ⟨X1, 5, none⟩ (.int .i64 p5)).setCell ⟨X1, 6, none⟩ (.int .i64 p6)).setCell ⟨X1, 7, none⟩ (.int .i64 p7)).setCell ⟨X1, 8, none⟩ (.int .i64 p8)).setCell ⟨X1, 9, none⟩ (.int .i64 p9)).setCell ⟨X1, 10, none⟩ (.int .i64 p10)).setCell ⟨X1, 11, none⟩ (.int .i64 p11))) := ⟨below12 BHX1.out (by have := GEX1.out; omega) (.int .i64 p0) (.int .i64 p1) (.int .i64 p2) (.int .i64 p3) (.int .i64 p4) (.int .i64 p5) (.int .i64 p6) (.int .i64 p7) (.int .i64 p8) (.int .i64 p9) (.int .i64 p10) (.int .i64 p11)⟩
      have HZX1 := Aside0.mk (put12 BKX1.out (.int .i64 p0) (.int .i64 p1) (.int .i64 p2) (.int .i64 p3) (.int .i64 p4) (.int .i64 p5) (.int .i64 p6) (.int .i64 p7) (.int .i64 p8) (.int .i64 p9) (.int .i64 p10) (.int .i64 p11))
      clear BKX1 BHX1 GEX1 z0 f0 z1 f1 z2 f2 z3 f3 z4 f4 z5 f5 z6 f6 z7 f7 z8 f8 z9 f9 z10 f10 z11 f11
      generalize ((((((((((((u12.setCell ⟨X1, 0, none⟩ (.int .i64 p0)).setCell ⟨X1, 1, none⟩ (.int .i64 p1)).setCell ⟨X1, 2, none⟩ (.int .i64 p2)).setCell ⟨X1, 3, none⟩ (.int .i64 p3)).setCell ⟨X1, 4, none⟩ (.int .i64 p4)).setCell ⟨X1, 5, none⟩ (.int .i64 p5)).setCell ⟨X1, 6, none⟩ (.int .i64 p6)).setCell ⟨X1, 7, none⟩ (.int .i64 p7)).setCell ⟨X1, 8, none⟩ (.int .i64 p8)).setCell ⟨X1, 9, none⟩ (.int .i64 p9)).setCell ⟨X1, 10, none⟩ (.int .i64 p10)).setCell ⟨X1, 11, none⟩ (.int .i64 p11)) = u13 at HBx HZX1 ⊢
      have hb := HBx.out
      replace HG := Aside0.mk (blk_below HG.out hb); replace HH := Aside0.mk (blk_below HH.out hb); replace HI := Aside0.mk (blk_below HI.out hb); replace HR := Aside0.mk (blk_below HR.out hb); replace HC := Aside0.mk (Kd.C_below HC.out hb); replace HB := Aside0.mk (below_then HB.out HB.out.size hb)
      clear hb HBx
      obtain ⟨x0, x1, x2, x3, x4, x5, x6, x7, x8, x9, x10, x11⟩ := cl12 HG
      obtain ⟨z0, z1, z2, z3, z4, z5, z6, z7, z8, z9, z10, z11⟩ := cl12 HZX1
      have heq : ∀ W : World, (binOp .neq 41 (.agg #[.int .i64 p0, .int .i64 p1, .int .i64 p2, .int .i64 p3, .int .i64 p4, .int .i64 p5, .int .i64 p6, .int .i64 p7, .int .i64 p8, .int .i64 p9, .int .i64 p10, .int .i64 p11]) (.agg #[.int .i64 p0, .int .i64 p1, .int .i64 p2, .int .i64 p3, .int .i64 p4, .int .i64 p5, .int .i64 p6, .int .i64 p7, .int .i64 p8, .int .i64 p9, .int .i64 p10, .int .i64 p11])).run Tryd.prog W = .ok (.bool false) W := plan_same p0 p1 p2 p3 p4 p5 p6 p7 p8 p9 p10 p11
      have d2 : ((l1.length : Int) != p0) = false := bne_eq_false_iff_eq.2 hd2
      go_wp2
      go_meet
      case rel => exact ⟨HG.out, HH.out, HI.out, HR.out, HB.out⟩
    · have d1 : (e1 == 0) = false := beq_eq_false_iff_ne.2 he
      go_wp2
      go_meet
      case rel => exact ⟨HG.out, HH.out, HI.out, HR.out, HB.out⟩
  obtain ⟨q1, q2, q3, q4, q5⟩ := hcut
  replace HG := Aside0.mk q1; replace HH := Aside0.mk q2; replace HI := Aside0.mk q3; replace HR := Aside0.mk q4; replace HB := Aside0.mk q5; have HC := Aside0.mk (Kd.C_below HC0.out HB.out)
  clear q1 q2 q3 q4 q5
  clear HV HK H1
  obtain ⟨y0, y1, y2⟩ := cl3 HH
  go_wp2_with fail
  ((with_reducible refine (HS2.out _).mono ?_); rintro e u20 ⟨vv, rfl, hv, hb⟩)
  obtain ⟨A2, k2, rfl, hk, hv1⟩ := brow_reads hv
  replace HG := Aside0.mk (blk_below HG.out hb); replace HH := Aside0.mk (blk_below HH.out hb); replace HI := Aside0.mk (blk_below HI.out hb); replace HR := Aside0.mk (blk_below HR.out hb); replace HC := Aside0.mk (Kd.C_below HC.out hb); replace HB := Aside0.mk (below_then HB.out HB.out.size hb)
  have HV := Aside0.mk hv1; have HK := Aside0.mk hk
  clear hb hv hv1 hk HS2 y0 y1 y2
  go_upto_if 65 with fail
  go_cut [] (fun wx => wx.heap[gp]? = some (.cells #[.int .i64 p0, .int .i64 p1, .int .i64 p2, .int .i64 p3, .int .i64 p4, .int .i64 p5, .int .i64 p6, .int .i64 p7, .int .i64 p8, .int .i64 p9, .int .i64 p10, .int .i64 p11] 41 (0, 0)) ∧ wx.heap[gh]? = some (.cells #[.int .i64 g0, .int .i64 g1, .int .i64 g2] 43 (0, 0)) ∧ wx.heap[gi]? = some (.cells #[.int .i64 i0, .int .i64 i1, .int .i64 i2, .int .i64 i3, .int .i64 i4, .int .i64 i5, .int .i64 i6, .int .i64 i7, .int .i64 i8, .int .i64 i9, .int .i64 i10, .int .i64 i11, .int .i64 i12] 24 (0, 0)) ∧ wx.heap[gr]? = some (.cells #[.int .i64 r0, .int .i64 r1, .int .i64 r2, .int .i64 r3, .int .i64 r4, .int .i64 r5, .int .i64 r6, .int .i64 r7, .string rt] 48 (0, 0)) ∧ Below w.heap.size w wx)
  case first =>
    by_cases he : e2 = 0
    · have d1 : (e2 == 0) = true := beq_iff_eq.2 he
      have h1 := H2.out
      rw [he] at h1
      obtain ⟨hd2, hU, hbb, hbl⟩ := head_back h1
      have HU := Aside0.mk (unheader_calls A2 k2 l2 u20 HV.out HK.out hbb (by omega) g0 g1 g2 0 hU)
      clear h1 hU hbb hbl he HV HK 
      go_wp2_with fail
      ((with_reducible refine HU.out.mono ?_); rintro e u21 ⟨rfl, hb⟩)
      replace HG := Aside0.mk (blk_below HG.out hb); replace HH := Aside0.mk (blk_below HH.out hb); replace HI := Aside0.mk (blk_below HI.out hb); replace HR := Aside0.mk (blk_below HR.out hb); replace HC := Aside0.mk (Kd.C_below HC.out hb); replace HB := Aside0.mk (below_then HB.out HB.out.size hb)
      clear hb HU
      go_upto_region 11 with (((with_reducible refine gate_dst (N := 16) rfl ?_); refine box_event ?hg (N := 16) ?hd (cs := #[.int .i64 0, .int .i64 0, .int .i64 0]) (t := 43) ?hr ?_; (case hd => rfl); (case hg => rfl); (case hr => first | (go_simp; done) | (go_simp; rfl)); intro X2 hgX2 u22 hbox hb; have BKX2 := Aside0.mk hbox; have BHX2 := Aside0.mk hb; have GEX2 := Aside0.mk hgX2; clear hb hbox hgX2; obtain ⟨z0, z1, z2⟩ := cl3 BKX2; obtain ⟨f0, f1, f2⟩ := fz3 BKX2))
      have HBx : Aside0 (Below u21.heap.size u21 (((u22.setCell ⟨X2, 0, none⟩ (.int .i64 g0)).setCell ⟨X2, 1, none⟩ (.int .i64 g1)).setCell ⟨X2, 2, none⟩ (.int .i64 g2))) := ⟨below3 BHX2.out (by have := GEX2.out; omega) (.int .i64 g0) (.int .i64 g1) (.int .i64 g2)⟩
      have HZX2 := Aside0.mk (put3 BKX2.out (.int .i64 g0) (.int .i64 g1) (.int .i64 g2))
      clear BKX2 BHX2 GEX2 z0 f0 z1 f1 z2 f2
      generalize (((u22.setCell ⟨X2, 0, none⟩ (.int .i64 g0)).setCell ⟨X2, 1, none⟩ (.int .i64 g1)).setCell ⟨X2, 2, none⟩ (.int .i64 g2)) = u23 at HBx HZX2 ⊢
      have hb := HBx.out
      replace HG := Aside0.mk (blk_below HG.out hb); replace HH := Aside0.mk (blk_below HH.out hb); replace HI := Aside0.mk (blk_below HI.out hb); replace HR := Aside0.mk (blk_below HR.out hb); replace HC := Aside0.mk (Kd.C_below HC.out hb); replace HB := Aside0.mk (below_then HB.out HB.out.size hb)
      clear hb HBx
      obtain ⟨y0, y1, y2⟩ := cl3 HH
      obtain ⟨z0, z1, z2⟩ := cl3 HZX2
      have heq : ∀ W : World, (binOp .neq 43 (.agg #[.int .i64 g0, .int .i64 g1, .int .i64 g2]) (.agg #[.int .i64 g0, .int .i64 g1, .int .i64 g2])).run Tryd.prog W = .ok (.bool false) W := head_same g0 g1 g2
      have d2 : ((l2.length : Int) != 64) = false := bne_eq_false_iff_eq.2 hd2
      go_wp2
      go_meet
      case rel => exact ⟨HG.out, HH.out, HI.out, HR.out, HB.out⟩
    · have d1 : (e2 == 0) = false := beq_eq_false_iff_ne.2 he
      go_wp2
      go_meet
      case rel => exact ⟨HG.out, HH.out, HI.out, HR.out, HB.out⟩
  obtain ⟨q1, q2, q3, q4, q5⟩ := hcut
  replace HG := Aside0.mk q1; replace HH := Aside0.mk q2; replace HI := Aside0.mk q3; replace HR := Aside0.mk q4; replace HB := Aside0.mk q5; have HC := Aside0.mk (Kd.C_below HC0.out HB.out)
  clear q1 q2 q3 q4 q5
  clear HV HK H2
  obtain ⟨kk0, kk1, kk2, kk3, kk4, kk5, kk6, kk7, kk8, kk9, kk10, kk11, kk12⟩ := cl13 HI
  go_wp2_with fail
  ((with_reducible refine (HS3.out _).mono ?_); rintro e u30 ⟨vv, rfl, hv, hb⟩)
  obtain ⟨A3, k3, rfl, hk, hv1⟩ := brow_reads hv
  replace HG := Aside0.mk (blk_below HG.out hb); replace HH := Aside0.mk (blk_below HH.out hb); replace HI := Aside0.mk (blk_below HI.out hb); replace HR := Aside0.mk (blk_below HR.out hb); replace HC := Aside0.mk (Kd.C_below HC.out hb); replace HB := Aside0.mk (below_then HB.out HB.out.size hb)
  have HV := Aside0.mk hv1; have HK := Aside0.mk hk
  clear hb hv hv1 hk HS3 kk0 kk1 kk2 kk3 kk4 kk5 kk6 kk7 kk8 kk9 kk10 kk11 kk12
  go_upto_if 89 with fail
  go_cut [] (fun wx => wx.heap[gp]? = some (.cells #[.int .i64 p0, .int .i64 p1, .int .i64 p2, .int .i64 p3, .int .i64 p4, .int .i64 p5, .int .i64 p6, .int .i64 p7, .int .i64 p8, .int .i64 p9, .int .i64 p10, .int .i64 p11] 41 (0, 0)) ∧ wx.heap[gh]? = some (.cells #[.int .i64 g0, .int .i64 g1, .int .i64 g2] 43 (0, 0)) ∧ wx.heap[gi]? = some (.cells #[.int .i64 i0, .int .i64 i1, .int .i64 i2, .int .i64 i3, .int .i64 i4, .int .i64 i5, .int .i64 i6, .int .i64 i7, .int .i64 i8, .int .i64 i9, .int .i64 i10, .int .i64 i11, .int .i64 i12] 24 (0, 0)) ∧ wx.heap[gr]? = some (.cells #[.int .i64 r0, .int .i64 r1, .int .i64 r2, .int .i64 r3, .int .i64 r4, .int .i64 r5, .int .i64 r6, .int .i64 r7, .string rt] 48 (0, 0)) ∧ Below w.heap.size w wx)
  case first =>
    by_cases he : e3 = 0
    · have d1 : (e3 == 0) = true := beq_iff_eq.2 he
      have h1 := H3.out
      rw [he] at h1
      obtain ⟨hd2, hU, hU2⟩ := ino_back h1
      have HD2 := Aside0.mk hd2
      have hbb : Bytes l3 := by have := inoOut_bytes (p0 := i0) (p1 := i1) (p2 := i2) (p3 := i3) (p4 := i4) (p5 := i5) (p6 := i6) (p7 := i7) (p8 := i8) (p9 := i9) (p10 := i10) (p11 := i11) (p12 := i12) (by rw [h1]); rw [h1] at this; exact this
      have hbl : l3.length ≤ 4096 := by omega
      have hcl := uninode_calls A3 k3 l3 u30 HV.out HK.out hbb (by omega)
      rw [hU, hU2, aggI_lit] at hcl
      have HU := Aside0.mk (hcl)
      clear h1 hU hbb hbl he HV HK hU2 hcl hd2
      go_wp2_with fail
      ((with_reducible refine HU.out.mono ?_); rintro e u31 ⟨rfl, hb⟩)
      replace HG := Aside0.mk (blk_below HG.out hb); replace HH := Aside0.mk (blk_below HH.out hb); replace HI := Aside0.mk (blk_below HI.out hb); replace HR := Aside0.mk (blk_below HR.out hb); replace HC := Aside0.mk (Kd.C_below HC.out hb); replace HB := Aside0.mk (below_then HB.out HB.out.size hb)
      clear hb HU
      go_upto_region 16 with (((with_reducible refine gate_dst (N := 19) rfl ?_); refine box_event ?hg (N := 19) ?hd (cs := #[.int .i64 0, .int .i64 0, .int .i64 0, .int .i64 0, .int .i64 0, .int .i64 0, .int .i64 0, .int .i64 0, .int .i64 0, .int .i64 0, .int .i64 0, .int .i64 0, .int .i64 0]) (t := 24) ?hr ?_; (case hd => rfl); (case hg => rfl); (case hr => first | (go_simp; done) | (go_simp; rfl)); intro X3 hgX3 u32 hbox hb; have BKX3 := Aside0.mk hbox; have BHX3 := Aside0.mk hb; have GEX3 := Aside0.mk hgX3; clear hb hbox hgX3; obtain ⟨z0, z1, z2, z3, z4, z5, z6, z7, z8, z9, z10, z11, z12⟩ := cl13 BKX3; obtain ⟨f0, f1, f2, f3, f4, f5, f6, f7, f8, f9, f10, f11, f12⟩ := fz13 BKX3))
      have HBx : Aside0 (Below u31.heap.size u31 (((((((((((((u32.setCell ⟨X3, 0, none⟩ (.int .i64 i0)).setCell ⟨X3, 1, none⟩ (.int .i64 i1)).setCell ⟨X3, 2, none⟩ (.int .i64 i2)).setCell ⟨X3, 3, none⟩ (.int .i64 i3)).setCell ⟨X3, 4, none⟩ (.int .i64 i4)).setCell ⟨X3, 5, none⟩ (.int .i64 i5)).setCell ⟨X3, 6, none⟩ (.int .i64 i6)).setCell ⟨X3, 7, none⟩ (.int .i64 i7)).setCell ⟨X3, 8, none⟩ (.int .i64 i8)).setCell ⟨X3, 9, none⟩ (.int .i64 i9)).setCell ⟨X3, 10, none⟩ (.int .i64 i10)).setCell ⟨X3, 11, none⟩ (.int .i64 i11)).setCell ⟨X3, 12, none⟩ (.int .i64 i12))) := ⟨below13 BHX3.out (by have := GEX3.out; omega) (.int .i64 i0) (.int .i64 i1) (.int .i64 i2) (.int .i64 i3) (.int .i64 i4) (.int .i64 i5) (.int .i64 i6) (.int .i64 i7) (.int .i64 i8) (.int .i64 i9) (.int .i64 i10) (.int .i64 i11) (.int .i64 i12)⟩
      have HZX3 := Aside0.mk (put13 BKX3.out (.int .i64 i0) (.int .i64 i1) (.int .i64 i2) (.int .i64 i3) (.int .i64 i4) (.int .i64 i5) (.int .i64 i6) (.int .i64 i7) (.int .i64 i8) (.int .i64 i9) (.int .i64 i10) (.int .i64 i11) (.int .i64 i12))
      clear BKX3 BHX3 GEX3 z0 f0 z1 f1 z2 f2 z3 f3 z4 f4 z5 f5 z6 f6 z7 f7 z8 f8 z9 f9 z10 f10 z11 f11 z12 f12
      generalize (((((((((((((u32.setCell ⟨X3, 0, none⟩ (.int .i64 i0)).setCell ⟨X3, 1, none⟩ (.int .i64 i1)).setCell ⟨X3, 2, none⟩ (.int .i64 i2)).setCell ⟨X3, 3, none⟩ (.int .i64 i3)).setCell ⟨X3, 4, none⟩ (.int .i64 i4)).setCell ⟨X3, 5, none⟩ (.int .i64 i5)).setCell ⟨X3, 6, none⟩ (.int .i64 i6)).setCell ⟨X3, 7, none⟩ (.int .i64 i7)).setCell ⟨X3, 8, none⟩ (.int .i64 i8)).setCell ⟨X3, 9, none⟩ (.int .i64 i9)).setCell ⟨X3, 10, none⟩ (.int .i64 i10)).setCell ⟨X3, 11, none⟩ (.int .i64 i11)).setCell ⟨X3, 12, none⟩ (.int .i64 i12)) = u33 at HBx HZX3 ⊢
      have hb := HBx.out
      replace HG := Aside0.mk (blk_below HG.out hb); replace HH := Aside0.mk (blk_below HH.out hb); replace HI := Aside0.mk (blk_below HI.out hb); replace HR := Aside0.mk (blk_below HR.out hb); replace HC := Aside0.mk (Kd.C_below HC.out hb); replace HB := Aside0.mk (below_then HB.out HB.out.size hb)
      clear hb HBx
      obtain ⟨kk0, kk1, kk2, kk3, kk4, kk5, kk6, kk7, kk8, kk9, kk10, kk11, kk12⟩ := cl13 HI
      obtain ⟨z0, z1, z2, z3, z4, z5, z6, z7, z8, z9, z10, z11, z12⟩ := cl13 HZX3
      have heq : ∀ W : World, (binOp .neq 24 (.agg #[.int .i64 i0, .int .i64 i1, .int .i64 i2, .int .i64 i3, .int .i64 i4, .int .i64 i5, .int .i64 i6, .int .i64 i7, .int .i64 i8, .int .i64 i9, .int .i64 i10, .int .i64 i11, .int .i64 i12]) (.agg #[.int .i64 i0, .int .i64 i1, .int .i64 i2, .int .i64 i3, .int .i64 i4, .int .i64 i5, .int .i64 i6, .int .i64 i7, .int .i64 i8, .int .i64 i9, .int .i64 i10, .int .i64 i11, .int .i64 i12])).run Tryd.prog W = .ok (.bool false) W := ino_same i0 i1 i2 i3 i4 i5 i6 i7 i8 i9 i10 i11 i12
      have d2 : ((l3.length : Int) != 32) = false := bne_eq_false_iff_eq.2 (by have := HD2.out; omega)
      go_wp2
      go_meet
      case rel => exact ⟨HG.out, HH.out, HI.out, HR.out, HB.out⟩
    · have d1 : (e3 == 0) = false := beq_eq_false_iff_ne.2 he
      go_wp2
      go_meet
      case rel => exact ⟨HG.out, HH.out, HI.out, HR.out, HB.out⟩
  obtain ⟨q1, q2, q3, q4, q5⟩ := hcut
  replace HG := Aside0.mk q1; replace HH := Aside0.mk q2; replace HI := Aside0.mk q3; replace HR := Aside0.mk q4; replace HB := Aside0.mk q5; have HC := Aside0.mk (Kd.C_below HC0.out HB.out)
  clear q1 q2 q3 q4 q5
  clear HV HK H3
  obtain ⟨v0, v1, v2, v3, v4, v5, v6, v7, v8⟩ := cl9 HR
  go_wp2_with fail
  ((with_reducible refine (HS4.out _).mono ?_); rintro e u40 ⟨vv, rfl, hv, hb⟩)
  obtain ⟨A4, k4, rfl, hk, hv1⟩ := brow_reads hv
  replace HG := Aside0.mk (blk_below HG.out hb); replace HH := Aside0.mk (blk_below HH.out hb); replace HI := Aside0.mk (blk_below HI.out hb); replace HR := Aside0.mk (blk_below HR.out hb); replace HC := Aside0.mk (Kd.C_below HC.out hb); replace HB := Aside0.mk (below_then HB.out HB.out.size hb)
  have HV := Aside0.mk hv1; have HK := Aside0.mk hk
  clear hb hv hv1 hk HS4 v0 v1 v2 v3 v4 v5 v6 v7 v8
  go_upto_if 113 with fail
  go_cut [] (fun wx => wx.heap[gp]? = some (.cells #[.int .i64 p0, .int .i64 p1, .int .i64 p2, .int .i64 p3, .int .i64 p4, .int .i64 p5, .int .i64 p6, .int .i64 p7, .int .i64 p8, .int .i64 p9, .int .i64 p10, .int .i64 p11] 41 (0, 0)) ∧ wx.heap[gh]? = some (.cells #[.int .i64 g0, .int .i64 g1, .int .i64 g2] 43 (0, 0)) ∧ wx.heap[gi]? = some (.cells #[.int .i64 i0, .int .i64 i1, .int .i64 i2, .int .i64 i3, .int .i64 i4, .int .i64 i5, .int .i64 i6, .int .i64 i7, .int .i64 i8, .int .i64 i9, .int .i64 i10, .int .i64 i11, .int .i64 i12] 24 (0, 0)) ∧ wx.heap[gr]? = some (.cells #[.int .i64 r0, .int .i64 r1, .int .i64 r2, .int .i64 r3, .int .i64 r4, .int .i64 r5, .int .i64 r6, .int .i64 r7, .string rt] 48 (0, 0)) ∧ Below w.heap.size w wx)
  case first =>
    by_cases he : e4 = 0
    · have d1 : (e4 == 0) = true := beq_iff_eq.2 he
      have h1 := H4.out
      rw [he] at h1
      obtain ⟨hU, hbb, hbl⟩ := rec_back h1
      have hcl := unrecord_calls A4 k4 l4 0 u40 HV.out HK.out hbb (by omega) (by decide)
      rw [hU] at hcl
      have HU := Aside0.mk (hcl)
      clear h1 hU hbb hbl he HV HK hcl
      go_wp2_with fail
      ((with_reducible refine HU.out.mono ?_); rintro e u41 ⟨rfl, hb⟩)
      replace HG := Aside0.mk (blk_below HG.out hb); replace HH := Aside0.mk (blk_below HH.out hb); replace HI := Aside0.mk (blk_below HI.out hb); replace HR := Aside0.mk (blk_below HR.out hb); replace HC := Aside0.mk (Kd.C_below HC.out hb); replace HB := Aside0.mk (below_then HB.out HB.out.size hb)
      clear hb HU
      go_upto_region 21 with (((with_reducible refine gate_dst (N := 22) rfl ?_); refine box_event ?hg (N := 22) ?hd (cs := #[.int .i64 0, .int .i64 0, .int .i64 0, .int .i64 0, .int .i64 0, .int .i64 0, .int .i64 0, .int .i64 0, .string ⟨#[]⟩]) (t := 48) ?hr ?_; (case hd => rfl); (case hg => rfl); (case hr => first | (go_simp; done) | (go_simp; rfl)); intro X4 hgX4 u42 hbox hb; have BKX4 := Aside0.mk hbox; have BHX4 := Aside0.mk hb; have GEX4 := Aside0.mk hgX4; clear hb hbox hgX4; obtain ⟨z0, z1, z2, z3, z4, z5, z6, z7, z8⟩ := cl9 BKX4; obtain ⟨f0, f1, f2, f3, f4, f5, f6, f7, f8⟩ := fz9 BKX4))
      have HBx : Aside0 (Below u41.heap.size u41 (((((((((u42.setCell ⟨X4, 0, none⟩ (.int .i64 r0)).setCell ⟨X4, 1, none⟩ (.int .i64 r1)).setCell ⟨X4, 2, none⟩ (.int .i64 r2)).setCell ⟨X4, 3, none⟩ (.int .i64 r3)).setCell ⟨X4, 4, none⟩ (.int .i64 r4)).setCell ⟨X4, 5, none⟩ (.int .i64 r5)).setCell ⟨X4, 6, none⟩ (.int .i64 r6)).setCell ⟨X4, 7, none⟩ (.int .i64 r7)).setCell ⟨X4, 8, none⟩ (.string rt))) := ⟨below9 BHX4.out (by have := GEX4.out; omega) (.int .i64 r0) (.int .i64 r1) (.int .i64 r2) (.int .i64 r3) (.int .i64 r4) (.int .i64 r5) (.int .i64 r6) (.int .i64 r7) (.string rt)⟩
      have HZX4 := Aside0.mk (put9 BKX4.out (.int .i64 r0) (.int .i64 r1) (.int .i64 r2) (.int .i64 r3) (.int .i64 r4) (.int .i64 r5) (.int .i64 r6) (.int .i64 r7) (.string rt))
      clear BKX4 BHX4 GEX4 z0 f0 z1 f1 z2 f2 z3 f3 z4 f4 z5 f5 z6 f6 z7 f7 z8 f8
      generalize (((((((((u42.setCell ⟨X4, 0, none⟩ (.int .i64 r0)).setCell ⟨X4, 1, none⟩ (.int .i64 r1)).setCell ⟨X4, 2, none⟩ (.int .i64 r2)).setCell ⟨X4, 3, none⟩ (.int .i64 r3)).setCell ⟨X4, 4, none⟩ (.int .i64 r4)).setCell ⟨X4, 5, none⟩ (.int .i64 r5)).setCell ⟨X4, 6, none⟩ (.int .i64 r6)).setCell ⟨X4, 7, none⟩ (.int .i64 r7)).setCell ⟨X4, 8, none⟩ (.string rt)) = u43 at HBx HZX4 ⊢
      have hb := HBx.out
      replace HG := Aside0.mk (blk_below HG.out hb); replace HH := Aside0.mk (blk_below HH.out hb); replace HI := Aside0.mk (blk_below HI.out hb); replace HR := Aside0.mk (blk_below HR.out hb); replace HC := Aside0.mk (Kd.C_below HC.out hb); replace HB := Aside0.mk (below_then HB.out HB.out.size hb)
      clear hb HBx
      obtain ⟨v0, v1, v2, v3, v4, v5, v6, v7, v8⟩ := cl9 HR
      obtain ⟨z0, z1, z2, z3, z4, z5, z6, z7, z8⟩ := cl9 HZX4
      have heq : ∀ W : World, (binOp .neq 48 (.agg #[.int .i64 r0, .int .i64 r1, .int .i64 r2, .int .i64 r3, .int .i64 r4, .int .i64 r5, .int .i64 r6, .int .i64 r7, .string rt]) (.agg #[.int .i64 r0, .int .i64 r1, .int .i64 r2, .int .i64 r3, .int .i64 r4, .int .i64 r5, .int .i64 r6, .int .i64 r7, .string rt])).run Tryd.prog W = .ok (.bool false) W := rec_same r0 r1 r2 r3 r4 r5 r6 r7 rt
      have d2 : ((l4.length : Int) != (l4.length : Int)) = false := bne_eq_false_iff_eq.2 rfl
      go_wp2
      go_meet
      case rel => exact ⟨HG.out, HH.out, HI.out, HR.out, HB.out⟩
    · have d1 : (e4 == 0) = false := beq_eq_false_iff_ne.2 he
      go_wp2
      go_meet
      case rel => exact ⟨HG.out, HH.out, HI.out, HR.out, HB.out⟩
  obtain ⟨q1, q2, q3, q4, q5⟩ := hcut
  replace HG := Aside0.mk q1; replace HH := Aside0.mk q2; replace HI := Aside0.mk q3; replace HR := Aside0.mk q4; replace HB := Aside0.mk q5; have HC := Aside0.mk (Kd.C_below HC0.out HB.out)
  clear q1 q2 q3 q4 q5
  clear HV HK H4
  go_wp2_with fail
  ((with_reducible refine (HU5.out _ HC.out).mono ?_); rintro e u50 ⟨rfl, hb⟩)
  replace HG := Aside0.mk (blk_below HG.out hb); replace HH := Aside0.mk (blk_below HH.out hb); replace HI := Aside0.mk (blk_below HI.out hb); replace HR := Aside0.mk (blk_below HR.out hb); replace HC := Aside0.mk (Kd.C_below HC.out hb); replace HB := Aside0.mk (below_then HB.out HB.out.size hb)
  clear hb HU5
  go_upto_region 24 with (((with_reducible refine gate_dst (N := 25) rfl ?_); refine box_event ?hg (N := 25) ?hd (cs := #[.int .i64 0, .int .i64 0, .int .i64 0, .int .i64 0, .int .i64 0, .int .i64 0, .int .i64 0, .int .i64 0, .int .i64 0, .int .i64 0, .int .i64 0, .int .i64 0, .int .i64 0]) (t := 24) ?hr ?_; (case hd => rfl); (case hg => rfl); (case hr => first | (go_simp; done) | (go_simp; rfl)); intro X5 hgX5 u51 hbox hb; have BKX5 := Aside0.mk hbox; have BHX5 := Aside0.mk hb; have GEX5 := Aside0.mk hgX5; clear hb hbox hgX5; obtain ⟨z0, z1, z2, z3, z4, z5, z6, z7, z8, z9, z10, z11, z12⟩ := cl13 BKX5; obtain ⟨f0, f1, f2, f3, f4, f5, f6, f7, f8, f9, f10, f11, f12⟩ := fz13 BKX5))
  have HBx : Aside0 (Below u50.heap.size u50 (((((((((((((u51.setCell ⟨X5, 0, none⟩ (.int .i64 m0)).setCell ⟨X5, 1, none⟩ (.int .i64 m1)).setCell ⟨X5, 2, none⟩ (.int .i64 m2)).setCell ⟨X5, 3, none⟩ (.int .i64 m3)).setCell ⟨X5, 4, none⟩ (.int .i64 m4)).setCell ⟨X5, 5, none⟩ (.int .i64 m5)).setCell ⟨X5, 6, none⟩ (.int .i64 m6)).setCell ⟨X5, 7, none⟩ (.int .i64 m7)).setCell ⟨X5, 8, none⟩ (.int .i64 m8)).setCell ⟨X5, 9, none⟩ (.int .i64 m9)).setCell ⟨X5, 10, none⟩ (.int .i64 m10)).setCell ⟨X5, 11, none⟩ (.int .i64 m11)).setCell ⟨X5, 12, none⟩ (.int .i64 m12))) := ⟨below13 BHX5.out (by have := GEX5.out; omega) (.int .i64 m0) (.int .i64 m1) (.int .i64 m2) (.int .i64 m3) (.int .i64 m4) (.int .i64 m5) (.int .i64 m6) (.int .i64 m7) (.int .i64 m8) (.int .i64 m9) (.int .i64 m10) (.int .i64 m11) (.int .i64 m12)⟩
  have HZX5 := Aside0.mk (put13 BKX5.out (.int .i64 m0) (.int .i64 m1) (.int .i64 m2) (.int .i64 m3) (.int .i64 m4) (.int .i64 m5) (.int .i64 m6) (.int .i64 m7) (.int .i64 m8) (.int .i64 m9) (.int .i64 m10) (.int .i64 m11) (.int .i64 m12))
  clear BKX5 BHX5 GEX5 z0 f0 z1 f1 z2 f2 z3 f3 z4 f4 z5 f5 z6 f6 z7 f7 z8 f8 z9 f9 z10 f10 z11 f11 z12 f12
  generalize (((((((((((((u51.setCell ⟨X5, 0, none⟩ (.int .i64 m0)).setCell ⟨X5, 1, none⟩ (.int .i64 m1)).setCell ⟨X5, 2, none⟩ (.int .i64 m2)).setCell ⟨X5, 3, none⟩ (.int .i64 m3)).setCell ⟨X5, 4, none⟩ (.int .i64 m4)).setCell ⟨X5, 5, none⟩ (.int .i64 m5)).setCell ⟨X5, 6, none⟩ (.int .i64 m6)).setCell ⟨X5, 7, none⟩ (.int .i64 m7)).setCell ⟨X5, 8, none⟩ (.int .i64 m8)).setCell ⟨X5, 9, none⟩ (.int .i64 m9)).setCell ⟨X5, 10, none⟩ (.int .i64 m10)).setCell ⟨X5, 11, none⟩ (.int .i64 m11)).setCell ⟨X5, 12, none⟩ (.int .i64 m12)) = u52 at HBx HZX5 ⊢
  have hb := HBx.out
  replace HG := Aside0.mk (blk_below HG.out hb); replace HH := Aside0.mk (blk_below HH.out hb); replace HI := Aside0.mk (blk_below HI.out hb); replace HR := Aside0.mk (blk_below HR.out hb); replace HC := Aside0.mk (Kd.C_below HC.out hb); replace HB := Aside0.mk (below_then HB.out HB.out.size hb)
  clear hb HBx
  go_upto_if 139 with fail
  go_cut [] (fun wx => wx.heap[gp]? = some (.cells #[.int .i64 p0, .int .i64 p1, .int .i64 p2, .int .i64 p3, .int .i64 p4, .int .i64 p5, .int .i64 p6, .int .i64 p7, .int .i64 p8, .int .i64 p9, .int .i64 p10, .int .i64 p11] 41 (0, 0)) ∧ wx.heap[gh]? = some (.cells #[.int .i64 g0, .int .i64 g1, .int .i64 g2] 43 (0, 0)) ∧ wx.heap[gi]? = some (.cells #[.int .i64 i0, .int .i64 i1, .int .i64 i2, .int .i64 i3, .int .i64 i4, .int .i64 i5, .int .i64 i6, .int .i64 i7, .int .i64 i8, .int .i64 i9, .int .i64 i10, .int .i64 i11, .int .i64 i12] 24 (0, 0)) ∧ wx.heap[gr]? = some (.cells #[.int .i64 r0, .int .i64 r1, .int .i64 r2, .int .i64 r3, .int .i64 r4, .int .i64 r5, .int .i64 r6, .int .i64 r7, .string rt] 48 (0, 0)) ∧ Below w.heap.size w wx)
  case first =>
    by_cases he : ue = 0
    · have d1 : (ue == 0) = true := beq_iff_eq.2 he
      have hi := uni_back2 HLB.out HM.out (HUE.out.trans he)
      have hcl := inode_calls m0 m1 m2 m3 m4 m5 m6 m7 m8 m9 m10 m11 m12
      rw [hi] at hcl
      have HSI := Aside0.mk hcl
      clear hi hcl he
      obtain ⟨z0, z1, z2, z3, z4, z5, z6, z7, z8, z9, z10, z11, z12⟩ := cl13 HZX5
      go_wp2_with fail
      ((with_reducible refine (HSI.out _).mono ?_); rintro e u53 ⟨vv, rfl, hv, hb⟩)
      obtain ⟨A5, k5, rfl, hk, hv1⟩ := brow_reads hv
      replace HG := Aside0.mk (blk_below HG.out hb); replace HH := Aside0.mk (blk_below HH.out hb); replace HI := Aside0.mk (blk_below HI.out hb); replace HR := Aside0.mk (blk_below HR.out hb); replace HC := Aside0.mk (Kd.C_below HC.out hb); replace HZX5 := Aside0.mk (blk_below HZX5.out hb); replace HB := Aside0.mk (below_then HB.out HB.out.size hb)
      have HSB := Aside0.mk (skerryref01_SameBytes.calls A5 k5 l A c l true u53 hv1 hk HC.out HLC.out (same_bytesI l))
      clear hb hv hv1 hk HSI z0 z1 z2 z3 z4 z5 z6 z7 z8 z9 z10 z11 z12
      go_wp2_with fail
      ((with_reducible refine HSB.out.mono ?_); rintro e u54 ⟨rfl, hd⟩)
      have hb := hd.below
      replace HG := Aside0.mk (blk_below HG.out hb); replace HH := Aside0.mk (blk_below HH.out hb); replace HI := Aside0.mk (blk_below HI.out hb); replace HR := Aside0.mk (blk_below HR.out hb); replace HC := Aside0.mk (Kd.C_below HC.out hb); replace HZX5 := Aside0.mk (blk_below HZX5.out hb); replace HB := Aside0.mk (below_then HB.out HB.out.size hb)
      clear hb hd HSB
      go_wp2
      go_meet
      case rel => exact ⟨HG.out, HH.out, HI.out, HR.out, HB.out⟩
    · have d1 : (ue == 0) = false := beq_eq_false_iff_ne.2 he
      go_wp2
      go_meet
      case rel => exact ⟨HG.out, HH.out, HI.out, HR.out, HB.out⟩
  obtain ⟨q1, q2, q3, q4, q5⟩ := hcut
  replace HG := Aside0.mk q1; replace HH := Aside0.mk q2; replace HI := Aside0.mk q3; replace HR := Aside0.mk q4; replace HB := Aside0.mk q5; have HC := Aside0.mk (Kd.C_below HC0.out HB.out)
  clear q1 q2 q3 q4 q5
  clear HZX5
  go_wp2_with fail
  ((with_reducible refine (HU6.out _ HC.out).mono ?_); rintro e u60 ⟨rfl, hb⟩)
  replace HG := Aside0.mk (blk_below HG.out hb); replace HH := Aside0.mk (blk_below HH.out hb); replace HI := Aside0.mk (blk_below HI.out hb); replace HR := Aside0.mk (blk_below HR.out hb); replace HC := Aside0.mk (Kd.C_below HC.out hb); replace HB := Aside0.mk (below_then HB.out HB.out.size hb)
  clear hb HU6
  go_upto_region 29 with (((with_reducible refine gate_dst (N := 28) rfl ?_); refine box_event ?hg (N := 28) ?hd (cs := #[.int .i64 0, .string ⟨#[]⟩]) (t := 26) ?hr ?_; (case hd => rfl); (case hg => rfl); (case hr => first | (go_simp; done) | (go_simp; rfl)); intro X6 hgX6 u61 hbox hb; have BKX6 := Aside0.mk hbox; have BHX6 := Aside0.mk hb; have GEX6 := Aside0.mk hgX6; clear hb hbox hgX6; obtain ⟨z0, z1⟩ := cl2 BKX6; obtain ⟨f0, f1⟩ := fz2 BKX6))
  have HBx : Aside0 (Below u60.heap.size u60 ((u61.setCell ⟨X6, 0, none⟩ (.int .i64 xn)).setCell ⟨X6, 1, none⟩ (.string xs))) := ⟨below2 BHX6.out (by have := GEX6.out; omega) (.int .i64 xn) (.string xs)⟩
  have HZX6 := Aside0.mk (put2 BKX6.out (.int .i64 xn) (.string xs))
  clear BKX6 BHX6 GEX6 z0 f0 z1 f1
  generalize ((u61.setCell ⟨X6, 0, none⟩ (.int .i64 xn)).setCell ⟨X6, 1, none⟩ (.string xs)) = u62 at HBx HZX6 ⊢
  have hb := HBx.out
  replace HG := Aside0.mk (blk_below HG.out hb); replace HH := Aside0.mk (blk_below HH.out hb); replace HI := Aside0.mk (blk_below HI.out hb); replace HR := Aside0.mk (blk_below HR.out hb); replace HC := Aside0.mk (Kd.C_below HC.out hb); replace HB := Aside0.mk (below_then HB.out HB.out.size hb)
  clear hb HBx
  go_upto_if 159 with fail
  go_cut [] (fun wx => wx.heap[gp]? = some (.cells #[.int .i64 p0, .int .i64 p1, .int .i64 p2, .int .i64 p3, .int .i64 p4, .int .i64 p5, .int .i64 p6, .int .i64 p7, .int .i64 p8, .int .i64 p9, .int .i64 p10, .int .i64 p11] 41 (0, 0)) ∧ wx.heap[gh]? = some (.cells #[.int .i64 g0, .int .i64 g1, .int .i64 g2] 43 (0, 0)) ∧ wx.heap[gi]? = some (.cells #[.int .i64 i0, .int .i64 i1, .int .i64 i2, .int .i64 i3, .int .i64 i4, .int .i64 i5, .int .i64 i6, .int .i64 i7, .int .i64 i8, .int .i64 i9, .int .i64 i10, .int .i64 i11, .int .i64 i12] 24 (0, 0)) ∧ wx.heap[gr]? = some (.cells #[.int .i64 r0, .int .i64 r1, .int .i64 r2, .int .i64 r3, .int .i64 r4, .int .i64 r5, .int .i64 r6, .int .i64 r7, .string rt] 48 (0, 0)) ∧ Below w.heap.size w wx)
  case first =>
    by_cases he : xe = 0
    · have d1 : (xe == 0) = true := beq_iff_eq.2 he
      have hi := und_back HLB.out (by rw [HUN.out]; exact he)
      rw [HUN.out] at hi
      have hcl := dirent_calls xn xs
      rw [hi] at hcl
      have HSI := Aside0.mk hcl
      clear hi hcl he
      obtain ⟨z0, z1⟩ := cl2 HZX6
      go_wp2_with fail
      ((with_reducible refine (HSI.out _).mono ?_); rintro e u63 ⟨vv, rfl, hv, hb⟩)
      obtain ⟨A6, k6, rfl, hk, hv1⟩ := brow_reads hv
      replace HG := Aside0.mk (blk_below HG.out hb); replace HH := Aside0.mk (blk_below HH.out hb); replace HI := Aside0.mk (blk_below HI.out hb); replace HR := Aside0.mk (blk_below HR.out hb); replace HC := Aside0.mk (Kd.C_below HC.out hb); replace HZX6 := Aside0.mk (blk_below HZX6.out hb); replace HB := Aside0.mk (below_then HB.out HB.out.size hb)
      have HSB := Aside0.mk (skerryref01_SameBytes.calls A6 k6 l A c l true u63 hv1 hk HC.out HLC.out (same_bytesI l))
      clear hb hv hv1 hk HSI z0 z1
      go_wp2_with fail
      ((with_reducible refine HSB.out.mono ?_); rintro e u64 ⟨rfl, hd⟩)
      have hb := hd.below
      replace HG := Aside0.mk (blk_below HG.out hb); replace HH := Aside0.mk (blk_below HH.out hb); replace HI := Aside0.mk (blk_below HI.out hb); replace HR := Aside0.mk (blk_below HR.out hb); replace HC := Aside0.mk (Kd.C_below HC.out hb); replace HZX6 := Aside0.mk (blk_below HZX6.out hb); replace HB := Aside0.mk (below_then HB.out HB.out.size hb)
      clear hb hd HSB
      go_wp2
      go_meet
      case rel => exact ⟨HG.out, HH.out, HI.out, HR.out, HB.out⟩
    · have d1 : (xe == 0) = false := beq_eq_false_iff_ne.2 he
      go_wp2
      go_meet
      case rel => exact ⟨HG.out, HH.out, HI.out, HR.out, HB.out⟩
  obtain ⟨q1, q2, q3, q4, q5⟩ := hcut
  replace HG := Aside0.mk q1; replace HH := Aside0.mk q2; replace HI := Aside0.mk q3; replace HR := Aside0.mk q4; replace HB := Aside0.mk q5; have HC := Aside0.mk (Kd.C_below HC0.out HB.out)
  clear q1 q2 q3 q4 q5
  clear HZX6
  go_wp2
  go_ret
  exact ⟨rfl, HB.out⟩
end Go.Proofs.YtbplffdmggbcdaaDoor.Codec
