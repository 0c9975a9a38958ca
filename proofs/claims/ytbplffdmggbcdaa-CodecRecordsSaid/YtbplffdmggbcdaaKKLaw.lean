/- The law of records: the walk. -/
import Derived.Test.YtbplffdmggbcdaaKKRunrec
import Derived.Test.YtbplffdmggbcdaaKKWakes
import Derived.Test.YtbplffdmggbcdaaKKEql
namespace Go.Proofs.Ytbplffdmggbcdaa.Codec
open Go.RowKit Go.Proofs.Ytbplffdmggbcdaa.PCodecRecords Go.Proofs.Ytbplffdmggbcdaa.Plain Go.Proofs.Ytbplffdmggbcdaa.Pure Go.Proofs.YtbplffdmggbcdaaW.PrintWords Go.Proofs.YtbplffdmggbcdaaW.PrintLast Go.Proofs.YtbplffdmggbcdaaW.PrintMore
set_option linter.unusedVariables false
set_option linter.unusedSimpArgs false

theorem recRes_form (u : List Int × Int × Int) : ∃ (c0 c1 c2 c3 c4 c5 c6 c7 : Int) (T : ByteArray) (x y : Int), recRes u = .tuple #[.agg #[.int .i64 c0, .int .i64 c1, .int .i64 c2, .int .i64 c3, .int .i64 c4, .int .i64 c5, .int .i64 c6, .int .i64 c7, .string T], .int .i64 x, .int .i64 y] := by
  unfold recRes
  split
  · split
    · exact ⟨0, 0, 0, 0, 0, 0, 0, 0, _, _, _, rfl⟩
    · exact ⟨_, _, _, _, _, _, _, _, _, _, _, rfl⟩
  · exact ⟨0, 0, 0, 0, 0, 0, 0, 0, _, _, _, rfl⟩
theorem same_bytes (l : List Int) : skerryref01_SameBytes.f l l = some true := by unfold skerryref01_SameBytes.f; simp
set_option maxHeartbeats 4000000 in
set_option maxRecDepth 100000 in
theorem law_calls (b q s0 s1 s2 s3 a n : Int) (t : ByteArray) (ht : t.size ≤ 140737488351232) (A : Option Addr) (c : Nat) (l : List Int) (at_ : Int) (w : World) (hr : Kd.C (Kd.int .u8) w A l.length l) (hc : l.length ≤ c) (hl : Bytes l) (hs : l.length ≤ 140737488351232) (ha : -9223372036854775808 ≤ at_ ∧ at_ ≤ 9223372036854775807) :
    Calls Try.prog 3 #[.agg #[.int .i64 b, .int .i64 q, .int .i64 s0, .int .i64 s1, .int .i64 s2, .int .i64 s3, .int .i64 a, .int .i64 n, .string t], .slice A l.length c, .int .i64 at_] w fun e w' => e = .returned (.bool true) ∧ Below w.heap.size w w' := by
  have hu := Try.underlying26
  have hu2 := Try.underlying24
  have HW := Aside0.mk wakes_calls
  have HR := Aside0.mk (record_calls b q s0 s1 s2 s3 a n t ht)
  have HRR := Aside0.mk (rrecord_calls b q s0 s1 s2 s3 a n t ht)
  have HU := Aside0.mk (fun W h => unrecord_calls A c l at_ W h hc hl hs ha)
  have HRU := Aside0.mk (fun W h => runrecord_calls A c l at_ W h hc hl hs)
  obtain ⟨c0, c1, c2, c3, c4, c5, c6, c7, T, x, y, hF⟩ := recRes_form (unf l at_)
  rw [hF] at HU HRU
  obtain ⟨⟨l1, e1⟩, hro⟩ : ∃ ro, recOut b q s0 s1 s2 s3 a n (bytesOf t) = ro := ⟨_, rfl⟩
  rw [hro] at HR HRR
  have HC0 := Aside0.mk hr
  clear ht hr hc hl hs ha hF hro
  go_enter Try.func3, Try.ntmps3
  go_upto_region 1 with (((with_reducible refine gate_dst (N := 3) rfl ?_); refine box_event ?hg (N := 3) ?hd (cs := #[.int .i64 b, .int .i64 q, .int .i64 s0, .int .i64 s1, .int .i64 s2, .int .i64 s3, .int .i64 a, .int .i64 n, .string t]) (t := 26) ?hr ?_; (case hd => rfl); (case hg => rfl); (case hr => first | (go_simp; done) | (go_simp; rfl)); intro gb hggb w0 hbox hb; have BKgb := Aside0.mk hbox; have BHgb := Aside0.mk hb; have GEgb := Aside0.mk hggb; clear hb hbox hggb))
  have HGX := Aside0.mk BKgb.out
  have HB0 := Aside0.mk BHgb.out
  have HCA := Aside0.mk (Kd.C_below HC0.out BHgb.out)
  clear BKgb BHgb GEgb HC0
  go_wp2_with fail
  ((with_reducible refine (HW.out _).mono ?_); rintro e w1 ⟨rfl, hb⟩)
  have HG1 := Aside0.mk (blk_below HGX.out hb); have HB1 := Aside0.mk (below_then HB0.out HB0.out.size hb); have HC1 := Aside0.mk (Kd.C_below HCA.out hb)
  clear hb HGX HB0 HCA HW
  have xb : w1.cell? ⟨gb, 0, none⟩ = some (.int .i64 b) := (blk_cell HG1.out 0).trans rfl; have xq : w1.cell? ⟨gb, 1, none⟩ = some (.int .i64 q) := (blk_cell HG1.out 1).trans rfl; have xs0 : w1.cell? ⟨gb, 2, none⟩ = some (.int .i64 s0) := (blk_cell HG1.out 2).trans rfl; have xs1 : w1.cell? ⟨gb, 3, none⟩ = some (.int .i64 s1) := (blk_cell HG1.out 3).trans rfl; have xs2 : w1.cell? ⟨gb, 4, none⟩ = some (.int .i64 s2) := (blk_cell HG1.out 4).trans rfl; have xs3 : w1.cell? ⟨gb, 5, none⟩ = some (.int .i64 s3) := (blk_cell HG1.out 5).trans rfl; have xa : w1.cell? ⟨gb, 6, none⟩ = some (.int .i64 a) := (blk_cell HG1.out 6).trans rfl; have xn : w1.cell? ⟨gb, 7, none⟩ = some (.int .i64 n) := (blk_cell HG1.out 7).trans rfl; have xt : w1.cell? ⟨gb, 8, none⟩ = some (.string t) := (blk_cell HG1.out 8).trans rfl
  go_wp2_with fail
  ((with_reducible refine (HR.out _).mono ?_); rintro e w2 ⟨v, rfl, hv, hb⟩)
  have HG2 := Aside0.mk (blk_below HG1.out hb); have HB2 := Aside0.mk (below_then HB1.out HB1.out.size hb); have HC2 := Aside0.mk (Kd.C_below HC1.out hb)
  obtain ⟨A1, k1, rfl, hk1, hv1⟩ := brow_reads hv
  have HV2 := Aside0.mk hv1; have HK1 := Aside0.mk hk1
  clear hb HG1 HB1 HC1 HR hv hv1 hk1 xb xq xs0 xs1 xs2 xs3 xa xn xt
  have xb : w2.cell? ⟨gb, 0, none⟩ = some (.int .i64 b) := (blk_cell HG2.out 0).trans rfl; have xq : w2.cell? ⟨gb, 1, none⟩ = some (.int .i64 q) := (blk_cell HG2.out 1).trans rfl; have xs0 : w2.cell? ⟨gb, 2, none⟩ = some (.int .i64 s0) := (blk_cell HG2.out 2).trans rfl; have xs1 : w2.cell? ⟨gb, 3, none⟩ = some (.int .i64 s1) := (blk_cell HG2.out 3).trans rfl; have xs2 : w2.cell? ⟨gb, 4, none⟩ = some (.int .i64 s2) := (blk_cell HG2.out 4).trans rfl; have xs3 : w2.cell? ⟨gb, 5, none⟩ = some (.int .i64 s3) := (blk_cell HG2.out 5).trans rfl; have xa : w2.cell? ⟨gb, 6, none⟩ = some (.int .i64 a) := (blk_cell HG2.out 6).trans rfl; have xn : w2.cell? ⟨gb, 7, none⟩ = some (.int .i64 n) := (blk_cell HG2.out 7).trans rfl; have xt : w2.cell? ⟨gb, 8, none⟩ = some (.string t) := (blk_cell HG2.out 8).trans rfl
  go_wp2_with fail
  ((with_reducible refine (HRR.out _).mono ?_); rintro e w3 ⟨v, rfl, hv, hb⟩)
  have HB3 := Aside0.mk (below_then HB2.out HB2.out.size hb); have HC3 := Aside0.mk (Kd.C_below HC2.out hb); have HV3 := Aside0.mk (Kd.C_below HV2.out hb)
  obtain ⟨A2, k2, rfl, hk2, hv2⟩ := brow_reads hv
  have HU3 := Aside0.mk hv2; have HK2 := Aside0.mk hk2
  clear hb HG2 HB2 HC2 HRR HV2 hv hv2 hk2 xb xq xs0 xs1 xs2 xs3 xa xn xt
  go_wp2_with fail
  ((with_reducible refine (HU.out _ HC3.out).mono ?_); rintro e w4 ⟨rfl, hb⟩)
  have HB4 := Aside0.mk (below_then HB3.out HB3.out.size hb); have HC4 := Aside0.mk (Kd.C_below HC3.out hb); have HV4 := Aside0.mk (Kd.C_below HV3.out hb); have HU4 := Aside0.mk (Kd.C_below HU3.out hb)
  clear hb HB3 HC3 HV3 HU3 HU
  go_wp2_with (((with_reducible refine gate_dst (N := 11) rfl ?_); refine box_event ?hg (N := 11) ?hd (cs := #[.int .i64 0, .int .i64 0, .int .i64 0, .int .i64 0, .int .i64 0, .int .i64 0, .int .i64 0, .int .i64 0, .string ⟨#[]⟩]) (t := 26) ?hr ?_; (case hd => rfl); (case hg => rfl); (case hr => first | (go_simp; done) | (go_simp; rfl)); intro X hgX w5 hbox hb; have BKX := Aside0.mk hbox; have BHX := Aside0.mk hb; have GEX := Aside0.mk hgX; clear hb hbox hgX; have z0 : w5.cell? ⟨X, 0, none⟩ = some (.int .i64 0) := (blk_cell BKX.out 0).trans rfl; have z1 : w5.cell? ⟨X, 1, none⟩ = some (.int .i64 0) := (blk_cell BKX.out 1).trans rfl; have z2 : w5.cell? ⟨X, 2, none⟩ = some (.int .i64 0) := (blk_cell BKX.out 2).trans rfl; have z3 : w5.cell? ⟨X, 3, none⟩ = some (.int .i64 0) := (blk_cell BKX.out 3).trans rfl; have z4 : w5.cell? ⟨X, 4, none⟩ = some (.int .i64 0) := (blk_cell BKX.out 4).trans rfl; have z5 : w5.cell? ⟨X, 5, none⟩ = some (.int .i64 0) := (blk_cell BKX.out 5).trans rfl; have z6 : w5.cell? ⟨X, 6, none⟩ = some (.int .i64 0) := (blk_cell BKX.out 6).trans rfl; have z7 : w5.cell? ⟨X, 7, none⟩ = some (.int .i64 0) := (blk_cell BKX.out 7).trans rfl; have z8 : w5.cell? ⟨X, 8, none⟩ = some (.string ⟨#[]⟩) := (blk_cell BKX.out 8).trans rfl; have f0 : w5.frozen? ⟨X, 0, none⟩ = false := blk_frozen BKX.out 0; have f1 : w5.frozen? ⟨X, 1, none⟩ = false := blk_frozen BKX.out 1; have f2 : w5.frozen? ⟨X, 2, none⟩ = false := blk_frozen BKX.out 2; have f3 : w5.frozen? ⟨X, 3, none⟩ = false := blk_frozen BKX.out 3; have f4 : w5.frozen? ⟨X, 4, none⟩ = false := blk_frozen BKX.out 4; have f5 : w5.frozen? ⟨X, 5, none⟩ = false := blk_frozen BKX.out 5; have f6 : w5.frozen? ⟨X, 6, none⟩ = false := blk_frozen BKX.out 6; have f7 : w5.frozen? ⟨X, 7, none⟩ = false := blk_frozen BKX.out 7; have f8 : w5.frozen? ⟨X, 8, none⟩ = false := blk_frozen BKX.out 8))
  have HB46 : Aside0 (Below w4.heap.size w4 (((((((((w5.setCell ⟨X, 0, none⟩ (.int .i64 c0)).setCell ⟨X, 1, none⟩ (.int .i64 c1)).setCell ⟨X, 2, none⟩ (.int .i64 c2)).setCell ⟨X, 3, none⟩ (.int .i64 c3)).setCell ⟨X, 4, none⟩ (.int .i64 c4)).setCell ⟨X, 5, none⟩ (.int .i64 c5)).setCell ⟨X, 6, none⟩ (.int .i64 c6)).setCell ⟨X, 7, none⟩ (.int .i64 c7)).setCell ⟨X, 8, none⟩ (.string T))) := ⟨below9 BHX.out (by have := GEX.out; omega) (.int .i64 c0) (.int .i64 c1) (.int .i64 c2) (.int .i64 c3) (.int .i64 c4) (.int .i64 c5) (.int .i64 c6) (.int .i64 c7) (.string T)⟩
  have HX6 := Aside0.mk (put9 BKX.out (.int .i64 c0) (.int .i64 c1) (.int .i64 c2) (.int .i64 c3) (.int .i64 c4) (.int .i64 c5) (.int .i64 c6) (.int .i64 c7) (.string T))
  clear BKX BHX GEX z0 f0 z1 f1 z2 f2 z3 f3 z4 f4 z5 f5 z6 f6 z7 f7 z8 f8
  generalize (((((((((w5.setCell ⟨X, 0, none⟩ (.int .i64 c0)).setCell ⟨X, 1, none⟩ (.int .i64 c1)).setCell ⟨X, 2, none⟩ (.int .i64 c2)).setCell ⟨X, 3, none⟩ (.int .i64 c3)).setCell ⟨X, 4, none⟩ (.int .i64 c4)).setCell ⟨X, 5, none⟩ (.int .i64 c5)).setCell ⟨X, 6, none⟩ (.int .i64 c6)).setCell ⟨X, 7, none⟩ (.int .i64 c7)).setCell ⟨X, 8, none⟩ (.string T)) = w6 at HB46 HX6 ⊢
  have HB6 := Aside0.mk (below_then HB4.out HB4.out.size HB46.out); have HC6 := Aside0.mk (Kd.C_below HC4.out HB46.out); have HV6 := Aside0.mk (Kd.C_below HV4.out HB46.out); have HU6 := Aside0.mk (Kd.C_below HU4.out HB46.out)
  clear HB4 HC4 HV4 HU4 HB46
  ((with_reducible refine (HRU.out _ HC6.out).mono ?_); rintro e w7 ⟨rfl, hb⟩)
  have HB7 := Aside0.mk (below_then HB6.out HB6.out.size hb); have HV7 := Aside0.mk (Kd.C_below HV6.out hb); have HU7 := Aside0.mk (Kd.C_below HU6.out hb); have HX7 := Aside0.mk (blk_below HX6.out hb)
  clear hb HB6 HC6 HV6 HU6 HX6 HRU
  go_upto_region 7 with (((with_reducible refine gate_dst (N := 14) rfl ?_); refine box_event ?hg (N := 14) ?hd (cs := #[.int .i64 0, .int .i64 0, .int .i64 0, .int .i64 0, .int .i64 0, .int .i64 0, .int .i64 0, .int .i64 0, .string ⟨#[]⟩]) (t := 26) ?hr ?_; (case hd => rfl); (case hg => rfl); (case hr => first | (go_simp; done) | (go_simp; rfl)); intro Y hgY w8 hbox hb; have BKY := Aside0.mk hbox; have BHY := Aside0.mk hb; have GEY := Aside0.mk hgY; clear hb hbox hgY; have z0 : w8.cell? ⟨Y, 0, none⟩ = some (.int .i64 0) := (blk_cell BKY.out 0).trans rfl; have z1 : w8.cell? ⟨Y, 1, none⟩ = some (.int .i64 0) := (blk_cell BKY.out 1).trans rfl; have z2 : w8.cell? ⟨Y, 2, none⟩ = some (.int .i64 0) := (blk_cell BKY.out 2).trans rfl; have z3 : w8.cell? ⟨Y, 3, none⟩ = some (.int .i64 0) := (blk_cell BKY.out 3).trans rfl; have z4 : w8.cell? ⟨Y, 4, none⟩ = some (.int .i64 0) := (blk_cell BKY.out 4).trans rfl; have z5 : w8.cell? ⟨Y, 5, none⟩ = some (.int .i64 0) := (blk_cell BKY.out 5).trans rfl; have z6 : w8.cell? ⟨Y, 6, none⟩ = some (.int .i64 0) := (blk_cell BKY.out 6).trans rfl; have z7 : w8.cell? ⟨Y, 7, none⟩ = some (.int .i64 0) := (blk_cell BKY.out 7).trans rfl; have z8 : w8.cell? ⟨Y, 8, none⟩ = some (.string ⟨#[]⟩) := (blk_cell BKY.out 8).trans rfl; have f0 : w8.frozen? ⟨Y, 0, none⟩ = false := blk_frozen BKY.out 0; have f1 : w8.frozen? ⟨Y, 1, none⟩ = false := blk_frozen BKY.out 1; have f2 : w8.frozen? ⟨Y, 2, none⟩ = false := blk_frozen BKY.out 2; have f3 : w8.frozen? ⟨Y, 3, none⟩ = false := blk_frozen BKY.out 3; have f4 : w8.frozen? ⟨Y, 4, none⟩ = false := blk_frozen BKY.out 4; have f5 : w8.frozen? ⟨Y, 5, none⟩ = false := blk_frozen BKY.out 5; have f6 : w8.frozen? ⟨Y, 6, none⟩ = false := blk_frozen BKY.out 6; have f7 : w8.frozen? ⟨Y, 7, none⟩ = false := blk_frozen BKY.out 7; have f8 : w8.frozen? ⟨Y, 8, none⟩ = false := blk_frozen BKY.out 8))
  have HB89 : Aside0 (Below w7.heap.size w7 (((((((((w8.setCell ⟨Y, 0, none⟩ (.int .i64 c0)).setCell ⟨Y, 1, none⟩ (.int .i64 c1)).setCell ⟨Y, 2, none⟩ (.int .i64 c2)).setCell ⟨Y, 3, none⟩ (.int .i64 c3)).setCell ⟨Y, 4, none⟩ (.int .i64 c4)).setCell ⟨Y, 5, none⟩ (.int .i64 c5)).setCell ⟨Y, 6, none⟩ (.int .i64 c6)).setCell ⟨Y, 7, none⟩ (.int .i64 c7)).setCell ⟨Y, 8, none⟩ (.string T))) := ⟨below9 BHY.out (by have := GEY.out; omega) (.int .i64 c0) (.int .i64 c1) (.int .i64 c2) (.int .i64 c3) (.int .i64 c4) (.int .i64 c5) (.int .i64 c6) (.int .i64 c7) (.string T)⟩
  have HY9 := Aside0.mk (put9 BKY.out (.int .i64 c0) (.int .i64 c1) (.int .i64 c2) (.int .i64 c3) (.int .i64 c4) (.int .i64 c5) (.int .i64 c6) (.int .i64 c7) (.string T))
  clear BKY BHY GEY z0 f0 z1 f1 z2 f2 z3 f3 z4 f4 z5 f5 z6 f6 z7 f7 z8 f8
  generalize (((((((((w8.setCell ⟨Y, 0, none⟩ (.int .i64 c0)).setCell ⟨Y, 1, none⟩ (.int .i64 c1)).setCell ⟨Y, 2, none⟩ (.int .i64 c2)).setCell ⟨Y, 3, none⟩ (.int .i64 c3)).setCell ⟨Y, 4, none⟩ (.int .i64 c4)).setCell ⟨Y, 5, none⟩ (.int .i64 c5)).setCell ⟨Y, 6, none⟩ (.int .i64 c6)).setCell ⟨Y, 7, none⟩ (.int .i64 c7)).setCell ⟨Y, 8, none⟩ (.string T)) = w9 at HB89 HY9 ⊢
  have HB9 := Aside0.mk (below_then HB7.out HB7.out.size HB89.out); have HV9 := Aside0.mk (Kd.C_below HV7.out HB89.out); have HU9 := Aside0.mk (Kd.C_below HU7.out HB89.out); have HX9 := Aside0.mk (blk_below HX7.out HB89.out)
  clear HB7 HV7 HU7 HX7 HB89
  have HSB := Aside0.mk (skerryref01_SameBytes.calls A1 k1 l1 A2 k2 l1 true w9 HV9.out HK1.out HU9.out HK2.out (same_bytes l1))
  clear HV9 HU9 HK1 HK2
  go_wp2_with fail
  ((with_reducible refine HSB.out.mono ?_); rintro e w10 ⟨rfl, hd⟩)
  have hb := hd.below
  have HB10 := Aside0.mk (below_then HB9.out HB9.out.size hb); have HX10 := Aside0.mk (blk_below HX9.out hb); have HY10 := Aside0.mk (blk_below HY9.out hb)
  clear hb hd HSB HB9 HX9 HY9
  have x0 : w10.cell? ⟨X, 0, none⟩ = some (.int .i64 c0) := (blk_cell HX10.out 0).trans rfl; have x1 : w10.cell? ⟨X, 1, none⟩ = some (.int .i64 c1) := (blk_cell HX10.out 1).trans rfl; have x2 : w10.cell? ⟨X, 2, none⟩ = some (.int .i64 c2) := (blk_cell HX10.out 2).trans rfl; have x3 : w10.cell? ⟨X, 3, none⟩ = some (.int .i64 c3) := (blk_cell HX10.out 3).trans rfl; have x4 : w10.cell? ⟨X, 4, none⟩ = some (.int .i64 c4) := (blk_cell HX10.out 4).trans rfl; have x5 : w10.cell? ⟨X, 5, none⟩ = some (.int .i64 c5) := (blk_cell HX10.out 5).trans rfl; have x6 : w10.cell? ⟨X, 6, none⟩ = some (.int .i64 c6) := (blk_cell HX10.out 6).trans rfl; have x7 : w10.cell? ⟨X, 7, none⟩ = some (.int .i64 c7) := (blk_cell HX10.out 7).trans rfl; have x8 : w10.cell? ⟨X, 8, none⟩ = some (.string T) := (blk_cell HX10.out 8).trans rfl
  have y0 : w10.cell? ⟨Y, 0, none⟩ = some (.int .i64 c0) := (blk_cell HY10.out 0).trans rfl; have y1 : w10.cell? ⟨Y, 1, none⟩ = some (.int .i64 c1) := (blk_cell HY10.out 1).trans rfl; have y2 : w10.cell? ⟨Y, 2, none⟩ = some (.int .i64 c2) := (blk_cell HY10.out 2).trans rfl; have y3 : w10.cell? ⟨Y, 3, none⟩ = some (.int .i64 c3) := (blk_cell HY10.out 3).trans rfl; have y4 : w10.cell? ⟨Y, 4, none⟩ = some (.int .i64 c4) := (blk_cell HY10.out 4).trans rfl; have y5 : w10.cell? ⟨Y, 5, none⟩ = some (.int .i64 c5) := (blk_cell HY10.out 5).trans rfl; have y6 : w10.cell? ⟨Y, 6, none⟩ = some (.int .i64 c6) := (blk_cell HY10.out 6).trans rfl; have y7 : w10.cell? ⟨Y, 7, none⟩ = some (.int .i64 c7) := (blk_cell HY10.out 7).trans rfl; have y8 : w10.cell? ⟨Y, 8, none⟩ = some (.string T) := (blk_cell HY10.out 8).trans rfl
  have heql : ∀ W : World, (binOp .eql 26 (.agg #[.int .i64 c0, .int .i64 c1, .int .i64 c2, .int .i64 c3, .int .i64 c4, .int .i64 c5, .int .i64 c6, .int .i64 c7, .string T]) (.agg #[.int .i64 c0, .int .i64 c1, .int .i64 c2, .int .i64 c3, .int .i64 c4, .int .i64 c5, .int .i64 c6, .int .i64 c7, .string T])).run Try.prog W = .ok (.bool true) W := rec_eql c0 c1 c2 c3 c4 c5 c6 c7 T
  go_wp2
  go_ret
  exact ⟨rfl, HB10.out⟩
end Go.Proofs.Ytbplffdmggbcdaa.Codec
