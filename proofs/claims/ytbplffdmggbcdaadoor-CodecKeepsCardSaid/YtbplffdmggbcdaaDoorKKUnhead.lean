/- Texts of this claim, merged. -/
import Derived.Test.YtbplffdmggbcdaaDoorKKHeads
import Derived.Test.YtbplffdmggbcdaaDoorKKReader
namespace Go.Proofs.YtbplffdmggbcdaaDoor.Codec
open Go.RowKit Go.Proofs.YtbplffdmggbcdaaDoor.PCodecKeeps Go.Proofs.YtbplffdmggbcdaaDoor.Plain Go.Proofs.YtbplffdmggbcdaaDoor.Pure Go.Proofs.YtbplffdmggbcdaaDoorW.PrintWords Go.Proofs.YtbplffdmggbcdaaDoorW.PrintLast Go.Proofs.YtbplffdmggbcdaaDoorW.PrintMore
set_option linter.unusedVariables false
set_option linter.unusedSimpArgs false

theorem put12 {w : World} {g : Nat} {t : TypeId} {a0 a1 a2 a3 a4 a5 a6 a7 a8 a9 a10 a11 : Value} (h : w.heap[g]? = some (.cells #[a0, a1, a2, a3, a4, a5, a6, a7, a8, a9, a10, a11] t (0, 0))) (v0 v1 v2 v3 v4 v5 v6 v7 v8 v9 v10 v11 : Value) : ((((((((((((w.setCell ⟨g, 0, none⟩ v0).setCell ⟨g, 1, none⟩ v1).setCell ⟨g, 2, none⟩ v2).setCell ⟨g, 3, none⟩ v3).setCell ⟨g, 4, none⟩ v4).setCell ⟨g, 5, none⟩ v5).setCell ⟨g, 6, none⟩ v6).setCell ⟨g, 7, none⟩ v7).setCell ⟨g, 8, none⟩ v8).setCell ⟨g, 9, none⟩ v9).setCell ⟨g, 10, none⟩ v10).setCell ⟨g, 11, none⟩ v11).heap[g]? = some (.cells #[v0, v1, v2, v3, v4, v5, v6, v7, v8, v9, v10, v11] t (0, 0)) := by
  have h := blk_put (cs' := #[v0, a1, a2, a3, a4, a5, a6, a7, a8, a9, a10, a11]) h 0 v0 rfl
  have h := blk_put (cs' := #[v0, v1, a2, a3, a4, a5, a6, a7, a8, a9, a10, a11]) h 1 v1 rfl
  have h := blk_put (cs' := #[v0, v1, v2, a3, a4, a5, a6, a7, a8, a9, a10, a11]) h 2 v2 rfl
  have h := blk_put (cs' := #[v0, v1, v2, v3, a4, a5, a6, a7, a8, a9, a10, a11]) h 3 v3 rfl
  have h := blk_put (cs' := #[v0, v1, v2, v3, v4, a5, a6, a7, a8, a9, a10, a11]) h 4 v4 rfl
  have h := blk_put (cs' := #[v0, v1, v2, v3, v4, v5, a6, a7, a8, a9, a10, a11]) h 5 v5 rfl
  have h := blk_put (cs' := #[v0, v1, v2, v3, v4, v5, v6, a7, a8, a9, a10, a11]) h 6 v6 rfl
  have h := blk_put (cs' := #[v0, v1, v2, v3, v4, v5, v6, v7, a8, a9, a10, a11]) h 7 v7 rfl
  have h := blk_put (cs' := #[v0, v1, v2, v3, v4, v5, v6, v7, v8, a9, a10, a11]) h 8 v8 rfl
  have h := blk_put (cs' := #[v0, v1, v2, v3, v4, v5, v6, v7, v8, v9, a10, a11]) h 9 v9 rfl
  have h := blk_put (cs' := #[v0, v1, v2, v3, v4, v5, v6, v7, v8, v9, v10, a11]) h 10 v10 rfl
  have h := blk_put (cs' := #[v0, v1, v2, v3, v4, v5, v6, v7, v8, v9, v10, v11]) h 11 v11 rfl
  exact h
theorem below12 {w w0 : World} {g : Nat} (h : Below w0.heap.size w0 w) (hg : w0.heap.size ≤ g) (v0 v1 v2 v3 v4 v5 v6 v7 v8 v9 v10 v11 : Value) : Below w0.heap.size w0 ((((((((((((w.setCell ⟨g, 0, none⟩ v0).setCell ⟨g, 1, none⟩ v1).setCell ⟨g, 2, none⟩ v2).setCell ⟨g, 3, none⟩ v3).setCell ⟨g, 4, none⟩ v4).setCell ⟨g, 5, none⟩ v5).setCell ⟨g, 6, none⟩ v6).setCell ⟨g, 7, none⟩ v7).setCell ⟨g, 8, none⟩ v8).setCell ⟨g, 9, none⟩ v9).setCell ⟨g, 10, none⟩ v10).setCell ⟨g, 11, none⟩ v11) := (below_set (below_set (below_set (below_set (below_set (below_set (below_set (below_set (below_set (below_set (below_set (below_set h hg) hg) hg) hg) hg) hg) hg) hg) hg) hg) hg) hg)
theorem put3 {w : World} {g : Nat} {t : TypeId} {a0 a1 a2 : Value} (h : w.heap[g]? = some (.cells #[a0, a1, a2] t (0, 0))) (v0 v1 v2 : Value) : (((w.setCell ⟨g, 0, none⟩ v0).setCell ⟨g, 1, none⟩ v1).setCell ⟨g, 2, none⟩ v2).heap[g]? = some (.cells #[v0, v1, v2] t (0, 0)) := by
  have h := blk_put (cs' := #[v0, a1, a2]) h 0 v0 rfl
  have h := blk_put (cs' := #[v0, v1, a2]) h 1 v1 rfl
  have h := blk_put (cs' := #[v0, v1, v2]) h 2 v2 rfl
  exact h
theorem below3 {w w0 : World} {g : Nat} (h : Below w0.heap.size w0 w) (hg : w0.heap.size ≤ g) (v0 v1 v2 : Value) : Below w0.heap.size w0 (((w.setCell ⟨g, 0, none⟩ v0).setCell ⟨g, 1, none⟩ v1).setCell ⟨g, 2, none⟩ v2) := (below_set (below_set (below_set h hg) hg) hg)
def PG (g0 g1 g2 g3 : Nat) (i : Nat) : Nat × Nat := ([g0, g1, g2, g3].getD i 0, 0)
theorem updG {g0 g1 g2 g3 : Nat} (h1 : g0 < g1) (h2 : g1 < g2) (h3 : g2 < g3) (V : Nat → Int) : upd (PG g0 g1 g2 g3) V g0 #[.int .i64 0] 4 = #[.int .i64 (V 0)] ∧ upd (PG g0 g1 g2 g3) V g1 #[.int .i64 0] 4 = #[.int .i64 (V 1)] ∧ upd (PG g0 g1 g2 g3) V g2 #[.int .i64 0] 4 = #[.int .i64 (V 2)] ∧ upd (PG g0 g1 g2 g3) V g3 #[.int .i64 0] 4 = #[.int .i64 (V 3)] := by
  have e1 : ¬ g0 = g1 := by omega
  have e2 : ¬ g0 = g2 := by omega
  have e3 : ¬ g0 = g3 := by omega
  have e4 : ¬ g1 = g2 := by omega
  have e5 : ¬ g1 = g3 := by omega
  have e6 : ¬ g2 = g3 := by omega
  have f1 : ¬ g1 = g0 := by omega
  have f2 : ¬ g2 = g0 := by omega
  have f3 : ¬ g3 = g0 := by omega
  have f4 : ¬ g2 = g1 := by omega
  have f5 : ¬ g3 = g1 := by omega
  have f6 : ¬ g3 = g2 := by omega
  refine ⟨?_, ?_, ?_, ?_⟩ <;> simp [upd, PG, *]
theorem arg_ltU {w : World} {A : Option Addr} {l : List Int} (h : Kd.C (Kd.int .u8) w A l.length l) : ∀ ad, A = some ad → 0 < l.length → ad.block < w.heap.size := by
  intro ad e hn
  obtain ⟨ad', e', hc⟩ := (brow_C h).2.2 hn
  obtain rfl : ad = ad' := by rw [e] at e'; exact Option.some.inj e'
  have h0 := World.block_lt_of_cell? w _ (hc 0 hn)
  have hb : (ad.add 0).block = ad.block := by unfold Addr.add; split <;> rfl
  rw [hb] at h0
  exact h0
set_option maxHeartbeats 4000000 in
set_option maxRecDepth 100000 in
theorem unsuper_calls (A : Option Addr) (c : Nat) (l : List Int) (w : World) (hr : Kd.C (Kd.int .u8) w A l.length l) (hc : l.length ≤ c) (hl : Bytes l) (hs : l.length ≤ 140737488351232) (m0 m1 m2 m3 m4 m5 m6 m7 m8 m9 m10 m11 m12 : Int) (hU : unsuperOut l = (m0, m1, m2, m3, m4, m5, m6, m7, m8, m9, m10, m11, m12)) :
    Calls Tryd.prog 19 #[.slice A l.length c] w fun e w' => e = .returned (.tuple #[.agg #[.int .i64 m0, .int .i64 m1, .int .i64 m2, .int .i64 m3, .int .i64 m4, .int .i64 m5, .int .i64 m6, .int .i64 m7, .int .i64 m8, .int .i64 m9, .int .i64 m10, .int .i64 m11], .int .i64 m12]) ∧ Below w.heap.size w w' := by
  have hu := Tryd.underlying41
  have hu3 := Tryd.underlying80
  have HR0 := Aside0.mk hr
  have HLS := Aside0.mk (And.intro hl (And.intro hs hc))
  have HU := Aside0.mk hU
  clear hr hU
  by_cases hp : pw (l.length : Int) = true
  rotate_left
  · have HSZ := Aside0.mk (bsz_calls (l.length : Int) false (Bool.eq_false_iff.2 hp))
    have HZ : Aside0 ((m0, m1, m2, m3, m4, m5, m6, m7, m8, m9, m10, m11, m12) = Z13) := ⟨by rw [← HU.out]; unfold unsuperOut; rw [if_neg hp]⟩
    simp only [Z13, Prod.mk.injEq] at HZ
    clear hp HU hl hs hc
    go_enter Tryd.func19, Tryd.ntmps19
    go_upto_region 1 with (((with_reducible refine gate_dst (N := 2) rfl ?_); refine box_event ?hg (N := 2) ?hd (cs := #[.int .i64 0, .int .i64 0, .int .i64 0, .int .i64 0, .int .i64 0, .int .i64 0, .int .i64 0, .int .i64 0, .int .i64 0, .int .i64 0, .int .i64 0, .int .i64 0]) (t := 41) ?hr ?_; (case hd => rfl); (case hg => rfl); (case hr => first | (go_simp; done) | (go_simp; rfl)); intro X hgX w1 hbox hb; have BKX := Aside0.mk hbox; have BHX := Aside0.mk hb; have GEX := Aside0.mk hgX; clear hb hbox hgX))
    go_wp2_with fail
    ((with_reducible refine (HSZ.out _).mono ?_); rintro e w2 ⟨rfl, hb⟩)
    have HX2 := Aside0.mk (blk_below BKX.out hb)
    have HB2 := Aside0.mk (below_then BHX.out BHX.out.size hb)
    have HGE : Aside0 (w.heap.size ≤ X) := ⟨by have := GEX.out; omega⟩
    clear hb BKX BHX GEX HSZ
    obtain ⟨x0, x1, x2, x3, x4, x5, x6, x7, x8, x9, x10, x11⟩ := cl12 HX2
    obtain ⟨f0, f1, f2, f3, f4, f5, f6, f7, f8, f9, f10, f11⟩ := fz12 HX2
    go_wp2
    refine bodyPost_ret (results_ct rfl _ _ X 41 #[.int .i64 0, .int .i64 0, .int .i64 0, .int .i64 0, .int .i64 0, .int .i64 0, .int .i64 0, .int .i64 0, .int .i64 0, .int .i64 0, .int .i64 0, .int .i64 0] (0, 0) _ rfl (put12 HX2.out (.int .i64 0) (.int .i64 0) (.int .i64 0) (.int .i64 0) (.int .i64 0) (.int .i64 0) (.int .i64 0) (.int .i64 0) (.int .i64 0) (.int .i64 0) (.int .i64 0) (.int .i64 0)) hu rfl (by kernel_rfl)) rfl ?_
    obtain ⟨rfl, rfl, rfl, rfl, rfl, rfl, rfl, rfl, rfl, rfl, rfl, rfl, rfl⟩ := HZ.out
    exact ⟨rfl, below12 HB2.out HGE.out _ _ _ _ _ _ _ _ _ _ _ _⟩
  · have HSZ := Aside0.mk (bsz_calls (l.length : Int) true hp)
    have h64 : 64 ≤ l.length := by have := (pw_iff _).1 hp; omega
    have H64 := Aside0.mk h64
    have HP := Aside0.mk hp
    clear hp hl hs hc h64
    go_enter Tryd.func19, Tryd.ntmps19
    go_upto_region 1 with (((with_reducible refine gate_dst (N := 2) rfl ?_); refine box_event ?hg (N := 2) ?hd (cs := #[.int .i64 0, .int .i64 0, .int .i64 0, .int .i64 0, .int .i64 0, .int .i64 0, .int .i64 0, .int .i64 0, .int .i64 0, .int .i64 0, .int .i64 0, .int .i64 0]) (t := 41) ?hr ?_; (case hd => rfl); (case hg => rfl); (case hr => first | (go_simp; done) | (go_simp; rfl)); intro X hgX w1 hbox hb; have BKX := Aside0.mk hbox; have BHX := Aside0.mk hb; have GEX := Aside0.mk hgX; clear hb hbox hgX))
    go_wp2_with fail
    ((with_reducible refine (HSZ.out _).mono ?_); rintro e w2 ⟨rfl, hb⟩)
    have HX2 := Aside0.mk (blk_below BKX.out hb)
    have HB2 := Aside0.mk (below_then BHX.out BHX.out.size hb)
    have HC2 := Aside0.mk (Kd.C_below HR0.out HB2.out)
    have HGE : Aside0 (w.heap.size ≤ X) := ⟨by have := GEX.out; omega⟩
    clear hb BKX BHX GEX HSZ
    go_upto_region 5 with (first | ((with_reducible refine gate_dst (N := 19) rfl ?_); refine box_event ?hg (N := 19) ?hd (cs := #[.slice A l.length c, .int .i64 4]) (t := 80) ?hr ?_; (case hd => rfl); (case hg => rfl); (case hr => first | (go_simp; done) | (go_simp; rfl)); intro RP hgRP w3 hbox hb; have BKRP := Aside0.mk hbox; have BHRP := Aside0.mk hb; have GERP := Aside0.mk hgRP; clear hb hbox hgRP) | ((with_reducible refine gate_dst (N := 5) rfl ?_); refine box_event ?hg (N := 5) ?hd (cs := #[.int .i64 0]) (t := 3) ?hr ?_; (case hd => rfl); (case hg => rfl); (case hr => first | (go_simp; done) | (go_simp; rfl)); intro G0 hgG0 w4 hbox hb; have BKG0 := Aside0.mk hbox; have BHG0 := Aside0.mk hb; have GEG0 := Aside0.mk hgG0; clear hb hbox hgG0) | ((with_reducible refine gate_dst (N := 6) rfl ?_); refine box_event ?hg (N := 6) ?hd (cs := #[.int .i64 0]) (t := 3) ?hr ?_; (case hd => rfl); (case hg => rfl); (case hr => first | (go_simp; done) | (go_simp; rfl)); intro G1 hgG1 w5 hbox hb; have BKG1 := Aside0.mk hbox; have BHG1 := Aside0.mk hb; have GEG1 := Aside0.mk hgG1; clear hb hbox hgG1) | ((with_reducible refine gate_dst (N := 7) rfl ?_); refine box_event ?hg (N := 7) ?hd (cs := #[.int .i64 0]) (t := 3) ?hr ?_; (case hd => rfl); (case hg => rfl); (case hr => first | (go_simp; done) | (go_simp; rfl)); intro G2 hgG2 w6 hbox hb; have BKG2 := Aside0.mk hbox; have BHG2 := Aside0.mk hb; have GEG2 := Aside0.mk hgG2; clear hb hbox hgG2) | ((with_reducible refine gate_dst (N := 8) rfl ?_); refine box_event ?hg (N := 8) ?hd (cs := #[.int .i64 0]) (t := 3) ?hr ?_; (case hd => rfl); (case hg => rfl); (case hr => first | (go_simp; done) | (go_simp; rfl)); intro G3 hgG3 w7 hbox hb; have BKG3 := Aside0.mk hbox; have BHG3 := Aside0.mk hb; have GEG3 := Aside0.mk hgG3; clear hb hbox hgG3))
    have HLT : Aside0 (X < RP ∧ RP < G0 ∧ G0 < G1 ∧ G1 < G2 ∧ G2 < G3 ∧ G3 < w7.heap.size) := ⟨by have := blk_lt HX2.out; have := GERP.out; have := blk_lt BKRP.out; have := GEG0.out; have := blk_lt BKG0.out; have := GEG1.out; have := blk_lt BKG1.out; have := GEG2.out; have := blk_lt BKG2.out; have := GEG3.out; have := blk_lt BKG3.out; omega⟩
    have HB27 := Aside0.mk (below_then (below_then (below_then (below_then BHRP.out BHRP.out.size BHG0.out) (below_then BHRP.out BHRP.out.size BHG0.out).size BHG1.out) (below_then (below_then BHRP.out BHRP.out.size BHG0.out) (below_then BHRP.out BHRP.out.size BHG0.out).size BHG1.out).size BHG2.out) (below_then (below_then (below_then BHRP.out BHRP.out.size BHG0.out) (below_then BHRP.out BHRP.out.size BHG0.out).size BHG1.out) (below_then (below_then BHRP.out BHRP.out.size BHG0.out) (below_then BHRP.out BHRP.out.size BHG0.out).size BHG1.out).size BHG2.out).size BHG3.out)
    have HRP := Aside0.mk (blk_below (blk_below (blk_below (blk_below BKRP.out BHG0.out) BHG1.out) BHG2.out) BHG3.out)
    have HG0 := Aside0.mk (blk_below (blk_below (blk_below BKG0.out BHG1.out) BHG2.out) BHG3.out)
    have HG1 := Aside0.mk (blk_below (blk_below BKG1.out BHG2.out) BHG3.out)
    have HG2 := Aside0.mk (blk_below BKG2.out BHG3.out)
    have HG3 := BKG3
    have HX7 := Aside0.mk (blk_below HX2.out HB27.out)
    have HC7 := Aside0.mk (Kd.C_below HC2.out HB27.out)
    have HB7 := Aside0.mk (below_then HB2.out HB2.out.size HB27.out)
    have HAL := Aside0.mk (arg_ltU HR0.out)
    have HRD := Aside0.mk (show Reader w7 RP A c l 4 from ⟨HRP.out, HC7.out, HLS.out.2.2, fun ad e h => by have := HAL.out ad e h; have := HLT.out; have := HGE.out; omega⟩)
    clear BKRP BHRP GERP BKG0 BHG0 GEG0 BKG1 BHG1 GEG1 BKG2 BHG2 GEG2 BKG3 BHG3 GEG3 HB27 HRP HX2 HB2 HC2
    go_wp2_with fail
    have HPC := Aside0.mk (blk_new w7 (.cells #[.pointer (some ⟨G0, 0, none⟩), .pointer (some ⟨G1, 0, none⟩), .pointer (some ⟨G2, 0, none⟩), .pointer (some ⟨G3, 0, none⟩)] 82))
    have HC : Aside0 (Calls Tryd.prog 36 #[.pointer (some ⟨RP, 0, none⟩), .int .i64 2, .slice (some ⟨w7.heap.size, 0, none⟩) 4 4] (w7.alloc (.cells #[.pointer (some ⟨G0, 0, none⟩), .pointer (some ⟨G1, 0, none⟩), .pointer (some ⟨G2, 0, none⟩), .pointer (some ⟨G3, 0, none⟩)] 82)) (fun e w' => e = .returned (.tuple #[]) ∧ Reader w' RP A c l 12 ∧ Stored (w7.alloc (.cells #[.pointer (some ⟨G0, 0, none⟩), .pointer (some ⟨G1, 0, none⟩), .pointer (some ⟨G2, 0, none⟩), .pointer (some ⟨G3, 0, none⟩)] 82)) w' RP (PG G0 G1 G2 G3) (nth l 4 2) 4)) := ⟨rnums_calls 2 (by decide) (HRD.out.later (below_alloc (Below.refl _ _) _)) HLS.out.1 HLS.out.2.1 4 (by have := H64.out; omega) (by decide) w7.heap.size (PG G0 G1 G2 G3) #[.pointer (some ⟨G0, 0, none⟩), .pointer (some ⟨G1, 0, none⟩), .pointer (some ⟨G2, 0, none⟩), .pointer (some ⟨G3, 0, none⟩)] 82 HPC.out (by
        intro i hi
        obtain rfl | rfl | rfl | rfl : i = 0 ∨ i = 1 ∨ i = 2 ∨ i = 3 := (by omega)
        all_goals rfl) (by
        intro i hi
        have h1 := HLT.out
        have h2 := HGE.out
        obtain rfl | rfl | rfl | rfl : i = 0 ∨ i = 1 ∨ i = 2 ∨ i = 3 := (by omega)
        · exact ⟨by show G0 ≠ RP; omega, by show G0 ≠ w7.heap.size; omega, fun ad e h => by have := HAL.out ad e h; show ad.block ≠ G0; omega, _, _, blk_alloc HG0.out _, 0, rfl⟩
        · exact ⟨by show G1 ≠ RP; omega, by show G1 ≠ w7.heap.size; omega, fun ad e h => by have := HAL.out ad e h; show ad.block ≠ G1; omega, _, _, blk_alloc HG1.out _, 0, rfl⟩
        · exact ⟨by show G2 ≠ RP; omega, by show G2 ≠ w7.heap.size; omega, fun ad e h => by have := HAL.out ad e h; show ad.block ≠ G2; omega, _, _, blk_alloc HG2.out _, 0, rfl⟩
        · exact ⟨by show G3 ≠ RP; omega, by show G3 ≠ w7.heap.size; omega, fun ad e h => by have := HAL.out ad e h; show ad.block ≠ G3; omega, _, _, blk_alloc HG3.out _, 0, rfl⟩) (by have := HLT.out; omega)⟩
    ((with_reducible refine HC.out.mono ?_); rintro e w8 ⟨rfl, hrd, hq⟩)
    have hup := updG HLT.out.2.2.1 HLT.out.2.2.2.1 HLT.out.2.2.2.2.1 (nth l 4 2)
    have hg0 := hq.cells G0 _ _ (blk_alloc HG0.out _) (by have := HLT.out; omega)
    have hg1 := hq.cells G1 _ _ (blk_alloc HG1.out _) (by have := HLT.out; omega)
    have hg2 := hq.cells G2 _ _ (blk_alloc HG2.out _) (by have := HLT.out; omega)
    have hg3 := hq.cells G3 _ _ (blk_alloc HG3.out _) (by have := HLT.out; omega)
    rw [hup.1] at hg0
    rw [hup.2.1] at hg1
    rw [hup.2.2.1] at hg2
    rw [hup.2.2.2] at hg3
    have HPi : ∀ i, i < 4 → RP ≤ (PG G0 G1 G2 G3 i).1 := by
      intro i hi
      have h1 := HLT.out
      obtain rfl | rfl | rfl | rfl : i = 0 ∨ i = 1 ∨ i = 2 ∨ i = 3 := (by omega)
      · show RP ≤ G0; omega
      · show RP ≤ G1; omega
      · show RP ≤ G2; omega
      · show RP ≤ G3; omega
    have HX8 := Aside0.mk (hq.block X _ (blk_alloc HX7.out _) (by have := HLT.out; omega) (fun i hi e => by have := HPi i hi; have := HLT.out; omega))
    have HB8 := Aside0.mk (hq.below (base := w.heap.size) (by have := HLT.out; have := HGE.out; omega) (fun i hi => by have := HPi i hi; have := HLT.out; have := HGE.out; omega) (HB7.out.alloc HB7.out.size _) (HB7.out.alloc HB7.out.size _).size)
    have HC8 := Aside0.mk hrd.rd
    have y0 : w8.cell? ⟨G0, 0, none⟩ = some (.int .i64 (nm l 4 2)) := (blk_cell hg0 0).trans rfl
    have y1 : w8.cell? ⟨G1, 0, none⟩ = some (.int .i64 (nm l 6 2)) := (blk_cell hg1 0).trans rfl
    have y2 : w8.cell? ⟨G2, 0, none⟩ = some (.int .i64 (nm l 8 2)) := (blk_cell hg2 0).trans rfl
    have y3 : w8.cell? ⟨G3, 0, none⟩ = some (.int .i64 (nm l 10 2)) := (blk_cell hg3 0).trans rfl
    have HUV := HU.out
    unfold unsuperOut at HUV
    rw [if_pos HP.out] at HUV
    clear hrd hq hup hg0 hg1 hg2 hg3 HPi HC HPC HRD HG0 HG1 HG2 HG3 HX7 HC7 HB7 HU HP
    obtain ⟨n0, hn0⟩ : ∃ n, nm l 4 2 = n := ⟨_, rfl⟩
    obtain ⟨n1, hn1⟩ : ∃ n, nm l 6 2 = n := ⟨_, rfl⟩
    obtain ⟨n2, hn2⟩ : ∃ n, nm l 8 2 = n := ⟨_, rfl⟩
    obtain ⟨n3, hn3⟩ : ∃ n, nm l 10 2 = n := ⟨_, rfl⟩
    rw [hn0, hn1, hn2, hn3] at HUV
    rw [hn0] at y0
    rw [hn1] at y1
    rw [hn2] at y2
    rw [hn3] at y3
    clear hn0 hn1 hn2 hn3
    have HU := Aside0.mk HUV
    clear HUV
    by_cases he : err13 (mk n0 n1 n2 n3) = 0
    rotate_left
    · have HZ : Aside0 ((m0, m1, m2, m3, m4, m5, m6, m7, m8, m9, m10, m11, m12) = Z13) := ⟨by rw [← HU.out, if_neg he]⟩
      simp only [Z13, Prod.mk.injEq] at HZ
      obtain ⟨⟨r0, r1, r2, r3, r4, r5, r6, r7, r8, r9, r10, r11, r12⟩, hm⟩ : ∃ m, mk n0 n1 n2 n3 = m := ⟨_, rfl⟩
      rw [hm] at he
      have d1 : (r12 != 0) = true := bne_iff_ne.2 he
      have HMK := Aside0.mk (fun W => plan_Make.calls n0 n1 n2 n3 r0 r1 r2 r3 r4 r5 r6 r7 r8 r9 r10 r11 r12 W (by rw [make_is, hm]))
      clear hm he HU
      go_wp2_with fail
      ((with_reducible refine (HMK.out _).mono ?_); rintro e w9 ⟨rfl, hb⟩)
      have HX9 := Aside0.mk (blk_below HX8.out hb); have HB9 := Aside0.mk (below_then HB8.out HB8.out.size hb)
      clear hb HMK y0 y1 y2 y3 HX8 HB8 HC8
      go_upto_region 7 with (((with_reducible refine gate_dst (N := 9) rfl ?_); refine box_event ?hg (N := 9) ?hd (cs := #[.int .i64 0, .int .i64 0, .int .i64 0, .int .i64 0, .int .i64 0, .int .i64 0, .int .i64 0, .int .i64 0, .int .i64 0, .int .i64 0, .int .i64 0, .int .i64 0]) (t := 41) ?hr ?_; (case hd => rfl); (case hg => rfl); (case hr => first | (go_simp; done) | (go_simp; rfl)); intro Y hgY w10 hbox hb; have BKY := Aside0.mk hbox; have BHY := Aside0.mk hb; have GEY := Aside0.mk hgY; clear hb hbox hgY; obtain ⟨y0, y1, y2, y3, y4, y5, y6, y7, y8, y9, y10, y11⟩ := cl12 BKY; obtain ⟨f0, f1, f2, f3, f4, f5, f6, f7, f8, f9, f10, f11⟩ := fz12 BKY))
      have HB1b : Aside0 (Below w9.heap.size w9 ((((((((((((w10.setCell ⟨Y, 0, none⟩ (.int .i64 r0)).setCell ⟨Y, 1, none⟩ (.int .i64 r1)).setCell ⟨Y, 2, none⟩ (.int .i64 r2)).setCell ⟨Y, 3, none⟩ (.int .i64 r3)).setCell ⟨Y, 4, none⟩ (.int .i64 r4)).setCell ⟨Y, 5, none⟩ (.int .i64 r5)).setCell ⟨Y, 6, none⟩ (.int .i64 r6)).setCell ⟨Y, 7, none⟩ (.int .i64 r7)).setCell ⟨Y, 8, none⟩ (.int .i64 r8)).setCell ⟨Y, 9, none⟩ (.int .i64 r9)).setCell ⟨Y, 10, none⟩ (.int .i64 r10)).setCell ⟨Y, 11, none⟩ (.int .i64 r11))) := ⟨below12 BHY.out (by have := GEY.out; omega) (.int .i64 r0) (.int .i64 r1) (.int .i64 r2) (.int .i64 r3) (.int .i64 r4) (.int .i64 r5) (.int .i64 r6) (.int .i64 r7) (.int .i64 r8) (.int .i64 r9) (.int .i64 r10) (.int .i64 r11)⟩
      clear BKY BHY GEY y0 f0 y1 f1 y2 f2 y3 f3 y4 f4 y5 f5 y6 f6 y7 f7 y8 f8 y9 f9 y10 f10 y11 f11
      generalize ((((((((((((w10.setCell ⟨Y, 0, none⟩ (.int .i64 r0)).setCell ⟨Y, 1, none⟩ (.int .i64 r1)).setCell ⟨Y, 2, none⟩ (.int .i64 r2)).setCell ⟨Y, 3, none⟩ (.int .i64 r3)).setCell ⟨Y, 4, none⟩ (.int .i64 r4)).setCell ⟨Y, 5, none⟩ (.int .i64 r5)).setCell ⟨Y, 6, none⟩ (.int .i64 r6)).setCell ⟨Y, 7, none⟩ (.int .i64 r7)).setCell ⟨Y, 8, none⟩ (.int .i64 r8)).setCell ⟨Y, 9, none⟩ (.int .i64 r9)).setCell ⟨Y, 10, none⟩ (.int .i64 r10)).setCell ⟨Y, 11, none⟩ (.int .i64 r11)) = w11 at HB1b ⊢
      have HX11 := Aside0.mk (blk_below HX9.out HB1b.out); have HB11 := Aside0.mk (below_then HB9.out HB9.out.size HB1b.out)
      obtain ⟨x0, x1, x2, x3, x4, x5, x6, x7, x8, x9, x10, x11⟩ := cl12 HX11
      obtain ⟨f0, f1, f2, f3, f4, f5, f6, f7, f8, f9, f10, f11⟩ := fz12 HX11
      go_wp2
      refine bodyPost_ret (results_ct rfl _ _ X 41 #[.int .i64 0, .int .i64 0, .int .i64 0, .int .i64 0, .int .i64 0, .int .i64 0, .int .i64 0, .int .i64 0, .int .i64 0, .int .i64 0, .int .i64 0, .int .i64 0] (0, 0) _ rfl (put12 HX11.out (.int .i64 0) (.int .i64 0) (.int .i64 0) (.int .i64 0) (.int .i64 0) (.int .i64 0) (.int .i64 0) (.int .i64 0) (.int .i64 0) (.int .i64 0) (.int .i64 0) (.int .i64 0)) hu rfl (by kernel_rfl)) rfl ?_
      obtain ⟨rfl, rfl, rfl, rfl, rfl, rfl, rfl, rfl, rfl, rfl, rfl, rfl, rfl⟩ := HZ.out
      exact ⟨rfl, below12 HB11.out HGE.out _ _ _ _ _ _ _ _ _ _ _ _⟩
    · obtain ⟨a4, a5, a6, a7, a8, a9, a10, a11, hm, hck⟩ := mk_sound n0 n1 n2 n3 he
      have HMK := Aside0.mk (fun W => plan_Make.calls n0 n1 n2 n3 n0 n1 n2 n3 a4 a5 a6 a7 a8 a9 a10 a11 0 W (by rw [make_is, hm]))
      have hso : superOut n0 n1 n2 n3 a4 a5 a6 a7 a8 a9 a10 a11 = (sealB (superH n0 n1 n2 n3) n0, 0) := by unfold superOut; rw [if_pos hck]
      have HSU := Aside0.mk (fun W => super_calls n0 n1 n2 n3 a4 a5 a6 a7 a8 a9 a10 a11 W)
      rw [hso] at HSU
      obtain ⟨BS, hBS⟩ : ∃ BS, sealB (superH n0 n1 n2 n3) n0 = BS := ⟨_, rfl⟩
      have HUV := HU.out
      rw [if_pos he, hm, hBS] at HUV
      rw [hBS] at HSU
      have hap : api_Plan.f n0 n1 n2 n3 a4 a5 a6 a7 a8 a9 a10 a11 l BS 0 = some (m0, m1, m2, m3, m4, m5, m6, m7, m8, m9, m10, m11, m12) := by
        unfold api_Plan.f bytes_Equal.f
        rw [← HUV]
        by_cases c : (strOfNums BS).toList = (strOfNums l).toList
        · rw [if_pos c, c]; simp
        · rw [if_neg c]
          have c2 : ((strOfNums l).toList == (strOfNums BS).toList) = false := beq_eq_false_iff_ne.2 fun q => c q.symm
          rw [c2]
          rfl
      have HAP := Aside0.mk hap
      clear hm hck hso hBS HUV HU hap he
      go_wp2_with fail
      ((with_reducible refine (HMK.out _).mono ?_); rintro e w9 ⟨rfl, hb⟩)
      have HX9 := Aside0.mk (blk_below HX8.out hb); have HB9 := Aside0.mk (below_then HB8.out HB8.out.size hb); have HC9 := Aside0.mk (Kd.C_below HC8.out hb)
      clear hb HMK y0 y1 y2 y3 HX8 HB8 HC8
      go_upto_region 7 with (((with_reducible refine gate_dst (N := 9) rfl ?_); refine box_event ?hg (N := 9) ?hd (cs := #[.int .i64 0, .int .i64 0, .int .i64 0, .int .i64 0, .int .i64 0, .int .i64 0, .int .i64 0, .int .i64 0, .int .i64 0, .int .i64 0, .int .i64 0, .int .i64 0]) (t := 41) ?hr ?_; (case hd => rfl); (case hg => rfl); (case hr => first | (go_simp; done) | (go_simp; rfl)); intro Y hgY w10 hbox hb; have BKY := Aside0.mk hbox; have BHY := Aside0.mk hb; have GEY := Aside0.mk hgY; clear hb hbox hgY; obtain ⟨y0, y1, y2, y3, y4, y5, y6, y7, y8, y9, y10, y11⟩ := cl12 BKY; obtain ⟨f0, f1, f2, f3, f4, f5, f6, f7, f8, f9, f10, f11⟩ := fz12 BKY))
      have HB1b : Aside0 (Below w9.heap.size w9 ((((((((((((w10.setCell ⟨Y, 0, none⟩ (.int .i64 n0)).setCell ⟨Y, 1, none⟩ (.int .i64 n1)).setCell ⟨Y, 2, none⟩ (.int .i64 n2)).setCell ⟨Y, 3, none⟩ (.int .i64 n3)).setCell ⟨Y, 4, none⟩ (.int .i64 a4)).setCell ⟨Y, 5, none⟩ (.int .i64 a5)).setCell ⟨Y, 6, none⟩ (.int .i64 a6)).setCell ⟨Y, 7, none⟩ (.int .i64 a7)).setCell ⟨Y, 8, none⟩ (.int .i64 a8)).setCell ⟨Y, 9, none⟩ (.int .i64 a9)).setCell ⟨Y, 10, none⟩ (.int .i64 a10)).setCell ⟨Y, 11, none⟩ (.int .i64 a11))) := ⟨below12 BHY.out (by have := GEY.out; omega) (.int .i64 n0) (.int .i64 n1) (.int .i64 n2) (.int .i64 n3) (.int .i64 a4) (.int .i64 a5) (.int .i64 a6) (.int .i64 a7) (.int .i64 a8) (.int .i64 a9) (.int .i64 a10) (.int .i64 a11)⟩
      have HY11 := Aside0.mk (put12 BKY.out (.int .i64 n0) (.int .i64 n1) (.int .i64 n2) (.int .i64 n3) (.int .i64 a4) (.int .i64 a5) (.int .i64 a6) (.int .i64 a7) (.int .i64 a8) (.int .i64 a9) (.int .i64 a10) (.int .i64 a11))
      clear BKY BHY GEY y0 f0 y1 f1 y2 f2 y3 f3 y4 f4 y5 f5 y6 f6 y7 f7 y8 f8 y9 f9 y10 f10 y11 f11
      generalize ((((((((((((w10.setCell ⟨Y, 0, none⟩ (.int .i64 n0)).setCell ⟨Y, 1, none⟩ (.int .i64 n1)).setCell ⟨Y, 2, none⟩ (.int .i64 n2)).setCell ⟨Y, 3, none⟩ (.int .i64 n3)).setCell ⟨Y, 4, none⟩ (.int .i64 a4)).setCell ⟨Y, 5, none⟩ (.int .i64 a5)).setCell ⟨Y, 6, none⟩ (.int .i64 a6)).setCell ⟨Y, 7, none⟩ (.int .i64 a7)).setCell ⟨Y, 8, none⟩ (.int .i64 a8)).setCell ⟨Y, 9, none⟩ (.int .i64 a9)).setCell ⟨Y, 10, none⟩ (.int .i64 a10)).setCell ⟨Y, 11, none⟩ (.int .i64 a11)) = w11 at HB1b HY11 ⊢
      have HX11 := Aside0.mk (blk_below HX9.out HB1b.out); have HB11 := Aside0.mk (below_then HB9.out HB9.out.size HB1b.out); have HC11 := Aside0.mk (Kd.C_below HC9.out HB1b.out)
      clear HX9 HB9 HC9 HB1b
      obtain ⟨y0, y1, y2, y3, y4, y5, y6, y7, y8, y9, y10, y11⟩ := cl12 HY11
      go_wp2_with fail
      ((with_reducible refine (HSU.out _).mono ?_); rintro e w12 ⟨v, rfl, hv, hb⟩)
      have HX12 := Aside0.mk (blk_below HX11.out hb); have HY12 := Aside0.mk (blk_below HY11.out hb); have HB12 := Aside0.mk (below_then HB11.out HB11.out.size hb); have HC12 := Aside0.mk (Kd.C_below HC11.out hb)
      obtain ⟨A2, k2, rfl, hk2, hv2⟩ := brow_reads hv
      have HSA := Aside0.mk (api_Plan.calls n0 n1 n2 n3 a4 a5 a6 a7 a8 a9 a10 a11 A c l A2 k2 BS 0 m0 m1 m2 m3 m4 m5 m6 m7 m8 m9 m10 m11 m12 w12 HC12.out HLS.out.2.2 hv2 hk2 HAP.out)
      clear hb HSU HX11 HY11 HB11 HC11 hv hv2 hk2 y0 y1 y2 y3 y4 y5 y6 y7 y8 y9 y10 y11
      obtain ⟨y0, y1, y2, y3, y4, y5, y6, y7, y8, y9, y10, y11⟩ := cl12 HY12
      go_wp2_with fail
      ((with_reducible refine HSA.out.mono ?_); rintro e w13 ⟨rfl, hb⟩)
      have HX13 := Aside0.mk (blk_below HX12.out hb); have HB13 := Aside0.mk (below_then HB12.out HB12.out.size hb)
      clear hb HSA HX12 HY12 HB12 HC12 y0 y1 y2 y3 y4 y5 y6 y7 y8 y9 y10 y11
      obtain ⟨x0, x1, x2, x3, x4, x5, x6, x7, x8, x9, x10, x11⟩ := cl12 HX13
      obtain ⟨f0, f1, f2, f3, f4, f5, f6, f7, f8, f9, f10, f11⟩ := fz12 HX13
      go_wp2
      refine bodyPost_ret (results_ct rfl _ _ X 41 #[.int .i64 m0, .int .i64 m1, .int .i64 m2, .int .i64 m3, .int .i64 m4, .int .i64 m5, .int .i64 m6, .int .i64 m7, .int .i64 m8, .int .i64 m9, .int .i64 m10, .int .i64 m11] (0, 0) _ rfl (put12 HX13.out (.int .i64 m0) (.int .i64 m1) (.int .i64 m2) (.int .i64 m3) (.int .i64 m4) (.int .i64 m5) (.int .i64 m6) (.int .i64 m7) (.int .i64 m8) (.int .i64 m9) (.int .i64 m10) (.int .i64 m11)) hu rfl (by kernel_rfl)) rfl ?_
      exact ⟨rfl, below12 HB13.out HGE.out _ _ _ _ _ _ _ _ _ _ _ _⟩
end Go.Proofs.YtbplffdmggbcdaaDoor.Codec

namespace Go.Proofs.YtbplffdmggbcdaaDoor.Codec
open Go.RowKit Go.Proofs.YtbplffdmggbcdaaDoor.PCodecKeeps Go.Proofs.YtbplffdmggbcdaaDoor.Plain Go.Proofs.YtbplffdmggbcdaaDoor.Pure Go.Proofs.YtbplffdmggbcdaaDoorW.PrintWords Go.Proofs.YtbplffdmggbcdaaDoorW.PrintLast Go.Proofs.YtbplffdmggbcdaaDoorW.PrintMore
set_option linter.unusedVariables false
set_option linter.unusedSimpArgs false

def PHh (h o : Nat) (i : Nat) : Nat × Nat := (h, o + i)
theorem headOut_err (s t u b : Int) : (headOut s t u b).2 ≠ 0 → (headOut s t u b).1 = [] := by
  unfold headOut
  intro h
  split at h
  · split at h
    · exact absurd rfl h
    · rename_i hp hf
      rw [if_pos hp, if_neg hf]
  · rename_i hp
    rw [if_neg hp]
set_option maxHeartbeats 4000000 in
set_option maxRecDepth 100000 in
theorem unheader_calls (A : Option Addr) (c : Nat) (l : List Int) (w : World) (hr : Kd.C (Kd.int .u8) w A l.length l) (hc : l.length ≤ c) (hl : Bytes l) (hs : l.length ≤ 140737488351232) (m0 m1 m2 m3 : Int) (hU : unheadOut l = (m0, m1, m2, m3)) :
    Calls Tryd.prog 21 #[.slice A l.length c] w fun e w' => e = .returned (.tuple #[.agg #[.int .i64 m0, .int .i64 m1, .int .i64 m2], .int .i64 m3]) ∧ Below w.heap.size w w' := by
  have hu := Tryd.underlying43
  have hu3 := Tryd.underlying80
  have HR0 := Aside0.mk hr
  have HLS := Aside0.mk (And.intro hl (And.intro hs hc))
  have HU := Aside0.mk hU
  clear hr hU
  by_cases hp : pw (l.length : Int) = true
  rotate_left
  · have HSZ := Aside0.mk (bsz_calls (l.length : Int) false (Bool.eq_false_iff.2 hp))
    have HZ : Aside0 ((m0, m1, m2, m3) = ((0, 0, 0, 4) : Int × Int × Int × Int)) := ⟨by rw [← HU.out]; unfold unheadOut; rw [if_neg hp]⟩
    simp only [Prod.mk.injEq] at HZ
    clear hp HU hl hs hc
    go_enter Tryd.func21, Tryd.ntmps21
    go_upto_region 1 with (((with_reducible refine gate_dst (N := 2) rfl ?_); refine box_event ?hg (N := 2) ?hd (cs := #[.int .i64 0, .int .i64 0, .int .i64 0]) (t := 43) ?hr ?_; (case hd => rfl); (case hg => rfl); (case hr => first | (go_simp; done) | (go_simp; rfl)); intro X hgX w1 hbox hb; have BKX := Aside0.mk hbox; have BHX := Aside0.mk hb; have GEX := Aside0.mk hgX; clear hb hbox hgX))
    go_wp2_with fail
    ((with_reducible refine (HSZ.out _).mono ?_); rintro e w2 ⟨rfl, hb⟩)
    have HX2 := Aside0.mk (blk_below BKX.out hb)
    have HB2 := Aside0.mk (below_then BHX.out BHX.out.size hb)
    have HGE : Aside0 (w.heap.size ≤ X) := ⟨by have := GEX.out; omega⟩
    clear hb BKX BHX GEX HSZ
    obtain ⟨x0, x1, x2⟩ := cl3 HX2
    obtain ⟨f0, f1, f2⟩ := fz3 HX2
    go_wp2
    refine bodyPost_ret (results_ct rfl _ _ X 43 #[.int .i64 0, .int .i64 0, .int .i64 0] (0, 0) _ rfl (put3 HX2.out (.int .i64 0) (.int .i64 0) (.int .i64 0)) hu rfl (by kernel_rfl)) rfl ?_
    obtain ⟨rfl, rfl, rfl, rfl⟩ := HZ.out
    exact ⟨rfl, below3 HB2.out HGE.out _ _ _⟩
  · have HSZ := Aside0.mk (bsz_calls (l.length : Int) true hp)
    have h64 : 64 ≤ l.length := by have := (pw_iff _).1 hp; omega
    have H64 := Aside0.mk h64
    have HP := Aside0.mk hp
    clear hp hl hs hc h64
    go_enter Tryd.func21, Tryd.ntmps21
    go_upto_region 1 with (((with_reducible refine gate_dst (N := 2) rfl ?_); refine box_event ?hg (N := 2) ?hd (cs := #[.int .i64 0, .int .i64 0, .int .i64 0]) (t := 43) ?hr ?_; (case hd => rfl); (case hg => rfl); (case hr => first | (go_simp; done) | (go_simp; rfl)); intro X hgX w1 hbox hb; have BKX := Aside0.mk hbox; have BHX := Aside0.mk hb; have GEX := Aside0.mk hgX; clear hb hbox hgX))
    go_wp2_with fail
    ((with_reducible refine (HSZ.out _).mono ?_); rintro e w2 ⟨rfl, hb⟩)
    have HX2 := Aside0.mk (blk_below BKX.out hb)
    have HB2 := Aside0.mk (below_then BHX.out BHX.out.size hb)
    have HC2 := Aside0.mk (Kd.C_below HR0.out HB2.out)
    have HGE : Aside0 (w.heap.size ≤ X) := ⟨by have := GEX.out; omega⟩
    clear hb BKX BHX GEX HSZ
    go_upto_region 5 with (first | ((with_reducible refine gate_dst (N := 4) rfl ?_); refine box_event ?hg (N := 4) ?hd (cs := #[.int .i64 0, .int .i64 0, .int .i64 0]) (t := 43) ?hr ?_; (case hd => rfl); (case hg => rfl); (case hr => first | (go_simp; done) | (go_simp; rfl)); intro H hgH w3 hbox hb; have BKH := Aside0.mk hbox; have BHH := Aside0.mk hb; have GEH := Aside0.mk hgH; clear hb hbox hgH) | ((with_reducible refine gate_dst (N := 15) rfl ?_); refine box_event ?hg (N := 15) ?hd (cs := #[.slice A l.length c, .int .i64 4]) (t := 80) ?hr ?_; (case hd => rfl); (case hg => rfl); (case hr => first | (go_simp; done) | (go_simp; rfl)); intro RP hgRP w4 hbox hb; have BKRP := Aside0.mk hbox; have BHRP := Aside0.mk hb; have GERP := Aside0.mk hgRP; clear hb hbox hgRP))
    have HLT : Aside0 (X < H ∧ H < RP) := ⟨by have := blk_lt HX2.out; have := GEH.out; have := blk_lt BKH.out; have := GERP.out; omega⟩
    have HB24 := Aside0.mk (below_then BHH.out BHH.out.size BHRP.out)
    have HH := Aside0.mk (blk_below BKH.out BHRP.out)
    have HX := Aside0.mk (blk_below HX2.out HB24.out)
    have HB := Aside0.mk (below_then HB2.out HB2.out.size HB24.out)
    have HAL := Aside0.mk (arg_ltU HR0.out)
    have HRD := Aside0.mk (show Reader w4 RP A c l 4 from ⟨BKRP.out, Kd.C_below HC2.out HB24.out, HLS.out.2.2, fun ad e h => by have := HAL.out ad e h; have := HLT.out; have := HGE.out; omega⟩)
    clear BKH BHH GEH BKRP BHRP GERP HB24 HX2 HB2 HC2
    go_wp2_with fail
    have HPC := Aside0.mk (blk_new w4 (.cells #[.pointer (some ⟨H, 0, none⟩)] 82))
    have HC : Aside0 (Calls Tryd.prog 36 #[.pointer (some ⟨RP, 0, none⟩), .int .i64 4, .slice (some ⟨w4.heap.size, 0, none⟩) 1 1] (w4.alloc (.cells #[.pointer (some ⟨H, 0, none⟩)] 82)) (fun e w' => e = .returned (.tuple #[]) ∧ Reader w' RP A c l 8 ∧ Stored (w4.alloc (.cells #[.pointer (some ⟨H, 0, none⟩)] 82)) w' RP (PHh H 0) (nth l 4 4) 1)) := ⟨rnums_calls 4 (by decide) (HRD.out.later (below_alloc (Below.refl _ _) _)) HLS.out.1 HLS.out.2.1 1 (by have := H64.out; omega) (by decide) w4.heap.size (PHh H 0) #[.pointer (some ⟨H, 0, none⟩)] 82 HPC.out (by
        intro i hi
        obtain rfl : i = 0 := (by omega)
        all_goals rfl) (by
        intro i hi
        have h1 := HLT.out
        have h2 := HGE.out
        refine ⟨by show H ≠ RP; omega, by show H ≠ w4.heap.size; have := blk_lt HH.out; omega, fun ad e h => by have := HAL.out ad e h; show ad.block ≠ H; omega, _, _, blk_alloc HH.out _, 0, ?_⟩
        obtain rfl : i = 0 := (by omega)
        all_goals rfl) (by have := blk_lt HRD.out.blk; omega)⟩
    ((with_reducible refine HC.out.mono ?_); rintro e w5 ⟨rfl, hrd, hq⟩)
    have hh := hq.cells H _ _ (blk_alloc HH.out _) (by have := HLT.out; omega)
    have hh : w5.heap[H]? = some (.cells #[.int .i64 (nth l 4 4 0), .int .i64 0, .int .i64 0] 43 (0, 0)) := by
      have e : upd (PHh H 0) (nth l 4 4) H #[.int .i64 0, .int .i64 0, .int .i64 0] 1 = #[.int .i64 (nth l 4 4 0), .int .i64 0, .int .i64 0] := by simp [upd, PHh]
      rw [e] at hh
      exact hh
    have HH5 := Aside0.mk hh
    have HX5 := Aside0.mk (hq.block X _ (blk_alloc HX.out _) (by have := HLT.out; omega) (fun i hi => by have := HLT.out; show H ≠ X; omega))
    have HB5 := Aside0.mk (hq.below (base := w.heap.size) (by have := HLT.out; have := HGE.out; omega) (fun i hi => by have := HLT.out; have := HGE.out; show w.heap.size ≤ H; omega) (HB.out.alloc HB.out.size _) (HB.out.alloc HB.out.size _).size)
    have HRD5 := Aside0.mk hrd
    clear hh hrd hq HC HPC HH HX HB HRD
    have HH := HH5; have HX := HX5; have HB := HB5; have HRD := HRD5
    clear HH5 HX5 HB5 HRD5
    go_wp2_with fail
    have HPC := Aside0.mk (blk_new w5 (.cells #[.pointer (some ⟨H, 1, none⟩), .pointer (some ⟨H, 2, none⟩)] 82))
    have HC : Aside0 (Calls Tryd.prog 36 #[.pointer (some ⟨RP, 0, none⟩), .int .i64 2, .slice (some ⟨w5.heap.size, 0, none⟩) 2 2] (w5.alloc (.cells #[.pointer (some ⟨H, 1, none⟩), .pointer (some ⟨H, 2, none⟩)] 82)) (fun e w' => e = .returned (.tuple #[]) ∧ Reader w' RP A c l 12 ∧ Stored (w5.alloc (.cells #[.pointer (some ⟨H, 1, none⟩), .pointer (some ⟨H, 2, none⟩)] 82)) w' RP (PHh H 1) (nth l 8 2) 2)) := ⟨rnums_calls 2 (by decide) (HRD.out.later (below_alloc (Below.refl _ _) _)) HLS.out.1 HLS.out.2.1 2 (by have := H64.out; omega) (by decide) w5.heap.size (PHh H 1) #[.pointer (some ⟨H, 1, none⟩), .pointer (some ⟨H, 2, none⟩)] 82 HPC.out (by
        intro i hi
        obtain rfl | rfl : i = 0 ∨ i = 1 := (by omega)
        all_goals rfl) (by
        intro i hi
        have h1 := HLT.out
        have h2 := HGE.out
        refine ⟨by show H ≠ RP; omega, by show H ≠ w5.heap.size; have := blk_lt HH.out; omega, fun ad e h => by have := HAL.out ad e h; show ad.block ≠ H; omega, _, _, blk_alloc HH.out _, 0, ?_⟩
        obtain rfl | rfl : i = 0 ∨ i = 1 := (by omega)
        all_goals rfl) (by have := blk_lt HRD.out.blk; omega)⟩
    ((with_reducible refine HC.out.mono ?_); rintro e w6 ⟨rfl, hrd, hq⟩)
    have hh := hq.cells H _ _ (blk_alloc HH.out _) (by have := HLT.out; omega)
    have hh : w6.heap[H]? = some (.cells #[.int .i64 (nth l 4 4 0), .int .i64 (nth l 8 2 0), .int .i64 (nth l 8 2 1)] 43 (0, 0)) := by
      have e : upd (PHh H 1) (nth l 8 2) H #[.int .i64 (nth l 4 4 0), .int .i64 0, .int .i64 0] 2 = #[.int .i64 (nth l 4 4 0), .int .i64 (nth l 8 2 0), .int .i64 (nth l 8 2 1)] := by simp [upd, PHh]
      rw [e] at hh
      exact hh
    have HH6 := Aside0.mk hh
    have HX6 := Aside0.mk (hq.block X _ (blk_alloc HX.out _) (by have := HLT.out; omega) (fun i hi => by have := HLT.out; show H ≠ X; omega))
    have HB6 := Aside0.mk (hq.below (base := w.heap.size) (by have := HLT.out; have := HGE.out; omega) (fun i hi => by have := HLT.out; have := HGE.out; show w.heap.size ≤ H; omega) (HB.out.alloc HB.out.size _) (HB.out.alloc HB.out.size _).size)
    have HRD6 := Aside0.mk hrd
    clear hh hrd hq HC HPC HH HX HB HRD
    have HH := HH6; have HX := HX6; have HB := HB6; have HRD := HRD6
    clear HH6 HX6 HB6 HRD6
    have HCr := Aside0.mk HRD.out.rd
    clear HRD
    have HUV := HU.out
    unfold unheadOut at HUV
    rw [if_pos HP.out] at HUV
    have hnn : (#[.int .i64 (nth l 4 4 0), .int .i64 (nth l 8 2 0), .int .i64 (nth l 8 2 1)] : Array Value) = #[.int .i64 (nm l 4 4), .int .i64 (nm l 8 2), .int .i64 (nm l 10 2)] := rfl
    rw [hnn] at HH
    clear hnn
    obtain ⟨n0, hn0⟩ : ∃ n, nm l 4 4 = n := ⟨_, rfl⟩
    obtain ⟨n1, hn1⟩ : ∃ n, nm l 8 2 = n := ⟨_, rfl⟩
    obtain ⟨n2, hn2⟩ : ∃ n, nm l 10 2 = n := ⟨_, rfl⟩
    rw [hn0, hn1, hn2] at HUV HH
    clear hn0 hn1 hn2
    have hap : api_Header.f n0 n1 n2 l (headOut n0 n1 n2 (l.length : Int)).1 (headOut n0 n1 n2 (l.length : Int)).2 = some (m0, m1, m2, m3) := by
      unfold api_Header.f bytes_Equal.f
      rw [← HUV]
      by_cases he : (headOut n0 n1 n2 (l.length : Int)).2 = 0
      · rw [if_pos he]
        by_cases c : (strOfNums (headOut n0 n1 n2 (l.length : Int)).1).toList = (strOfNums l).toList
        · rw [if_pos c, c]; simp
        · rw [if_neg c]
          have c2 : ((strOfNums l).toList == (strOfNums (headOut n0 n1 n2 (l.length : Int)).1).toList) = false := beq_eq_false_iff_ne.2 fun q => c q.symm
          rw [c2]
          rfl
      · rw [if_neg he, headOut_err _ _ _ _ he, if_neg (str_ne (by have := H64.out; omega))]
    have HAP := Aside0.mk hap
    have HHD := Aside0.mk (fun W => header_calls n0 n1 n2 (l.length : Int) W)
    obtain ⟨⟨BS, be⟩, hBS⟩ : ∃ BS, headOut n0 n1 n2 (l.length : Int) = BS := ⟨_, rfl⟩
    rw [hBS] at HAP HHD
    clear hap HUV HU hBS
    obtain ⟨y0, y1, y2⟩ := cl3 HH
    go_wp2_with fail
    ((with_reducible refine (HHD.out _).mono ?_); rintro e w7 ⟨v, rfl, hv, hb⟩)
    have HX7 := Aside0.mk (blk_below HX.out hb); have HH7 := Aside0.mk (blk_below HH.out hb); have HB7 := Aside0.mk (below_then HB.out HB.out.size hb); have HC7 := Aside0.mk (Kd.C_below HCr.out hb)
    obtain ⟨A2, k2, rfl, hk2, hv2⟩ := brow_reads hv
    have HSA := Aside0.mk (api_Header.calls n0 n1 n2 A c l A2 k2 BS be m0 m1 m2 m3 w7 HC7.out HLS.out.2.2 hv2 hk2 HAP.out)
    clear hb HHD HX HH HB HCr hv hv2 hk2 y0 y1 y2
    obtain ⟨y0, y1, y2⟩ := cl3 HH7
    go_wp2_with fail
    ((with_reducible refine HSA.out.mono ?_); rintro e w8 ⟨rfl, hb⟩)
    have HX8 := Aside0.mk (blk_below HX7.out hb); have HB8 := Aside0.mk (below_then HB7.out HB7.out.size hb)
    clear hb HSA HX7 HH7 HB7 HC7 y0 y1 y2
    obtain ⟨x0, x1, x2⟩ := cl3 HX8
    obtain ⟨f0, f1, f2⟩ := fz3 HX8
    go_wp2
    refine bodyPost_ret (results_ct rfl _ _ X 43 #[.int .i64 m0, .int .i64 m1, .int .i64 m2] (0, 0) _ rfl (put3 HX8.out (.int .i64 m0) (.int .i64 m1) (.int .i64 m2)) hu rfl (by kernel_rfl)) rfl ?_
    exact ⟨rfl, below3 HB8.out HGE.out _ _ _⟩
end Go.Proofs.YtbplffdmggbcdaaDoor.Codec
