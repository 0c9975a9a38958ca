/- An inode is read: contracts. -/
import Derived.Test.YtbplffdmggbcdaaDoorKKInode
import Derived.Test.YtbplffdmggbcdaaDoorKKReader
namespace Go.Proofs.YtbplffdmggbcdaaDoor.Codec
open Go.RowKit Go.Proofs.YtbplffdmggbcdaaDoor.PCodecKeeps Go.Proofs.YtbplffdmggbcdaaDoor.Plain Go.Proofs.YtbplffdmggbcdaaDoor.Pure Go.Proofs.YtbplffdmggbcdaaDoorW.PrintWords Go.Proofs.YtbplffdmggbcdaaDoorW.PrintLast Go.Proofs.YtbplffdmggbcdaaDoorW.PrintMore
set_option linter.unusedVariables false
set_option linter.unusedSimpArgs false

theorem put13 {w : World} {g : Nat} {t : TypeId} {a0 a1 a2 a3 a4 a5 a6 a7 a8 a9 a10 a11 a12 : Value} (h : w.heap[g]? = some (.cells #[a0, a1, a2, a3, a4, a5, a6, a7, a8, a9, a10, a11, a12] t (0, 0))) (v0 v1 v2 v3 v4 v5 v6 v7 v8 v9 v10 v11 v12 : Value) : (((((((((((((w.setCell ⟨g, 0, none⟩ v0).setCell ⟨g, 1, none⟩ v1).setCell ⟨g, 2, none⟩ v2).setCell ⟨g, 3, none⟩ v3).setCell ⟨g, 4, none⟩ v4).setCell ⟨g, 5, none⟩ v5).setCell ⟨g, 6, none⟩ v6).setCell ⟨g, 7, none⟩ v7).setCell ⟨g, 8, none⟩ v8).setCell ⟨g, 9, none⟩ v9).setCell ⟨g, 10, none⟩ v10).setCell ⟨g, 11, none⟩ v11).setCell ⟨g, 12, none⟩ v12).heap[g]? = some (.cells #[v0, v1, v2, v3, v4, v5, v6, v7, v8, v9, v10, v11, v12] t (0, 0)) := by
  have h := blk_put (cs' := #[v0, a1, a2, a3, a4, a5, a6, a7, a8, a9, a10, a11, a12]) h 0 v0 rfl
  have h := blk_put (cs' := #[v0, v1, a2, a3, a4, a5, a6, a7, a8, a9, a10, a11, a12]) h 1 v1 rfl
  have h := blk_put (cs' := #[v0, v1, v2, a3, a4, a5, a6, a7, a8, a9, a10, a11, a12]) h 2 v2 rfl
  have h := blk_put (cs' := #[v0, v1, v2, v3, a4, a5, a6, a7, a8, a9, a10, a11, a12]) h 3 v3 rfl
  have h := blk_put (cs' := #[v0, v1, v2, v3, v4, a5, a6, a7, a8, a9, a10, a11, a12]) h 4 v4 rfl
  have h := blk_put (cs' := #[v0, v1, v2, v3, v4, v5, a6, a7, a8, a9, a10, a11, a12]) h 5 v5 rfl
  have h := blk_put (cs' := #[v0, v1, v2, v3, v4, v5, v6, a7, a8, a9, a10, a11, a12]) h 6 v6 rfl
  have h := blk_put (cs' := #[v0, v1, v2, v3, v4, v5, v6, v7, a8, a9, a10, a11, a12]) h 7 v7 rfl
  have h := blk_put (cs' := #[v0, v1, v2, v3, v4, v5, v6, v7, v8, a9, a10, a11, a12]) h 8 v8 rfl
  have h := blk_put (cs' := #[v0, v1, v2, v3, v4, v5, v6, v7, v8, v9, a10, a11, a12]) h 9 v9 rfl
  have h := blk_put (cs' := #[v0, v1, v2, v3, v4, v5, v6, v7, v8, v9, v10, a11, a12]) h 10 v10 rfl
  have h := blk_put (cs' := #[v0, v1, v2, v3, v4, v5, v6, v7, v8, v9, v10, v11, a12]) h 11 v11 rfl
  have h := blk_put (cs' := #[v0, v1, v2, v3, v4, v5, v6, v7, v8, v9, v10, v11, v12]) h 12 v12 rfl
  exact h
theorem below13 {w w0 : World} {g : Nat} (h : Below w0.heap.size w0 w) (hg : w0.heap.size ≤ g) (v0 v1 v2 v3 v4 v5 v6 v7 v8 v9 v10 v11 v12 : Value) : Below w0.heap.size w0 (((((((((((((w.setCell ⟨g, 0, none⟩ v0).setCell ⟨g, 1, none⟩ v1).setCell ⟨g, 2, none⟩ v2).setCell ⟨g, 3, none⟩ v3).setCell ⟨g, 4, none⟩ v4).setCell ⟨g, 5, none⟩ v5).setCell ⟨g, 6, none⟩ v6).setCell ⟨g, 7, none⟩ v7).setCell ⟨g, 8, none⟩ v8).setCell ⟨g, 9, none⟩ v9).setCell ⟨g, 10, none⟩ v10).setCell ⟨g, 11, none⟩ v11).setCell ⟨g, 12, none⟩ v12) := (below_set (below_set (below_set (below_set (below_set (below_set (below_set (below_set (below_set (below_set (below_set (below_set (below_set h hg) hg) hg) hg) hg) hg) hg) hg) hg) hg) hg) hg) hg)
theorem arg_lt {w : World} {A : Option Addr} {l : List Int} (h : Kd.C (Kd.int .u8) w A l.length l) : ∀ ad, A = some ad → 0 < l.length → ad.block < w.heap.size := by
  intro ad e hn
  obtain ⟨ad', e', hc⟩ := (brow_C h).2.2 hn
  obtain rfl : ad = ad' := by rw [e] at e'; exact Option.some.inj e'
  have h0 := World.block_lt_of_cell? w _ (hc 0 hn)
  have e : (ad.add 0).block = ad.block := by unfold Addr.add; split <;> rfl
  rw [e] at h0
  exact h0
set_option maxHeartbeats 4000000 in
set_option maxRecDepth 100000 in
theorem same_ok (q0 q1 q2 q3 q4 q5 q6 q7 q8 q9 q10 q11 q12 : Int) (A : Option Addr) (c : Nat) (l : List Int) (A2 : Option Addr) (c2 : Nat) (l2 : List Int) (w : World) (hr : Kd.C (Kd.int .u8) w A l.length l) (hc : l.length ≤ c) (hr2 : Kd.C (Kd.int .u8) w A2 l2.length l2) (hc2 : l2.length ≤ c2) (he : (strOfNums l).toList = (strOfNums l2).toList) :
    Calls Tryd.prog 38 #[.agg #[.int .i64 q0, .int .i64 q1, .int .i64 q2, .int .i64 q3, .int .i64 q4, .int .i64 q5, .int .i64 q6, .int .i64 q7, .int .i64 q8, .int .i64 q9, .int .i64 q10, .int .i64 q11, .int .i64 q12], .slice A l.length c, .slice A2 l2.length c2, .int .i64 0] w fun e w' => e = .returned (.tuple #[.agg #[.int .i64 q0, .int .i64 q1, .int .i64 q2, .int .i64 q3, .int .i64 q4, .int .i64 q5, .int .i64 q6, .int .i64 q7, .int .i64 q8, .int .i64 q9, .int .i64 q10, .int .i64 q11, .int .i64 q12], .int .i64 0]) ∧ Below w.heap.size w w' := by
  have hu := Tryd.underlying24
  have HEQ := Aside0.mk (fun w h1 h2 => bytes_Equal.calls A c l A2 c2 l2 true w h1 hc h2 hc2 (by unfold bytes_Equal.f; rw [he]; simp))
  have HR := Aside0.mk (And.intro hr hr2)
  clear hr hr2 he hc hc2
  go_enter Tryd.func38, Tryd.ntmps38
  go_upto_region 1 with (first | ((with_reducible refine gate_dst (N := 4) rfl ?_); refine box_event ?hg (N := 4) ?hd (cs := #[.int .i64 q0, .int .i64 q1, .int .i64 q2, .int .i64 q3, .int .i64 q4, .int .i64 q5, .int .i64 q6, .int .i64 q7, .int .i64 q8, .int .i64 q9, .int .i64 q10, .int .i64 q11, .int .i64 q12]) (t := 24) ?hr ?_; (case hd => rfl); (case hg => rfl); (case hr => first | (go_simp; done) | (go_simp; rfl)); intro gq hggq w1 hbox hb; have BKgq := Aside0.mk hbox; have BHgq := Aside0.mk hb; have GEgq := Aside0.mk hggq; clear hb hbox hggq; obtain ⟨y0, y1, y2, y3, y4, y5, y6, y7, y8, y9, y10, y11, y12⟩ := cl13 BKgq) | ((with_reducible refine gate_dst (N := 8) rfl ?_); refine box_event ?hg (N := 8) ?hd (cs := #[.int .i64 0, .int .i64 0, .int .i64 0, .int .i64 0, .int .i64 0, .int .i64 0, .int .i64 0, .int .i64 0, .int .i64 0, .int .i64 0, .int .i64 0, .int .i64 0, .int .i64 0]) (t := 24) ?hr ?_; (case hd => rfl); (case hg => rfl); (case hr => first | (go_simp; done) | (go_simp; rfl)); intro X hgX w2 hbox hb; have BKX := Aside0.mk hbox; have BHX := Aside0.mk hb; have GEX := Aside0.mk hgX; clear hb hbox hgX))
  have HGE : Aside0 (w.heap.size ≤ X) := ⟨by have := BHgq.out.size; have := GEX.out; omega⟩
  have HQ2 := Aside0.mk (blk_below BKgq.out BHX.out)
  have HX2 := Aside0.mk BKX.out
  have HB2 := Aside0.mk (below_then BHgq.out BHgq.out.size BHX.out)
  clear BKgq BHgq GEgq BKX BHX GEX y0 y1 y2 y3 y4 y5 y6 y7 y8 y9 y10 y11 y12
  obtain ⟨y0, y1, y2, y3, y4, y5, y6, y7, y8, y9, y10, y11, y12⟩ := cl13 HQ2
  go_wp2_with fail
  ((with_reducible refine (HEQ.out _ (Kd.C_below HR.out.1 HB2.out) (Kd.C_below HR.out.2 HB2.out)).mono ?_); rintro e w3 ⟨rfl, hd⟩)
  have HQ3 := Aside0.mk (blk_below HQ2.out hd.below); have HX3 := Aside0.mk (blk_below HX2.out hd.below); have HB3 := Aside0.mk (below_then HB2.out HB2.out.size hd.below)
  clear hd HQ2 HX2 HB2 y0 y1 y2 y3 y4 y5 y6 y7 y8 y9 y10 y11 y12
  obtain ⟨y0, y1, y2, y3, y4, y5, y6, y7, y8, y9, y10, y11, y12⟩ := cl13 HQ3
  obtain ⟨x0, x1, x2, x3, x4, x5, x6, x7, x8, x9, x10, x11, x12⟩ := cl13 HX3
  obtain ⟨f0, f1, f2, f3, f4, f5, f6, f7, f8, f9, f10, f11, f12⟩ := fz13 HX3
  go_wp2
  refine bodyPost_ret (results_ct rfl _ _ X 24 #[.int .i64 q0, .int .i64 q1, .int .i64 q2, .int .i64 q3, .int .i64 q4, .int .i64 q5, .int .i64 q6, .int .i64 q7, .int .i64 q8, .int .i64 q9, .int .i64 q10, .int .i64 q11, .int .i64 q12] (0, 0) _ rfl (put13 HX3.out (.int .i64 q0) (.int .i64 q1) (.int .i64 q2) (.int .i64 q3) (.int .i64 q4) (.int .i64 q5) (.int .i64 q6) (.int .i64 q7) (.int .i64 q8) (.int .i64 q9) (.int .i64 q10) (.int .i64 q11) (.int .i64 q12)) hu rfl (by kernel_rfl)) rfl ?_
  exact ⟨rfl, below13 HB3.out HGE.out _ _ _ _ _ _ _ _ _ _ _ _ _⟩
set_option maxHeartbeats 4000000 in
set_option maxRecDepth 100000 in
theorem same_no (q0 q1 q2 q3 q4 q5 q6 q7 q8 q9 q10 q11 q12 : Int) (A : Option Addr) (c : Nat) (l : List Int) (A2 : Option Addr) (c2 : Nat) (l2 : List Int) (er : Int) (w : World) (hr : Kd.C (Kd.int .u8) w A l.length l) (hc : l.length ≤ c) (hr2 : Kd.C (Kd.int .u8) w A2 l2.length l2) (hc2 : l2.length ≤ c2) (he : er ≠ 0 ∨ (er = 0 ∧ ¬ (strOfNums l).toList = (strOfNums l2).toList)) :
    Calls Tryd.prog 38 #[.agg #[.int .i64 q0, .int .i64 q1, .int .i64 q2, .int .i64 q3, .int .i64 q4, .int .i64 q5, .int .i64 q6, .int .i64 q7, .int .i64 q8, .int .i64 q9, .int .i64 q10, .int .i64 q11, .int .i64 q12], .slice A l.length c, .slice A2 l2.length c2, .int .i64 er] w fun e w' => e = .returned (.tuple #[.agg #[.int .i64 0, .int .i64 0, .int .i64 0, .int .i64 0, .int .i64 0, .int .i64 0, .int .i64 0, .int .i64 0, .int .i64 0, .int .i64 0, .int .i64 0, .int .i64 0, .int .i64 0], .int .i64 4]) ∧ Below w.heap.size w w' := by
  have hu := Tryd.underlying24
  rcases he with he | ⟨rfl, he⟩
  · have d1 : (er != 0) = true := bne_iff_ne.2 he
    clear hr hr2 he hc hc2
    go_enter Tryd.func38, Tryd.ntmps38
    go_upto_region 1 with (first | ((with_reducible refine gate_dst (N := 4) rfl ?_); refine box_event ?hg (N := 4) ?hd (cs := #[.int .i64 q0, .int .i64 q1, .int .i64 q2, .int .i64 q3, .int .i64 q4, .int .i64 q5, .int .i64 q6, .int .i64 q7, .int .i64 q8, .int .i64 q9, .int .i64 q10, .int .i64 q11, .int .i64 q12]) (t := 24) ?hr ?_; (case hd => rfl); (case hg => rfl); (case hr => first | (go_simp; done) | (go_simp; rfl)); intro gq hggq w1 hbox hb; have BKgq := Aside0.mk hbox; have BHgq := Aside0.mk hb; have GEgq := Aside0.mk hggq; clear hb hbox hggq; obtain ⟨y0, y1, y2, y3, y4, y5, y6, y7, y8, y9, y10, y11, y12⟩ := cl13 BKgq) | ((with_reducible refine gate_dst (N := 8) rfl ?_); refine box_event ?hg (N := 8) ?hd (cs := #[.int .i64 0, .int .i64 0, .int .i64 0, .int .i64 0, .int .i64 0, .int .i64 0, .int .i64 0, .int .i64 0, .int .i64 0, .int .i64 0, .int .i64 0, .int .i64 0, .int .i64 0]) (t := 24) ?hr ?_; (case hd => rfl); (case hg => rfl); (case hr => first | (go_simp; done) | (go_simp; rfl)); intro X hgX w2 hbox hb; have BKX := Aside0.mk hbox; have BHX := Aside0.mk hb; have GEX := Aside0.mk hgX; clear hb hbox hgX))
    have HGE : Aside0 (w.heap.size ≤ X) := ⟨by have := BHgq.out.size; have := GEX.out; omega⟩
    have HQ2 := Aside0.mk (blk_below BKgq.out BHX.out)
    have HX2 := Aside0.mk BKX.out
    have HB2 := Aside0.mk (below_then BHgq.out BHgq.out.size BHX.out)
    clear BKgq BHgq GEgq BKX BHX GEX y0 y1 y2 y3 y4 y5 y6 y7 y8 y9 y10 y11 y12
    obtain ⟨y0, y1, y2, y3, y4, y5, y6, y7, y8, y9, y10, y11, y12⟩ := cl13 HQ2
    go_wp2_with ((with_reducible refine gate_dst (N := 10) rfl ?_); refine box_event ?hg (N := 10) ?hd (cs := #[.int .i64 0, .int .i64 0, .int .i64 0, .int .i64 0, .int .i64 0, .int .i64 0, .int .i64 0, .int .i64 0, .int .i64 0, .int .i64 0, .int .i64 0, .int .i64 0, .int .i64 0]) (t := 24) ?hr ?_; (case hd => rfl); (case hg => rfl); (case hr => first | (go_simp; done) | (go_simp; rfl)); intro XN hgXN w4 hbox hb; have BKXN := Aside0.mk hbox; have BHXN := Aside0.mk hb; have GEXN := Aside0.mk hgXN; clear hb hbox hgXN; obtain ⟨z0, z1, z2, z3, z4, z5, z6, z7, z8, z9, z10, z11, z12⟩ := cl13 BKXN; have HX4 := Aside0.mk (blk_below HX2.out BHXN.out); obtain ⟨x0, x1, x2, x3, x4, x5, x6, x7, x8, x9, x10, x11, x12⟩ := cl13 HX4; obtain ⟨f0, f1, f2, f3, f4, f5, f6, f7, f8, f9, f10, f11, f12⟩ := fz13 HX4)
    have HB4 := Aside0.mk (below_then HB2.out HB2.out.size BHXN.out)
    clear BKXN BHXN GEXN HQ2 HX2 HB2
    refine bodyPost_ret (results_ct rfl _ _ X 24 #[.int .i64 0, .int .i64 0, .int .i64 0, .int .i64 0, .int .i64 0, .int .i64 0, .int .i64 0, .int .i64 0, .int .i64 0, .int .i64 0, .int .i64 0, .int .i64 0, .int .i64 0] (0, 0) _ rfl (put13 HX4.out (.int .i64 0) (.int .i64 0) (.int .i64 0) (.int .i64 0) (.int .i64 0) (.int .i64 0) (.int .i64 0) (.int .i64 0) (.int .i64 0) (.int .i64 0) (.int .i64 0) (.int .i64 0) (.int .i64 0)) hu rfl (by kernel_rfl)) rfl ?_
    exact ⟨rfl, below13 HB4.out HGE.out _ _ _ _ _ _ _ _ _ _ _ _ _⟩
  · have HEQ := Aside0.mk (fun w h1 h2 => bytes_Equal.calls A c l A2 c2 l2 false w h1 hc h2 hc2 (by unfold bytes_Equal.f; rw [beq_eq_false_iff_ne.2 he]))
    have HR := Aside0.mk (And.intro hr hr2)
    clear hr hr2 he hc hc2
    go_enter Tryd.func38, Tryd.ntmps38
    go_upto_region 1 with (first | ((with_reducible refine gate_dst (N := 4) rfl ?_); refine box_event ?hg (N := 4) ?hd (cs := #[.int .i64 q0, .int .i64 q1, .int .i64 q2, .int .i64 q3, .int .i64 q4, .int .i64 q5, .int .i64 q6, .int .i64 q7, .int .i64 q8, .int .i64 q9, .int .i64 q10, .int .i64 q11, .int .i64 q12]) (t := 24) ?hr ?_; (case hd => rfl); (case hg => rfl); (case hr => first | (go_simp; done) | (go_simp; rfl)); intro gq hggq w1 hbox hb; have BKgq := Aside0.mk hbox; have BHgq := Aside0.mk hb; have GEgq := Aside0.mk hggq; clear hb hbox hggq; obtain ⟨y0, y1, y2, y3, y4, y5, y6, y7, y8, y9, y10, y11, y12⟩ := cl13 BKgq) | ((with_reducible refine gate_dst (N := 8) rfl ?_); refine box_event ?hg (N := 8) ?hd (cs := #[.int .i64 0, .int .i64 0, .int .i64 0, .int .i64 0, .int .i64 0, .int .i64 0, .int .i64 0, .int .i64 0, .int .i64 0, .int .i64 0, .int .i64 0, .int .i64 0, .int .i64 0]) (t := 24) ?hr ?_; (case hd => rfl); (case hg => rfl); (case hr => first | (go_simp; done) | (go_simp; rfl)); intro X hgX w2 hbox hb; have BKX := Aside0.mk hbox; have BHX := Aside0.mk hb; have GEX := Aside0.mk hgX; clear hb hbox hgX))
    have HGE : Aside0 (w.heap.size ≤ X) := ⟨by have := BHgq.out.size; have := GEX.out; omega⟩
    have HQ2 := Aside0.mk (blk_below BKgq.out BHX.out)
    have HX2 := Aside0.mk BKX.out
    have HB2 := Aside0.mk (below_then BHgq.out BHgq.out.size BHX.out)
    clear BKgq BHgq GEgq BKX BHX GEX y0 y1 y2 y3 y4 y5 y6 y7 y8 y9 y10 y11 y12
    obtain ⟨y0, y1, y2, y3, y4, y5, y6, y7, y8, y9, y10, y11, y12⟩ := cl13 HQ2
    go_wp2_with fail
    ((with_reducible refine (HEQ.out _ (Kd.C_below HR.out.1 HB2.out) (Kd.C_below HR.out.2 HB2.out)).mono ?_); rintro e w3 ⟨rfl, hd⟩)
    have HX3 := Aside0.mk (blk_below HX2.out hd.below); have HB3 := Aside0.mk (below_then HB2.out HB2.out.size hd.below)
    clear hd HQ2 HX2 HB2 y0 y1 y2 y3 y4 y5 y6 y7 y8 y9 y10 y11 y12
    go_wp2_with ((with_reducible refine gate_dst (N := 10) rfl ?_); refine box_event ?hg (N := 10) ?hd (cs := #[.int .i64 0, .int .i64 0, .int .i64 0, .int .i64 0, .int .i64 0, .int .i64 0, .int .i64 0, .int .i64 0, .int .i64 0, .int .i64 0, .int .i64 0, .int .i64 0, .int .i64 0]) (t := 24) ?hr ?_; (case hd => rfl); (case hg => rfl); (case hr => first | (go_simp; done) | (go_simp; rfl)); intro XN hgXN w4 hbox hb; have BKXN := Aside0.mk hbox; have BHXN := Aside0.mk hb; have GEXN := Aside0.mk hgXN; clear hb hbox hgXN; obtain ⟨z0, z1, z2, z3, z4, z5, z6, z7, z8, z9, z10, z11, z12⟩ := cl13 BKXN; have HX4 := Aside0.mk (blk_below HX3.out BHXN.out); obtain ⟨x0, x1, x2, x3, x4, x5, x6, x7, x8, x9, x10, x11, x12⟩ := cl13 HX4; obtain ⟨f0, f1, f2, f3, f4, f5, f6, f7, f8, f9, f10, f11, f12⟩ := fz13 HX4)
    have HB4 := Aside0.mk (below_then HB3.out HB3.out.size BHXN.out)
    clear BKXN BHXN GEXN HX3 HB3
    refine bodyPost_ret (results_ct rfl _ _ X 24 #[.int .i64 0, .int .i64 0, .int .i64 0, .int .i64 0, .int .i64 0, .int .i64 0, .int .i64 0, .int .i64 0, .int .i64 0, .int .i64 0, .int .i64 0, .int .i64 0, .int .i64 0] (0, 0) _ rfl (put13 HX4.out (.int .i64 0) (.int .i64 0) (.int .i64 0) (.int .i64 0) (.int .i64 0) (.int .i64 0) (.int .i64 0) (.int .i64 0) (.int .i64 0) (.int .i64 0) (.int .i64 0) (.int .i64 0) (.int .i64 0)) hu rfl (by kernel_rfl)) rfl ?_
    exact ⟨rfl, below13 HB4.out HGE.out _ _ _ _ _ _ _ _ _ _ _ _ _⟩
/-- A number at a place. -/
def nmI (l : List Int) (a n : Nat) : Int := le (field_part.seg l (a : Int) (n : Int))
theorem nth_nmI (l : List Int) (a n i : Nat) : nth l a n i = nmI l (a + n * i) n := rfl
theorem rnumI (n : Nat) (l : List Int) (at_ : Nat) : le (field_part.seg l at_ n) = nmI l at_ n := rfl
def PA (h s : Nat) (i : Nat) : Nat × Nat := (if i = 0 then h else s, 0)
def PH (h o : Nat) (i : Nat) : Nat × Nat := (h, o + i)
/-- What is answered of bytes: an inode's numbers, and whether they would be written so. -/
def uniOk (l : List Int) : Prop := (inoOut (nmI l 0 1) (nmI l 2 2) (nmI l 4 4) (nmI l 8 2) (nmI l 10 2) (nmI l 12 2) (nmI l 14 2) (nmI l 16 2) (nmI l 18 2) (nmI l 20 2) (nmI l 22 2) (nmI l 24 2) (nmI l 26 2)).2 = 0 ∧ (strOfNums (inoOut (nmI l 0 1) (nmI l 2 2) (nmI l 4 4) (nmI l 8 2) (nmI l 10 2) (nmI l 12 2) (nmI l 14 2) (nmI l 16 2) (nmI l 18 2) (nmI l 20 2) (nmI l 22 2) (nmI l 24 2) (nmI l 26 2)).1).toList = (strOfNums l).toList
instance (l : List Int) : Decidable (uniOk l) := by unfold uniOk; infer_instance
def uniVals (l : List Int) : List Int := if l.length = 32 ∧ uniOk l then [nmI l 0 1, nmI l 2 2, nmI l 4 4, nmI l 8 2, nmI l 10 2, nmI l 12 2, nmI l 14 2, nmI l 16 2, nmI l 18 2, nmI l 20 2, nmI l 22 2, nmI l 24 2, nmI l 26 2] else [0, 0, 0, 0, 0, 0, 0, 0, 0, 0, 0, 0, 0]
def uniErr (l : List Int) : Int := if l.length = 32 ∧ uniOk l then 0 else 4
def aggI (l : List Int) : Value := .agg (l.map (Value.int .i64)).toArray
set_option maxHeartbeats 4000000 in
set_option maxRecDepth 100000 in
theorem uninode_calls (A : Option Addr) (c : Nat) (l : List Int) (w : World) (hr : Kd.C (Kd.int .u8) w A l.length l) (hc : l.length ≤ c) (hl : Bytes l) (hs : l.length ≤ 140737488351232) :
    Calls Tryd.prog 9 #[.slice A l.length c] w fun e w' => e = .returned (.tuple #[aggI (uniVals l), .int .i64 (uniErr l)]) ∧ Below w.heap.size w w' := by
  have hu := Tryd.underlying24
  have u22 := Tryd.underlying22
  have hu3 := Tryd.underlying80
  have HR0 := Aside0.mk hr
  have HLS := Aside0.mk (And.intro hl (And.intro hs hc))
  by_cases h32 : l.length = 32
  rotate_left
  · have hb : ((l.length : Int) != 32) = true := bne_iff_ne.2 (by omega)
    have hb2 : (l.length != 32) = true := bne_iff_ne.2 h32
    have hb3 : (l.length == 32) = false := beq_eq_false_iff_ne.2 h32
    have HU : Aside0 (uniVals l = [0, 0, 0, 0, 0, 0, 0, 0, 0, 0, 0, 0, 0] ∧ uniErr l = 4) := ⟨by unfold uniVals uniErr; rw [if_neg (fun h => h32 h.1), if_neg (fun h => h32 h.1)]; exact ⟨rfl, rfl⟩⟩
    clear hr hc hl hs h32
    go_enter Tryd.func9, Tryd.ntmps9
    go_upto_region 1 with (((with_reducible refine gate_dst (N := 2) rfl ?_); refine box_event ?hg (N := 2) ?hd (cs := #[.int .i64 0, .int .i64 0, .int .i64 0, .int .i64 0, .int .i64 0, .int .i64 0, .int .i64 0, .int .i64 0, .int .i64 0, .int .i64 0, .int .i64 0, .int .i64 0, .int .i64 0]) (t := 24) ?hr ?_; (case hd => rfl); (case hg => rfl); (case hr => first | (go_simp; done) | (go_simp; rfl)); intro X hgX w1 hbox hb; have BKX := Aside0.mk hbox; have BHX := Aside0.mk hb; have GEX := Aside0.mk hgX; clear hb hbox hgX))
    have HGE : Aside0 (w.heap.size ≤ X) := ⟨by have := GEX.out; omega⟩
    have HX2 := Aside0.mk BKX.out
    have HB2 := Aside0.mk BHX.out
    clear BKX BHX GEX
    obtain ⟨x0, x1, x2, x3, x4, x5, x6, x7, x8, x9, x10, x11, x12⟩ := cl13 HX2
    obtain ⟨f0, f1, f2, f3, f4, f5, f6, f7, f8, f9, f10, f11, f12⟩ := fz13 HX2
    go_wp2
    refine bodyPost_ret (results_ct rfl _ _ X 24 #[.int .i64 0, .int .i64 0, .int .i64 0, .int .i64 0, .int .i64 0, .int .i64 0, .int .i64 0, .int .i64 0, .int .i64 0, .int .i64 0, .int .i64 0, .int .i64 0, .int .i64 0] (0, 0) _ rfl (put13 HX2.out (.int .i64 0) (.int .i64 0) (.int .i64 0) (.int .i64 0) (.int .i64 0) (.int .i64 0) (.int .i64 0) (.int .i64 0) (.int .i64 0) (.int .i64 0) (.int .i64 0) (.int .i64 0) (.int .i64 0)) hu rfl (by kernel_rfl)) rfl ?_
    rw [HU.out.1, HU.out.2]
    exact ⟨rfl, below13 HB2.out HGE.out _ _ _ _ _ _ _ _ _ _ _ _ _⟩
  · have H32 := Aside0.mk h32
    have hb : ((l.length : Int) != 32) = false := bne_eq_false_iff_eq.2 (by omega)
    have hb2 : (l.length != 32) = false := bne_eq_false_iff_eq.2 h32
    have hb3 : (l.length == 32) = true := beq_iff_eq.2 h32
    have HUV : (uniOk l → uniVals l = [nmI l 0 1, nmI l 2 2, nmI l 4 4, nmI l 8 2, nmI l 10 2, nmI l 12 2, nmI l 14 2, nmI l 16 2, nmI l 18 2, nmI l 20 2, nmI l 22 2, nmI l 24 2, nmI l 26 2] ∧ uniErr l = 0) ∧ (¬ uniOk l → uniVals l = [0, 0, 0, 0, 0, 0, 0, 0, 0, 0, 0, 0, 0] ∧ uniErr l = 4) := by
      unfold uniVals uniErr
      refine ⟨fun h => ?_, fun h => ?_⟩
      · rw [if_pos ⟨h32, h⟩, if_pos ⟨h32, h⟩]; exact ⟨rfl, rfl⟩
      · rw [if_neg (fun q => h q.2), if_neg (fun q => h q.2)]; exact ⟨rfl, rfl⟩
    unfold uniOk at HUV
    have HUV0 := Aside0.mk HUV
    clear hr hc hl hs h32 HUV
    go_enter Tryd.func9, Tryd.ntmps9
    go_upto_region 6 with (first | ((with_reducible refine gate_dst (N := 2) rfl ?_); refine box_event ?hg (N := 2) ?hd (cs := #[.int .i64 0, .int .i64 0, .int .i64 0, .int .i64 0, .int .i64 0, .int .i64 0, .int .i64 0, .int .i64 0, .int .i64 0, .int .i64 0, .int .i64 0, .int .i64 0, .int .i64 0]) (t := 24) ?hr ?_; (case hd => rfl); (case hg => rfl); (case hr => first | (go_simp; done) | (go_simp; rfl)); intro X hgX w1 hbox hb; have BKX := Aside0.mk hbox; have BHX := Aside0.mk hb; have GEX := Aside0.mk hgX; clear hb hbox hgX) | ((with_reducible refine gate_dst (N := 4) rfl ?_); refine box_event ?hg (N := 4) ?hd (cs := #[.int .i64 0, .int .i64 0, .int .i64 0, .int .i64 0, .int .i64 0, .int .i64 0, .int .i64 0, .int .i64 0, .int .i64 0, .int .i64 0, .int .i64 0, .int .i64 0, .int .i64 0]) (t := 24) ?hr ?_; (case hd => rfl); (case hg => rfl); (case hr => first | (go_simp; done) | (go_simp; rfl)); intro H hgH w2 hbox hb; have BKH := Aside0.mk hbox; have BHH := Aside0.mk hb; have GEH := Aside0.mk hgH; clear hb hbox hgH) | ((with_reducible refine gate_dst (N := 5) rfl ?_); refine box_event ?hg (N := 5) ?hd (cs := #[.int .i64 0]) (t := 3) ?hr ?_; (case hd => rfl); (case hg => rfl); (case hr => first | (go_simp; done) | (go_simp; rfl)); intro S hgS w3 hbox hb; have BKS := Aside0.mk hbox; have BHS := Aside0.mk hb; have GES := Aside0.mk hgS; clear hb hbox hgS) | ((with_reducible refine gate_dst (N := 16) rfl ?_); refine box_event ?hg (N := 16) ?hd (cs := #[.slice A l.length c, .int .i64 0]) (t := 80) ?hr ?_; (case hd => rfl); (case hg => rfl); (case hr => first | (go_simp; done) | (go_simp; rfl)); intro RP hgRP w4 hbox hb; have BKRP := Aside0.mk hbox; have BHRP := Aside0.mk hb; have GERP := Aside0.mk hgRP; clear hb hbox hgRP))
    have HLT : Aside0 (X < H ∧ H < S ∧ S < RP) := ⟨by have := blk_lt BKX.out; have := GEH.out; have := blk_lt BKH.out; have := GES.out; have := blk_lt BKS.out; have := GERP.out; omega⟩
    have HGE : Aside0 (w.heap.size ≤ X) := ⟨by have := GEX.out; omega⟩
    have hb34 := BHRP.out
    have hb24 := below_then BHS.out BHS.out.size BHRP.out
    have hb14 := below_then BHH.out BHH.out.size hb24
    have HB := Aside0.mk (below_then BHX.out BHX.out.size hb14)
    have HX := Aside0.mk (blk_below BKX.out hb14)
    have HH := Aside0.mk (blk_below BKH.out hb24)
    have HSP := Aside0.mk (blk_below BKS.out hb34)
    have HAL := Aside0.mk (arg_lt HR0.out)
    have HRD := Aside0.mk (show Reader w4 RP A c l 0 from ⟨BKRP.out, Kd.C_below HR0.out HB.out, HLS.out.2.2, fun ad e h => by have := HAL.out ad e h; have := HLT.out; have := HGE.out; omega⟩)
    clear BKX BHX GEX BKH BHH GEH BKS BHS GES BKRP BHRP GERP hb34 hb24 hb14
    go_wp2_with fail
    have HPC := Aside0.mk (blk_new w4 (.cells #[.pointer (some ⟨H, 0, none⟩), .pointer (some ⟨S, 0, none⟩)] 82))
    have HC : Aside0 (Calls Tryd.prog 36 #[.pointer (some ⟨RP, 0, none⟩), .int .i64 1, .slice (some ⟨w4.heap.size, 0, none⟩) 2 2] (w4.alloc (.cells #[.pointer (some ⟨H, 0, none⟩), .pointer (some ⟨S, 0, none⟩)] 82)) (fun e w' => e = .returned (.tuple #[]) ∧ Reader w' RP A c l 2 ∧ Stored (w4.alloc (.cells #[.pointer (some ⟨H, 0, none⟩), .pointer (some ⟨S, 0, none⟩)] 82)) w' RP (PA H S) (nth l 0 1) 2)) := ⟨rnums_calls 1 (by decide) (HRD.out.later (below_alloc (Below.refl _ _) _)) HLS.out.1 HLS.out.2.1 2 (by have := H32.out; omega) (by decide) w4.heap.size (PA H S) #[.pointer (some ⟨H, 0, none⟩), .pointer (some ⟨S, 0, none⟩)] 82 HPC.out (by
        intro i hi
        obtain rfl | rfl : i = 0 ∨ i = 1 := (by omega)
        all_goals rfl) (by
        intro i hi
        have h1 := HLT.out
        have h2 := HGE.out
        obtain rfl | rfl : i = 0 ∨ i = 1 := (by omega)
        all_goals (first
          | exact ⟨by show H ≠ RP; omega, by show H ≠ w4.heap.size; have := blk_lt HH.out; omega, fun ad e h => by have := HAL.out ad e h; show ad.block ≠ H; omega, _, _, blk_alloc HH.out _, _, rfl⟩
          | exact ⟨by show S ≠ RP; omega, by show S ≠ w4.heap.size; have := blk_lt HSP.out; omega, fun ad e h => by have := HAL.out ad e h; show ad.block ≠ S; omega, _, _, blk_alloc HSP.out _, _, rfl⟩)) (by have := blk_lt HRD.out.blk; omega)⟩
    ((with_reducible refine HC.out.mono ?_); rintro e w5 ⟨rfl, hrd, hq⟩)
    have hh := hq.cells H _ _ (blk_alloc HH.out _) (by have := HLT.out; omega)
    have hh : w5.heap[H]? = some (.cells #[.int .i64 (nmI l 0 1), .int .i64 0, .int .i64 0, .int .i64 0, .int .i64 0, .int .i64 0, .int .i64 0, .int .i64 0, .int .i64 0, .int .i64 0, .int .i64 0, .int .i64 0, .int .i64 0] 24 (0, 0)) := by
      have e : upd (PA H S) (nth l 0 1) H #[.int .i64 0, .int .i64 0, .int .i64 0, .int .i64 0, .int .i64 0, .int .i64 0, .int .i64 0, .int .i64 0, .int .i64 0, .int .i64 0, .int .i64 0, .int .i64 0, .int .i64 0] 2 = #[.int .i64 (nmI l 0 1), .int .i64 0, .int .i64 0, .int .i64 0, .int .i64 0, .int .i64 0, .int .i64 0, .int .i64 0, .int .i64 0, .int .i64 0, .int .i64 0, .int .i64 0, .int .i64 0] := by (have hSH : ¬ S = H := (by have := HLT.out; omega)); simp [upd, PA, hSH, nth_nmI]
      rw [e] at hh
      exact hh
    have HH5 := Aside0.mk hh
    have HX5 := Aside0.mk (hq.block X _ (blk_alloc HX.out _) (by have := HLT.out; omega) (fun i hi => by have := HLT.out; obtain rfl | rfl : i = 0 ∨ i = 1 := (by omega) <;> (first | (show H ≠ X; omega) | (show S ≠ X; omega))))
    have HB5 := Aside0.mk (hq.below (base := w.heap.size) (by have := HLT.out; have := HGE.out; omega) (fun i hi => by have := HLT.out; have := HGE.out; obtain rfl | rfl : i = 0 ∨ i = 1 := (by omega) <;> (first | (show w.heap.size ≤ H; omega) | (show w.heap.size ≤ S; omega))) (HB.out.alloc HB.out.size _) (HB.out.alloc HB.out.size _).size)
    have HRD5 := Aside0.mk hrd
    clear hh hrd hq HC HPC HH HX HB HRD HSP
    have HH := HH5; have HX := HX5; have HB := HB5; have HRD := HRD5
    clear HH5 HX5 HB5 HRD5
    go_wp2_with fail
    have HPC := Aside0.mk (blk_new w5 (.cells #[.pointer (some ⟨H, 1, none⟩)] 82))
    have HC : Aside0 (Calls Tryd.prog 36 #[.pointer (some ⟨RP, 0, none⟩), .int .i64 2, .slice (some ⟨w5.heap.size, 0, none⟩) 1 1] (w5.alloc (.cells #[.pointer (some ⟨H, 1, none⟩)] 82)) (fun e w' => e = .returned (.tuple #[]) ∧ Reader w' RP A c l 4 ∧ Stored (w5.alloc (.cells #[.pointer (some ⟨H, 1, none⟩)] 82)) w' RP (PH H 1) (nth l 2 2) 1)) := ⟨rnums_calls 2 (by decide) (HRD.out.later (below_alloc (Below.refl _ _) _)) HLS.out.1 HLS.out.2.1 1 (by have := H32.out; omega) (by decide) w5.heap.size (PH H 1) #[.pointer (some ⟨H, 1, none⟩)] 82 HPC.out (by
        intro i hi
        obtain rfl : i = 0 := (by omega)
        all_goals rfl) (by
        intro i hi
        have h1 := HLT.out
        have h2 := HGE.out
        obtain rfl : i = 0 := (by omega)
        all_goals (first
          | exact ⟨by show H ≠ RP; omega, by show H ≠ w5.heap.size; have := blk_lt HH.out; omega, fun ad e h => by have := HAL.out ad e h; show ad.block ≠ H; omega, _, _, blk_alloc HH.out _, _, rfl⟩
          | exact ⟨by show S ≠ RP; omega, by show S ≠ w5.heap.size; have := blk_lt HSP.out; omega, fun ad e h => by have := HAL.out ad e h; show ad.block ≠ S; omega, _, _, blk_alloc HSP.out _, _, rfl⟩)) (by have := blk_lt HRD.out.blk; omega)⟩
    ((with_reducible refine HC.out.mono ?_); rintro e w6 ⟨rfl, hrd, hq⟩)
    have hh := hq.cells H _ _ (blk_alloc HH.out _) (by have := HLT.out; omega)
    have hh : w6.heap[H]? = some (.cells #[.int .i64 (nmI l 0 1), .int .i64 (nmI l 2 2), .int .i64 0, .int .i64 0, .int .i64 0, .int .i64 0, .int .i64 0, .int .i64 0, .int .i64 0, .int .i64 0, .int .i64 0, .int .i64 0, .int .i64 0] 24 (0, 0)) := by
      have e : upd (PH H 1) (nth l 2 2) H #[.int .i64 (nmI l 0 1), .int .i64 0, .int .i64 0, .int .i64 0, .int .i64 0, .int .i64 0, .int .i64 0, .int .i64 0, .int .i64 0, .int .i64 0, .int .i64 0, .int .i64 0, .int .i64 0] 1 = #[.int .i64 (nmI l 0 1), .int .i64 (nmI l 2 2), .int .i64 0, .int .i64 0, .int .i64 0, .int .i64 0, .int .i64 0, .int .i64 0, .int .i64 0, .int .i64 0, .int .i64 0, .int .i64 0, .int .i64 0] := by simp [upd, PH, nth_nmI]
      rw [e] at hh
      exact hh
    have HH6 := Aside0.mk hh
    have HX6 := Aside0.mk (hq.block X _ (blk_alloc HX.out _) (by have := HLT.out; omega) (fun i hi => by have := HLT.out; obtain rfl : i = 0 := (by omega) <;> (first | (show H ≠ X; omega) | (show S ≠ X; omega))))
    have HB6 := Aside0.mk (hq.below (base := w.heap.size) (by have := HLT.out; have := HGE.out; omega) (fun i hi => by have := HLT.out; have := HGE.out; obtain rfl : i = 0 := (by omega) <;> (first | (show w.heap.size ≤ H; omega) | (show w.heap.size ≤ S; omega))) (HB.out.alloc HB.out.size _) (HB.out.alloc HB.out.size _).size)
    have HRD6 := Aside0.mk hrd
    clear hh hrd hq HC HPC HH HX HB HRD
    have HH := HH6; have HX := HX6; have HB := HB6; have HRD := HRD6
    clear HH6 HX6 HB6 HRD6
    go_wp2_with fail
    have HPC := Aside0.mk (blk_new w6 (.cells #[.pointer (some ⟨H, 2, none⟩)] 82))
    have HC : Aside0 (Calls Tryd.prog 36 #[.pointer (some ⟨RP, 0, none⟩), .int .i64 4, .slice (some ⟨w6.heap.size, 0, none⟩) 1 1] (w6.alloc (.cells #[.pointer (some ⟨H, 2, none⟩)] 82)) (fun e w' => e = .returned (.tuple #[]) ∧ Reader w' RP A c l 8 ∧ Stored (w6.alloc (.cells #[.pointer (some ⟨H, 2, none⟩)] 82)) w' RP (PH H 2) (nth l 4 4) 1)) := ⟨rnums_calls 4 (by decide) (HRD.out.later (below_alloc (Below.refl _ _) _)) HLS.out.1 HLS.out.2.1 1 (by have := H32.out; omega) (by decide) w6.heap.size (PH H 2) #[.pointer (some ⟨H, 2, none⟩)] 82 HPC.out (by
        intro i hi
        obtain rfl : i = 0 := (by omega)
        all_goals rfl) (by
        intro i hi
        have h1 := HLT.out
        have h2 := HGE.out
        obtain rfl : i = 0 := (by omega)
        all_goals (first
          | exact ⟨by show H ≠ RP; omega, by show H ≠ w6.heap.size; have := blk_lt HH.out; omega, fun ad e h => by have := HAL.out ad e h; show ad.block ≠ H; omega, _, _, blk_alloc HH.out _, _, rfl⟩
          | exact ⟨by show S ≠ RP; omega, by show S ≠ w6.heap.size; have := blk_lt HSP.out; omega, fun ad e h => by have := HAL.out ad e h; show ad.block ≠ S; omega, _, _, blk_alloc HSP.out _, _, rfl⟩)) (by have := blk_lt HRD.out.blk; omega)⟩
    ((with_reducible refine HC.out.mono ?_); rintro e w7 ⟨rfl, hrd, hq⟩)
    have hh := hq.cells H _ _ (blk_alloc HH.out _) (by have := HLT.out; omega)
    have hh : w7.heap[H]? = some (.cells #[.int .i64 (nmI l 0 1), .int .i64 (nmI l 2 2), .int .i64 (nmI l 4 4), .int .i64 0, .int .i64 0, .int .i64 0, .int .i64 0, .int .i64 0, .int .i64 0, .int .i64 0, .int .i64 0, .int .i64 0, .int .i64 0] 24 (0, 0)) := by
      have e : upd (PH H 2) (nth l 4 4) H #[.int .i64 (nmI l 0 1), .int .i64 (nmI l 2 2), .int .i64 0, .int .i64 0, .int .i64 0, .int .i64 0, .int .i64 0, .int .i64 0, .int .i64 0, .int .i64 0, .int .i64 0, .int .i64 0, .int .i64 0] 1 = #[.int .i64 (nmI l 0 1), .int .i64 (nmI l 2 2), .int .i64 (nmI l 4 4), .int .i64 0, .int .i64 0, .int .i64 0, .int .i64 0, .int .i64 0, .int .i64 0, .int .i64 0, .int .i64 0, .int .i64 0, .int .i64 0] := by simp [upd, PH, nth_nmI]
      rw [e] at hh
      exact hh
    have HH7 := Aside0.mk hh
    have HX7 := Aside0.mk (hq.block X _ (blk_alloc HX.out _) (by have := HLT.out; omega) (fun i hi => by have := HLT.out; obtain rfl : i = 0 := (by omega) <;> (first | (show H ≠ X; omega) | (show S ≠ X; omega))))
    have HB7 := Aside0.mk (hq.below (base := w.heap.size) (by have := HLT.out; have := HGE.out; omega) (fun i hi => by have := HLT.out; have := HGE.out; obtain rfl : i = 0 := (by omega) <;> (first | (show w.heap.size ≤ H; omega) | (show w.heap.size ≤ S; omega))) (HB.out.alloc HB.out.size _) (HB.out.alloc HB.out.size _).size)
    have HRD7 := Aside0.mk hrd
    clear hh hrd hq HC HPC HH HX HB HRD
    have HH := HH7; have HX := HX7; have HB := HB7; have HRD := HRD7
    clear HH7 HX7 HB7 HRD7
    go_wp2_with fail
    go_loopg [29] 8 (fun kq v29 w' => (v29 = .int .i64 0 ∧ 8 - 0 ≤ kq ∧ Aside0 (Reader w' RP A c l 8 ∧ w'.heap[H]? = some (.cells #[.int .i64 (nmI l 0 1), .int .i64 (nmI l 2 2), .int .i64 (nmI l 4 4), .int .i64 0, .int .i64 0, .int .i64 0, .int .i64 0, .int .i64 0, .int .i64 0, .int .i64 0, .int .i64 0, .int .i64 0, .int .i64 0] 24 (0, 0)) ∧ w'.heap[X]? = some (.cells #[.int .i64 0, .int .i64 0, .int .i64 0, .int .i64 0, .int .i64 0, .int .i64 0, .int .i64 0, .int .i64 0, .int .i64 0, .int .i64 0, .int .i64 0, .int .i64 0, .int .i64 0] 24 (0, 0)) ∧ Below w.heap.size w w')) ∨ (v29 = .int .i64 1 ∧ 8 - 1 ≤ kq ∧ Aside0 (Reader w' RP A c l 10 ∧ w'.heap[H]? = some (.cells #[.int .i64 (nmI l 0 1), .int .i64 (nmI l 2 2), .int .i64 (nmI l 4 4), .int .i64 (nmI l 8 2), .int .i64 0, .int .i64 0, .int .i64 0, .int .i64 0, .int .i64 0, .int .i64 0, .int .i64 0, .int .i64 0, .int .i64 0] 24 (0, 0)) ∧ w'.heap[X]? = some (.cells #[.int .i64 0, .int .i64 0, .int .i64 0, .int .i64 0, .int .i64 0, .int .i64 0, .int .i64 0, .int .i64 0, .int .i64 0, .int .i64 0, .int .i64 0, .int .i64 0, .int .i64 0] 24 (0, 0)) ∧ Below w.heap.size w w')) ∨ (v29 = .int .i64 2 ∧ 8 - 2 ≤ kq ∧ Aside0 (Reader w' RP A c l 12 ∧ w'.heap[H]? = some (.cells #[.int .i64 (nmI l 0 1), .int .i64 (nmI l 2 2), .int .i64 (nmI l 4 4), .int .i64 (nmI l 8 2), .int .i64 (nmI l 10 2), .int .i64 0, .int .i64 0, .int .i64 0, .int .i64 0, .int .i64 0, .int .i64 0, .int .i64 0, .int .i64 0] 24 (0, 0)) ∧ w'.heap[X]? = some (.cells #[.int .i64 0, .int .i64 0, .int .i64 0, .int .i64 0, .int .i64 0, .int .i64 0, .int .i64 0, .int .i64 0, .int .i64 0, .int .i64 0, .int .i64 0, .int .i64 0, .int .i64 0] 24 (0, 0)) ∧ Below w.heap.size w w')) ∨ (v29 = .int .i64 3 ∧ 8 - 3 ≤ kq ∧ Aside0 (Reader w' RP A c l 14 ∧ w'.heap[H]? = some (.cells #[.int .i64 (nmI l 0 1), .int .i64 (nmI l 2 2), .int .i64 (nmI l 4 4), .int .i64 (nmI l 8 2), .int .i64 (nmI l 10 2), .int .i64 (nmI l 12 2), .int .i64 0, .int .i64 0, .int .i64 0, .int .i64 0, .int .i64 0, .int .i64 0, .int .i64 0] 24 (0, 0)) ∧ w'.heap[X]? = some (.cells #[.int .i64 0, .int .i64 0, .int .i64 0, .int .i64 0, .int .i64 0, .int .i64 0, .int .i64 0, .int .i64 0, .int .i64 0, .int .i64 0, .int .i64 0, .int .i64 0, .int .i64 0] 24 (0, 0)) ∧ Below w.heap.size w w')) ∨ (v29 = .int .i64 4 ∧ 8 - 4 ≤ kq ∧ Aside0 (Reader w' RP A c l 16 ∧ w'.heap[H]? = some (.cells #[.int .i64 (nmI l 0 1), .int .i64 (nmI l 2 2), .int .i64 (nmI l 4 4), .int .i64 (nmI l 8 2), .int .i64 (nmI l 10 2), .int .i64 (nmI l 12 2), .int .i64 (nmI l 14 2), .int .i64 0, .int .i64 0, .int .i64 0, .int .i64 0, .int .i64 0, .int .i64 0] 24 (0, 0)) ∧ w'.heap[X]? = some (.cells #[.int .i64 0, .int .i64 0, .int .i64 0, .int .i64 0, .int .i64 0, .int .i64 0, .int .i64 0, .int .i64 0, .int .i64 0, .int .i64 0, .int .i64 0, .int .i64 0, .int .i64 0] 24 (0, 0)) ∧ Below w.heap.size w w')) ∨ (v29 = .int .i64 5 ∧ 8 - 5 ≤ kq ∧ Aside0 (Reader w' RP A c l 18 ∧ w'.heap[H]? = some (.cells #[.int .i64 (nmI l 0 1), .int .i64 (nmI l 2 2), .int .i64 (nmI l 4 4), .int .i64 (nmI l 8 2), .int .i64 (nmI l 10 2), .int .i64 (nmI l 12 2), .int .i64 (nmI l 14 2), .int .i64 (nmI l 16 2), .int .i64 0, .int .i64 0, .int .i64 0, .int .i64 0, .int .i64 0] 24 (0, 0)) ∧ w'.heap[X]? = some (.cells #[.int .i64 0, .int .i64 0, .int .i64 0, .int .i64 0, .int .i64 0, .int .i64 0, .int .i64 0, .int .i64 0, .int .i64 0, .int .i64 0, .int .i64 0, .int .i64 0, .int .i64 0] 24 (0, 0)) ∧ Below w.heap.size w w')) ∨ (v29 = .int .i64 6 ∧ 8 - 6 ≤ kq ∧ Aside0 (Reader w' RP A c l 20 ∧ w'.heap[H]? = some (.cells #[.int .i64 (nmI l 0 1), .int .i64 (nmI l 2 2), .int .i64 (nmI l 4 4), .int .i64 (nmI l 8 2), .int .i64 (nmI l 10 2), .int .i64 (nmI l 12 2), .int .i64 (nmI l 14 2), .int .i64 (nmI l 16 2), .int .i64 (nmI l 18 2), .int .i64 0, .int .i64 0, .int .i64 0, .int .i64 0] 24 (0, 0)) ∧ w'.heap[X]? = some (.cells #[.int .i64 0, .int .i64 0, .int .i64 0, .int .i64 0, .int .i64 0, .int .i64 0, .int .i64 0, .int .i64 0, .int .i64 0, .int .i64 0, .int .i64 0, .int .i64 0, .int .i64 0] 24 (0, 0)) ∧ Below w.heap.size w w')) ∨ (v29 = .int .i64 7 ∧ 8 - 7 ≤ kq ∧ Aside0 (Reader w' RP A c l 22 ∧ w'.heap[H]? = some (.cells #[.int .i64 (nmI l 0 1), .int .i64 (nmI l 2 2), .int .i64 (nmI l 4 4), .int .i64 (nmI l 8 2), .int .i64 (nmI l 10 2), .int .i64 (nmI l 12 2), .int .i64 (nmI l 14 2), .int .i64 (nmI l 16 2), .int .i64 (nmI l 18 2), .int .i64 (nmI l 20 2), .int .i64 0, .int .i64 0, .int .i64 0] 24 (0, 0)) ∧ w'.heap[X]? = some (.cells #[.int .i64 0, .int .i64 0, .int .i64 0, .int .i64 0, .int .i64 0, .int .i64 0, .int .i64 0, .int .i64 0, .int .i64 0, .int .i64 0, .int .i64 0, .int .i64 0, .int .i64 0] 24 (0, 0)) ∧ Below w.heap.size w w')) ∨ (v29 = .int .i64 8 ∧ 8 - 8 ≤ kq ∧ Aside0 (Reader w' RP A c l 24 ∧ w'.heap[H]? = some (.cells #[.int .i64 (nmI l 0 1), .int .i64 (nmI l 2 2), .int .i64 (nmI l 4 4), .int .i64 (nmI l 8 2), .int .i64 (nmI l 10 2), .int .i64 (nmI l 12 2), .int .i64 (nmI l 14 2), .int .i64 (nmI l 16 2), .int .i64 (nmI l 18 2), .int .i64 (nmI l 20 2), .int .i64 (nmI l 22 2), .int .i64 0, .int .i64 0] 24 (0, 0)) ∧ w'.heap[X]? = some (.cells #[.int .i64 0, .int .i64 0, .int .i64 0, .int .i64 0, .int .i64 0, .int .i64 0, .int .i64 0, .int .i64 0, .int .i64 0, .int .i64 0, .int .i64 0, .int .i64 0, .int .i64 0] 24 (0, 0)) ∧ Below w.heap.size w w')))
    case atStart => exact .inl ⟨rfl, by omega, ⟨HRD.out, HH.out, HX.out, HB.out⟩⟩
    case round =>
        clear HRD HH HX HB
        rcases hrel with ⟨rfl, hkq, HS⟩ | ⟨rfl, hkq, HS⟩ | ⟨rfl, hkq, HS⟩ | ⟨rfl, hkq, HS⟩ | ⟨rfl, hkq, HS⟩ | ⟨rfl, hkq, HS⟩ | ⟨rfl, hkq, HS⟩ | ⟨rfl, hkq, HS⟩ | ⟨rfl, hkq, HS⟩
        · cases gk with
          | zero => omega
          | succ k1 =>
            have HC : Aside0 (Calls Tryd.prog 37 #[.pointer (some ⟨RP, 0, none⟩), .int .i64 2] wr (fun e w' => e = .returned (.int .i64 (le (field_part.seg l (8 : Nat) (2 : Nat)))) ∧ Reader w' RP A c l 10 ∧ Wrote wr w' RP nilV nilV)) := ⟨rnum_calls 2 (by decide) HS.out.1 HLS.out.1 HLS.out.2.1 (by have := H32.out; omega)⟩
            go_wp2_with fail
            ((with_reducible refine HC.out.mono ?_); rintro e w7 ⟨rfl, hrd, hq⟩)
            rw [rnumI]
            have HHb := Aside0.mk ((hq.block H (blk_lt HS.out.2.1) (by have := HLT.out; omega) (by simp [nilV, Value.ownBlock])).trans HS.out.2.1)
            have HXb := Aside0.mk ((hq.block X (blk_lt HS.out.2.2.1) (by have := HLT.out; omega) (by simp [nilV, Value.ownBlock])).trans HS.out.2.2.1)
            have HBb := Aside0.mk (hq.below (base := w.heap.size) (by have := HLT.out; have := HGE.out; omega) (fun k e => by simp [nilV, Value.ownBlock] at e) HS.out.2.2.2 HS.out.2.2.2.size)
            have HRb := Aside0.mk hrd
            have y : w7.cell? ⟨H, 3, none⟩ = some (.int .i64 0) := (blk_cell HHb.out 3).trans rfl
            have fy := blk_frozen HHb.out 3
            have HH7 : Aside0 ((w7.setCell ⟨H, 3, none⟩ (.int .i64 (nmI l 8 2))).heap[H]? = some (.cells #[.int .i64 (nmI l 0 1), .int .i64 (nmI l 2 2), .int .i64 (nmI l 4 4), .int .i64 (nmI l 8 2), .int .i64 0, .int .i64 0, .int .i64 0, .int .i64 0, .int .i64 0, .int .i64 0, .int .i64 0, .int .i64 0, .int .i64 0] 24 (0, 0))) := ⟨blk_put HHb.out 3 _ rfl⟩
            have HX7 : Aside0 ((w7.setCell ⟨H, 3, none⟩ (.int .i64 (nmI l 8 2))).heap[X]? = some (.cells #[.int .i64 0, .int .i64 0, .int .i64 0, .int .i64 0, .int .i64 0, .int .i64 0, .int .i64 0, .int .i64 0, .int .i64 0, .int .i64 0, .int .i64 0, .int .i64 0, .int .i64 0] 24 (0, 0))) := ⟨(Below.heap_setCell w7 ⟨H, 3, none⟩ _ X (by have := HLT.out; show X ≠ H; omega)).trans HXb.out⟩
            have HB7 : Aside0 (Below w.heap.size w (w7.setCell ⟨H, 3, none⟩ (.int .i64 (nmI l 8 2)))) := ⟨below_set HBb.out (by have := HLT.out; have := HGE.out; omega)⟩
            have HRD7 : Aside0 (Reader (w7.setCell ⟨H, 3, none⟩ (.int .i64 (nmI l 8 2))) RP A c l 10) := ⟨HRb.out.far (by have := HLT.out; omega) (fun ad e h => by have := HAL.out ad e h; have := HLT.out; have := HGE.out; omega) 3 _⟩
            clear hrd hq HC HHb HXb HBb HRb HS
            go_wp2_with fail
            go_roundg k1
            case measure => omega
            case rel => exact .inr (.inl ⟨by go_num, by omega, ⟨HRD7.out, HH7.out, HX7.out, HB7.out⟩⟩)
        · cases gk with
          | zero => omega
          | succ k1 =>
            have HC : Aside0 (Calls Tryd.prog 37 #[.pointer (some ⟨RP, 0, none⟩), .int .i64 2] wr (fun e w' => e = .returned (.int .i64 (le (field_part.seg l (10 : Nat) (2 : Nat)))) ∧ Reader w' RP A c l 12 ∧ Wrote wr w' RP nilV nilV)) := ⟨rnum_calls 2 (by decide) HS.out.1 HLS.out.1 HLS.out.2.1 (by have := H32.out; omega)⟩
            go_wp2_with fail
            ((with_reducible refine HC.out.mono ?_); rintro e w7 ⟨rfl, hrd, hq⟩)
            rw [rnumI]
            have HHb := Aside0.mk ((hq.block H (blk_lt HS.out.2.1) (by have := HLT.out; omega) (by simp [nilV, Value.ownBlock])).trans HS.out.2.1)
            have HXb := Aside0.mk ((hq.block X (blk_lt HS.out.2.2.1) (by have := HLT.out; omega) (by simp [nilV, Value.ownBlock])).trans HS.out.2.2.1)
            have HBb := Aside0.mk (hq.below (base := w.heap.size) (by have := HLT.out; have := HGE.out; omega) (fun k e => by simp [nilV, Value.ownBlock] at e) HS.out.2.2.2 HS.out.2.2.2.size)
            have HRb := Aside0.mk hrd
            have y : w7.cell? ⟨H, 4, none⟩ = some (.int .i64 0) := (blk_cell HHb.out 4).trans rfl
            have fy := blk_frozen HHb.out 4
            have HH7 : Aside0 ((w7.setCell ⟨H, 4, none⟩ (.int .i64 (nmI l 10 2))).heap[H]? = some (.cells #[.int .i64 (nmI l 0 1), .int .i64 (nmI l 2 2), .int .i64 (nmI l 4 4), .int .i64 (nmI l 8 2), .int .i64 (nmI l 10 2), .int .i64 0, .int .i64 0, .int .i64 0, .int .i64 0, .int .i64 0, .int .i64 0, .int .i64 0, .int .i64 0] 24 (0, 0))) := ⟨blk_put HHb.out 4 _ rfl⟩
            have HX7 : Aside0 ((w7.setCell ⟨H, 4, none⟩ (.int .i64 (nmI l 10 2))).heap[X]? = some (.cells #[.int .i64 0, .int .i64 0, .int .i64 0, .int .i64 0, .int .i64 0, .int .i64 0, .int .i64 0, .int .i64 0, .int .i64 0, .int .i64 0, .int .i64 0, .int .i64 0, .int .i64 0] 24 (0, 0))) := ⟨(Below.heap_setCell w7 ⟨H, 4, none⟩ _ X (by have := HLT.out; show X ≠ H; omega)).trans HXb.out⟩
            have HB7 : Aside0 (Below w.heap.size w (w7.setCell ⟨H, 4, none⟩ (.int .i64 (nmI l 10 2)))) := ⟨below_set HBb.out (by have := HLT.out; have := HGE.out; omega)⟩
            have HRD7 : Aside0 (Reader (w7.setCell ⟨H, 4, none⟩ (.int .i64 (nmI l 10 2))) RP A c l 12) := ⟨HRb.out.far (by have := HLT.out; omega) (fun ad e h => by have := HAL.out ad e h; have := HLT.out; have := HGE.out; omega) 4 _⟩
            clear hrd hq HC HHb HXb HBb HRb HS
            go_wp2_with fail
            go_roundg k1
            case measure => omega
            case rel => exact .inr (.inr (.inl ⟨by go_num, by omega, ⟨HRD7.out, HH7.out, HX7.out, HB7.out⟩⟩))
        · cases gk with
          | zero => omega
          | succ k1 =>
            have HC : Aside0 (Calls Tryd.prog 37 #[.pointer (some ⟨RP, 0, none⟩), .int .i64 2] wr (fun e w' => e = .returned (.int .i64 (le (field_part.seg l (12 : Nat) (2 : Nat)))) ∧ Reader w' RP A c l 14 ∧ Wrote wr w' RP nilV nilV)) := ⟨rnum_calls 2 (by decide) HS.out.1 HLS.out.1 HLS.out.2.1 (by have := H32.out; omega)⟩
            go_wp2_with fail
            ((with_reducible refine HC.out.mono ?_); rintro e w7 ⟨rfl, hrd, hq⟩)
            rw [rnumI]
            have HHb := Aside0.mk ((hq.block H (blk_lt HS.out.2.1) (by have := HLT.out; omega) (by simp [nilV, Value.ownBlock])).trans HS.out.2.1)
            have HXb := Aside0.mk ((hq.block X (blk_lt HS.out.2.2.1) (by have := HLT.out; omega) (by simp [nilV, Value.ownBlock])).trans HS.out.2.2.1)
            have HBb := Aside0.mk (hq.below (base := w.heap.size) (by have := HLT.out; have := HGE.out; omega) (fun k e => by simp [nilV, Value.ownBlock] at e) HS.out.2.2.2 HS.out.2.2.2.size)
            have HRb := Aside0.mk hrd
            have y : w7.cell? ⟨H, 5, none⟩ = some (.int .i64 0) := (blk_cell HHb.out 5).trans rfl
            have fy := blk_frozen HHb.out 5
            have HH7 : Aside0 ((w7.setCell ⟨H, 5, none⟩ (.int .i64 (nmI l 12 2))).heap[H]? = some (.cells #[.int .i64 (nmI l 0 1), .int .i64 (nmI l 2 2), .int .i64 (nmI l 4 4), .int .i64 (nmI l 8 2), .int .i64 (nmI l 10 2), .int .i64 (nmI l 12 2), .int .i64 0, .int .i64 0, .int .i64 0, .int .i64 0, .int .i64 0, .int .i64 0, .int .i64 0] 24 (0, 0))) := ⟨blk_put HHb.out 5 _ rfl⟩
            have HX7 : Aside0 ((w7.setCell ⟨H, 5, none⟩ (.int .i64 (nmI l 12 2))).heap[X]? = some (.cells #[.int .i64 0, .int .i64 0, .int .i64 0, .int .i64 0, .int .i64 0, .int .i64 0, .int .i64 0, .int .i64 0, .int .i64 0, .int .i64 0, .int .i64 0, .int .i64 0, .int .i64 0] 24 (0, 0))) := ⟨(Below.heap_setCell w7 ⟨H, 5, none⟩ _ X (by have := HLT.out; show X ≠ H; omega)).trans HXb.out⟩
            have HB7 : Aside0 (Below w.heap.size w (w7.setCell ⟨H, 5, none⟩ (.int .i64 (nmI l 12 2)))) := ⟨below_set HBb.out (by have := HLT.out; have := HGE.out; omega)⟩
            have HRD7 : Aside0 (Reader (w7.setCell ⟨H, 5, none⟩ (.int .i64 (nmI l 12 2))) RP A c l 14) := ⟨HRb.out.far (by have := HLT.out; omega) (fun ad e h => by have := HAL.out ad e h; have := HLT.out; have := HGE.out; omega) 5 _⟩
            clear hrd hq HC HHb HXb HBb HRb HS
            go_wp2_with fail
            go_roundg k1
            case measure => omega
            case rel => exact .inr (.inr (.inr (.inl ⟨by go_num, by omega, ⟨HRD7.out, HH7.out, HX7.out, HB7.out⟩⟩)))
        · cases gk with
          | zero => omega
          | succ k1 =>
            have HC : Aside0 (Calls Tryd.prog 37 #[.pointer (some ⟨RP, 0, none⟩), .int .i64 2] wr (fun e w' => e = .returned (.int .i64 (le (field_part.seg l (14 : Nat) (2 : Nat)))) ∧ Reader w' RP A c l 16 ∧ Wrote wr w' RP nilV nilV)) := ⟨rnum_calls 2 (by decide) HS.out.1 HLS.out.1 HLS.out.2.1 (by have := H32.out; omega)⟩
            go_wp2_with fail
            ((with_reducible refine HC.out.mono ?_); rintro e w7 ⟨rfl, hrd, hq⟩)
            rw [rnumI]
            have HHb := Aside0.mk ((hq.block H (blk_lt HS.out.2.1) (by have := HLT.out; omega) (by simp [nilV, Value.ownBlock])).trans HS.out.2.1)
            have HXb := Aside0.mk ((hq.block X (blk_lt HS.out.2.2.1) (by have := HLT.out; omega) (by simp [nilV, Value.ownBlock])).trans HS.out.2.2.1)
            have HBb := Aside0.mk (hq.below (base := w.heap.size) (by have := HLT.out; have := HGE.out; omega) (fun k e => by simp [nilV, Value.ownBlock] at e) HS.out.2.2.2 HS.out.2.2.2.size)
            have HRb := Aside0.mk hrd
            have y : w7.cell? ⟨H, 6, none⟩ = some (.int .i64 0) := (blk_cell HHb.out 6).trans rfl
            have fy := blk_frozen HHb.out 6
            have HH7 : Aside0 ((w7.setCell ⟨H, 6, none⟩ (.int .i64 (nmI l 14 2))).heap[H]? = some (.cells #[.int .i64 (nmI l 0 1), .int .i64 (nmI l 2 2), .int .i64 (nmI l 4 4), .int .i64 (nmI l 8 2), .int .i64 (nmI l 10 2), .int .i64 (nmI l 12 2), .int .i64 (nmI l 14 2), .int .i64 0, .int .i64 0, .int .i64 0, .int .i64 0, .int .i64 0, .int .i64 0] 24 (0, 0))) := ⟨blk_put HHb.out 6 _ rfl⟩
            have HX7 : Aside0 ((w7.setCell ⟨H, 6, none⟩ (.int .i64 (nmI l 14 2))).heap[X]? = some (.cells #[.int .i64 0, .int .i64 0, .int .i64 0, .int .i64 0, .int .i64 0, .int .i64 0, .int .i64 0, .int .i64 0, .int .i64 0, .int .i64 0, .int .i64 0, .int .i64 0, .int .i64 0] 24 (0, 0))) := ⟨(Below.heap_setCell w7 ⟨H, 6, none⟩ _ X (by have := HLT.out; show X ≠ H; omega)).trans HXb.out⟩
            have HB7 : Aside0 (Below w.heap.size w (w7.setCell ⟨H, 6, none⟩ (.int .i64 (nmI l 14 2)))) := ⟨below_set HBb.out (by have := HLT.out; have := HGE.out; omega)⟩
            have HRD7 : Aside0 (Reader (w7.setCell ⟨H, 6, none⟩ (.int .i64 (nmI l 14 2))) RP A c l 16) := ⟨HRb.out.far (by have := HLT.out; omega) (fun ad e h => by have := HAL.out ad e h; have := HLT.out; have := HGE.out; omega) 6 _⟩
            clear hrd hq HC HHb HXb HBb HRb HS
            go_wp2_with fail
            go_roundg k1
            case measure => omega
            case rel => exact .inr (.inr (.inr (.inr (.inl ⟨by go_num, by omega, ⟨HRD7.out, HH7.out, HX7.out, HB7.out⟩⟩))))
        · cases gk with
          | zero => omega
          | succ k1 =>
            have HC : Aside0 (Calls Tryd.prog 37 #[.pointer (some ⟨RP, 0, none⟩), .int .i64 2] wr (fun e w' => e = .returned (.int .i64 (le (field_part.seg l (16 : Nat) (2 : Nat)))) ∧ Reader w' RP A c l 18 ∧ Wrote wr w' RP nilV nilV)) := ⟨rnum_calls 2 (by decide) HS.out.1 HLS.out.1 HLS.out.2.1 (by have := H32.out; omega)⟩
            go_wp2_with fail
            ((with_reducible refine HC.out.mono ?_); rintro e w7 ⟨rfl, hrd, hq⟩)
            rw [rnumI]
            have HHb := Aside0.mk ((hq.block H (blk_lt HS.out.2.1) (by have := HLT.out; omega) (by simp [nilV, Value.ownBlock])).trans HS.out.2.1)
            have HXb := Aside0.mk ((hq.block X (blk_lt HS.out.2.2.1) (by have := HLT.out; omega) (by simp [nilV, Value.ownBlock])).trans HS.out.2.2.1)
            have HBb := Aside0.mk (hq.below (base := w.heap.size) (by have := HLT.out; have := HGE.out; omega) (fun k e => by simp [nilV, Value.ownBlock] at e) HS.out.2.2.2 HS.out.2.2.2.size)
            have HRb := Aside0.mk hrd
            have y : w7.cell? ⟨H, 7, none⟩ = some (.int .i64 0) := (blk_cell HHb.out 7).trans rfl
            have fy := blk_frozen HHb.out 7
            have HH7 : Aside0 ((w7.setCell ⟨H, 7, none⟩ (.int .i64 (nmI l 16 2))).heap[H]? = some (.cells #[.int .i64 (nmI l 0 1), .int .i64 (nmI l 2 2), .int .i64 (nmI l 4 4), .int .i64 (nmI l 8 2), .int .i64 (nmI l 10 2), .int .i64 (nmI l 12 2), .int .i64 (nmI l 14 2), .int .i64 (nmI l 16 2), .int .i64 0, .int .i64 0, .int .i64 0, .int .i64 0, .int .i64 0] 24 (0, 0))) := ⟨blk_put HHb.out 7 _ rfl⟩
            have HX7 : Aside0 ((w7.setCell ⟨H, 7, none⟩ (.int .i64 (nmI l 16 2))).heap[X]? = some (.cells #[.int .i64 0, .int .i64 0, .int .i64 0, .int .i64 0, .int .i64 0, .int .i64 0, .int .i64 0, .int .i64 0, .int .i64 0, .int .i64 0, .int .i64 0, .int .i64 0, .int .i64 0] 24 (0, 0))) := ⟨(Below.heap_setCell w7 ⟨H, 7, none⟩ _ X (by have := HLT.out; show X ≠ H; omega)).trans HXb.out⟩
            have HB7 : Aside0 (Below w.heap.size w (w7.setCell ⟨H, 7, none⟩ (.int .i64 (nmI l 16 2)))) := ⟨below_set HBb.out (by have := HLT.out; have := HGE.out; omega)⟩
            have HRD7 : Aside0 (Reader (w7.setCell ⟨H, 7, none⟩ (.int .i64 (nmI l 16 2))) RP A c l 18) := ⟨HRb.out.far (by have := HLT.out; omega) (fun ad e h => by have := HAL.out ad e h; have := HLT.out; have := HGE.out; omega) 7 _⟩
            clear hrd hq HC HHb HXb HBb HRb HS
            go_wp2_with fail
            go_roundg k1
            case measure => omega
            case rel => exact .inr (.inr (.inr (.inr (.inr (.inl ⟨by go_num, by omega, ⟨HRD7.out, HH7.out, HX7.out, HB7.out⟩⟩)))))
        · cases gk with
          | zero => omega
          | succ k1 =>
            have HC : Aside0 (Calls Tryd.prog 37 #[.pointer (some ⟨RP, 0, none⟩), .int .i64 2] wr (fun e w' => e = .returned (.int .i64 (le (field_part.seg l (18 : Nat) (2 : Nat)))) ∧ Reader w' RP A c l 20 ∧ Wrote wr w' RP nilV nilV)) := ⟨rnum_calls 2 (by decide) HS.out.1 HLS.out.1 HLS.out.2.1 (by have := H32.out; omega)⟩
            go_wp2_with fail
            ((with_reducible refine HC.out.mono ?_); rintro e w7 ⟨rfl, hrd, hq⟩)
            rw [rnumI]
            have HHb := Aside0.mk ((hq.block H (blk_lt HS.out.2.1) (by have := HLT.out; omega) (by simp [nilV, Value.ownBlock])).trans HS.out.2.1)
            have HXb := Aside0.mk ((hq.block X (blk_lt HS.out.2.2.1) (by have := HLT.out; omega) (by simp [nilV, Value.ownBlock])).trans HS.out.2.2.1)
            have HBb := Aside0.mk (hq.below (base := w.heap.size) (by have := HLT.out; have := HGE.out; omega) (fun k e => by simp [nilV, Value.ownBlock] at e) HS.out.2.2.2 HS.out.2.2.2.size)
            have HRb := Aside0.mk hrd
            have y : w7.cell? ⟨H, 8, none⟩ = some (.int .i64 0) := (blk_cell HHb.out 8).trans rfl
            have fy := blk_frozen HHb.out 8
            have HH7 : Aside0 ((w7.setCell ⟨H, 8, none⟩ (.int .i64 (nmI l 18 2))).heap[H]? = some (.cells #[.int .i64 (nmI l 0 1), .int .i64 (nmI l 2 2), .int .i64 (nmI l 4 4), .int .i64 (nmI l 8 2), .int .i64 (nmI l 10 2), .int .i64 (nmI l 12 2), .int .i64 (nmI l 14 2), .int .i64 (nmI l 16 2), .int .i64 (nmI l 18 2), .int .i64 0, .int .i64 0, .int .i64 0, .int .i64 0] 24 (0, 0))) := ⟨blk_put HHb.out 8 _ rfl⟩
            have HX7 : Aside0 ((w7.setCell ⟨H, 8, none⟩ (.int .i64 (nmI l 18 2))).heap[X]? = some (.cells #[.int .i64 0, .int .i64 0, .int .i64 0, .int .i64 0, .int .i64 0, .int .i64 0, .int .i64 0, .int .i64 0, .int .i64 0, .int .i64 0, .int .i64 0, .int .i64 0, .int .i64 0] 24 (0, 0))) := ⟨(Below.heap_setCell w7 ⟨H, 8, none⟩ _ X (by have := HLT.out; show X ≠ H; omega)).trans HXb.out⟩
            have HB7 : Aside0 (Below w.heap.size w (w7.setCell ⟨H, 8, none⟩ (.int .i64 (nmI l 18 2)))) := ⟨below_set HBb.out (by have := HLT.out; have := HGE.out; omega)⟩
            have HRD7 : Aside0 (Reader (w7.setCell ⟨H, 8, none⟩ (.int .i64 (nmI l 18 2))) RP A c l 20) := ⟨HRb.out.far (by have := HLT.out; omega) (fun ad e h => by have := HAL.out ad e h; have := HLT.out; have := HGE.out; omega) 8 _⟩
            clear hrd hq HC HHb HXb HBb HRb HS
            go_wp2_with fail
            go_roundg k1
            case measure => omega
            case rel => exact .inr (.inr (.inr (.inr (.inr (.inr (.inl ⟨by go_num, by omega, ⟨HRD7.out, HH7.out, HX7.out, HB7.out⟩⟩))))))
        · cases gk with
          | zero => omega
          | succ k1 =>
            have HC : Aside0 (Calls Tryd.prog 37 #[.pointer (some ⟨RP, 0, none⟩), .int .i64 2] wr (fun e w' => e = .returned (.int .i64 (le (field_part.seg l (20 : Nat) (2 : Nat)))) ∧ Reader w' RP A c l 22 ∧ Wrote wr w' RP nilV nilV)) := ⟨rnum_calls 2 (by decide) HS.out.1 HLS.out.1 HLS.out.2.1 (by have := H32.out; omega)⟩
            go_wp2_with fail
            ((with_reducible refine HC.out.mono ?_); rintro e w7 ⟨rfl, hrd, hq⟩)
            rw [rnumI]
            have HHb := Aside0.mk ((hq.block H (blk_lt HS.out.2.1) (by have := HLT.out; omega) (by simp [nilV, Value.ownBlock])).trans HS.out.2.1)
            have HXb := Aside0.mk ((hq.block X (blk_lt HS.out.2.2.1) (by have := HLT.out; omega) (by simp [nilV, Value.ownBlock])).trans HS.out.2.2.1)
            have HBb := Aside0.mk (hq.below (base := w.heap.size) (by have := HLT.out; have := HGE.out; omega) (fun k e => by simp [nilV, Value.ownBlock] at e) HS.out.2.2.2 HS.out.2.2.2.size)
            have HRb := Aside0.mk hrd
            have y : w7.cell? ⟨H, 9, none⟩ = some (.int .i64 0) := (blk_cell HHb.out 9).trans rfl
            have fy := blk_frozen HHb.out 9
            have HH7 : Aside0 ((w7.setCell ⟨H, 9, none⟩ (.int .i64 (nmI l 20 2))).heap[H]? = some (.cells #[.int .i64 (nmI l 0 1), .int .i64 (nmI l 2 2), .int .i64 (nmI l 4 4), .int .i64 (nmI l 8 2), .int .i64 (nmI l 10 2), .int .i64 (nmI l 12 2), .int .i64 (nmI l 14 2), .int .i64 (nmI l 16 2), .int .i64 (nmI l 18 2), .int .i64 (nmI l 20 2), .int .i64 0, .int .i64 0, .int .i64 0] 24 (0, 0))) := ⟨blk_put HHb.out 9 _ rfl⟩
            have HX7 : Aside0 ((w7.setCell ⟨H, 9, none⟩ (.int .i64 (nmI l 20 2))).heap[X]? = some (.cells #[.int .i64 0, .int .i64 0, .int .i64 0, .int .i64 0, .int .i64 0, .int .i64 0, .int .i64 0, .int .i64 0, .int .i64 0, .int .i64 0, .int .i64 0, .int .i64 0, .int .i64 0] 24 (0, 0))) := ⟨(Below.heap_setCell w7 ⟨H, 9, none⟩ _ X (by have := HLT.out; show X ≠ H; omega)).trans HXb.out⟩
            have HB7 : Aside0 (Below w.heap.size w (w7.setCell ⟨H, 9, none⟩ (.int .i64 (nmI l 20 2)))) := ⟨below_set HBb.out (by have := HLT.out; have := HGE.out; omega)⟩
            have HRD7 : Aside0 (Reader (w7.setCell ⟨H, 9, none⟩ (.int .i64 (nmI l 20 2))) RP A c l 22) := ⟨HRb.out.far (by have := HLT.out; omega) (fun ad e h => by have := HAL.out ad e h; have := HLT.out; have := HGE.out; omega) 9 _⟩
            clear hrd hq HC HHb HXb HBb HRb HS
            go_wp2_with fail
            go_roundg k1
            case measure => omega
            case rel => exact .inr (.inr (.inr (.inr (.inr (.inr (.inr (.inl ⟨by go_num, by omega, ⟨HRD7.out, HH7.out, HX7.out, HB7.out⟩⟩)))))))
        · cases gk with
          | zero => omega
          | succ k1 =>
            have HC : Aside0 (Calls Tryd.prog 37 #[.pointer (some ⟨RP, 0, none⟩), .int .i64 2] wr (fun e w' => e = .returned (.int .i64 (le (field_part.seg l (22 : Nat) (2 : Nat)))) ∧ Reader w' RP A c l 24 ∧ Wrote wr w' RP nilV nilV)) := ⟨rnum_calls 2 (by decide) HS.out.1 HLS.out.1 HLS.out.2.1 (by have := H32.out; omega)⟩
            go_wp2_with fail
            ((with_reducible refine HC.out.mono ?_); rintro e w7 ⟨rfl, hrd, hq⟩)
            rw [rnumI]
            have HHb := Aside0.mk ((hq.block H (blk_lt HS.out.2.1) (by have := HLT.out; omega) (by simp [nilV, Value.ownBlock])).trans HS.out.2.1)
            have HXb := Aside0.mk ((hq.block X (blk_lt HS.out.2.2.1) (by have := HLT.out; omega) (by simp [nilV, Value.ownBlock])).trans HS.out.2.2.1)
            have HBb := Aside0.mk (hq.below (base := w.heap.size) (by have := HLT.out; have := HGE.out; omega) (fun k e => by simp [nilV, Value.ownBlock] at e) HS.out.2.2.2 HS.out.2.2.2.size)
            have HRb := Aside0.mk hrd
            have y : w7.cell? ⟨H, 10, none⟩ = some (.int .i64 0) := (blk_cell HHb.out 10).trans rfl
            have fy := blk_frozen HHb.out 10
            have HH7 : Aside0 ((w7.setCell ⟨H, 10, none⟩ (.int .i64 (nmI l 22 2))).heap[H]? = some (.cells #[.int .i64 (nmI l 0 1), .int .i64 (nmI l 2 2), .int .i64 (nmI l 4 4), .int .i64 (nmI l 8 2), .int .i64 (nmI l 10 2), .int .i64 (nmI l 12 2), .int .i64 (nmI l 14 2), .int .i64 (nmI l 16 2), .int .i64 (nmI l 18 2), .int .i64 (nmI l 20 2), .int .i64 (nmI l 22 2), .int .i64 0, .int .i64 0] 24 (0, 0))) := ⟨blk_put HHb.out 10 _ rfl⟩
            have HX7 : Aside0 ((w7.setCell ⟨H, 10, none⟩ (.int .i64 (nmI l 22 2))).heap[X]? = some (.cells #[.int .i64 0, .int .i64 0, .int .i64 0, .int .i64 0, .int .i64 0, .int .i64 0, .int .i64 0, .int .i64 0, .int .i64 0, .int .i64 0, .int .i64 0, .int .i64 0, .int .i64 0] 24 (0, 0))) := ⟨(Below.heap_setCell w7 ⟨H, 10, none⟩ _ X (by have := HLT.out; show X ≠ H; omega)).trans HXb.out⟩
            have HB7 : Aside0 (Below w.heap.size w (w7.setCell ⟨H, 10, none⟩ (.int .i64 (nmI l 22 2)))) := ⟨below_set HBb.out (by have := HLT.out; have := HGE.out; omega)⟩
            have HRD7 : Aside0 (Reader (w7.setCell ⟨H, 10, none⟩ (.int .i64 (nmI l 22 2))) RP A c l 24) := ⟨HRb.out.far (by have := HLT.out; omega) (fun ad e h => by have := HAL.out ad e h; have := HLT.out; have := HGE.out; omega) 10 _⟩
            clear hrd hq HC HHb HXb HBb HRb HS
            go_wp2_with fail
            go_roundg k1
            case measure => omega
            case rel => exact .inr (.inr (.inr (.inr (.inr (.inr (.inr (.inr (⟨by go_num, by omega, ⟨HRD7.out, HH7.out, HX7.out, HB7.out⟩⟩))))))))
        · have HUV := HUV0.out
          clear HUV0
          obtain ⟨w6, hw6⟩ : ∃ w6, w6 = wr := ⟨_, rfl⟩
          subst hw6
          have HRD := Aside0.mk HS.out.1
          have HH := Aside0.mk HS.out.2.1
          have HX := Aside0.mk HS.out.2.2.1
          have HB := Aside0.mk HS.out.2.2.2
          clear HS
          go_wp2_with fail
          have HPC := Aside0.mk (blk_new w6 (.cells #[.pointer (some ⟨H, 11, none⟩), .pointer (some ⟨H, 12, none⟩)] 82))
          have HC : Aside0 (Calls Tryd.prog 36 #[.pointer (some ⟨RP, 0, none⟩), .int .i64 2, .slice (some ⟨w6.heap.size, 0, none⟩) 2 2] (w6.alloc (.cells #[.pointer (some ⟨H, 11, none⟩), .pointer (some ⟨H, 12, none⟩)] 82)) (fun e w' => e = .returned (.tuple #[]) ∧ Reader w' RP A c l 28 ∧ Stored (w6.alloc (.cells #[.pointer (some ⟨H, 11, none⟩), .pointer (some ⟨H, 12, none⟩)] 82)) w' RP (PH H 11) (nth l 24 2) 2)) := ⟨rnums_calls 2 (by decide) (HRD.out.later (below_alloc (Below.refl _ _) _)) HLS.out.1 HLS.out.2.1 2 (by have := H32.out; omega) (by decide) w6.heap.size (PH H 11) #[.pointer (some ⟨H, 11, none⟩), .pointer (some ⟨H, 12, none⟩)] 82 HPC.out (by
              intro i hi
              obtain rfl | rfl : i = 0 ∨ i = 1 := (by omega)
              all_goals rfl) (by
              intro i hi
              have h1 := HLT.out
              have h2 := HGE.out
              obtain rfl | rfl : i = 0 ∨ i = 1 := (by omega)
              all_goals (first
                | exact ⟨by show H ≠ RP; omega, by show H ≠ w6.heap.size; have := blk_lt HH.out; omega, fun ad e h => by have := HAL.out ad e h; show ad.block ≠ H; omega, _, _, blk_alloc HH.out _, _, rfl⟩
                | exact ⟨by show S ≠ RP; omega, by show S ≠ w6.heap.size; have := blk_lt HSP.out; omega, fun ad e h => by have := HAL.out ad e h; show ad.block ≠ S; omega, _, _, blk_alloc HSP.out _, _, rfl⟩)) (by have := blk_lt HRD.out.blk; omega)⟩
          ((with_reducible refine HC.out.mono ?_); rintro e w8 ⟨rfl, hrd, hq⟩)
          have hh := hq.cells H _ _ (blk_alloc HH.out _) (by have := HLT.out; omega)
          have hh : w8.heap[H]? = some (.cells #[.int .i64 (nmI l 0 1), .int .i64 (nmI l 2 2), .int .i64 (nmI l 4 4), .int .i64 (nmI l 8 2), .int .i64 (nmI l 10 2), .int .i64 (nmI l 12 2), .int .i64 (nmI l 14 2), .int .i64 (nmI l 16 2), .int .i64 (nmI l 18 2), .int .i64 (nmI l 20 2), .int .i64 (nmI l 22 2), .int .i64 (nmI l 24 2), .int .i64 (nmI l 26 2)] 24 (0, 0)) := by
            have e : upd (PH H 11) (nth l 24 2) H #[.int .i64 (nmI l 0 1), .int .i64 (nmI l 2 2), .int .i64 (nmI l 4 4), .int .i64 (nmI l 8 2), .int .i64 (nmI l 10 2), .int .i64 (nmI l 12 2), .int .i64 (nmI l 14 2), .int .i64 (nmI l 16 2), .int .i64 (nmI l 18 2), .int .i64 (nmI l 20 2), .int .i64 (nmI l 22 2), .int .i64 0, .int .i64 0] 2 = #[.int .i64 (nmI l 0 1), .int .i64 (nmI l 2 2), .int .i64 (nmI l 4 4), .int .i64 (nmI l 8 2), .int .i64 (nmI l 10 2), .int .i64 (nmI l 12 2), .int .i64 (nmI l 14 2), .int .i64 (nmI l 16 2), .int .i64 (nmI l 18 2), .int .i64 (nmI l 20 2), .int .i64 (nmI l 22 2), .int .i64 (nmI l 24 2), .int .i64 (nmI l 26 2)] := by simp [upd, PH, nth_nmI]
            rw [e] at hh
            exact hh
          have HH8 := Aside0.mk hh
          have HX8 := Aside0.mk (hq.block X _ (blk_alloc HX.out _) (by have := HLT.out; omega) (fun i hi => by have := HLT.out; obtain rfl | rfl : i = 0 ∨ i = 1 := (by omega) <;> (first | (show H ≠ X; omega) | (show S ≠ X; omega))))
          have HB8 := Aside0.mk (hq.below (base := w.heap.size) (by have := HLT.out; have := HGE.out; omega) (fun i hi => by have := HLT.out; have := HGE.out; obtain rfl | rfl : i = 0 ∨ i = 1 := (by omega) <;> (first | (show w.heap.size ≤ H; omega) | (show w.heap.size ≤ S; omega))) (HB.out.alloc HB.out.size _) (HB.out.alloc HB.out.size _).size)
          have HRD8 := Aside0.mk hrd
          clear hh hrd hq HC HPC HH HX HB HRD
          have HH := HH8; have HX := HX8; have HB := HB8; have HRD := HRD8
          clear HH8 HX8 HB8 HRD8
          have HCr := Aside0.mk HRD.out.rd
          clear HRD
          obtain ⟨q0, hn0⟩ : ∃ n, nmI l 0 1 = n := ⟨_, rfl⟩
          obtain ⟨q1, hn1⟩ : ∃ n, nmI l 2 2 = n := ⟨_, rfl⟩
          obtain ⟨q2, hn2⟩ : ∃ n, nmI l 4 4 = n := ⟨_, rfl⟩
          obtain ⟨q3, hn3⟩ : ∃ n, nmI l 8 2 = n := ⟨_, rfl⟩
          obtain ⟨q4, hn4⟩ : ∃ n, nmI l 10 2 = n := ⟨_, rfl⟩
          obtain ⟨q5, hn5⟩ : ∃ n, nmI l 12 2 = n := ⟨_, rfl⟩
          obtain ⟨q6, hn6⟩ : ∃ n, nmI l 14 2 = n := ⟨_, rfl⟩
          obtain ⟨q7, hn7⟩ : ∃ n, nmI l 16 2 = n := ⟨_, rfl⟩
          obtain ⟨q8, hn8⟩ : ∃ n, nmI l 18 2 = n := ⟨_, rfl⟩
          obtain ⟨q9, hn9⟩ : ∃ n, nmI l 20 2 = n := ⟨_, rfl⟩
          obtain ⟨q10, hn10⟩ : ∃ n, nmI l 22 2 = n := ⟨_, rfl⟩
          obtain ⟨q11, hn11⟩ : ∃ n, nmI l 24 2 = n := ⟨_, rfl⟩
          obtain ⟨q12, hn12⟩ : ∃ n, nmI l 26 2 = n := ⟨_, rfl⟩
          simp only [hn0, hn1, hn2, hn3, hn4, hn5, hn6, hn7, hn8, hn9, hn10, hn11, hn12] at HH HUV
          have HHD := Aside0.mk (fun W => inode_calls q0 q1 q2 q3 q4 q5 q6 q7 q8 q9 q10 q11 q12 W)
          obtain ⟨⟨BS, be⟩, hBS⟩ : ∃ BS, inoOut q0 q1 q2 q3 q4 q5 q6 q7 q8 q9 q10 q11 q12 = BS := ⟨_, rfl⟩
          rw [hBS] at HHD HUV
          have HUV := Aside0.mk HUV
          clear hBS hn0 hn1 hn2 hn3 hn4 hn5 hn6 hn7 hn8 hn9 hn10 hn11 hn12
          obtain ⟨y0, y1, y2, y3, y4, y5, y6, y7, y8, y9, y10, y11, y12⟩ := cl13 HH
          go_wp2_with fail
          ((with_reducible refine (HHD.out _).mono ?_); rintro e w9 ⟨v, rfl, hv, hb⟩)
          have HX9 := Aside0.mk (blk_below HX.out hb); have HH9 := Aside0.mk (blk_below HH.out hb); have HB9 := Aside0.mk (below_then HB.out HB.out.size hb); have HC9 := Aside0.mk (Kd.C_below HCr.out hb)
          obtain ⟨A2, k2, rfl, hk2, hv2⟩ := brow_reads hv
          clear hb HHD HX HH HB HCr hv y0 y1 y2 y3 y4 y5 y6 y7 y8 y9 y10 y11 y12
          obtain ⟨y0, y1, y2, y3, y4, y5, y6, y7, y8, y9, y10, y11, y12⟩ := cl13 HH9
          by_cases hok : be = 0 ∧ (strOfNums BS).toList = (strOfNums l).toList
          · have hu1 := HUV.out.1 hok
            obtain ⟨rfl, he⟩ := hok
            have HSA := Aside0.mk (same_ok q0 q1 q2 q3 q4 q5 q6 q7 q8 q9 q10 q11 q12 A c l A2 k2 BS w9 HC9.out HLS.out.2.2 hv2 hk2 he.symm)
            have HU := Aside0.mk hu1
            clear hv2 hk2 he hu1 HUV
            go_wp2_with fail
            ((with_reducible refine HSA.out.mono ?_); rintro e w10 ⟨rfl, hb⟩)
            have HX10 := Aside0.mk (blk_below HX9.out hb); have HB10 := Aside0.mk (below_then HB9.out HB9.out.size hb)
            clear hb HSA HX9 HH9 HB9 HC9 y0 y1 y2 y3 y4 y5 y6 y7 y8 y9 y10 y11 y12
            obtain ⟨x0, x1, x2, x3, x4, x5, x6, x7, x8, x9, x10, x11, x12⟩ := cl13 HX10
            obtain ⟨f0, f1, f2, f3, f4, f5, f6, f7, f8, f9, f10, f11, f12⟩ := fz13 HX10
            go_wp2
            refine bodyPost_ret (results_ct rfl _ _ X 24 #[.int .i64 q0, .int .i64 q1, .int .i64 q2, .int .i64 q3, .int .i64 q4, .int .i64 q5, .int .i64 q6, .int .i64 q7, .int .i64 q8, .int .i64 q9, .int .i64 q10, .int .i64 q11, .int .i64 q12] (0, 0) _ rfl (put13 HX10.out (.int .i64 q0) (.int .i64 q1) (.int .i64 q2) (.int .i64 q3) (.int .i64 q4) (.int .i64 q5) (.int .i64 q6) (.int .i64 q7) (.int .i64 q8) (.int .i64 q9) (.int .i64 q10) (.int .i64 q11) (.int .i64 q12)) hu rfl (by kernel_rfl)) rfl ?_
            rw [HU.out.1, HU.out.2]
            exact ⟨rfl, below13 HB10.out HGE.out _ _ _ _ _ _ _ _ _ _ _ _ _⟩
          · have hu1 := HUV.out.2 hok
            have HSA := Aside0.mk (same_no q0 q1 q2 q3 q4 q5 q6 q7 q8 q9 q10 q11 q12 A c l A2 k2 BS be w9 HC9.out HLS.out.2.2 hv2 hk2 (by
              by_cases h0 : be = 0
              · exact .inr ⟨h0, fun h => hok ⟨h0, h.symm⟩⟩
              · exact .inl h0))
            have HU := Aside0.mk hu1
            clear hv2 hk2 hok hu1 HUV
            go_wp2_with fail
            ((with_reducible refine HSA.out.mono ?_); rintro e w10 ⟨rfl, hb⟩)
            have HX10 := Aside0.mk (blk_below HX9.out hb); have HB10 := Aside0.mk (below_then HB9.out HB9.out.size hb)
            clear hb HSA HX9 HH9 HB9 HC9 y0 y1 y2 y3 y4 y5 y6 y7 y8 y9 y10 y11 y12
            obtain ⟨x0, x1, x2, x3, x4, x5, x6, x7, x8, x9, x10, x11, x12⟩ := cl13 HX10
            obtain ⟨f0, f1, f2, f3, f4, f5, f6, f7, f8, f9, f10, f11, f12⟩ := fz13 HX10
            go_wp2
            refine bodyPost_ret (results_ct rfl _ _ X 24 #[.int .i64 0, .int .i64 0, .int .i64 0, .int .i64 0, .int .i64 0, .int .i64 0, .int .i64 0, .int .i64 0, .int .i64 0, .int .i64 0, .int .i64 0, .int .i64 0, .int .i64 0] (0, 0) _ rfl (put13 HX10.out (.int .i64 0) (.int .i64 0) (.int .i64 0) (.int .i64 0) (.int .i64 0) (.int .i64 0) (.int .i64 0) (.int .i64 0) (.int .i64 0) (.int .i64 0) (.int .i64 0) (.int .i64 0) (.int .i64 0)) hu rfl (by kernel_rfl)) rfl ?_
            rw [HU.out.1, HU.out.2]
            exact ⟨rfl, below13 HB10.out HGE.out _ _ _ _ _ _ _ _ _ _ _ _ _⟩
end Go.Proofs.YtbplffdmggbcdaaDoor.Codec
