/- A super block and a header are written: contracts. -/
import Derived.Test.YtbplffdmggbcdaaDoorKKMark
import Derived.Test.YtbplffdmggbcdaaDoorKKDirent
namespace Go.Proofs.YtbplffdmggbcdaaDoor.Codec
open Go.RowKit Go.Proofs.YtbplffdmggbcdaaDoor.PCodecKeeps Go.Proofs.YtbplffdmggbcdaaDoor.Plain Go.Proofs.YtbplffdmggbcdaaDoor.Pure Go.Proofs.YtbplffdmggbcdaaDoorW.PrintWords Go.Proofs.YtbplffdmggbcdaaDoorW.PrintLast Go.Proofs.YtbplffdmggbcdaaDoorW.PrintMore
set_option linter.unusedVariables false
set_option linter.unusedSimpArgs false

theorem WriterM.own {w : World} {base WP : Nat} {v : Value} {s : List Int × Int} (H : WriterM w base WP v s) (hl : s.1.length ≠ 4) : Writer w base WP v s := ⟨H.blk, rowm_own H.row hl, H.ne, H.lo⟩
set_option maxHeartbeats 4000000 in
set_option maxRecDepth 100000 in
theorem wholem_err (n : Nat) {w : World} {base WP : Nat} {v : Value} {s : List Int × Int} (H : WriterM w base WP v s) (he : s.2 ≠ 0) :
    Calls Tryd.prog 33 #[.pointer (some ⟨WP, 0, none⟩), .int .i64 n] w fun e w' => e = .returned (.tuple #[.slice none 0 0, .int .i64 s.2]) ∧ Below w.heap.size w w' := by
  have hu3 := Tryd.underlying72
  have xe : w.cell? ⟨WP, 1, none⟩ = some (.int .i64 s.2) := (blk_cell H.blk 1).trans rfl
  obtain ⟨e, he2⟩ : ∃ e, s.2 = e := ⟨_, rfl⟩
  rw [he2] at he xe ⊢
  have hb : (e != 0) = true := bne_iff_ne.2 he
  clear H he he2
  go_enter Tryd.func33, Tryd.ntmps33
  go_wp2
  go_quiet (fail)
  go_wp2
  go_ret2
  exact ⟨rfl, below_drewN (Below.refl _ _) nq⟩
theorem blk_wroteM {w w' : World} {WP g : Nat} {v v' : Value} {o : Obj} (h : w.heap[g]? = some o) (hq : Wrote w w' WP v v') (h1 : g ≠ WP) (h2 : v.ownBlock ≠ some g) : w'.heap[g]? = some o := (hq.block g (blk_lt h) h1 h2).trans h

set_option maxHeartbeats 4000000 in
set_option maxRecDepth 100000 in
theorem super_calls (p0 p1 p2 p3 p4 p5 p6 p7 p8 p9 p10 p11 : Int) (w : World) :
    Calls Tryd.prog 18 #[.agg #[.int .i64 p0, .int .i64 p1, .int .i64 p2, .int .i64 p3, .int .i64 p4, .int .i64 p5, .int .i64 p6, .int .i64 p7, .int .i64 p8, .int .i64 p9, .int .i64 p10, .int .i64 p11]] w fun e w' => ∃ v, e = .returned (.tuple #[v, .int .i64 (superOut p0 p1 p2 p3 p4 p5 p6 p7 p8 p9 p10 p11).2]) ∧ Kd.R (Kd.int .u8) 5 w' w.heap.size (fun _ => True) v (superOut p0 p1 p2 p3 p4 p5 p6 p7 p8 p9 p10 p11).1 ∧ Below w.heap.size w w' := by
  have hu := Tryd.underlying41
  have hu3 := Tryd.underlying72
  have hcv : ∀ W : World, (Go.convert 27 27 (.slice (some ⟨W.heap.size, 0, none⟩) 4 4)).run Tryd.prog (W.alloc (.cells #[.int .u8 83, .int .u8 75, .int .u8 82, .int .u8 89] 5)) = .ok (.slice (some ⟨W.heap.size, 0, none⟩) 4 4) (W.alloc (.cells #[.int .u8 83, .int .u8 75, .int .u8 82, .int .u8 89] 5 (4, 5))) := fun W => Lib.run_convert_bytes_const W 27 5 #[.int .u8 83, .int .u8 75, .int .u8 82, .int .u8 89] 4 4 Tryd.underlying27 Tryd.underlying5
  obtain ⟨ro, hro⟩ : ∃ ro, superOut p0 p1 p2 p3 p4 p5 p6 p7 p8 p9 p10 p11 = ro := ⟨_, rfl⟩
  rw [hro]
  rcases check_is p0 p1 p2 p3 p4 p5 p6 p7 p8 p9 p10 p11 with ⟨hc, hs⟩ | ⟨hc, _⟩
  · have HCK := Aside0.mk (fun W => plan_Check.calls p0 p1 p2 p3 p4 p5 p6 p7 p8 p9 p10 p11 0 W hc)
    have HBK : Aside0 ((16 ≤ p0 ∧ p0 ≤ 4096) ∧ (1 ≤ p1 ∧ p1 ≤ 4096) ∧ (2 ≤ p2 ∧ p2 ≤ 1024) ∧ 4 ≤ p3 ∧ p3 ≤ 512) := ⟨by obtain ⟨f0, f1, f2, f3, _⟩ := hs.facts; omega⟩
    have HO2 : Aside0 (ro = (sealB (superH p0 p1 p2 p3) p0, 0)) := ⟨by rw [← hro]; unfold superOut; rw [if_pos hc]⟩
    clear hro hc hs
    go_enter Tryd.func18, Tryd.ntmps18
    go_upto_region 1 with (((with_reducible refine gate_dst (N := 1) rfl ?_); refine box_event ?hg (N := 1) ?hd (cs := #[.int .i64 p0, .int .i64 p1, .int .i64 p2, .int .i64 p3, .int .i64 p4, .int .i64 p5, .int .i64 p6, .int .i64 p7, .int .i64 p8, .int .i64 p9, .int .i64 p10, .int .i64 p11]) (t := 41) ?hr ?_; (case hd => rfl); (case hg => rfl); (case hr => first | (go_simp; done) | (go_simp; rfl)); intro gb hggb w0 hbox hb; have BKgb := Aside0.mk hbox; have BHgb := Aside0.mk hb; have GEgb := Aside0.mk hggb; clear hb hbox hggb; obtain ⟨x0, x1, x2, x3, x4, x5, x6, x7, x8, x9, x10, x11⟩ := cl12 BKgb))
    go_wp2_with fail
    ((with_reducible refine (HCK.out _).mono ?_); rintro e w1 ⟨rfl, hb⟩)
    have HX1 := Aside0.mk (blk_below BKgb.out hb)
    have HBw := Aside0.mk (below_then BHgb.out BHgb.out.size hb)
    clear hb HCK BKgb BHgb GEgb x0 x1 x2 x3 x4 x5 x6 x7 x8 x9 x10 x11
    go_upto_region 5 with (((with_reducible refine gate_dst (N := 14) rfl ?_); refine box_event ?hg (N := 14) ?hd (cs := #[.slice (some ⟨w1.heap.size, 0, none⟩) 4 4, .int .i64 0]) (t := 72) ?hr ?_; (case hd => rfl); (case hg => rfl); (case hr => first | (go_simp; done) | (go_simp; rfl)); intro WP hgWP w2 hbox hb; have BKWP := Aside0.mk hbox; have BHWP := Aside0.mk hb; have GEWP := Aside0.mk hgWP; clear hb hbox hgWP))
    have HWR : Aside0 (WriterM w2 w1.heap.size WP (.slice (some ⟨w1.heap.size, 0, none⟩) 4 4) ([83, 75, 82, 89], 0)) := ⟨⟨BKWP.out, .inr ⟨rfl, _, rfl, Nat.le_refl _, blk_below (blk_new w1 (.cells #[.int .u8 83, .int .u8 75, .int .u8 82, .int .u8 89] 5 (4, 5))) BHWP.out⟩, (by have := GEWP.out; simp [Value.ownBlock]; simp at this; omega), (by have := GEWP.out; simp at this; omega)⟩⟩
    have HBA := Aside0.mk (below_then ((Below.refl w1.heap.size w1).alloc (Nat.le_refl _) (.cells #[.int .u8 83, .int .u8 75, .int .u8 82, .int .u8 89] 5 (4, 5))) (by simp) BHWP.out)
    have HX2 := Aside0.mk (blk_below HX1.out HBA.out)
    have HLW : Aside0 (gb < w1.heap.size) := ⟨blk_lt HX1.out⟩
    have HB2 := Aside0.mk (below_then HBw.out HBw.out.size HBA.out)
    have HBW := Aside0.mk HBw.out.size
    clear HBA BKWP BHWP GEWP HX1 HBw
    obtain ⟨S, hS⟩ : ∃ S : List Int × Int, ([83, 75, 82, 89], 0) = S := ⟨_, rfl⟩
    have HSS := Aside0.mk hS
    have HSL : Aside0 (S.1.length = 4) := ⟨by rw [← hS]; rfl⟩
    rw [hS] at HWR
    clear hS
    have HX := HX2; have HB := HB2
    clear HX2 HB2
    have x0 : w2.cell? ⟨gb, 0, none⟩ = some (.int .i64 p0) := (blk_cell HX.out 0).trans rfl; have x1 : w2.cell? ⟨gb, 1, none⟩ = some (.int .i64 p1) := (blk_cell HX.out 1).trans rfl; have x2 : w2.cell? ⟨gb, 2, none⟩ = some (.int .i64 p2) := (blk_cell HX.out 2).trans rfl; have x3 : w2.cell? ⟨gb, 3, none⟩ = some (.int .i64 p3) := (blk_cell HX.out 3).trans rfl
    go_wp2_with fail
    have HWA : Aside0 (WriterM (w2.alloc (.cells #[.int .i64 p0, .int .i64 p1, .int .i64 p2, .int .i64 p3] 3)) w1.heap.size WP (.slice (some ⟨w1.heap.size, 0, none⟩) 4 4) S) := ⟨HWR.out.later (below_alloc (Below.refl _ _) _)⟩
    have HLB : Aside0 (w1.heap.size ≤ w2.heap.size) := ⟨Nat.le_trans HWR.out.lo (Nat.le_of_lt (blk_lt HWR.out.blk))⟩
    have HC : Aside0 (Calls Tryd.prog 31 #[.pointer (some ⟨WP, 0, none⟩), .int .i64 2, .slice (some ⟨w2.heap.size, 0, none⟩) 4 4] (w2.alloc (.cells #[.int .i64 p0, .int .i64 p1, .int .i64 p2, .int .i64 p3] 3)) (fun e w' => e = .returned (.tuple #[]) ∧ ∃ v', WriterM w' w1.heap.size WP v' (wnums 2 S [p0, p1, p2, p3]) ∧ Wrote (w2.alloc (.cells #[.int .i64 p0, .int .i64 p1, .int .i64 p2, .int .i64 p3] 3)) w' WP (.slice (some ⟨w1.heap.size, 0, none⟩) 4 4) v')) := ⟨numbersm_calls 2 (by decide) (some ⟨w2.heap.size, 0, none⟩) 4 [p0, p1, p2, p3] HWA.out (by have := HLB.out; simp; omega) (by have := HSL.out; simp; omega) (lit_reads w2 [p0, p1, p2, p3] (by simp)) (fun ad e _ => by cases e; exact ⟨(by have := blk_lt HWR.out.blk; show w2.heap.size ≠ WP; omega), fun e => absurd (rowm_lt HWR.out.row _ e).2 (Nat.lt_irrefl _)⟩)⟩
    ((with_reducible refine HC.out.mono ?_); rintro e w4 ⟨rfl, v4, hw, hq⟩)
    have HX4 := Aside0.mk (blk_wroteM (blk_alloc HX.out (.cells #[.int .i64 p0, .int .i64 p1, .int .i64 p2, .int .i64 p3] 3)) hq (by have := HLW.out; have := HWR.out.lo; omega) (fun e => by have := (rowm_lt HWR.out.row _ e).1; have := HLW.out; omega))
    have HB4 := Aside0.mk (hq.below (base := w.heap.size) (by have := HBW.out; have := HWR.out.lo; omega) (fun k e => by have := (rowm_lt HWR.out.row k e).1; have := HBW.out; omega) (HB.out.alloc HB.out.size (.cells #[.int .i64 p0, .int .i64 p1, .int .i64 p2, .int .i64 p3] 3)) (HB.out.alloc HB.out.size _).size)
    have HW4 := Aside0.mk hw
    clear hw hq HC HWA HLB HWR HX HB x0 x1 x2 x3
    have HWR := HW4; have HX := HX4; have HB := HB4
    clear HW4 HX4 HB4
    obtain ⟨SS, hSS⟩ : ∃ SS, wnums 2 S [p0, p1, p2, p3] = SS := ⟨_, rfl⟩
    have hSE : SS = (superH p0 p1 p2 p3, 0) := by
      rw [← hSS, ← HSS.out, wnums_ok _ (by
        intro x hx
        have := HBK.out
        simp only [List.mem_cons, List.not_mem_nil, or_false] at hx
        rcases hx with rfl | rfl | rfl | rfl
        all_goals exact ⟨by omega, by omega⟩)]
      unfold superH
      simp [List.append_assoc]
    rw [hSS] at HWR
    have HSE := Aside0.mk hSE
    have HBY : Aside0 (Bytes SS.1) := ⟨by rw [hSE]; exact superH_bytes _ _ _ _⟩
    have HSN : Aside0 (SS.1.length = 12) := ⟨by rw [hSE]; exact superH_length _ _ _ _⟩
    clear hSS hSE
    obtain ⟨A4, c4, hv4, hc4, hC4⟩ := rowm_reads HWR.out.row
    have HSUM := Aside0.mk (crc_Sum.calls A4 c4 SS.1 (crc 0 SS.1) w4 hC4 hc4 (Pure.sum_is HBY.out))
    subst hv4
    clear hc4 hC4
    have hcr := crc_range (s := 0) (by omega) (by omega) HBY.out
    obtain ⟨cr, hcr2⟩ : ∃ c, crc 0 SS.1 = c := ⟨_, rfl⟩
    rw [hcr2] at HSUM hcr
    have HCR := Aside0.mk hcr; have HCC := Aside0.mk hcr2
    clear hcr hcr2
    have xv : w4.cell? ⟨WP, 0, none⟩ = some (.slice A4 SS.1.length c4) := (blk_cell HWR.out.blk 0).trans rfl
    go_wp2_with fail
    ((with_reducible refine HSUM.out.mono ?_); rintro e w6 ⟨rfl, hb⟩)
    have HW6 := Aside0.mk (HWR.out.later hb); have HX6 := Aside0.mk (blk_below HX.out hb); have HB6 := Aside0.mk (below_then HB.out HB.out.size hb)
    have HLB : Aside0 (w1.heap.size ≤ w6.heap.size) := ⟨Nat.le_trans HWR.out.lo (Nat.le_of_lt (blk_lt HW6.out.blk))⟩
    clear hb HWR HX HB HSUM xv
    have HC : Aside0 (Calls Tryd.prog 32 #[.pointer (some ⟨WP, 0, none⟩), .int .i64 4, .int .i64 cr] w6 (fun e w' => e = .returned (.tuple #[]) ∧ ∃ v', WriterM w' w1.heap.size WP v' (wnum 4 SS cr) ∧ Wrote w6 w' WP (.slice A4 SS.1.length c4) v')) := ⟨numberm_calls 4 (by decide) cr HW6.out HLB.out (by have := HSN.out; omega)⟩
    go_wp2_with fail
    ((with_reducible refine HC.out.mono ?_); rintro e w7 ⟨rfl, v7, hw, hq⟩)
    have HX7 := Aside0.mk (blk_wroteM HX6.out hq (by have := HLW.out; have := HW6.out.lo; omega) (fun e => by have := (rowm_lt HW6.out.row _ e).1; have := HLW.out; omega))
    have HB7 := Aside0.mk (hq.below (base := w.heap.size) (by have := HBW.out; have := HW6.out.lo; omega) (fun k e => by have := (rowm_lt HW6.out.row k e).1; have := HBW.out; omega) HB6.out HB6.out.size)
    have HLW7 : Aside0 (w1.heap.size ≤ WP) := ⟨HW6.out.lo⟩
    have hS2 : wnum 4 SS cr = ((superH p0 p1 p2 p3) ++ leB 4 cr, 0) := by
      rw [HSE.out]
      have hp : Pure.Put 4 cr = (leB 4 cr, 0) := by unfold Pure.Put; exact if_pos ⟨HCR.out.1, HCR.out.2⟩
      unfold Pure.wnum
      rw [hp]
      rfl
    rw [hS2] at hw
    have hlen : ((superH p0 p1 p2 p3) ++ leB 4 cr).length = 16 := by rw [List.length_append, leB_length, superH_length]
    have HW7 := Aside0.mk (hw.own (by show ((superH p0 p1 p2 p3) ++ leB 4 cr).length ≠ 4; omega))
    have hWH := whole_calls p0.toNat HW7.out rfl (by have := blk_lt HW7.out.blk; have := HLW7.out; omega) (by have := HBK.out; show ((superH p0 p1 p2 p3) ++ leB 4 cr).length ≤ _; omega) (by have := HBK.out; omega)
    rw [Int.toNat_of_nonneg (by have := HBK.out; omega)] at hWH
    have hl : ((superH p0 p1 p2 p3) ++ leB 4 cr) ++ List.replicate (p0.toNat - ((superH p0 p1 p2 p3) ++ leB 4 cr).length) 0 = sealB (superH p0 p1 p2 p3) p0 := by rw [hlen]; unfold sealB; rw [← HCC.out, HSE.out]
    have HWH := Aside0.mk hWH
    clear hw hq HC hS2 hlen hWH HW6 HX6 HB6 HLB
    have xs : w7.cell? ⟨gb, 0, none⟩ = some (.int .i64 p0) := (blk_cell HX7.out 0).trans rfl
    go_wp2_with fail
    ((with_reducible refine HWH.out.mono ?_); rintro e w8 ⟨v8, rfl, hr, hq⟩)
    have hr2 : Kd.R (Kd.int .u8) 5 w8 w1.heap.size (fun _ => True) v8 (sealB (superH p0 p1 p2 p3) p0) := by rw [← hl]; exact hr
    have HR8 := Aside0.mk (brow_less hr2 HBW.out)
    have HB8 := Aside0.mk (hq.below (base := w.heap.size) (by have := HBW.out; have := HLW7.out; omega) (fun k e => by have := (brow_lt HW7.out.row k e).1; have := HBW.out; omega) HB7.out HB7.out.size)
    clear hr hr2 hq HWH hl
    go_wp2
    go_ret2
    rw [HO2.out]
    exact ⟨_, rfl, HR8.out, HB8.out⟩
  · have HCK := Aside0.mk (fun W => plan_Check.calls p0 p1 p2 p3 p4 p5 p6 p7 p8 p9 p10 p11 4 W hc)
    have HO2 : Aside0 (ro = ([], 4)) := ⟨by rw [← hro]; unfold superOut; rw [hc]; rfl⟩
    clear hro hc
    go_enter Tryd.func18, Tryd.ntmps18
    go_upto_region 1 with (((with_reducible refine gate_dst (N := 1) rfl ?_); refine box_event ?hg (N := 1) ?hd (cs := #[.int .i64 p0, .int .i64 p1, .int .i64 p2, .int .i64 p3, .int .i64 p4, .int .i64 p5, .int .i64 p6, .int .i64 p7, .int .i64 p8, .int .i64 p9, .int .i64 p10, .int .i64 p11]) (t := 41) ?hr ?_; (case hd => rfl); (case hg => rfl); (case hr => first | (go_simp; done) | (go_simp; rfl)); intro gb hggb w0 hbox hb; have BKgb := Aside0.mk hbox; have BHgb := Aside0.mk hb; have GEgb := Aside0.mk hggb; clear hb hbox hggb; obtain ⟨x0, x1, x2, x3, x4, x5, x6, x7, x8, x9, x10, x11⟩ := cl12 BKgb))
    go_wp2_with fail
    ((with_reducible refine (HCK.out _).mono ?_); rintro e w1 ⟨rfl, hb⟩)
    have HBw := Aside0.mk (below_then BHgb.out BHgb.out.size hb)
    clear hb HCK BKgb BHgb GEgb x0 x1 x2 x3 x4 x5 x6 x7 x8 x9 x10 x11
    go_wp2
    go_ret2
    rw [HO2.out]
    exact ⟨_, rfl, brow_nil _ _, HBw.out⟩
theorem bsz_chk : chk (fun n => (Go.bits .and .i64 (n : Int) (wrap64 ((n : Int) - 1)) == 0) == pw (n : Int)) 12 64 = true := by decide +kernel
theorem bsz_is (b : Int) : codec_blockSize.f b = some (pw b) := by
  unfold codec_blockSize.f
  by_cases h0 : b ≥ 64
  · rw [if_pos h0]
    by_cases h1 : b ≤ 4096
    · rw [if_pos h1]
      have h := chk_all _ 12 64 bsz_chk (b.toNat - 64) (by omega)
      have e : ((64 + (b.toNat - 64) : Nat) : Int) = b := by omega
      rw [e] at h
      rw [beq_iff_eq.1 h]
    · rw [if_neg h1]
      have : pw b = false := Bool.eq_false_iff.2 fun q => by have := (pw_iff b).1 q; omega
      rw [this]
  · rw [if_neg h0]
    have : pw b = false := Bool.eq_false_iff.2 fun q => by have := (pw_iff b).1 q; omega
    rw [this]
theorem bsz_calls (b : Int) (r : Bool) (h : pw b = r) (W : World) : Calls Tryd.prog 48 #[.int .i64 b] W fun e w' => e = .returned (.bool r) ∧ Below W.heap.size W w' := by
  have h := codec_blockSize.calls b r W (by rw [← h]; exact bsz_is b)
  exact h.mono fun e w' q => ⟨q.1, q.2.below⟩
set_option maxHeartbeats 4000000 in
set_option maxRecDepth 100000 in
theorem header_calls (s t u b : Int) (w : World) :
    Calls Tryd.prog 20 #[.agg #[.int .i64 s, .int .i64 t, .int .i64 u], .int .i64 b] w fun e w' => ∃ v, e = .returned (.tuple #[v, .int .i64 (headOut s t u b).2]) ∧ Kd.R (Kd.int .u8) 5 w' w.heap.size (fun _ => True) v (headOut s t u b).1 ∧ Below w.heap.size w w' := by
  have hu := Tryd.underlying43
  have hu3 := Tryd.underlying72
  have hcv : ∀ W : World, (Go.convert 27 27 (.slice (some ⟨W.heap.size, 0, none⟩) 4 4)).run Tryd.prog (W.alloc (.cells #[.int .u8 83, .int .u8 76, .int .u8 79, .int .u8 71] 5)) = .ok (.slice (some ⟨W.heap.size, 0, none⟩) 4 4) (W.alloc (.cells #[.int .u8 83, .int .u8 76, .int .u8 79, .int .u8 71] 5 (4, 5))) := fun W => Lib.run_convert_bytes_const W 27 5 #[.int .u8 83, .int .u8 76, .int .u8 79, .int .u8 71] 4 4 Tryd.underlying27 Tryd.underlying5
  obtain ⟨ro, hro⟩ : ∃ ro, headOut s t u b = ro := ⟨_, rfl⟩
  rw [hro]
  by_cases hp : pw b = true
  rotate_left
  · have HSZ := Aside0.mk (bsz_calls b false (Bool.eq_false_iff.2 hp))
    have HO2 : Aside0 (ro = ([], 1)) := ⟨by rw [← hro]; unfold headOut; rw [if_neg hp]⟩
    clear hp hro
    go_enter Tryd.func20, Tryd.ntmps20
    go_upto_region 1 with (((with_reducible refine gate_dst (N := 2) rfl ?_); refine box_event ?hg (N := 2) ?hd (cs := #[.int .i64 s, .int .i64 t, .int .i64 u]) (t := 43) ?hr ?_; (case hd => rfl); (case hg => rfl); (case hr => first | (go_simp; done) | (go_simp; rfl)); intro gb hggb w0 hbox hb; have BKgb := Aside0.mk hbox; have BHgb := Aside0.mk hb; have GEgb := Aside0.mk hggb; clear hb hbox hggb; obtain ⟨x0, x1, x2⟩ := cl3 BKgb))
    go_wp2_with fail
    ((with_reducible refine (HSZ.out _).mono ?_); rintro e w1 ⟨rfl, hb⟩)
    have HBw := Aside0.mk (below_then BHgb.out BHgb.out.size hb)
    clear hb HSZ BKgb BHgb GEgb x0 x1 x2
    go_wp2
    go_ret2
    rw [HO2.out]
    exact ⟨_, rfl, brow_nil _ _, HBw.out⟩
  have HSZ := Aside0.mk (bsz_calls b true hp)
  have HBK : Aside0 (16 ≤ b ∧ b ≤ 4096) := ⟨by have := (pw_iff b).1 hp; omega⟩
  by_cases hf : Fits 4 s ∧ Fits 2 t ∧ Fits 2 u
  · have HFT := Aside0.mk hf
    have HO2 : Aside0 (ro = (sealB (headH s t u) b, 0)) := ⟨by rw [← hro]; unfold headOut; rw [if_pos hp, if_pos hf]⟩
    clear hp hro hf
    go_enter Tryd.func20, Tryd.ntmps20
    go_upto_region 1 with (((with_reducible refine gate_dst (N := 2) rfl ?_); refine box_event ?hg (N := 2) ?hd (cs := #[.int .i64 s, .int .i64 t, .int .i64 u]) (t := 43) ?hr ?_; (case hd => rfl); (case hg => rfl); (case hr => first | (go_simp; done) | (go_simp; rfl)); intro gb hggb w0 hbox hb; have BKgb := Aside0.mk hbox; have BHgb := Aside0.mk hb; have GEgb := Aside0.mk hggb; clear hb hbox hggb; obtain ⟨x0, x1, x2⟩ := cl3 BKgb))
    go_wp2_with fail
    ((with_reducible refine (HSZ.out _).mono ?_); rintro e w1 ⟨rfl, hb⟩)
    have HX1 := Aside0.mk (blk_below BKgb.out hb)
    have HBw := Aside0.mk (below_then BHgb.out BHgb.out.size hb)
    clear hb HSZ BKgb BHgb GEgb x0 x1 x2
    go_upto_region 4 with (((with_reducible refine gate_dst (N := 13) rfl ?_); refine box_event ?hg (N := 13) ?hd (cs := #[.slice (some ⟨w1.heap.size, 0, none⟩) 4 4, .int .i64 0]) (t := 72) ?hr ?_; (case hd => rfl); (case hg => rfl); (case hr => first | (go_simp; done) | (go_simp; rfl)); intro WP hgWP w2 hbox hb; have BKWP := Aside0.mk hbox; have BHWP := Aside0.mk hb; have GEWP := Aside0.mk hgWP; clear hb hbox hgWP))
    have HWR : Aside0 (WriterM w2 w1.heap.size WP (.slice (some ⟨w1.heap.size, 0, none⟩) 4 4) ([83, 76, 79, 71], 0)) := ⟨⟨BKWP.out, .inr ⟨rfl, _, rfl, Nat.le_refl _, blk_below (blk_new w1 (.cells #[.int .u8 83, .int .u8 76, .int .u8 79, .int .u8 71] 5 (4, 5))) BHWP.out⟩, (by have := GEWP.out; simp [Value.ownBlock]; simp at this; omega), (by have := GEWP.out; simp at this; omega)⟩⟩
    have HBA := Aside0.mk (below_then ((Below.refl w1.heap.size w1).alloc (Nat.le_refl _) (.cells #[.int .u8 83, .int .u8 76, .int .u8 79, .int .u8 71] 5 (4, 5))) (by simp) BHWP.out)
    have HX2 := Aside0.mk (blk_below HX1.out HBA.out)
    have HLW : Aside0 (gb < w1.heap.size) := ⟨blk_lt HX1.out⟩
    have HB2 := Aside0.mk (below_then HBw.out HBw.out.size HBA.out)
    have HBW := Aside0.mk HBw.out.size
    clear HBA BKWP BHWP GEWP HX1 HBw
    have HX := HX2; have HB := HB2
    clear HX2 HB2
    have HLB : Aside0 (w1.heap.size ≤ w2.heap.size) := ⟨Nat.le_trans HWR.out.lo (Nat.le_of_lt (blk_lt HWR.out.blk))⟩
    have HC : Aside0 (Calls Tryd.prog 32 #[.pointer (some ⟨WP, 0, none⟩), .int .i64 4, .int .i64 s] w2 (fun e w' => e = .returned (.tuple #[]) ∧ ∃ v', WriterM w' w1.heap.size WP v' (wnum 4 ([83, 76, 79, 71], 0) s) ∧ Wrote w2 w' WP (.slice (some ⟨w1.heap.size, 0, none⟩) 4 4) v')) := ⟨numberm_calls 4 (by decide) s HWR.out HLB.out (by simp)⟩
    have x0 : w2.cell? ⟨gb, 0, none⟩ = some (.int .i64 s) := (blk_cell HX.out 0).trans rfl
    go_wp2_with fail
    ((with_reducible refine HC.out.mono ?_); rintro e w3 ⟨rfl, v3, hw, hq⟩)
    have HX3 := Aside0.mk (blk_wroteM HX.out hq (by have := HLW.out; have := HWR.out.lo; omega) (fun e => by have := (rowm_lt HWR.out.row _ e).1; have := HLW.out; omega))
    have HB3 := Aside0.mk (hq.below (base := w.heap.size) (by have := HBW.out; have := HWR.out.lo; omega) (fun k e => by have := (rowm_lt HWR.out.row k e).1; have := HBW.out; omega) HB.out HB.out.size)
    obtain ⟨S, hS⟩ : ∃ S : List Int × Int, wnum 4 ([83, 76, 79, 71], 0) s = S := ⟨_, rfl⟩
    have HSS := Aside0.mk hS
    have HSL : Aside0 (S.1.length ≤ 8) := ⟨by rw [← hS]; exact wnum_length 4 _ s⟩
    have HSB : Aside0 (Bytes S.1) := ⟨by rw [← hS]; exact wnum_bytes (show Bytes [83, 76, 79, 71] by intro x hx; simp at hx; omega) s⟩
    rw [hS] at hw
    have HW3 := Aside0.mk hw
    clear hw hq hS HC HLB HWR HX HB x0
    have HWR := HW3; have HX := HX3; have HB := HB3
    clear HW3 HX3 HB3
    have x1 : w3.cell? ⟨gb, 1, none⟩ = some (.int .i64 t) := (blk_cell HX.out 1).trans rfl; have x2 : w3.cell? ⟨gb, 2, none⟩ = some (.int .i64 u) := (blk_cell HX.out 2).trans rfl
    go_wp2_with fail
    have HWA : Aside0 (WriterM (w3.alloc (.cells #[.int .i64 t, .int .i64 u] 3)) w1.heap.size WP v3 S) := ⟨HWR.out.later (below_alloc (Below.refl _ _) _)⟩
    have HLB : Aside0 (w1.heap.size ≤ w3.heap.size) := ⟨Nat.le_trans HWR.out.lo (Nat.le_of_lt (blk_lt HWR.out.blk))⟩
    have HC : Aside0 (Calls Tryd.prog 31 #[.pointer (some ⟨WP, 0, none⟩), .int .i64 2, .slice (some ⟨w3.heap.size, 0, none⟩) 2 2] (w3.alloc (.cells #[.int .i64 t, .int .i64 u] 3)) (fun e w' => e = .returned (.tuple #[]) ∧ ∃ v', WriterM w' w1.heap.size WP v' (wnums 2 S [t, u]) ∧ Wrote (w3.alloc (.cells #[.int .i64 t, .int .i64 u] 3)) w' WP v3 v')) := ⟨numbersm_calls 2 (by decide) (some ⟨w3.heap.size, 0, none⟩) 2 [t, u] HWA.out (by have := HLB.out; simp; omega) (by have := HSL.out; simp; omega) (lit_reads w3 [t, u] (by simp)) (fun ad e _ => by cases e; exact ⟨(by have := blk_lt HWR.out.blk; show w3.heap.size ≠ WP; omega), fun e => absurd (rowm_lt HWR.out.row _ e).2 (Nat.lt_irrefl _)⟩)⟩
    ((with_reducible refine HC.out.mono ?_); rintro e w4 ⟨rfl, v4, hw, hq⟩)
    have HX4 := Aside0.mk (blk_wroteM (blk_alloc HX.out (.cells #[.int .i64 t, .int .i64 u] 3)) hq (by have := HLW.out; have := HWR.out.lo; omega) (fun e => by have := (rowm_lt HWR.out.row _ e).1; have := HLW.out; omega))
    have HB4 := Aside0.mk (hq.below (base := w.heap.size) (by have := HBW.out; have := HWR.out.lo; omega) (fun k e => by have := (rowm_lt HWR.out.row k e).1; have := HBW.out; omega) (HB.out.alloc HB.out.size (.cells #[.int .i64 t, .int .i64 u] 3)) (HB.out.alloc HB.out.size _).size)
    have HW4 := Aside0.mk hw
    clear hw hq HC HWA HLB HWR HX HB x1 x2
    have HWR := HW4; have HX := HX4; have HB := HB4
    clear HW4 HX4 HB4
    obtain ⟨SS, hSS⟩ : ∃ SS, wnums 2 S [t, u] = SS := ⟨_, rfl⟩
    have HBY : Aside0 (Bytes SS.1) := ⟨by rw [← hSS]; exact wnums_bytes _ HSB.out⟩
    have HSN : Aside0 (SS.1.length ≤ 12) := ⟨by have h := wnums_length 2 [t, u] S; rw [hSS] at h; have := HSL.out; simp at h; omega⟩
    rw [hSS] at HWR
    have HSE : Aside0 (SS = (headH s t u, 0)) := ⟨by
      have q0 : wnum 4 ([83, 76, 79, 71], 0) s = ([83, 76, 79, 71] ++ leB 4 s, 0) := by
        have hp : Pure.Put 4 s = (leB 4 s, 0) := by unfold Pure.Put; exact if_pos ⟨HFT.out.1.1, HFT.out.1.2⟩
        unfold Pure.wnum
        rw [hp]
        rfl
      rw [← hSS, ← HSS.out, q0, wnums_ok _ (by
        intro x hx
        simp only [List.mem_cons, List.not_mem_nil, or_false] at hx
        rcases hx with rfl | rfl
        · exact ⟨HFT.out.2.1.1, HFT.out.2.1.2⟩
        · exact ⟨HFT.out.2.2.1, HFT.out.2.2.2⟩)]
      unfold headH
      simp [List.append_assoc]⟩
    clear hSS
    obtain ⟨A4, c4, hv4, hc4, hC4⟩ := rowm_reads HWR.out.row
    have HSUM := Aside0.mk (crc_Sum.calls A4 c4 SS.1 (crc 0 SS.1) w4 hC4 hc4 (Pure.sum_is HBY.out))
    subst hv4
    clear hc4 hC4
    have hcr := crc_range (s := 0) (by omega) (by omega) HBY.out
    obtain ⟨cr, hcr2⟩ : ∃ c, crc 0 SS.1 = c := ⟨_, rfl⟩
    rw [hcr2] at HSUM hcr
    have HCR := Aside0.mk hcr; have HCC := Aside0.mk hcr2
    clear hcr hcr2
    have xv : w4.cell? ⟨WP, 0, none⟩ = some (.slice A4 SS.1.length c4) := (blk_cell HWR.out.blk 0).trans rfl
    go_wp2_with fail
    ((with_reducible refine HSUM.out.mono ?_); rintro e w6 ⟨rfl, hb⟩)
    have HW6 := Aside0.mk (HWR.out.later hb); have HX6 := Aside0.mk (blk_below HX.out hb); have HB6 := Aside0.mk (below_then HB.out HB.out.size hb)
    have HLB : Aside0 (w1.heap.size ≤ w6.heap.size) := ⟨Nat.le_trans HWR.out.lo (Nat.le_of_lt (blk_lt HW6.out.blk))⟩
    clear hb HWR HX HB HSUM xv
    have HC : Aside0 (Calls Tryd.prog 32 #[.pointer (some ⟨WP, 0, none⟩), .int .i64 4, .int .i64 cr] w6 (fun e w' => e = .returned (.tuple #[]) ∧ ∃ v', WriterM w' w1.heap.size WP v' (wnum 4 SS cr) ∧ Wrote w6 w' WP (.slice A4 SS.1.length c4) v')) := ⟨numberm_calls 4 (by decide) cr HW6.out HLB.out (by have := HSN.out; omega)⟩
    go_wp2_with fail
    ((with_reducible refine HC.out.mono ?_); rintro e w7 ⟨rfl, v7, hw, hq⟩)
    have HX7 := Aside0.mk (blk_wroteM HX6.out hq (by have := HLW.out; have := HW6.out.lo; omega) (fun e => by have := (rowm_lt HW6.out.row _ e).1; have := HLW.out; omega))
    have HB7 := Aside0.mk (hq.below (base := w.heap.size) (by have := HBW.out; have := HW6.out.lo; omega) (fun k e => by have := (rowm_lt HW6.out.row k e).1; have := HBW.out; omega) HB6.out HB6.out.size)
    have HLW7 : Aside0 (w1.heap.size ≤ WP) := ⟨HW6.out.lo⟩
    have hS2 : wnum 4 SS cr = ((headH s t u) ++ leB 4 cr, 0) := by
      rw [HSE.out]
      have hp : Pure.Put 4 cr = (leB 4 cr, 0) := by unfold Pure.Put; exact if_pos ⟨HCR.out.1, HCR.out.2⟩
      unfold Pure.wnum
      rw [hp]
      rfl
    rw [hS2] at hw
    have hlen : ((headH s t u) ++ leB 4 cr).length = 16 := by rw [List.length_append, leB_length, headH_length]
    have HW7 := Aside0.mk (hw.own (by show ((headH s t u) ++ leB 4 cr).length ≠ 4; omega))
    have hWH := whole_calls b.toNat HW7.out rfl (by have := blk_lt HW7.out.blk; have := HLW7.out; omega) (by have := HBK.out; show ((headH s t u) ++ leB 4 cr).length ≤ _; omega) (by have := HBK.out; omega)
    rw [Int.toNat_of_nonneg (by have := HBK.out; omega)] at hWH
    have hl : ((headH s t u) ++ leB 4 cr) ++ List.replicate (b.toNat - ((headH s t u) ++ leB 4 cr).length) 0 = sealB (headH s t u) b := by rw [hlen]; unfold sealB; rw [← HCC.out, HSE.out]
    have HWH := Aside0.mk hWH
    clear hw hq HC hS2 hlen hWH HW6 HX6 HB6 HLB
    go_wp2_with fail
    ((with_reducible refine HWH.out.mono ?_); rintro e w8 ⟨v8, rfl, hr, hq⟩)
    have hr2 : Kd.R (Kd.int .u8) 5 w8 w1.heap.size (fun _ => True) v8 (sealB (headH s t u) b) := by rw [← hl]; exact hr
    have HR8 := Aside0.mk (brow_less hr2 HBW.out)
    have HB8 := Aside0.mk (hq.below (base := w.heap.size) (by have := HBW.out; have := HLW7.out; omega) (fun k e => by have := (brow_lt HW7.out.row k e).1; have := HBW.out; omega) HB7.out HB7.out.size)
    clear hr hr2 hq HWH hl
    go_wp2
    go_ret2
    rw [HO2.out]
    exact ⟨_, rfl, HR8.out, HB8.out⟩
  · have HNF := Aside0.mk hf
    have HO2 : Aside0 (ro = ([], 3)) := ⟨by rw [← hro]; unfold headOut; rw [if_pos hp, if_neg hf]⟩
    clear hp hro hf
    go_enter Tryd.func20, Tryd.ntmps20
    go_upto_region 1 with (((with_reducible refine gate_dst (N := 2) rfl ?_); refine box_event ?hg (N := 2) ?hd (cs := #[.int .i64 s, .int .i64 t, .int .i64 u]) (t := 43) ?hr ?_; (case hd => rfl); (case hg => rfl); (case hr => first | (go_simp; done) | (go_simp; rfl)); intro gb hggb w0 hbox hb; have BKgb := Aside0.mk hbox; have BHgb := Aside0.mk hb; have GEgb := Aside0.mk hggb; clear hb hbox hggb; obtain ⟨x0, x1, x2⟩ := cl3 BKgb))
    go_wp2_with fail
    ((with_reducible refine (HSZ.out _).mono ?_); rintro e w1 ⟨rfl, hb⟩)
    have HX1 := Aside0.mk (blk_below BKgb.out hb)
    have HBw := Aside0.mk (below_then BHgb.out BHgb.out.size hb)
    clear hb HSZ BKgb BHgb GEgb x0 x1 x2
    go_upto_region 4 with (((with_reducible refine gate_dst (N := 13) rfl ?_); refine box_event ?hg (N := 13) ?hd (cs := #[.slice (some ⟨w1.heap.size, 0, none⟩) 4 4, .int .i64 0]) (t := 72) ?hr ?_; (case hd => rfl); (case hg => rfl); (case hr => first | (go_simp; done) | (go_simp; rfl)); intro WP hgWP w2 hbox hb; have BKWP := Aside0.mk hbox; have BHWP := Aside0.mk hb; have GEWP := Aside0.mk hgWP; clear hb hbox hgWP))
    have HWR : Aside0 (WriterM w2 w1.heap.size WP (.slice (some ⟨w1.heap.size, 0, none⟩) 4 4) ([83, 76, 79, 71], 0)) := ⟨⟨BKWP.out, .inr ⟨rfl, _, rfl, Nat.le_refl _, blk_below (blk_new w1 (.cells #[.int .u8 83, .int .u8 76, .int .u8 79, .int .u8 71] 5 (4, 5))) BHWP.out⟩, (by have := GEWP.out; simp [Value.ownBlock]; simp at this; omega), (by have := GEWP.out; simp at this; omega)⟩⟩
    have HBA := Aside0.mk (below_then ((Below.refl w1.heap.size w1).alloc (Nat.le_refl _) (.cells #[.int .u8 83, .int .u8 76, .int .u8 79, .int .u8 71] 5 (4, 5))) (by simp) BHWP.out)
    have HX2 := Aside0.mk (blk_below HX1.out HBA.out)
    have HLW : Aside0 (gb < w1.heap.size) := ⟨blk_lt HX1.out⟩
    have HB2 := Aside0.mk (below_then HBw.out HBw.out.size HBA.out)
    have HBW := Aside0.mk HBw.out.size
    clear HBA BKWP BHWP GEWP HX1 HBw
    have HX := HX2; have HB := HB2
    clear HX2 HB2
    have HLB : Aside0 (w1.heap.size ≤ w2.heap.size) := ⟨Nat.le_trans HWR.out.lo (Nat.le_of_lt (blk_lt HWR.out.blk))⟩
    have HC : Aside0 (Calls Tryd.prog 32 #[.pointer (some ⟨WP, 0, none⟩), .int .i64 4, .int .i64 s] w2 (fun e w' => e = .returned (.tuple #[]) ∧ ∃ v', WriterM w' w1.heap.size WP v' (wnum 4 ([83, 76, 79, 71], 0) s) ∧ Wrote w2 w' WP (.slice (some ⟨w1.heap.size, 0, none⟩) 4 4) v')) := ⟨numberm_calls 4 (by decide) s HWR.out HLB.out (by simp)⟩
    have x0 : w2.cell? ⟨gb, 0, none⟩ = some (.int .i64 s) := (blk_cell HX.out 0).trans rfl
    go_wp2_with fail
    ((with_reducible refine HC.out.mono ?_); rintro e w3 ⟨rfl, v3, hw, hq⟩)
    have HX3 := Aside0.mk (blk_wroteM HX.out hq (by have := HLW.out; have := HWR.out.lo; omega) (fun e => by have := (rowm_lt HWR.out.row _ e).1; have := HLW.out; omega))
    have HB3 := Aside0.mk (hq.below (base := w.heap.size) (by have := HBW.out; have := HWR.out.lo; omega) (fun k e => by have := (rowm_lt HWR.out.row k e).1; have := HBW.out; omega) HB.out HB.out.size)
    obtain ⟨S, hS⟩ : ∃ S : List Int × Int, wnum 4 ([83, 76, 79, 71], 0) s = S := ⟨_, rfl⟩
    have HSS := Aside0.mk hS
    have HSL : Aside0 (S.1.length ≤ 8) := ⟨by rw [← hS]; exact wnum_length 4 _ s⟩
    have HSB : Aside0 (Bytes S.1) := ⟨by rw [← hS]; exact wnum_bytes (show Bytes [83, 76, 79, 71] by intro x hx; simp at hx; omega) s⟩
    rw [hS] at hw
    have HW3 := Aside0.mk hw
    clear hw hq hS HC HLB HWR HX HB x0
    have HWR := HW3; have HX := HX3; have HB := HB3
    clear HW3 HX3 HB3
    have x1 : w3.cell? ⟨gb, 1, none⟩ = some (.int .i64 t) := (blk_cell HX.out 1).trans rfl; have x2 : w3.cell? ⟨gb, 2, none⟩ = some (.int .i64 u) := (blk_cell HX.out 2).trans rfl
    go_wp2_with fail
    have HWA : Aside0 (WriterM (w3.alloc (.cells #[.int .i64 t, .int .i64 u] 3)) w1.heap.size WP v3 S) := ⟨HWR.out.later (below_alloc (Below.refl _ _) _)⟩
    have HLB : Aside0 (w1.heap.size ≤ w3.heap.size) := ⟨Nat.le_trans HWR.out.lo (Nat.le_of_lt (blk_lt HWR.out.blk))⟩
    have HC : Aside0 (Calls Tryd.prog 31 #[.pointer (some ⟨WP, 0, none⟩), .int .i64 2, .slice (some ⟨w3.heap.size, 0, none⟩) 2 2] (w3.alloc (.cells #[.int .i64 t, .int .i64 u] 3)) (fun e w' => e = .returned (.tuple #[]) ∧ ∃ v', WriterM w' w1.heap.size WP v' (wnums 2 S [t, u]) ∧ Wrote (w3.alloc (.cells #[.int .i64 t, .int .i64 u] 3)) w' WP v3 v')) := ⟨numbersm_calls 2 (by decide) (some ⟨w3.heap.size, 0, none⟩) 2 [t, u] HWA.out (by have := HLB.out; simp; omega) (by have := HSL.out; simp; omega) (lit_reads w3 [t, u] (by simp)) (fun ad e _ => by cases e; exact ⟨(by have := blk_lt HWR.out.blk; show w3.heap.size ≠ WP; omega), fun e => absurd (rowm_lt HWR.out.row _ e).2 (Nat.lt_irrefl _)⟩)⟩
    ((with_reducible refine HC.out.mono ?_); rintro e w4 ⟨rfl, v4, hw, hq⟩)
    have HX4 := Aside0.mk (blk_wroteM (blk_alloc HX.out (.cells #[.int .i64 t, .int .i64 u] 3)) hq (by have := HLW.out; have := HWR.out.lo; omega) (fun e => by have := (rowm_lt HWR.out.row _ e).1; have := HLW.out; omega))
    have HB4 := Aside0.mk (hq.below (base := w.heap.size) (by have := HBW.out; have := HWR.out.lo; omega) (fun k e => by have := (rowm_lt HWR.out.row k e).1; have := HBW.out; omega) (HB.out.alloc HB.out.size (.cells #[.int .i64 t, .int .i64 u] 3)) (HB.out.alloc HB.out.size _).size)
    have HW4 := Aside0.mk hw
    clear hw hq HC HWA HLB HWR HX HB x1 x2
    have HWR := HW4; have HX := HX4; have HB := HB4
    clear HW4 HX4 HB4
    obtain ⟨SS, hSS⟩ : ∃ SS, wnums 2 S [t, u] = SS := ⟨_, rfl⟩
    have HBY : Aside0 (Bytes SS.1) := ⟨by rw [← hSS]; exact wnums_bytes _ HSB.out⟩
    have HSN : Aside0 (SS.1.length ≤ 12) := ⟨by have h := wnums_length 2 [t, u] S; rw [hSS] at h; have := HSL.out; simp at h; omega⟩
    rw [hSS] at HWR
    have HSE : Aside0 (SS.2 = 3) := ⟨by
      rw [← hSS]
      refine wnums_bad _ ?_
      by_cases q0 : Fits 4 s
      · right
        have e2 : S.2 = 0 := by
          rw [← HSS.out]
          have hp : Pure.Put 4 s = (leB 4 s, 0) := by unfold Pure.Put; exact if_pos ⟨q0.1, q0.2⟩
          unfold Pure.wnum
          rw [hp]
          rfl
        refine ⟨e2, Classical.byContradiction fun hc => HNF.out ⟨q0, Classical.byContradiction fun q => hc ⟨t, by simp, fun z => q ⟨z.1, z.2⟩⟩, Classical.byContradiction fun q => hc ⟨u, by simp, fun z => q ⟨z.1, z.2⟩⟩⟩⟩
      · left
        rw [← HSS.out]
        have hp : Pure.Put 4 s = ([], 3) := by unfold Pure.Put; exact if_neg fun z => q0 ⟨z.1, z.2⟩
        unfold Pure.wnum
        rw [hp]
        rfl⟩
    clear hSS
    obtain ⟨A4, c4, hv4, hc4, hC4⟩ := rowm_reads HWR.out.row
    have HSUM := Aside0.mk (crc_Sum.calls A4 c4 SS.1 (crc 0 SS.1) w4 hC4 hc4 (Pure.sum_is HBY.out))
    subst hv4
    clear hc4 hC4
    have hcr := crc_range (s := 0) (by omega) (by omega) HBY.out
    obtain ⟨cr, hcr2⟩ : ∃ c, crc 0 SS.1 = c := ⟨_, rfl⟩
    rw [hcr2] at HSUM hcr
    have HCR := Aside0.mk hcr; have HCC := Aside0.mk hcr2
    clear hcr hcr2
    have xv : w4.cell? ⟨WP, 0, none⟩ = some (.slice A4 SS.1.length c4) := (blk_cell HWR.out.blk 0).trans rfl
    go_wp2_with fail
    ((with_reducible refine HSUM.out.mono ?_); rintro e w6 ⟨rfl, hb⟩)
    have HW6 := Aside0.mk (HWR.out.later hb); have HX6 := Aside0.mk (blk_below HX.out hb); have HB6 := Aside0.mk (below_then HB.out HB.out.size hb)
    have HLB : Aside0 (w1.heap.size ≤ w6.heap.size) := ⟨Nat.le_trans HWR.out.lo (Nat.le_of_lt (blk_lt HW6.out.blk))⟩
    clear hb HWR HX HB HSUM xv
    have HC : Aside0 (Calls Tryd.prog 32 #[.pointer (some ⟨WP, 0, none⟩), .int .i64 4, .int .i64 cr] w6 (fun e w' => e = .returned (.tuple #[]) ∧ ∃ v', WriterM w' w1.heap.size WP v' (wnum 4 SS cr) ∧ Wrote w6 w' WP (.slice A4 SS.1.length c4) v')) := ⟨numberm_calls 4 (by decide) cr HW6.out HLB.out (by have := HSN.out; omega)⟩
    go_wp2_with fail
    ((with_reducible refine HC.out.mono ?_); rintro e w7 ⟨rfl, v7, hw, hq⟩)
    have HX7 := Aside0.mk (blk_wroteM HX6.out hq (by have := HLW.out; have := HW6.out.lo; omega) (fun e => by have := (rowm_lt HW6.out.row _ e).1; have := HLW.out; omega))
    have HB7 := Aside0.mk (hq.below (base := w.heap.size) (by have := HBW.out; have := HW6.out.lo; omega) (fun k e => by have := (rowm_lt HW6.out.row k e).1; have := HBW.out; omega) HB6.out HB6.out.size)
    have HLW7 : Aside0 (w1.heap.size ≤ WP) := ⟨HW6.out.lo⟩
    have hS2 : (wnum 4 SS cr).2 = 3 := by
      unfold Pure.wnum
      rw [if_neg (by rw [HSE.out]; decide)]
      exact HSE.out
    have hWH := wholem_err b.toNat hw (by rw [hS2]; decide)
    rw [Int.toNat_of_nonneg (by have := HBK.out; omega), hS2] at hWH
    have HWH := Aside0.mk hWH
    clear hw hq HC hS2 hWH HW6 HX6 HB6 HLB
    go_wp2_with fail
    ((with_reducible refine HWH.out.mono ?_); rintro e w8 ⟨rfl, hb⟩)
    have HB8 := Aside0.mk (below_then HB7.out HB7.out.size hb)
    clear hb HWH
    go_wp2
    go_ret2
    rw [HO2.out]
    exact ⟨_, rfl, brow_nil _ _, HB8.out⟩
end Go.Proofs.YtbplffdmggbcdaaDoor.Codec
