/- The reference writes a super block and a header: contracts. -/
import Derived.Test.YtbplffdmggbcdaaKKPutM
import Derived.Test.YtbplffdmggbcdaaPureCodecHeads
namespace Go.Proofs.Ytbplffdmggbcdaa.Codec
open Go.RowKit Go.Proofs.Ytbplffdmggbcdaa.PCodecHeads Go.Proofs.Ytbplffdmggbcdaa.Plain Go.Proofs.Ytbplffdmggbcdaa.Pure Go.Proofs.YtbplffdmggbcdaaW.PrintWords Go.Proofs.YtbplffdmggbcdaaW.PrintLast Go.Proofs.YtbplffdmggbcdaaW.PrintMore
set_option linter.unusedVariables false
set_option linter.unusedSimpArgs false

set_option maxHeartbeats 4000000 in
set_option maxRecDepth 100000 in
theorem rsuper_calls (p0 p1 p2 p3 p4 p5 p6 p7 p8 p9 p10 p11 : Int) (w : World) :
    Calls Try.prog 12 #[.agg #[.int .i64 p0, .int .i64 p1, .int .i64 p2, .int .i64 p3, .int .i64 p4, .int .i64 p5, .int .i64 p6, .int .i64 p7, .int .i64 p8, .int .i64 p9, .int .i64 p10, .int .i64 p11]] w fun e w' => ∃ v, e = .returned (.tuple #[v, .int .i64 (superOut p0 p1 p2 p3 p4 p5 p6 p7 p8 p9 p10 p11).2]) ∧ Kd.R (Kd.int .u8) 5 w' w.heap.size (fun _ => True) v (superOut p0 p1 p2 p3 p4 p5 p6 p7 p8 p9 p10 p11).1 ∧ Below w.heap.size w w' := by
  have hu := Try.underlying37
  have hcv : ∀ W : World, (Go.convert 27 27 (.slice (some ⟨W.heap.size, 0, none⟩) 4 4)).run Try.prog (W.alloc (.cells #[.int .u8 83, .int .u8 75, .int .u8 82, .int .u8 89] 5)) = .ok (.slice (some ⟨W.heap.size, 0, none⟩) 4 4) (W.alloc (.cells #[.int .u8 83, .int .u8 75, .int .u8 82, .int .u8 89] 5 (4, 5))) := fun W => Lib.run_convert_bytes_const W 27 5 #[.int .u8 83, .int .u8 75, .int .u8 82, .int .u8 89] 4 4 Try.underlying27 Try.underlying5
  obtain ⟨k, hk⟩ : ∃ k : Nat, 3000000 < k := ⟨3000001, by omega⟩
  obtain ⟨ro, hro⟩ : ∃ ro, superOut p0 p1 p2 p3 p4 p5 p6 p7 p8 p9 p10 p11 = ro := ⟨_, rfl⟩
  rw [hro]
  rcases check_is p0 p1 p2 p3 p4 p5 p6 p7 p8 p9 p10 p11 with ⟨hc, hs⟩ | ⟨hc, _⟩
  · have HCK := Aside0.mk (fun W => skerryref05_Check.calls k p0 p1 p2 p3 p4 p5 p6 p7 p8 p9 p10 p11 0 W (by rw [rcheck_is hk, hc]))
    have HBK : Aside0 (16 ≤ p0 ∧ p0 ≤ 4096 ∧ 1 ≤ p1 ∧ p1 ≤ 4096 ∧ 2 ≤ p2 ∧ p2 ≤ 1024 ∧ 4 ≤ p3 ∧ p3 ≤ 512) := ⟨by obtain ⟨f0, f1, f2, f3, _⟩ := hs.facts; omega⟩
    have HO2 : Aside0 (ro = (sealB (superH p0 p1 p2 p3) p0, 0)) := ⟨by rw [← hro]; unfold superOut; rw [if_pos hc]⟩
    clear hk hro hc hs
    go_enter Try.func12, Try.ntmps12
    go_upto_region 1 with (((with_reducible refine gate_dst (N := 1) rfl ?_); refine box_event ?hg (N := 1) ?hd (cs := #[.int .i64 p0, .int .i64 p1, .int .i64 p2, .int .i64 p3, .int .i64 p4, .int .i64 p5, .int .i64 p6, .int .i64 p7, .int .i64 p8, .int .i64 p9, .int .i64 p10, .int .i64 p11]) (t := 37) ?hr ?_; (case hd => rfl); (case hg => rfl); (case hr => first | (go_simp; done) | (go_simp; rfl)); intro gb hggb w0 hbox hb; have BKgb := Aside0.mk hbox; have BHgb := Aside0.mk hb; have GEgb := Aside0.mk hggb; clear hb hbox hggb; have x0 : w0.cell? ⟨gb, 0, none⟩ = some (.int .i64 p0) := (blk_cell BKgb.out 0).trans rfl; have x1 : w0.cell? ⟨gb, 1, none⟩ = some (.int .i64 p1) := (blk_cell BKgb.out 1).trans rfl; have x2 : w0.cell? ⟨gb, 2, none⟩ = some (.int .i64 p2) := (blk_cell BKgb.out 2).trans rfl; have x3 : w0.cell? ⟨gb, 3, none⟩ = some (.int .i64 p3) := (blk_cell BKgb.out 3).trans rfl; have x4 : w0.cell? ⟨gb, 4, none⟩ = some (.int .i64 p4) := (blk_cell BKgb.out 4).trans rfl; have x5 : w0.cell? ⟨gb, 5, none⟩ = some (.int .i64 p5) := (blk_cell BKgb.out 5).trans rfl; have x6 : w0.cell? ⟨gb, 6, none⟩ = some (.int .i64 p6) := (blk_cell BKgb.out 6).trans rfl; have x7 : w0.cell? ⟨gb, 7, none⟩ = some (.int .i64 p7) := (blk_cell BKgb.out 7).trans rfl; have x8 : w0.cell? ⟨gb, 8, none⟩ = some (.int .i64 p8) := (blk_cell BKgb.out 8).trans rfl; have x9 : w0.cell? ⟨gb, 9, none⟩ = some (.int .i64 p9) := (blk_cell BKgb.out 9).trans rfl; have x10 : w0.cell? ⟨gb, 10, none⟩ = some (.int .i64 p10) := (blk_cell BKgb.out 10).trans rfl; have x11 : w0.cell? ⟨gb, 11, none⟩ = some (.int .i64 p11) := (blk_cell BKgb.out 11).trans rfl))
    go_wp2_with fail
    ((with_reducible refine (HCK.out _).mono ?_); rintro e w1 ⟨rfl, hb⟩)
    have HX1 := Aside0.mk (blk_below BKgb.out hb)
    have HBw := Aside0.mk (below_then BHgb.out BHgb.out.size hb)
    clear hb HCK BKgb BHgb GEgb x0 x1 x2 x3 x4 x5 x6 x7 x8 x9 x10 x11
    have HR0 : Aside0 (RowM (w1.alloc (.cells #[.int .u8 83, .int .u8 75, .int .u8 82, .int .u8 89] 5 (4, 5))) w1.heap.size (.slice (some ⟨w1.heap.size, 0, none⟩) 4 4) [83, 75, 82, 89]) := ⟨.inr ⟨rfl, _, rfl, Nat.le_refl _, blk_new w1 _⟩⟩
    have HB0 : Aside0 (Below w1.heap.size w1 (w1.alloc (.cells #[.int .u8 83, .int .u8 75, .int .u8 82, .int .u8 89] 5 (4, 5)))) := ⟨(Below.refl w1.heap.size w1).alloc (Nat.le_refl _) _⟩
    obtain ⟨L0, e0⟩ : ∃ L : List Int, [83, 75, 82, 89] = L := ⟨_, rfl⟩
    have n0 : L0.length = 4 := by rw [← e0]; rfl
    rw [e0] at HR0
    obtain ⟨L1, e1⟩ : ∃ L, L0 ++ leB 2 p0 = L := ⟨_, rfl⟩
    have n1 : L1.length = 6 := by rw [← e1, List.length_append, leB_length, n0]
    obtain ⟨L2, e2⟩ : ∃ L, L1 ++ leB 2 p1 = L := ⟨_, rfl⟩
    have n2 : L2.length = 8 := by rw [← e2, List.length_append, leB_length, n1]
    obtain ⟨L3, e3⟩ : ∃ L, L2 ++ leB 2 p2 = L := ⟨_, rfl⟩
    have n3 : L3.length = 10 := by rw [← e3, List.length_append, leB_length, n2]
    obtain ⟨L4, e4⟩ : ∃ L, L3 ++ leB 2 p3 = L := ⟨_, rfl⟩
    have n4 : L4.length = 12 := by rw [← e4, List.length_append, leB_length, n3]
    have HE := Aside0.mk (And.intro e0 (And.intro e1 (And.intro e2 (And.intro e3 (e4)))))
    have HN := Aside0.mk (And.intro n0 (And.intro n1 (And.intro n2 (And.intro n3 (n4)))))
    clear e0 n0 e1 n1 e2 n2 e3 n3 e4 n4
    have xs : (w1.alloc (.cells #[.int .u8 83, .int .u8 75, .int .u8 82, .int .u8 89] 5 (4, 5))).cell? ⟨gb, 0, none⟩ = some (.int .i64 p0) := (blk_cell (blk_below HX1.out HB0.out) 0).trans rfl
    have HC : Aside0 (Calls Try.prog 23 #[(.slice (some ⟨w1.heap.size, 0, none⟩) 4 4), .int .i64 2, .int .i64 p0] (w1.alloc (.cells #[.int .u8 83, .int .u8 75, .int .u8 82, .int .u8 89] 5 (4, 5))) (fun e w' => ∃ v', e = .returned v' ∧ RowM w' w1.heap.size v' L1 ∧ Below w1.heap.size w1 w')) := ⟨by
      have h := rputm_calls 2 (by decide) p0 ⟨by have := HBK.out; omega, by have := HBK.out; omega⟩ HB0.out HR0.out (by have := HN.out.1; omega)
      rw [HE.out.2.1] at h
      exact h⟩
    go_wp2_with fail
    ((with_reducible refine HC.out.mono ?_); rintro e v1w ⟨v1, rfl, hr, hb⟩)
    have HR1 := Aside0.mk hr; have HB1 := Aside0.mk hb
    clear hr hb HC HB0 HR0 xs
    have xs : v1w.cell? ⟨gb, 1, none⟩ = some (.int .i64 p1) := (blk_cell (blk_below HX1.out HB1.out) 1).trans rfl
    have HC : Aside0 (Calls Try.prog 23 #[v1, .int .i64 2, .int .i64 p1] v1w (fun e w' => ∃ v', e = .returned v' ∧ RowM w' w1.heap.size v' L2 ∧ Below w1.heap.size w1 w')) := ⟨by
      have h := rputm_calls 2 (by decide) p1 ⟨by have := HBK.out; omega, by have := HBK.out; omega⟩ HB1.out HR1.out (by have := HN.out.2.1; omega)
      rw [HE.out.2.2.1] at h
      exact h⟩
    go_wp2_with fail
    ((with_reducible refine HC.out.mono ?_); rintro e v2w ⟨v2, rfl, hr, hb⟩)
    have HR2 := Aside0.mk hr; have HB2 := Aside0.mk hb
    clear hr hb HC HB1 HR1 xs
    have xs : v2w.cell? ⟨gb, 2, none⟩ = some (.int .i64 p2) := (blk_cell (blk_below HX1.out HB2.out) 2).trans rfl
    have HC : Aside0 (Calls Try.prog 23 #[v2, .int .i64 2, .int .i64 p2] v2w (fun e w' => ∃ v', e = .returned v' ∧ RowM w' w1.heap.size v' L3 ∧ Below w1.heap.size w1 w')) := ⟨by
      have h := rputm_calls 2 (by decide) p2 ⟨by have := HBK.out; omega, by have := HBK.out; omega⟩ HB2.out HR2.out (by have := HN.out.2.2.1; omega)
      rw [HE.out.2.2.2.1] at h
      exact h⟩
    go_wp2_with fail
    ((with_reducible refine HC.out.mono ?_); rintro e v3w ⟨v3, rfl, hr, hb⟩)
    have HR3 := Aside0.mk hr; have HB3 := Aside0.mk hb
    clear hr hb HC HB2 HR2 xs
    have xs : v3w.cell? ⟨gb, 3, none⟩ = some (.int .i64 p3) := (blk_cell (blk_below HX1.out HB3.out) 3).trans rfl
    have HC : Aside0 (Calls Try.prog 23 #[v3, .int .i64 2, .int .i64 p3] v3w (fun e w' => ∃ v', e = .returned v' ∧ RowM w' w1.heap.size v' L4 ∧ Below w1.heap.size w1 w')) := ⟨by
      have h := rputm_calls 2 (by decide) p3 ⟨by have := HBK.out; omega, by have := HBK.out; omega⟩ HB3.out HR3.out (by have := HN.out.2.2.2.1; omega)
      rw [HE.out.2.2.2.2] at h
      exact h⟩
    go_wp2_with fail
    ((with_reducible refine HC.out.mono ?_); rintro e v4w ⟨v4, rfl, hr, hb⟩)
    have HR4 := Aside0.mk hr; have HB4 := Aside0.mk hb
    clear hr hb HC HB3 HR3 xs
    have hL : L4 = (superH p0 p1 p2 p3) := by rw [← HE.out.2.2.2.2, ← HE.out.2.2.2.1, ← HE.out.2.2.1, ← HE.out.2.1, ← HE.out.1]; rfl
    have HLH := Aside0.mk hL
    have hbt : Bytes L4 := by rw [hL]; exact superH_bytes _ _ _ _
    have hcr := crc_range (s := 0) (by omega) (by omega) hbt
    have HCR := Aside0.mk hcr
    obtain ⟨A4, c4, hv4, hc4, hC4⟩ := rowm_reads HR4.out
    subst hv4
    have HSM := Aside0.mk (skerryref02_Sum.calls 5000 A4 c4 L4 _ v4w hC4 hc4 (rsum_is hbt (by have := HN.out.2.2.2.2; omega) (by have := HN.out.2.2.2.2; omega)))
    clear hL hbt hcr hc4 hC4
    obtain ⟨cr, hcr⟩ : ∃ c, crc 0 L4 = c := ⟨_, rfl⟩
    rw [hcr] at HSM HCR
    have HCC := Aside0.mk hcr
    clear hcr
    go_wp2_with fail
    ((with_reducible refine HSM.out.mono ?_); rintro e w8 ⟨rfl, hd⟩)
    have HB8 := Aside0.mk (below_then HB4.out HB4.out.size hd.below)
    have HR8 := Aside0.mk (rowm_below HR4.out hd.below)
    clear hd HSM HB4 HR4
    have HC : Aside0 (Calls Try.prog 23 #[.slice A4 L4.length c4, .int .i64 4, .int .i64 cr] w8 (fun e w' => ∃ v', e = .returned v' ∧ RowM w' w1.heap.size v' (L4 ++ leB 4 cr) ∧ Below w1.heap.size w1 w')) := ⟨rputm_calls 4 (by decide) cr ⟨HCR.out.1, HCR.out.2⟩ HB8.out HR8.out (by have := HN.out.2.2.2.2; omega)⟩
    go_wp2_with fail
    ((with_reducible refine HC.out.mono ?_); rintro e w9 ⟨v9, rfl, hr, hb⟩)
    have hlen : (L4 ++ leB 4 cr).length = 16 := by have := HN.out.2.2.2.2; rw [List.length_append, leB_length]; omega
    have hR9 := rowm_own hr (by omega)
    have hpd : skerryref06_padded.f 5000 (L4 ++ leB 4 cr) p0 = some (L4 ++ leB 4 cr ++ List.replicate (p0.toNat - 16) 0) := padded_is _ _ _ _ (by have := HBK.out; omega) (by have := HBK.out; omega) (by have := HBK.out; omega)
    have HPD := Aside0.mk (skerryref06_padded.calls 5000 (fun _ => True) v9 _ p0 _ w1 w9 hb hR9 hpd)
    have HB9 := Aside0.mk hb
    have hq : (L4 ++ leB 4 cr ++ List.replicate (p0.toNat - 16) 0) = sealB (superH p0 p1 p2 p3) p0 := by rw [← HCC.out, HLH.out]; rfl
    rw [hq] at HPD
    clear hr hb hlen hR9 hpd hq HC HB8 HR8
    have xs : w9.cell? ⟨gb, 0, none⟩ = some (.int .i64 p0) := (blk_cell (blk_below HX1.out HB9.out) 0).trans rfl
    go_wp2_with fail
    ((with_reducible refine HPD.out.mono ?_); rintro e w10 ⟨v10, rfl, hr, hb, _⟩)
    have HR10 := Aside0.mk (brow_less (Kd.R_mono hr (fun _ _ => trivial)) HBw.out.size)
    have HB10 := Aside0.mk (below_then HBw.out HBw.out.size hb)
    clear hr hb HPD
    go_wp2
    go_ret2
    rw [HO2.out]
    exact ⟨_, rfl, HR10.out, HB10.out⟩
  · have HCK := Aside0.mk (fun W => skerryref05_Check.calls k p0 p1 p2 p3 p4 p5 p6 p7 p8 p9 p10 p11 4 W (by rw [rcheck_is hk, hc]))
    have HO2 : Aside0 (ro = ([], 4)) := ⟨by rw [← hro]; unfold superOut; rw [hc]; rfl⟩
    clear hk hro hc
    go_enter Try.func12, Try.ntmps12
    go_upto_region 1 with (((with_reducible refine gate_dst (N := 1) rfl ?_); refine box_event ?hg (N := 1) ?hd (cs := #[.int .i64 p0, .int .i64 p1, .int .i64 p2, .int .i64 p3, .int .i64 p4, .int .i64 p5, .int .i64 p6, .int .i64 p7, .int .i64 p8, .int .i64 p9, .int .i64 p10, .int .i64 p11]) (t := 37) ?hr ?_; (case hd => rfl); (case hg => rfl); (case hr => first | (go_simp; done) | (go_simp; rfl)); intro gb hggb w0 hbox hb; have BKgb := Aside0.mk hbox; have BHgb := Aside0.mk hb; have GEgb := Aside0.mk hggb; clear hb hbox hggb; have x0 : w0.cell? ⟨gb, 0, none⟩ = some (.int .i64 p0) := (blk_cell BKgb.out 0).trans rfl; have x1 : w0.cell? ⟨gb, 1, none⟩ = some (.int .i64 p1) := (blk_cell BKgb.out 1).trans rfl; have x2 : w0.cell? ⟨gb, 2, none⟩ = some (.int .i64 p2) := (blk_cell BKgb.out 2).trans rfl; have x3 : w0.cell? ⟨gb, 3, none⟩ = some (.int .i64 p3) := (blk_cell BKgb.out 3).trans rfl; have x4 : w0.cell? ⟨gb, 4, none⟩ = some (.int .i64 p4) := (blk_cell BKgb.out 4).trans rfl; have x5 : w0.cell? ⟨gb, 5, none⟩ = some (.int .i64 p5) := (blk_cell BKgb.out 5).trans rfl; have x6 : w0.cell? ⟨gb, 6, none⟩ = some (.int .i64 p6) := (blk_cell BKgb.out 6).trans rfl; have x7 : w0.cell? ⟨gb, 7, none⟩ = some (.int .i64 p7) := (blk_cell BKgb.out 7).trans rfl; have x8 : w0.cell? ⟨gb, 8, none⟩ = some (.int .i64 p8) := (blk_cell BKgb.out 8).trans rfl; have x9 : w0.cell? ⟨gb, 9, none⟩ = some (.int .i64 p9) := (blk_cell BKgb.out 9).trans rfl; have x10 : w0.cell? ⟨gb, 10, none⟩ = some (.int .i64 p10) := (blk_cell BKgb.out 10).trans rfl; have x11 : w0.cell? ⟨gb, 11, none⟩ = some (.int .i64 p11) := (blk_cell BKgb.out 11).trans rfl))
    go_wp2_with fail
    ((with_reducible refine (HCK.out _).mono ?_); rintro e w1 ⟨rfl, hb⟩)
    have HBw := Aside0.mk (below_then BHgb.out BHgb.out.size hb)
    clear hb HCK BKgb BHgb GEgb x0 x1 x2 x3 x4 x5 x6 x7 x8 x9 x10 x11
    go_wp2
    go_ret2
    rw [HO2.out]
    exact ⟨_, rfl, brow_nil _ _, HBw.out⟩
set_option maxHeartbeats 4000000 in
set_option maxRecDepth 100000 in
theorem rhead_calls (s t u b : Int) (w : World) :
    Calls Try.prog 14 #[.agg #[.int .i64 s, .int .i64 t, .int .i64 u], .int .i64 b] w fun e w' => ∃ v, e = .returned (.tuple #[v, .int .i64 (headOut s t u b).2]) ∧ Kd.R (Kd.int .u8) 5 w' w.heap.size (fun _ => True) v (headOut s t u b).1 ∧ Below w.heap.size w w' := by
  have hu := Try.underlying39
  have hcv : ∀ W : World, (Go.convert 27 27 (.slice (some ⟨W.heap.size, 0, none⟩) 4 4)).run Try.prog (W.alloc (.cells #[.int .u8 83, .int .u8 76, .int .u8 79, .int .u8 71] 5)) = .ok (.slice (some ⟨W.heap.size, 0, none⟩) 4 4) (W.alloc (.cells #[.int .u8 83, .int .u8 76, .int .u8 79, .int .u8 71] 5 (4, 5))) := fun W => Lib.run_convert_bytes_const W 27 5 #[.int .u8 83, .int .u8 76, .int .u8 79, .int .u8 71] 4 4 Try.underlying27 Try.underlying5
  obtain ⟨ro, hro⟩ : ∃ ro, headOut s t u b = ro := ⟨_, rfl⟩
  rw [hro]
  have HSZ0 : ∀ (r : Bool), pw b = r → ∀ W, Calls Try.prog 38 #[.int .i64 b] W (fun e w' => e = .returned (.bool r) ∧ Below W.heap.size W w') := fun r hr W => by
    have h := skerryref05_Size.calls 8 b r W (by rw [← hr]; exact size_is 0 b)
    exact h.mono fun e w' q => ⟨q.1, q.2.below⟩
  by_cases hp : pw b = true
  rotate_left
  · have HSZ := Aside0.mk (HSZ0 false (Bool.eq_false_iff.2 hp))
    have HO2 : Aside0 (ro = ([], 1)) := ⟨by rw [← hro]; unfold headOut; rw [if_neg hp]⟩
    clear HSZ0 hp hro
    go_enter Try.func14, Try.ntmps14
    go_upto_region 1 with (((with_reducible refine gate_dst (N := 2) rfl ?_); refine box_event ?hg (N := 2) ?hd (cs := #[.int .i64 s, .int .i64 t, .int .i64 u]) (t := 39) ?hr ?_; (case hd => rfl); (case hg => rfl); (case hr => first | (go_simp; done) | (go_simp; rfl)); intro gb hggb w0 hbox hb; have BKgb := Aside0.mk hbox; have BHgb := Aside0.mk hb; have GEgb := Aside0.mk hggb; clear hb hbox hggb; have x0 : w0.cell? ⟨gb, 0, none⟩ = some (.int .i64 s) := (blk_cell BKgb.out 0).trans rfl; have x1 : w0.cell? ⟨gb, 1, none⟩ = some (.int .i64 t) := (blk_cell BKgb.out 1).trans rfl; have x2 : w0.cell? ⟨gb, 2, none⟩ = some (.int .i64 u) := (blk_cell BKgb.out 2).trans rfl))
    go_wp2_with fail
    ((with_reducible refine (HSZ.out _).mono ?_); rintro e w1 ⟨rfl, hb⟩)
    have HX1 := Aside0.mk (blk_below BKgb.out hb)
    have HBw := Aside0.mk (below_then BHgb.out BHgb.out.size hb)
    clear hb HSZ BKgb BHgb GEgb x0 x1 x2
    go_wp2
    go_ret2
    rw [HO2.out]
    exact ⟨_, rfl, brow_nil _ _, HBw.out⟩
  have HSZ := Aside0.mk (HSZ0 true hp)
  have HBK : Aside0 (16 ≤ b ∧ b ≤ 4096) := ⟨by have := (pw_iff b).1 hp; omega⟩
  by_cases q0 : Fits 4 s
  rotate_left
  · have h0 := decide_eq_false q0
    have HF0 : Aside0 (∀ W, Calls Try.prog 22 #[.int .i64 s, .int .i64 4] W (fun e w' => e = .returned (.bool false) ∧ Below W.heap.size W w')) := ⟨fun W => by
      have h := skerryref06_fits.calls 8 s 4 false W (by rw [← h0]; exact Pure.rfits_is (n := 4) (by decide) s (by decide))
      exact h.mono fun e w' q => ⟨q.1, q.2.below⟩⟩
    have HO2 : Aside0 (ro = ([], 3)) := ⟨by rw [← hro]; unfold headOut; rw [if_pos hp, if_neg (by exact fun q => q0 q.1)]⟩
    clear HSZ0 hp hro h0 q0
    go_enter Try.func14, Try.ntmps14
    go_upto_region 1 with (((with_reducible refine gate_dst (N := 2) rfl ?_); refine box_event ?hg (N := 2) ?hd (cs := #[.int .i64 s, .int .i64 t, .int .i64 u]) (t := 39) ?hr ?_; (case hd => rfl); (case hg => rfl); (case hr => first | (go_simp; done) | (go_simp; rfl)); intro gb hggb w0 hbox hb; have BKgb := Aside0.mk hbox; have BHgb := Aside0.mk hb; have GEgb := Aside0.mk hggb; clear hb hbox hggb; have x0 : w0.cell? ⟨gb, 0, none⟩ = some (.int .i64 s) := (blk_cell BKgb.out 0).trans rfl; have x1 : w0.cell? ⟨gb, 1, none⟩ = some (.int .i64 t) := (blk_cell BKgb.out 1).trans rfl; have x2 : w0.cell? ⟨gb, 2, none⟩ = some (.int .i64 u) := (blk_cell BKgb.out 2).trans rfl))
    go_wp2_with fail
    ((with_reducible refine (HSZ.out _).mono ?_); rintro e w1 ⟨rfl, hb⟩)
    have HX1 := Aside0.mk (blk_below BKgb.out hb)
    have HBw := Aside0.mk (below_then BHgb.out BHgb.out.size hb)
    clear hb HSZ BKgb BHgb GEgb x0 x1 x2
    have xs : w1.cell? ⟨gb, 0, none⟩ = some (.int .i64 s) := (blk_cell HX1.out 0).trans rfl
    go_wp2_with fail
    ((with_reducible refine (HF0.out _).mono ?_); rintro e w2 ⟨rfl, hb⟩)
    replace HX1 := Aside0.mk (blk_below HX1.out hb)
    replace HBw := Aside0.mk (below_then HBw.out HBw.out.size hb)
    clear hb xs HF0
    go_wp2
    go_ret2
    rw [HO2.out]
    exact ⟨_, rfl, brow_nil _ _, HBw.out⟩
  have h0 := decide_eq_true q0
  have HF0 : Aside0 (∀ W, Calls Try.prog 22 #[.int .i64 s, .int .i64 4] W (fun e w' => e = .returned (.bool true) ∧ Below W.heap.size W w')) := ⟨fun W => by
    have h := skerryref06_fits.calls 8 s 4 true W (by rw [← h0]; exact Pure.rfits_is (n := 4) (by decide) s (by decide))
    exact h.mono fun e w' q => ⟨q.1, q.2.below⟩⟩
  by_cases q1 : Fits 2 t
  rotate_left
  · have h1 := decide_eq_false q1
    have HF1 : Aside0 (∀ W, Calls Try.prog 22 #[.int .i64 t, .int .i64 2] W (fun e w' => e = .returned (.bool false) ∧ Below W.heap.size W w')) := ⟨fun W => by
      have h := skerryref06_fits.calls 8 t 2 false W (by rw [← h1]; exact Pure.rfits_is (n := 2) (by decide) t (by decide))
      exact h.mono fun e w' q => ⟨q.1, q.2.below⟩⟩
    have HO2 : Aside0 (ro = ([], 3)) := ⟨by rw [← hro]; unfold headOut; rw [if_pos hp, if_neg (by exact fun q => q1 q.2.1)]⟩
    clear HSZ0 hp hro h0 q0 h1 q1
    go_enter Try.func14, Try.ntmps14
    go_upto_region 1 with (((with_reducible refine gate_dst (N := 2) rfl ?_); refine box_event ?hg (N := 2) ?hd (cs := #[.int .i64 s, .int .i64 t, .int .i64 u]) (t := 39) ?hr ?_; (case hd => rfl); (case hg => rfl); (case hr => first | (go_simp; done) | (go_simp; rfl)); intro gb hggb w0 hbox hb; have BKgb := Aside0.mk hbox; have BHgb := Aside0.mk hb; have GEgb := Aside0.mk hggb; clear hb hbox hggb; have x0 : w0.cell? ⟨gb, 0, none⟩ = some (.int .i64 s) := (blk_cell BKgb.out 0).trans rfl; have x1 : w0.cell? ⟨gb, 1, none⟩ = some (.int .i64 t) := (blk_cell BKgb.out 1).trans rfl; have x2 : w0.cell? ⟨gb, 2, none⟩ = some (.int .i64 u) := (blk_cell BKgb.out 2).trans rfl))
    go_wp2_with fail
    ((with_reducible refine (HSZ.out _).mono ?_); rintro e w1 ⟨rfl, hb⟩)
    have HX1 := Aside0.mk (blk_below BKgb.out hb)
    have HBw := Aside0.mk (below_then BHgb.out BHgb.out.size hb)
    clear hb HSZ BKgb BHgb GEgb x0 x1 x2
    have xs : w1.cell? ⟨gb, 0, none⟩ = some (.int .i64 s) := (blk_cell HX1.out 0).trans rfl
    go_wp2_with fail
    ((with_reducible refine (HF0.out _).mono ?_); rintro e w2 ⟨rfl, hb⟩)
    replace HX1 := Aside0.mk (blk_below HX1.out hb)
    replace HBw := Aside0.mk (below_then HBw.out HBw.out.size hb)
    clear hb xs HF0
    have xs : w2.cell? ⟨gb, 1, none⟩ = some (.int .i64 t) := (blk_cell HX1.out 1).trans rfl
    go_wp2_with fail
    ((with_reducible refine (HF1.out _).mono ?_); rintro e w3 ⟨rfl, hb⟩)
    replace HX1 := Aside0.mk (blk_below HX1.out hb)
    replace HBw := Aside0.mk (below_then HBw.out HBw.out.size hb)
    clear hb xs HF1
    go_wp2
    go_ret2
    rw [HO2.out]
    exact ⟨_, rfl, brow_nil _ _, HBw.out⟩
  have h1 := decide_eq_true q1
  have HF1 : Aside0 (∀ W, Calls Try.prog 22 #[.int .i64 t, .int .i64 2] W (fun e w' => e = .returned (.bool true) ∧ Below W.heap.size W w')) := ⟨fun W => by
    have h := skerryref06_fits.calls 8 t 2 true W (by rw [← h1]; exact Pure.rfits_is (n := 2) (by decide) t (by decide))
    exact h.mono fun e w' q => ⟨q.1, q.2.below⟩⟩
  by_cases q2 : Fits 2 u
  rotate_left
  · have h2 := decide_eq_false q2
    have HF2 : Aside0 (∀ W, Calls Try.prog 22 #[.int .i64 u, .int .i64 2] W (fun e w' => e = .returned (.bool false) ∧ Below W.heap.size W w')) := ⟨fun W => by
      have h := skerryref06_fits.calls 8 u 2 false W (by rw [← h2]; exact Pure.rfits_is (n := 2) (by decide) u (by decide))
      exact h.mono fun e w' q => ⟨q.1, q.2.below⟩⟩
    have HO2 : Aside0 (ro = ([], 3)) := ⟨by rw [← hro]; unfold headOut; rw [if_pos hp, if_neg (by exact fun q => q2 q.2.2)]⟩
    clear HSZ0 hp hro h0 q0 h1 q1 h2 q2
    go_enter Try.func14, Try.ntmps14
    go_upto_region 1 with (((with_reducible refine gate_dst (N := 2) rfl ?_); refine box_event ?hg (N := 2) ?hd (cs := #[.int .i64 s, .int .i64 t, .int .i64 u]) (t := 39) ?hr ?_; (case hd => rfl); (case hg => rfl); (case hr => first | (go_simp; done) | (go_simp; rfl)); intro gb hggb w0 hbox hb; have BKgb := Aside0.mk hbox; have BHgb := Aside0.mk hb; have GEgb := Aside0.mk hggb; clear hb hbox hggb; have x0 : w0.cell? ⟨gb, 0, none⟩ = some (.int .i64 s) := (blk_cell BKgb.out 0).trans rfl; have x1 : w0.cell? ⟨gb, 1, none⟩ = some (.int .i64 t) := (blk_cell BKgb.out 1).trans rfl; have x2 : w0.cell? ⟨gb, 2, none⟩ = some (.int .i64 u) := (blk_cell BKgb.out 2).trans rfl))
    go_wp2_with fail
    ((with_reducible refine (HSZ.out _).mono ?_); rintro e w1 ⟨rfl, hb⟩)
    have HX1 := Aside0.mk (blk_below BKgb.out hb)
    have HBw := Aside0.mk (below_then BHgb.out BHgb.out.size hb)
    clear hb HSZ BKgb BHgb GEgb x0 x1 x2
    have xs : w1.cell? ⟨gb, 0, none⟩ = some (.int .i64 s) := (blk_cell HX1.out 0).trans rfl
    go_wp2_with fail
    ((with_reducible refine (HF0.out _).mono ?_); rintro e w2 ⟨rfl, hb⟩)
    replace HX1 := Aside0.mk (blk_below HX1.out hb)
    replace HBw := Aside0.mk (below_then HBw.out HBw.out.size hb)
    clear hb xs HF0
    have xs : w2.cell? ⟨gb, 1, none⟩ = some (.int .i64 t) := (blk_cell HX1.out 1).trans rfl
    go_wp2_with fail
    ((with_reducible refine (HF1.out _).mono ?_); rintro e w3 ⟨rfl, hb⟩)
    replace HX1 := Aside0.mk (blk_below HX1.out hb)
    replace HBw := Aside0.mk (below_then HBw.out HBw.out.size hb)
    clear hb xs HF1
    have xs : w3.cell? ⟨gb, 2, none⟩ = some (.int .i64 u) := (blk_cell HX1.out 2).trans rfl
    go_wp2_with fail
    ((with_reducible refine (HF2.out _).mono ?_); rintro e w4 ⟨rfl, hb⟩)
    replace HX1 := Aside0.mk (blk_below HX1.out hb)
    replace HBw := Aside0.mk (below_then HBw.out HBw.out.size hb)
    clear hb xs HF2
    go_wp2
    go_ret2
    rw [HO2.out]
    exact ⟨_, rfl, brow_nil _ _, HBw.out⟩
  have h2 := decide_eq_true q2
  have HF2 : Aside0 (∀ W, Calls Try.prog 22 #[.int .i64 u, .int .i64 2] W (fun e w' => e = .returned (.bool true) ∧ Below W.heap.size W w')) := ⟨fun W => by
    have h := skerryref06_fits.calls 8 u 2 true W (by rw [← h2]; exact Pure.rfits_is (n := 2) (by decide) u (by decide))
    exact h.mono fun e w' q => ⟨q.1, q.2.below⟩⟩
  have HO2 : Aside0 (ro = (sealB (headH s t u) b, 0)) := ⟨by rw [← hro]; unfold headOut; rw [if_pos hp, if_pos ⟨q0, q1, q2⟩]⟩
  have HFT := Aside0.mk (And.intro q0 (And.intro q1 q2))
  clear HSZ0 hp hro h0 q0 h1 q1 h2 q2
  go_enter Try.func14, Try.ntmps14
  go_upto_region 1 with (((with_reducible refine gate_dst (N := 2) rfl ?_); refine box_event ?hg (N := 2) ?hd (cs := #[.int .i64 s, .int .i64 t, .int .i64 u]) (t := 39) ?hr ?_; (case hd => rfl); (case hg => rfl); (case hr => first | (go_simp; done) | (go_simp; rfl)); intro gb hggb w0 hbox hb; have BKgb := Aside0.mk hbox; have BHgb := Aside0.mk hb; have GEgb := Aside0.mk hggb; clear hb hbox hggb; have x0 : w0.cell? ⟨gb, 0, none⟩ = some (.int .i64 s) := (blk_cell BKgb.out 0).trans rfl; have x1 : w0.cell? ⟨gb, 1, none⟩ = some (.int .i64 t) := (blk_cell BKgb.out 1).trans rfl; have x2 : w0.cell? ⟨gb, 2, none⟩ = some (.int .i64 u) := (blk_cell BKgb.out 2).trans rfl))
  go_wp2_with fail
  ((with_reducible refine (HSZ.out _).mono ?_); rintro e w1 ⟨rfl, hb⟩)
  have HX1 := Aside0.mk (blk_below BKgb.out hb)
  have HBw := Aside0.mk (below_then BHgb.out BHgb.out.size hb)
  clear hb HSZ BKgb BHgb GEgb x0 x1 x2
  have xs : w1.cell? ⟨gb, 0, none⟩ = some (.int .i64 s) := (blk_cell HX1.out 0).trans rfl
  go_wp2_with fail
  ((with_reducible refine (HF0.out _).mono ?_); rintro e w2 ⟨rfl, hb⟩)
  replace HX1 := Aside0.mk (blk_below HX1.out hb)
  replace HBw := Aside0.mk (below_then HBw.out HBw.out.size hb)
  clear hb xs HF0
  have xs : w2.cell? ⟨gb, 1, none⟩ = some (.int .i64 t) := (blk_cell HX1.out 1).trans rfl
  go_wp2_with fail
  ((with_reducible refine (HF1.out _).mono ?_); rintro e w3 ⟨rfl, hb⟩)
  replace HX1 := Aside0.mk (blk_below HX1.out hb)
  replace HBw := Aside0.mk (below_then HBw.out HBw.out.size hb)
  clear hb xs HF1
  have xs : w3.cell? ⟨gb, 2, none⟩ = some (.int .i64 u) := (blk_cell HX1.out 2).trans rfl
  go_wp2_with fail
  ((with_reducible refine (HF2.out _).mono ?_); rintro e w4 ⟨rfl, hb⟩)
  replace HX1 := Aside0.mk (blk_below HX1.out hb)
  replace HBw := Aside0.mk (below_then HBw.out HBw.out.size hb)
  clear hb xs HF2
  have HX4 := HX1
  have HR0 : Aside0 (RowM (w4.alloc (.cells #[.int .u8 83, .int .u8 76, .int .u8 79, .int .u8 71] 5 (4, 5))) w4.heap.size (.slice (some ⟨w4.heap.size, 0, none⟩) 4 4) [83, 76, 79, 71]) := ⟨.inr ⟨rfl, _, rfl, Nat.le_refl _, blk_new w4 _⟩⟩
  have HB0 : Aside0 (Below w4.heap.size w4 (w4.alloc (.cells #[.int .u8 83, .int .u8 76, .int .u8 79, .int .u8 71] 5 (4, 5)))) := ⟨(Below.refl w4.heap.size w4).alloc (Nat.le_refl _) _⟩
  obtain ⟨L0, e0⟩ : ∃ L : List Int, [83, 76, 79, 71] = L := ⟨_, rfl⟩
  have n0 : L0.length = 4 := by rw [← e0]; rfl
  rw [e0] at HR0
  obtain ⟨L1, e1⟩ : ∃ L, L0 ++ leB 4 s = L := ⟨_, rfl⟩
  have n1 : L1.length = 8 := by rw [← e1, List.length_append, leB_length, n0]
  obtain ⟨L2, e2⟩ : ∃ L, L1 ++ leB 2 t = L := ⟨_, rfl⟩
  have n2 : L2.length = 10 := by rw [← e2, List.length_append, leB_length, n1]
  obtain ⟨L3, e3⟩ : ∃ L, L2 ++ leB 2 u = L := ⟨_, rfl⟩
  have n3 : L3.length = 12 := by rw [← e3, List.length_append, leB_length, n2]
  have HE := Aside0.mk (And.intro e0 (And.intro e1 (And.intro e2 (e3))))
  have HN := Aside0.mk (And.intro n0 (And.intro n1 (And.intro n2 (n3))))
  clear e0 n0 e1 n1 e2 n2 e3 n3
  have xs : (w4.alloc (.cells #[.int .u8 83, .int .u8 76, .int .u8 79, .int .u8 71] 5 (4, 5))).cell? ⟨gb, 0, none⟩ = some (.int .i64 s) := (blk_cell (blk_below HX1.out HB0.out) 0).trans rfl
  have HC : Aside0 (Calls Try.prog 23 #[(.slice (some ⟨w4.heap.size, 0, none⟩) 4 4), .int .i64 4, .int .i64 s] (w4.alloc (.cells #[.int .u8 83, .int .u8 76, .int .u8 79, .int .u8 71] 5 (4, 5))) (fun e w' => ∃ v', e = .returned v' ∧ RowM w' w4.heap.size v' L1 ∧ Below w4.heap.size w4 w')) := ⟨by
    have h := rputm_calls 4 (by decide) s HFT.out.1 HB0.out HR0.out (by have := HN.out.1; omega)
    rw [HE.out.2.1] at h
    exact h⟩
  go_wp2_with fail
  ((with_reducible refine HC.out.mono ?_); rintro e v1w ⟨v1, rfl, hr, hb⟩)
  have HR1 := Aside0.mk hr; have HB1 := Aside0.mk hb
  clear hr hb HC HB0 HR0 xs
  have xs : v1w.cell? ⟨gb, 1, none⟩ = some (.int .i64 t) := (blk_cell (blk_below HX1.out HB1.out) 1).trans rfl
  have HC : Aside0 (Calls Try.prog 23 #[v1, .int .i64 2, .int .i64 t] v1w (fun e w' => ∃ v', e = .returned v' ∧ RowM w' w4.heap.size v' L2 ∧ Below w4.heap.size w4 w')) := ⟨by
    have h := rputm_calls 2 (by decide) t HFT.out.2.1 HB1.out HR1.out (by have := HN.out.2.1; omega)
    rw [HE.out.2.2.1] at h
    exact h⟩
  go_wp2_with fail
  ((with_reducible refine HC.out.mono ?_); rintro e v2w ⟨v2, rfl, hr, hb⟩)
  have HR2 := Aside0.mk hr; have HB2 := Aside0.mk hb
  clear hr hb HC HB1 HR1 xs
  have xs : v2w.cell? ⟨gb, 2, none⟩ = some (.int .i64 u) := (blk_cell (blk_below HX1.out HB2.out) 2).trans rfl
  have HC : Aside0 (Calls Try.prog 23 #[v2, .int .i64 2, .int .i64 u] v2w (fun e w' => ∃ v', e = .returned v' ∧ RowM w' w4.heap.size v' L3 ∧ Below w4.heap.size w4 w')) := ⟨by
    have h := rputm_calls 2 (by decide) u HFT.out.2.2 HB2.out HR2.out (by have := HN.out.2.2.1; omega)
    rw [HE.out.2.2.2] at h
    exact h⟩
  go_wp2_with fail
  ((with_reducible refine HC.out.mono ?_); rintro e v3w ⟨v3, rfl, hr, hb⟩)
  have HR3 := Aside0.mk hr; have HB3 := Aside0.mk hb
  clear hr hb HC HB2 HR2 xs
  have hL : L3 = (headH s t u) := by rw [← HE.out.2.2.2, ← HE.out.2.2.1, ← HE.out.2.1, ← HE.out.1]; rfl
  have HLH := Aside0.mk hL
  have hbt : Bytes L3 := by rw [hL]; exact headH_bytes _ _ _
  have hcr := crc_range (s := 0) (by omega) (by omega) hbt
  have HCR := Aside0.mk hcr
  obtain ⟨A3, c3, hv3, hc3, hC3⟩ := rowm_reads HR3.out
  subst hv3
  have HSM := Aside0.mk (skerryref02_Sum.calls 5000 A3 c3 L3 _ v3w hC3 hc3 (rsum_is hbt (by have := HN.out.2.2.2; omega) (by have := HN.out.2.2.2; omega)))
  clear hL hbt hcr hc3 hC3
  obtain ⟨cr, hcr⟩ : ∃ c, crc 0 L3 = c := ⟨_, rfl⟩
  rw [hcr] at HSM HCR
  have HCC := Aside0.mk hcr
  clear hcr
  go_wp2_with fail
  ((with_reducible refine HSM.out.mono ?_); rintro e w8 ⟨rfl, hd⟩)
  have HB8 := Aside0.mk (below_then HB3.out HB3.out.size hd.below)
  have HR8 := Aside0.mk (rowm_below HR3.out hd.below)
  clear hd HSM HB3 HR3
  have HC : Aside0 (Calls Try.prog 23 #[.slice A3 L3.length c3, .int .i64 4, .int .i64 cr] w8 (fun e w' => ∃ v', e = .returned v' ∧ RowM w' w4.heap.size v' (L3 ++ leB 4 cr) ∧ Below w4.heap.size w4 w')) := ⟨rputm_calls 4 (by decide) cr ⟨HCR.out.1, HCR.out.2⟩ HB8.out HR8.out (by have := HN.out.2.2.2; omega)⟩
  go_wp2_with fail
  ((with_reducible refine HC.out.mono ?_); rintro e w9 ⟨v9, rfl, hr, hb⟩)
  have hlen : (L3 ++ leB 4 cr).length = 16 := by have := HN.out.2.2.2; rw [List.length_append, leB_length]; omega
  have hR9 := rowm_own hr (by omega)
  have hpd : skerryref06_padded.f 5000 (L3 ++ leB 4 cr) b = some (L3 ++ leB 4 cr ++ List.replicate (b.toNat - 16) 0) := padded_is _ _ _ _ (by have := HBK.out; omega) (by have := HBK.out; omega) (by have := HBK.out; omega)
  have HPD := Aside0.mk (skerryref06_padded.calls 5000 (fun _ => True) v9 _ b _ w4 w9 hb hR9 hpd)
  have HB9 := Aside0.mk hb
  have hq : (L3 ++ leB 4 cr ++ List.replicate (b.toNat - 16) 0) = sealB (headH s t u) b := by rw [← HCC.out, HLH.out]; rfl
  rw [hq] at HPD
  clear hr hb hlen hR9 hpd hq HC HB8 HR8
  go_wp2_with fail
  ((with_reducible refine HPD.out.mono ?_); rintro e w10 ⟨v10, rfl, hr, hb, _⟩)
  have HR10 := Aside0.mk (brow_less (Kd.R_mono hr (fun _ _ => trivial)) HBw.out.size)
  have HB10 := Aside0.mk (below_then HBw.out HBw.out.size hb)
  clear hr hb HPD
  go_wp2
  go_ret2
  rw [HO2.out]
  exact ⟨_, rfl, HR10.out, HB10.out⟩
end Go.Proofs.Ytbplffdmggbcdaa.Codec
namespace Go.Proofs.Ytbplffdmggbcdaa.PCodecHeads
open Go.RowKit Go.Proofs.Ytbplffdmggbcdaa.Plain Go.Proofs.Ytbplffdmggbcdaa.Pure Go.Proofs.YtbplffdmggbcdaaW.PrintWords Go.Proofs.YtbplffdmggbcdaaW.PrintLast Go.Proofs.YtbplffdmggbcdaaW.PrintMore
theorem skerryref06_Super.more (p0 p1 p2 p3 p4 p5 p6 p7 p8 p9 p10 p11 : Int) (k n : Nat) (r : List Int × Int) (h : skerryref06_Super.f k p0 p1 p2 p3 p4 p5 p6 p7 p8 p9 p10 p11 = some r) : skerryref06_Super.f (k + n) p0 p1 p2 p3 p4 p5 p6 p7 p8 p9 p10 p11 = some r := by
  induction n with
  | zero => exact h
  | succ n ih => exact skerryref06_Super.mono p0 p1 p2 p3 p4 p5 p6 p7 p8 p9 p10 p11 (k + n) _ ih
theorem skerryref06_Super.calls (k : Nat) (p0 p1 p2 p3 p4 p5 p6 p7 p8 p9 p10 p11 : Int) (r1 : List Int) (r2 : Int) (w : World) (h : skerryref06_Super.f k p0 p1 p2 p3 p4 p5 p6 p7 p8 p9 p10 p11 = some (r1, r2)) :
    Calls Try.prog 12 #[.agg #[.int .i64 p0, .int .i64 p1, .int .i64 p2, .int .i64 p3, .int .i64 p4, .int .i64 p5, .int .i64 p6, .int .i64 p7, .int .i64 p8, .int .i64 p9, .int .i64 p10, .int .i64 p11]] w fun e w' => ∃ v0_ : Value, e = .returned (.tuple #[v0_, .int .i64 r2]) ∧ Kd.R (Kd.int .u8) 5 w' w.heap.size (fun _ => True) v0_ r1 ∧ Below w.heap.size w w' := by
  obtain ⟨n, hn⟩ : ∃ n : Nat, 3000000 < k + n := ⟨3000001, by omega⟩
  have h1 := skerryref06_Super.more p0 p1 p2 p3 p4 p5 p6 p7 p8 p9 p10 p11 k n _ h
  rw [rsuper_is p0 p1 p2 p3 p4 p5 p6 p7 p8 p9 p10 p11 hn] at h1
  have h2 := Codec.rsuper_calls p0 p1 p2 p3 p4 p5 p6 p7 p8 p9 p10 p11 w
  rw [Option.some.inj h1] at h2
  exact h2
theorem skerryref06_Header.more (s t u b : Int) (k n : Nat) (r : List Int × Int) (h : skerryref06_Header.f k s t u b = some r) : skerryref06_Header.f (k + n) s t u b = some r := by
  induction n with
  | zero => exact h
  | succ n ih => exact skerryref06_Header.mono s t u b (k + n) _ ih
theorem skerryref06_Header.calls (k : Nat) (s t u b : Int) (r1 : List Int) (r2 : Int) (w : World) (h : skerryref06_Header.f k s t u b = some (r1, r2)) :
    Calls Try.prog 14 #[.agg #[.int .i64 s, .int .i64 t, .int .i64 u], .int .i64 b] w fun e w' => ∃ v0_ : Value, e = .returned (.tuple #[v0_, .int .i64 r2]) ∧ Kd.R (Kd.int .u8) 5 w' w.heap.size (fun _ => True) v0_ r1 ∧ Below w.heap.size w w' := by
  obtain ⟨n, hn⟩ : ∃ n : Nat, 6000 ≤ k + n := ⟨6000, by omega⟩
  have h1 := skerryref06_Header.more s t u b k n _ h
  rw [rhead_is s t u b hn] at h1
  have h2 := Codec.rhead_calls s t u b w
  rw [Option.some.inj h1] at h2
  exact h2
end Go.Proofs.Ytbplffdmggbcdaa.PCodecHeads
