/- A record is written: a contract. -/
import Derived.Test.YtacecaacpagokaaKKBox
namespace Go.Proofs.Ytacecaacpagokaa.Codec
open Go.RowKit Go.Proofs.Ytacecaacpagokaa.PSwapGoes Go.Proofs.Ytacecaacpagokaa.Plain Go.Proofs.Ytacecaacpagokaa.Pure Go.Proofs.YtacecaacpagokaaW.PrintWords Go.Proofs.YtacecaacpagokaaW.PrintLast Go.Proofs.YtacecaacpagokaaW.PrintMore
set_option linter.unusedVariables false
set_option linter.unusedSimpArgs false

def record.T6 : Bool × List (List Nat × List Nat) := (true, [([], []), ([0], [0]), ([1], [1]), ([2], [2]), ([], []), ([4], [4]), ([5], [5]), ([3, 6], [3, 6]), ([7, 7], [7]), ([8], [8]), ([8], [8]), ([9, 8, 0, 1, 2, 3, 4, 5, 6, 7, 8, 9, 10], [9]), ([10, 11, 0, 1, 2, 3, 4, 5, 6, 7, 8, 9, 10, 11], [10])])
def record.B6 : List Nat := [0, 1, 3, 7, 0, 16, 48, 127, 255, 511, 511, 2047, 4095]
theorem record.tab6 : rtab .any (opsOf Try.f26 6) = record.T6 := by kernel_rfl
theorem record.bits6 : waitsOk record.T6.2 record.B6 = true := by kernel_rfl

set_option maxHeartbeats 4000000 in
set_option maxRecDepth 100000 in
theorem record_calls (b q s0 s1 s2 s3 a n : Int) (t : ByteArray) (ht : t.size ≤ 140737488351232) (w : World) :
    Calls Try.prog 26 #[.agg #[.int .i64 b, .int .i64 q, .int .i64 s0, .int .i64 s1, .int .i64 s2, .int .i64 s3, .int .i64 a, .int .i64 n, .string t]] w fun e w' => ∃ v, e = .returned (.tuple #[v, .int .i64 (recOut b q s0 s1 s2 s3 a n (bytesOf t)).2]) ∧ Kd.R (Kd.int .u8) 5 w' w.heap.size (fun _ => True) v (recOut b q s0 s1 s2 s3 a n (bytesOf t)).1 ∧ Below w.heap.size w w' := by
  have hu := Try.underlying58
  have hu2 := Try.underlying46
  have hu3 := Try.underlying94
  have herr := recNums_err b q s0 s1 s2 s3 a n
  have hrb := recNums_bytes b q s0 s1 s2 s3 a n
  have hrl := recNums_length b q s0 s1 s2 s3 a n
  have hfr := frame_out (l := (recNums b q s0 s1 s2 s3 a n).1 ++ bytesOf t) (hrb.append (bytesOf_bytes t))
  have hO : recOut b q s0 s1 s2 s3 a n (bytesOf t) = if (recNums b q s0 s1 s2 s3 a n).2 = 0 then (if ((recNums b q s0 s1 s2 s3 a n).1 ++ bytesOf t).length ≤ 65535 then (frm ((recNums b q s0 s1 s2 s3 a n).1 ++ bytesOf t), 0) else ([], 5)) else ([], 3) := rfl
  obtain ⟨ro, hro⟩ : ∃ ro, recOut b q s0 s1 s2 s3 a n (bytesOf t) = ro := ⟨_, rfl⟩
  obtain ⟨r, hr⟩ : ∃ r, recNums b q s0 s1 s2 s3 a n = r := ⟨_, rfl⟩
  obtain ⟨FO, hFO⟩ : ∃ FO : List Int × Int, (if (r.1 ++ bytesOf t).length ≤ 65535 then (frm (r.1 ++ bytesOf t), (0 : Int)) else ([], 5)) = FO := ⟨_, rfl⟩
  rw [hro] at hO ⊢
  rw [hr] at herr hrl hfr hO
  rw [hFO] at hfr hO
  have HR0 : Aside0 (wnums 2 (wnums 4 ([], 0) [b, q, a, n]) [s0, s1, s2, s3] = r) := ⟨hr⟩
  have HE := Aside0.mk herr
  have HFr := Aside0.mk hfr
  have HO := Aside0.mk hO
  clear hrb hro hFO hr herr hfr hO
  go_enter Try.func26, Try.ntmps26
  go_upto_region 2 with (first | ((with_reducible refine gate_dst (N := 1) rfl ?_); refine box_event ?hg (N := 1) ?hd (cs := #[.int .i64 b, .int .i64 q, .int .i64 s0, .int .i64 s1, .int .i64 s2, .int .i64 s3, .int .i64 a, .int .i64 n, .string t]) (t := 58) ?hr ?_; (case hd => rfl); (case hg => rfl); (case hr => first | (go_simp; done) | (go_simp; rfl)); intro gb hggb w1 hbox hb; have BKgb := Aside0.mk hbox; have BHgb := Aside0.mk hb; have GEgb := Aside0.mk hggb; clear hb hbox hggb) | ((with_reducible refine gate_dst (N := 6) rfl ?_); refine box_event ?hg (N := 6) ?hd (cs := #[.slice none 0 0, .int .i64 0]) (t := 94) ?hr ?_; (case hd => rfl); (case hg => rfl); (case hr => first | (go_simp; done) | (go_simp; rfl)); intro WP hgWP w2 hbox hb; have BKWP := Aside0.mk hbox; have BHWP := Aside0.mk hb; have GEWP := Aside0.mk hgWP; clear hb hbox hgWP))
  have HGT : Aside0 (gb < w1.heap.size) := ⟨blk_lt BKgb.out⟩
  have HB2 := Aside0.mk (below_then BHgb.out BHgb.out.size BHWP.out)
  have hWP := GEWP.out
  have HLT : Aside0 (gb < WP) := ⟨by have := HGT.out; omega⟩
  have HGE : Aside0 (w.heap.size ≤ WP) := ⟨by have := BHgb.out.size; omega⟩
  have HGB2 := Aside0.mk (blk_below BKgb.out BHWP.out)
  have HWR := Aside0.mk (Writer.new BKWP.out)
  clear hWP BKgb BHgb GEgb BKWP BHWP GEWP HGT
  have xb : w2.cell? ⟨gb, 0, none⟩ = some (.int .i64 b) := (blk_cell HGB2.out 0).trans rfl; have xq : w2.cell? ⟨gb, 1, none⟩ = some (.int .i64 q) := (blk_cell HGB2.out 1).trans rfl; have xs0 : w2.cell? ⟨gb, 2, none⟩ = some (.int .i64 s0) := (blk_cell HGB2.out 2).trans rfl; have xs1 : w2.cell? ⟨gb, 3, none⟩ = some (.int .i64 s1) := (blk_cell HGB2.out 3).trans rfl; have xs2 : w2.cell? ⟨gb, 4, none⟩ = some (.int .i64 s2) := (blk_cell HGB2.out 4).trans rfl; have xs3 : w2.cell? ⟨gb, 5, none⟩ = some (.int .i64 s3) := (blk_cell HGB2.out 5).trans rfl; have xa : w2.cell? ⟨gb, 6, none⟩ = some (.int .i64 a) := (blk_cell HGB2.out 6).trans rfl; have xn : w2.cell? ⟨gb, 7, none⟩ = some (.int .i64 n) := (blk_cell HGB2.out 7).trans rfl; have xt : w2.cell? ⟨gb, 8, none⟩ = some (.string t) := (blk_cell HGB2.out 8).trans rfl
  go_wp2_with fail
  have HB3 := Aside0.mk (HB2.out.alloc HB2.out.size (.cells #[.int .i64 b, .int .i64 q, .int .i64 a, .int .i64 n] 3))
  have HW3 := Aside0.mk (HWR.out.later (below_alloc (Below.refl w2.heap.size w2) (.cells #[.int .i64 b, .int .i64 q, .int .i64 a, .int .i64 n] 3)))
  have HG3 := Aside0.mk (blk_alloc HGB2.out (.cells #[.int .i64 b, .int .i64 q, .int .i64 a, .int .i64 n] 3))
  have HLW : Aside0 (WP < w2.heap.size) := ⟨blk_lt HWR.out.blk⟩
  have hC : Calls Try.prog 38 #[.pointer (some ⟨WP, 0, none⟩), .int .i64 4, .slice (some ⟨w2.heap.size, 0, none⟩) 4 4] (w2.alloc (.cells #[.int .i64 b, .int .i64 q, .int .i64 a, .int .i64 n] 3)) (fun e w' => e = .returned (.tuple #[]) ∧ ∃ v', Writer w' WP WP v' (wnums 4 ([], 0) [b, q, a, n]) ∧ Wrote (w2.alloc (.cells #[.int .i64 b, .int .i64 q, .int .i64 a, .int .i64 n] 3)) w' WP (.slice none 0 0) v') := numbers_calls 4 (by decide) (some ⟨w2.heap.size, 0, none⟩) 4 [b, q, a, n] HW3.out (by have := HLW.out; simp; omega) (by simp) (lit_reads w2 [b, q, a, n] (by simp)) (fun ad e _ => by cases e; exact ⟨by have := HLW.out; show w2.heap.size ≠ WP; omega, by simp [Value.ownBlock]⟩)
  have HC := Aside0.mk hC
  clear hC xb xq xs0 xs1 xs2 xs3 xa xn xt
  ((with_reducible refine HC.out.mono ?_); rintro e w4 ⟨rfl, v4, hw4, hq4⟩)
  have HB4 := Aside0.mk (hq4.below HGE.out (fun k e => by simp [Value.ownBlock] at e) HB3.out HB3.out.size)
  have HG4 := Aside0.mk (blk_wrote HG3.out hq4 (by have := HLT.out; omega) (by simp [Value.ownBlock]))
  have HW4 := Aside0.mk hw4
  clear hw4 hq4 HC HB3 HW3 HG3 HB2 HWR HGB2
  go_wp2_with fail
  have HLB : Aside0 (WP ≤ w4.heap.size) := ⟨Nat.le_of_lt (blk_lt HW4.out.blk)⟩
  have hC : Calls Try.prog 38 #[.pointer (some ⟨WP, 0, none⟩), .int .i64 2, .slice (some ⟨gb, 2, none⟩) 4 4] w4 (fun e w' => e = .returned (.tuple #[]) ∧ ∃ v', Writer w' WP WP v' (wnums 2 (wnums 4 ([], 0) [b, q, a, n]) [s0, s1, s2, s3]) ∧ Wrote w4 w' WP v4 v') := numbers_calls 2 (by decide) (some ⟨gb, 2, none⟩) 4 [s0, s1, s2, s3] HW4.out HLB.out (by have := wnums_length 4 [b, q, a, n] ([], 0); simp at this ⊢; omega) (box_reads HG4.out [s0, s1, s2, s3] (by simp) (by
      intro j hj
      simp at hj
      obtain rfl | rfl | rfl | rfl : j = 0 ∨ j = 1 ∨ j = 2 ∨ j = 3 := (by omega)
      all_goals rfl)) (fun ad e _ => by cases e; exact ⟨by have := HLT.out; show gb ≠ WP; omega, fun e => by have := (brow_lt HW4.out.row gb e).1; have := HLT.out; omega⟩)
  have HC := Aside0.mk hC
  clear hC
  ((with_reducible refine HC.out.mono ?_); rintro e w5 ⟨rfl, v, hw5, hq5⟩)
  have HB5 := Aside0.mk (hq5.below HGE.out (fun k e => Nat.le_trans HGE.out (brow_lt HW4.out.row k e).1) HB4.out HB4.out.size)
  have HGB := Aside0.mk (blk_wrote HG4.out hq5 (by have := HLT.out; omega) (fun e => by have := (brow_lt HW4.out.row gb e).1; have := HLT.out; omega))
  rw [HR0.out] at hw5
  have HLB5 : Aside0 (WP ≤ w5.heap.size) := ⟨Nat.le_of_lt (blk_lt hw5.blk)⟩
  have HW := Aside0.mk hw5
  clear hw5 hq5 HC HW4 HG4 HB4 HLB HLW
  have xe : w5.cell? ⟨WP, 1, none⟩ = some (.int .i64 r.2) := (blk_cell HW.out.blk 1).trans rfl
  rcases HE.out with he | he
  rotate_left
  · have ho : ro = ([], 3) := by rw [HO.out, if_neg (by rw [he]; decide)]
    have HO2 := Aside0.mk ho
    rw [he] at xe
    clear he ho
    go_wp2
    go_quiet (fail)
    go_wp2
    go_ret2
    rw [HO2.out]
    exact ⟨_, rfl, brow_nil _ _, below_drewN HB5.out nq⟩
  · have ho : ro = FO := by rw [HO.out, if_pos he]
    have HO2 := Aside0.mk ho
    rw [he] at xe
    clear he ho
    have HL5 := HLB5
    have HLB : Aside0 (WP ≤ w5.drew.heap.size) := HLB5
    have xv : w5.drew.cell? ⟨WP, 0, none⟩ = some v := (blk_cell (blk_drew HW.out.blk) 0).trans rfl
    have xt : w5.drew.cell? ⟨gb, 8, none⟩ = some (.string t) := (blk_cell (blk_drew HGB.out) 8).trans rfl
    go_upto_region 6 with (fail)
    refine start_ (n := 13) (S := (fun w' => w'.cell? ⟨WP, 0, none⟩ = some v ∧ w'.cell? ⟨gb, 8, none⟩ = some (.string t))) (ds := [8]) #[false, false, false, false, false, false, false, false, false, false, false, false, false] (by kernel_rfl) rfl rfl ⟨xv, xt⟩ (fun hHeld => ?_); refine with_tabW record.tab6 record.bits6 (fun HT_ HW_ => ?_)
    have HD := Aside0.mk (HW.out.later (below_drew (Below.refl w5.heap.size w5)))
    have HBD := Aside0.mk (below_drew HB5.out)
    have hszd : w5.drew.heap.size = w5.heap.size := rfl
    have HGBd := Aside0.mk (blk_drew HGB.out)
    generalize w5.drew = wd at HD HBD hHeld hszd HGBd HLB ⊢
    refine pure_ (i := 0) (N := (some 33)) (v := ?_) (a' := ?_) #[true, false, false, false, false, false, false, false, false, false, false, false, false] rfl rfl (any_of HT_.out (by kernel_rfl)) (fun _ _ _ h => h) (Or.inl ⟨by rfl, ?_⟩) ?_ ?_
    rotate_left
    · intro w'
      go_simp
      with_reducible rfl
    rotate_left
    · simp only [Act.put, List.setIfInBounds_toArray, List.set_cons_zero, List.set_cons_succ, i64_w, i32_w]
      rfl
    refine pure_ (i := 1) (N := (some 34)) (v := ?_) (a' := ?_) #[true, true, false, false, false, false, false, false, false, false, false, false, false] rfl rfl (any_of HT_.out (by kernel_rfl)) (fun _ _ _ h => h) (Or.inl ⟨by rfl, ?_⟩) ?_ ?_
    rotate_left
    · intro w'
      go_simp
      with_reducible rfl
    rotate_left
    · simp only [Act.put, List.setIfInBounds_toArray, List.set_cons_zero, List.set_cons_succ, i64_w, i32_w]
      rfl
    refine pure_ (i := 2) (N := (some 35)) (v := ?_) (a' := ?_) #[true, true, true, false, false, false, false, false, false, false, false, false, false] rfl rfl (any_of HT_.out (by kernel_rfl)) (fun _ _ _ h => h) (Or.inl ⟨by rfl, ?_⟩) ?_ ?_
    rotate_left
    · intro w'
      go_simp
      with_reducible rfl
    rotate_left
    · simp only [Act.put, List.setIfInBounds_toArray, List.set_cons_zero, List.set_cons_succ, i64_w, i32_w]
      rfl
    refine take_ (i := 3) (N := (some 36)) (v := ?_) (a' := ?_) #[true, true, true, true, false, false, false, false, false, false, false, false, false] rfl rfl (take_ofW HT_.out HW_.out (by kernel_rfl)) (fun _ _ _ h => h) (Or.inl ⟨by rfl, ?_⟩) hHeld ?_ ?_
    rotate_left
    · rintro w' ⟨z0, z1⟩
      go_simp
      with_reducible rfl
    rotate_left
    · simp only [Act.put, List.setIfInBounds_toArray, List.set_cons_zero, List.set_cons_succ, i64_w, i32_w]
      rfl
    refine pure_ (i := 4) (N := (some 37)) (v := ?_) (a' := ?_) #[true, true, true, true, true, false, false, false, false, false, false, false, false] rfl rfl (any_of HT_.out (by kernel_rfl)) (fun _ _ _ h => h) (Or.inl ⟨by rfl, ?_⟩) ?_ ?_
    rotate_left
    · intro w'
      go_simp
      with_reducible rfl
    rotate_left
    · simp only [Act.put, List.setIfInBounds_toArray, List.set_cons_zero, List.set_cons_succ, i64_w, i32_w]
      rfl
    refine pure_ (i := 5) (N := (some 38)) (v := ?_) (a' := ?_) #[true, true, true, true, true, true, false, false, false, false, false, false, false] rfl rfl (any_of HT_.out (by kernel_rfl)) (fun _ _ _ h => h) (Or.inl ⟨by rfl, ?_⟩) ?_ ?_
    rotate_left
    · intro w'
      go_simp
      with_reducible rfl
    rotate_left
    · simp only [Act.put, List.setIfInBounds_toArray, List.set_cons_zero, List.set_cons_succ, i64_w, i32_w]
      rfl
    refine take_ (i := 6) (N := (some 39)) (v := ?_) (a' := ?_) #[true, true, true, true, true, true, true, false, false, false, false, false, false] rfl rfl (take_ofW HT_.out HW_.out (by kernel_rfl)) (fun _ _ _ h => h) (Or.inl ⟨by rfl, ?_⟩) hHeld ?_ ?_
    rotate_left
    · rintro w' ⟨z0, z1⟩
      go_simp
      with_reducible rfl
    rotate_left
    · simp only [Act.put, List.setIfInBounds_toArray, List.set_cons_zero, List.set_cons_succ, i64_w, i32_w]
      rfl
    refine one_ (i := 7) (N := (some 40)) #[true, true, true, true, true, true, true, true, false, false, false, false, false] rfl rfl (one_of HT_.out (by kernel_rfl)) (by decide) (fun K hK => ?_)
    refine step_append_str (by rfl) (.tmp 36) (.tmp 39) (by rfl) WP v r.1 (by rfl) HD.out.row t (by rfl) (by omega) HLB.out ?_
    intro v6 w6 ho6 hg6 hat6
    have HR6 := Aside0.mk ho6
    have HB6 := Aside0.mk (HBD.out.grown hg6 HBD.out.size (fun k e => Nat.le_trans HGE.out (brow_lt HD.out.row k e).1))
    have xv6 : w6.cell? ⟨WP, 0, none⟩ = some v := (blk_cell (blk_grown HD.out.blk hg6 (fun e => HD.out.ne e.symm)) 0).trans rfl
    have xt6 : w6.cell? ⟨gb, 8, none⟩ = some (.string t) := (blk_cell (blk_grown HGBd.out hg6 (fun e => by have := (brow_lt HD.out.row gb e.symm).1; have := HLT.out; omega)) 8).trans rfl
    clear ho6 hg6 hat6 hHeld xv xt
    refine hK.out _ _ ⟨xv6, xt6⟩ (fun hHeld => ?_)
    clear hK K
    refine norm_ (a' := ?_) ?_ ?_
    rotate_left
    · show Act.put _ (some 40) _ = _
      simp only [Act.put, List.setIfInBounds_toArray, List.set_cons_zero, List.set_cons_succ, i64_w, i32_w]
      rfl
    refine last_ (i := 8) (N := (some 41)) #[true, true, true, true, true, true, true, true, true, false, false, false, false] rfl rfl (one_of HT_.out (by kernel_rfl)) (by decide) (fun K hK => ?_)
    obtain ⟨A6, k6, hv6, hl6, _⟩ := brow_reads HR6.out
    subst hv6
    have hF := crc_Frame.calls (fun _ => True) A6 k6 (r.1 ++ bytesOf t) _ _ w6 (Kd.R_V HR6.out) HFr.out
    have HF := Aside0.mk hF
    clear hF
    refine goes_ Try.func39 (by kernel_rfl) rfl #[.slice A6 (r.1 ++ bytesOf t).length k6] (by rfl) rfl rfl (by simp [Act.eval]) ?_
    ((with_reducible refine HF.out.mono ?_); rintro e w7 ⟨v7, rfl, hr7, hb7⟩)
    refine ⟨_, rfl, ?_⟩
    have HB7 := Aside0.mk (below_then HB6.out HB6.out.size hb7)
    have HR7 := Aside0.mk (Kd.R_mono hr7 (fun _ _ => trivial) : Kd.R (Kd.int .u8) 5 w7 w6.heap.size (fun _ => True) v7 _)
    have HSZ := Aside0.mk HB6.out.size
    clear hr7 hb7 HF
    obtain ⟨A7, k7, hv7, _, _⟩ := brow_reads HR7.out
    subst hv7
    refine hK.out _ _ ?_
    clear hK K
    refine norm_ (a' := ?_) ?_ ?_
    rotate_left
    · show Act.put _ (some 41) _ = _
      simp only [Act.put, List.setIfInBounds_toArray, List.set_cons_zero, List.set_cons_succ, i64_w, i32_w]
      rfl
    refine pure_ (i := 9) (N := (some 42)) (v := ?_) (a' := ?_) #[true, true, true, true, true, true, true, true, true, true, false, false, false] rfl rfl (any_of HT_.out (by kernel_rfl)) (fun _ _ _ h => h) (Or.inl ⟨by rfl, ?_⟩) ?_ ?_
    rotate_left
    · intro w'
      go_simp
      with_reducible rfl
    rotate_left
    · simp only [Act.put, List.setIfInBounds_toArray, List.set_cons_zero, List.set_cons_succ, i64_w, i32_w]
      rfl
    refine pure_ (i := 10) (N := (some 43)) (v := ?_) (a' := ?_) #[true, true, true, true, true, true, true, true, true, true, true, false, false] rfl rfl (any_of HT_.out (by kernel_rfl)) (fun _ _ _ h => h) (Or.inl ⟨by rfl, ?_⟩) ?_ ?_
    rotate_left
    · intro w'
      go_simp
      with_reducible rfl
    rotate_left
    · simp only [Act.put, List.setIfInBounds_toArray, List.set_cons_zero, List.set_cons_succ, i64_w, i32_w]
      rfl
    refine pure_ (i := 11) (N := (some 2)) (v := ?_) (a' := ?_) #[true, true, true, true, true, true, true, true, true, true, true, true, false] rfl rfl (any_of HT_.out (by kernel_rfl)) (fun _ _ _ h => h) (Or.inl ⟨by rfl, ?_⟩) ?_ ?_
    rotate_left
    · intro w'
      go_simp
      with_reducible rfl
    rotate_left
    · simp only [Act.put, List.setIfInBounds_toArray, List.set_cons_zero, List.set_cons_succ, i64_w, i32_w]
      rfl
    refine pure_ (i := 12) (N := (some 3)) (v := ?_) (a' := ?_) #[true, true, true, true, true, true, true, true, true, true, true, true, true] rfl rfl (any_of HT_.out (by kernel_rfl)) (fun _ _ _ h => h) (Or.inl ⟨by rfl, ?_⟩) ?_ ?_
    rotate_left
    · intro w'
      go_simp
      with_reducible rfl
    rotate_left
    · simp only [Act.put, List.setIfInBounds_toArray, List.set_cons_zero, List.set_cons_succ, i64_w, i32_w]
      rfl
    refine done_ (done_of HT_.out (by kernel_rfl)) ?_
    go_wp2
    go_ret2
    rw [HO2.out]
    exact ⟨_, rfl, brow_less HR7.out HSZ.out, HB7.out⟩
end Go.Proofs.Ytacecaacpagokaa.Codec
