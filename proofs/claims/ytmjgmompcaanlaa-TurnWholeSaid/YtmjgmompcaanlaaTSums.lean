/- The four sums of a spectrum that the program makes: a contract. -/
import Derived.Test.YtmjgmompcaanlaaTSumsPlain
import Derived.WalkLawsBesides
namespace Go.Proofs.Ytmjgmompcaanlaa.Turn
open Go.RowKit Go.Proofs.Ytmjgmompcaanlaa.PlainFloat Go.Proofs.YtmjgmompcaanlaaW.PrintWords
set_option linter.unusedVariables false
set_option linter.unusedSimpArgs false
attribute [local go_sem] run_store_complex
set_option maxHeartbeats 4000000 in
set_option maxRecDepth 100000 in
theorem sums_calls (l : List Int) (s0 s1 s2 s3 : Int) (hl : l = [s0, s1, s2, s3]) (v : Value) (w : World) (h : Sums4 l) (hv : SpecV v (fun q => fr l q 4) (fun q => fi l q 4)) :
  Calls Try.prog 12 #[v] w fun e w' => e = .returned (.tuple #[.agg #[.int .i64 s0, .int .i64 s1, .int .i64 s2, .int .i64 s3], .int .i64 0]) ∧ Below w.heap.size w w' := by
  have HY := Aside0.mk h
  have HL := Aside0.mk hl
  clear h hl
  obtain ⟨a0, b0, a1, b1, a2, b2, a3, b3, rfl, hv⟩ := hv
  have HV := Aside0.mk hv
  clear hv
  have hu := Try.underlying26
  go_enter Try.func12, Try.ntmps12
  go_wp2
  go_loopw [11] (fun i wr => ∃ r : Nat, r ≤ 4 ∧ i = .int .i64 r ∧ Aside0 (wr.heap[w.heap.size]? = some (.cells #[.complex .f64 a0 b0, .complex .f64 a1 b1, .complex .f64 a2 b2, .complex .f64 a3 b3] 26 (0, 0))) ∧ Aside0 (wr.heap[w.heap.size + 1]? = some (.cells #[.int .i64 0, .int .i64 0, .int .i64 0, .int .i64 0] 33 (0, 0))) ∧ Aside0 (HoldsI 33 wr (w.heap.size + 1 + 1) (fun q => if q < r then rd l (q : Int) else 0)) ∧ Aside0 (Below w.heap.size w wr)) (fun i _ => 4 - (intOf i).toNat)
  case atStart =>
    refine ⟨0, Nat.zero_le _, rfl, ⟨?_⟩, ⟨?_⟩, ⟨0, 0, 0, 0, ?_, rfl, rfl, rfl, rfl⟩, ⟨?_⟩⟩
    · exact blk_alloc (blk_alloc (blk_new w _) _) _
    · refine blk_alloc ?_ _
      have := blk_new (w.alloc (.cells #[.complex .f64 a0 b0, .complex .f64 a1 b1, .complex .f64 a2 b2, .complex .f64 a3 b3] 26)) (.cells #[.int .i64 0, .int .i64 0, .int .i64 0, .int .i64 0] 33)
      simpa using this
    · have := blk_new ((w.alloc (.cells #[.complex .f64 a0 b0, .complex .f64 a1 b1, .complex .f64 a2 b2, .complex .f64 a3 b3] 26)).alloc (.cells #[.int .i64 0, .int .i64 0, .int .i64 0, .int .i64 0] 33)) (.cells #[.int .i64 0, .int .i64 0, .int .i64 0, .int .i64 0] 33)
      simpa using this
    · exact (((Below.refl _ _).alloc (Nat.le_refl _) _).alloc (by simp) _).alloc (by simp; omega) _
  case round =>
    obtain ⟨r, hrr, rfl, HK0, HK1, HH, HB⟩ := hrel
    by_cases hlt : r < 4
    · have hri : (r : Int) < 4 := by omega
      have hri0 : (0 : Int) ≤ (r : Int) := by omega
      obtain ⟨wo, hwo⟩ : ∃ wo : World, wo = wr := ⟨_, rfl⟩
      subst hwo
      go_wp2
      go_loopw [6, 14] (fun u i wr => ∃ (k a b : Nat), k ≤ 4 ∧ i = .int .i64 k ∧ u = .complex .f64 a b ∧ Aside0 (Rep a (hr l r k) ∧ Rep b (hi l r k)) ∧ Aside0 (wr.heap[w.heap.size]? = some (.cells #[.complex .f64 a0 b0, .complex .f64 a1 b1, .complex .f64 a2 b2, .complex .f64 a3 b3] 26 (0, 0))) ∧ Aside0 (wr.heap[w.heap.size + 1]? = some (.cells #[.int .i64 0, .int .i64 0, .int .i64 0, .int .i64 0] 33 (0, 0))) ∧ Aside0 (HoldsI 33 wr (w.heap.size + 1 + 1) (fun q => if q < r then rd l (q : Int) else 0)) ∧ Aside0 (Below w.heap.size w wr)) (fun _ i _ => 4 - (intOf i).toNat)
      case atStart =>
        exact ⟨0, 0, 0, Nat.zero_le _, rfl, rfl, ⟨rep_zero, rep_zero⟩, HK0, HK1, HH, HB⟩
      case round =>
        obtain ⟨k, a, b, hk, rfl, rfl, HAB, HK0, HK1, HH, HB⟩ := hrel
        by_cases hkl : k < 4
        · obtain ⟨c, d, hcl, rc, rd', hfz⟩ := (Holds.of_four (x := fun q => fr l q 4) (y := fun q => fi l q 4) HK0.out HV.out).cell hkl
          have hki : (k : Int) < 4 := by omega
          obtain ⟨hA, hB⟩ := h_small HY.out r k
          obtain ⟨t1, t2, t3, t4⟩ := term_small HY.out k r
          obtain ⟨m, hm⟩ : ∃ m : Int, -(k : Int) * (r : Int) = m := ⟨_, rfl⟩
          have hmr : m = -((k : Int) * (r : Int)) := by rw [← hm, Int.neg_mul]
          rw [hm] at t1 t2 t3 t4
          obtain ⟨re, im, em, rre, rim⟩ := mul_rep rc rd' (prb_rep m) (pib_rep m) (by omega) (by omega) (by omega) (by omega) (by omega) (by omega)
          obtain ⟨re2, im2, es, rs, is⟩ := sum_rep HAB.out.1 HAB.out.2 rre rim (by omega) (by omega)
          have HMa := Aside0.mk rs
          have HMb := Aside0.mk is
          clear rs is rre rim rc rd' hA hB t1 t2 t3 t4
          have hmul := fun W => run_complex_mul (P := Try.prog) W 24 _ _ _ _ _ _ em
          have hadd := fun W => run_complex_sum (P := Try.prog) W .add (Or.inl rfl) 24 .f64 _ _ _ _ _ _ es
          have hbd : 0 ≤ (k : Int) * (r : Int) ∧ (k : Int) * (r : Int) ≤ 4 * 4 := ⟨Int.mul_nonneg (by omega) (by omega), Int.mul_le_mul (by omega) (by omega) (by omega) (by omega)⟩
          have hw : IntKind.i64.wrap (-(k : Int) * (r : Int)) = m := by rw [hm, hmr, IntKind.wrap_i64]; omega
          have hw2 : IntKind.i64.wrap (-(k : Int)) = -(k : Int) := by rw [IntKind.wrap_i64]; omega
          have HM := Aside0.mk hm
          clear em es hm hbd hmr
          go_wp2
          refine wp_region_still_lit (by kernel_rfl) (by kernel_rfl) ?_
          repeat still_step
          still_call (power_still m _)
          repeat still_step
          refine wpStill_nil ?_
          go_wp2
          go_roundw
          case rel =>
            refine ⟨k + 1, re2, im2, by omega, by go_num, rfl, ⟨?_, ?_⟩, ⟨blk_drew HK0.out⟩, ⟨blk_drew HK1.out⟩, ⟨HH.out.to rfl⟩, ⟨below_drew HB.out⟩⟩
            · simp only [hr]
              rw [HM.out]
              exact HMa.out
            · simp only [hi]
              rw [HM.out]
              exact HMb.out
          case measure => simp [intOf]; omega
        · obtain rfl : k = 4 := by omega
          have h4 : hr l r 4 = 4 * rd l (r : Int) := by rw [HL.out]; exact hr4 s0 s1 s2 s3 hlt
          have rq := HAB.out.1
          rw [h4] at rq
          have hsx := HY.out.2 (r : Int)
          obtain ⟨x, hx⟩ : ∃ x, rd l (r : Int) = x := ⟨_, rfl⟩
          rw [hx] at rq hsx
          obtain ⟨z, ez, rz⟩ := rq.quarter
          have hdiv := fun W => run_float_arith (P := Try.prog) W .quo 40 .f64 a 4616189618054758400 z ez
          have hge := geq_bool rz rep_zero hsx.1
          have hle := leq_bool rz rep_most hsx.2
          have hcv := fun W => run_convert_float_int (P := Try.prog) W 40 3 .f64 .i64 z x (by kernel_rfl) (by kernel_rfl) (int_rep rz hsx)
          obtain ⟨hcl, hfz⟩ := HH.out.cell hlt
          simp only [Nat.lt_irrefl, if_false] at hcl
          have HX := Aside0.mk hx
          have RZ := Aside0.mk rz
          clear hx rz rq h4 ez hsx hk hkl
          go_wp2_with fail
          refine (trunc z x RZ.out _).mono ?_
          rintro e w2 ⟨z2, rfl, hz2, rfl⟩
          have hne := same_ord RZ.out hz2
          clear hz2
          go_wp2
          go_roundw
          case rel =>
            refine ⟨r + 1, by omega, by go_num, ⟨blk_far HK0.out (by simp; omega) _⟩, ⟨blk_far HK1.out (by simp) _⟩, ⟨?_⟩, ⟨below_set' HB.out (by simp; omega) _⟩⟩
            have hp := HoldsI.put (x' := fun q => if q < r + 1 then rd l (q : Int) else 0) HH.out hlt (by
              intro p hp hne
              by_cases hpk : p < r
              · simp only [if_pos hpk, if_pos (show p < r + 1 by omega)]
              · simp only [if_neg hpk, if_neg (show ¬ p < r + 1 by omega)])
            simp only [if_pos (show r < r + 1 by omega)] at hp
            rw [HX.out] at hp
            exact hp
          case measure => simp [intOf]; omega
    · obtain rfl : r = 4 := by omega
      clear hrr hlt
      have hk2 : wr.heap[w.heap.size + 1 + 1]? = some (.cells #[.int .i64 s0, .int .i64 s1, .int .i64 s2, .int .i64 s3] 33 (0, 0)) := by
        obtain ⟨t0, t1, t2, t3, hb, e0, e1, e2, e3⟩ := HH.out
        have hL := HL.out
        subst hL
        have e0 : s0 = t0 := e0
        have e1 : s1 = t1 := e1
        have e2 : s2 = t2 := e2
        have e3 : s3 = t3 := e3
        rw [hb, e0, e1, e2, e3]
      have HK2 := Aside0.mk hk2
      clear hk2
      have kc0 : wr.cell? ⟨w.heap.size + 1 + 1, 0, none⟩ = some (.int .i64 s0) := (blk_cell HK2.out 0).trans rfl
      have kc1 : wr.cell? ⟨w.heap.size + 1 + 1, 1, none⟩ = some (.int .i64 s1) := (blk_cell HK2.out 1).trans rfl
      have kc2 : wr.cell? ⟨w.heap.size + 1 + 1, 2, none⟩ = some (.int .i64 s2) := (blk_cell HK2.out 2).trans rfl
      have kc3 : wr.cell? ⟨w.heap.size + 1 + 1, 3, none⟩ = some (.int .i64 s3) := (blk_cell HK2.out 3).trans rfl
      go_wp2_with fail
      refine (from_calls l s0 s1 s2 s3 HL.out _ HY.out).mono ?_
      rintro e w1 ⟨v, rfl, hs, hb1⟩
      have heq := fun W => (spec_neq hs ⟨a0, b0, a1, b1, a2, b2, a3, b3, rfl, HV.out⟩ W).trans (by rw [alike_same (fun q _ => ⟨rfl, rfl⟩)])
      have hg := fun p q W => spec_guard_neq hs (x' := fun q => fr l q 4) (y' := fun q => fi l q 4) ⟨a0, b0, a1, b1, a2, b2, a3, b3, rfl, HV.out⟩ p q W
      obtain ⟨c0, d0, c1, d1, c2, d2, c3, d3, rfl, hs⟩ := hs
      clear hs kc0 kc1 kc2 kc3
      have HB1 := Aside0.mk (below_then HB.out HB.out.size hb1)
      have N0 := blk_below HK0.out hb1
      have N1 := blk_below HK1.out hb1
      have N2 := blk_below HK2.out hb1
      have L0 := blk_lt N0
      have L1 := blk_lt N1
      have L2 := blk_lt N2
      have M0 := Aside0.mk N0
      have M1 := Aside0.mk N1
      have M2 := Aside0.mk N2
      clear N0 N1 N2 hb1
      have p0 : w1.cell? ⟨w.heap.size, 0, none⟩ = some (.complex .f64 a0 b0) := (blk_cell M0.out 0).trans rfl
      have p1 : w1.cell? ⟨w.heap.size, 1, none⟩ = some (.complex .f64 a1 b1) := (blk_cell M0.out 1).trans rfl
      have p2 : w1.cell? ⟨w.heap.size, 2, none⟩ = some (.complex .f64 a2 b2) := (blk_cell M0.out 2).trans rfl
      have p3 : w1.cell? ⟨w.heap.size, 3, none⟩ = some (.complex .f64 a3 b3) := (blk_cell M0.out 3).trans rfl
      have q0 : w1.cell? ⟨w.heap.size + 1, 0, none⟩ = some (.int .i64 0) := (blk_cell M1.out 0).trans rfl
      have f0 := blk_frozen M1.out 0
      have q1 : w1.cell? ⟨w.heap.size + 1, 1, none⟩ = some (.int .i64 0) := (blk_cell M1.out 1).trans rfl
      have f1 := blk_frozen M1.out 1
      have q2 : w1.cell? ⟨w.heap.size + 1, 2, none⟩ = some (.int .i64 0) := (blk_cell M1.out 2).trans rfl
      have f2 := blk_frozen M1.out 2
      have q3 : w1.cell? ⟨w.heap.size + 1, 3, none⟩ = some (.int .i64 0) := (blk_cell M1.out 3).trans rfl
      have f3 := blk_frozen M1.out 3
      have r0 : w1.cell? ⟨w.heap.size + 1 + 1, 0, none⟩ = some (.int .i64 s0) := (blk_cell M2.out 0).trans rfl
      have r1 : w1.cell? ⟨w.heap.size + 1 + 1, 1, none⟩ = some (.int .i64 s1) := (blk_cell M2.out 1).trans rfl
      have r2 : w1.cell? ⟨w.heap.size + 1 + 1, 2, none⟩ = some (.int .i64 s2) := (blk_cell M2.out 2).trans rfl
      have r3 : w1.cell? ⟨w.heap.size + 1 + 1, 3, none⟩ = some (.int .i64 s3) := (blk_cell M2.out 3).trans rfl
      go_wp2
      refine bodyPost_ret (results_ct (fn := Try.f12) rfl _ _ (w.heap.size + 1) 33 #[.int .i64 s0, .int .i64 s1, .int .i64 s2, .int .i64 s3] (0, 0) _ rfl ?_ Try.underlying33 rfl (by kernel_rfl)) rfl ?_
      · refine blk_alloc ?_ _
        refine blk_put (cs := #[.int .i64 s0, .int .i64 s1, .int .i64 s2, .int .i64 0]) ?_ 3 _ rfl
        refine blk_put (cs := #[.int .i64 s0, .int .i64 s1, .int .i64 0, .int .i64 0]) ?_ 2 _ rfl
        refine blk_put (cs := #[.int .i64 s0, .int .i64 0, .int .i64 0, .int .i64 0]) ?_ 1 _ rfl
        refine blk_put (cs := #[.int .i64 0, .int .i64 0, .int .i64 0, .int .i64 0]) ?_ 0 _ rfl
        exact M1.out
      · refine ⟨rfl, ?_⟩
        exact (below_set' (below_set' (below_set' (below_set' HB1.out (Nat.le_succ _) _) (Nat.le_succ _) _) (Nat.le_succ _) _) (Nat.le_succ _) _).alloc (by simp; omega) _
end Go.Proofs.Ytmjgmompcaanlaa.Turn
