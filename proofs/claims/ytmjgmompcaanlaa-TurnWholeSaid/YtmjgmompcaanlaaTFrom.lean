/- The spectrum of four sums that the program makes: a contract. -/
import Derived.Test.YtmjgmompcaanlaaTRefOf
namespace Go.Proofs.Ytmjgmompcaanlaa.Turn
open Go.RowKit Go.Proofs.Ytmjgmompcaanlaa.PlainFloat Go.Proofs.YtmjgmompcaanlaaW.PrintWords
set_option linter.unusedVariables false
set_option linter.unusedSimpArgs false
attribute [local go_sem] run_store_complex
/-- A sum that may stand in a spectrum. -/
def Sum (x : Int) : Prop := 0 ≤ x ∧ x ≤ 1099511627776
theorem big_mul {c p : Int} (h : Sum c) (p0 : -1 ≤ p) (p1 : p ≤ 1) : -1099511627776 ≤ c * p ∧ c * p ≤ 1099511627776 := by
  unfold Sum at h
  have : p = -1 ∨ p = 0 ∨ p = 1 := by omega
  rcases this with rfl | rfl | rfl <;> omega
def Sums4 (l : List Int) : Prop := l.length = 4 ∧ ∀ i : Int, Sum (rd l i)
theorem fr_big {l : List Int} (h : Sums4 l) (q j : Nat) : -1099511627776 * (j : Int) ≤ fr l q j ∧ fr l q j ≤ 1099511627776 * j := by
  induction j with
  | zero => exact ⟨by simp [fr], by simp [fr]⟩
  | succ j ih =>
    have hp := pr_small ((q : Int) * ((j : Int) % 4))
    have := big_mul (h.2 j) hp.1 hp.2
    simp only [fr, Int.zero_mul]
    omega
theorem fi_big {l : List Int} (h : Sums4 l) (q j : Nat) : -1099511627776 * (j : Int) ≤ fi l q j ∧ fi l q j ≤ 1099511627776 * j := by
  induction j with
  | zero => exact ⟨by simp [fi], by simp [fi]⟩
  | succ j ih =>
    have hp := pi_small ((q : Int) * ((j : Int) % 4))
    have := big_mul (h.2 j) hp.1 hp.2
    simp only [fi, Int.zero_mul]
    omega
theorem sums4_of {s0 s1 s2 s3 : Int} (h0 : Sum s0) (h1 : Sum s1) (h2 : Sum s2) (h3 : Sum s3) : Sums4 [s0, s1, s2, s3] := by
  refine ⟨rfl, fun i => ?_⟩
  have h : i.toNat = 0 ∨ i.toNat = 1 ∨ i.toNat = 2 ∨ i.toNat = 3 ∨ 4 ≤ i.toNat := by omega
  unfold rd
  rcases h with h | h | h | h | h
  · rw [h]; exact h0
  · rw [h]; exact h1
  · rw [h]; exact h2
  · rw [h]; exact h3
  · rw [List.getD_eq_getElem?_getD, List.getElem?_eq_none (show ([s0, s1, s2, s3] : List Int).length ≤ i.toNat from h)]
    exact ⟨by decide, by decide⟩
theorem sidx0 (s0 s1 s2 s3 : Int) (W : World) : (Instr.index 33 (.agg #[.int .i64 s0, .int .i64 s1, .int .i64 s2, .int .i64 s3]) (.int .i64 0)).run Try.prog W = .ok (.int .i64 s0) W := by kernel_rfl
theorem sidx1 (s0 s1 s2 s3 : Int) (W : World) : (Instr.index 33 (.agg #[.int .i64 s0, .int .i64 s1, .int .i64 s2, .int .i64 s3]) (.int .i64 1)).run Try.prog W = .ok (.int .i64 s1) W := by kernel_rfl
theorem sidx2 (s0 s1 s2 s3 : Int) (W : World) : (Instr.index 33 (.agg #[.int .i64 s0, .int .i64 s1, .int .i64 s2, .int .i64 s3]) (.int .i64 2)).run Try.prog W = .ok (.int .i64 s2) W := by kernel_rfl
theorem sidx3 (s0 s1 s2 s3 : Int) (W : World) : (Instr.index 33 (.agg #[.int .i64 s0, .int .i64 s1, .int .i64 s2, .int .i64 s3]) (.int .i64 3)).run Try.prog W = .ok (.int .i64 s3) W := by kernel_rfl
theorem sidx (s0 s1 s2 s3 : Int) {r : Nat} (h : r < 4) (W : World) : (Instr.index 33 (.agg #[.int .i64 s0, .int .i64 s1, .int .i64 s2, .int .i64 s3]) (.int .i64 (r : Int))).run Try.prog W = .ok (.int .i64 (rd [s0, s1, s2, s3] (r : Int))) W := by
  match r, h with
  | 0, _ => exact sidx0 s0 s1 s2 s3 W
  | 1, _ => exact sidx1 s0 s1 s2 s3 W
  | 2, _ => exact sidx2 s0 s1 s2 s3 W
  | 3, _ => exact sidx3 s0 s1 s2 s3 W
set_option maxHeartbeats 2000000 in
set_option maxRecDepth 100000 in
theorem from_calls (l : List Int) (s0 s1 s2 s3 : Int) (hl : l = [s0, s1, s2, s3]) (w : World) (h : Sums4 l) :
  Calls Try.prog 14 #[.agg #[.int .i64 s0, .int .i64 s1, .int .i64 s2, .int .i64 s3]] w fun e w' => ∃ v, e = .returned (.tuple #[v, .int .i64 0]) ∧ SpecV v (fun q => fr l q 4) (fun q => fi l q 4) ∧ Below w.heap.size w w' := by
  have HY := Aside0.mk h
  clear h
  have hix : ∀ (r : Nat) (W : World), r < 4 → (Instr.index 33 (.agg #[.int .i64 s0, .int .i64 s1, .int .i64 s2, .int .i64 s3]) (.int .i64 (r : Int))).run Try.prog W = .ok (.int .i64 (rd l (r : Int))) W := fun r W h => by rw [hl]; exact sidx s0 s1 s2 s3 h W
  have HIX := Aside0.mk hix
  clear hl hix
  have hu := Try.underlying33
  go_enter Try.func14, Try.ntmps14
  go_wp2
  go_loopw [9] (fun i wr => ∃ j : Nat, j ≤ 4 ∧ i = .int .i64 j ∧ Aside0 (wr.heap[w.heap.size + 1]? = some (.cells #[.complex .f64 0 0, .complex .f64 0 0, .complex .f64 0 0, .complex .f64 0 0] 26 (0, 0))) ∧ Aside0 (Holds 26 wr (w.heap.size + 1 + 1) (fun q => fr l q j) (fun q => fi l q j)) ∧ Aside0 (Below w.heap.size w wr)) (fun i _ => 4 - (intOf i).toNat)
  case atStart =>
    refine ⟨0, Nat.zero_le _, rfl, ⟨?_⟩, ⟨Holds.zero ?_⟩, ⟨?_⟩⟩
    · refine blk_alloc ?_ _
      have := blk_new (w.alloc (.cells #[.int .i64 s0, .int .i64 s1, .int .i64 s2, .int .i64 s3] 33)) (.cells #[.complex .f64 0 0, .complex .f64 0 0, .complex .f64 0 0, .complex .f64 0 0] 26)
      simpa using this
    · have := blk_new ((w.alloc (.cells #[.int .i64 s0, .int .i64 s1, .int .i64 s2, .int .i64 s3] 33)).alloc (.cells #[.complex .f64 0 0, .complex .f64 0 0, .complex .f64 0 0, .complex .f64 0 0] 26)) (.cells #[.complex .f64 0 0, .complex .f64 0 0, .complex .f64 0 0, .complex .f64 0 0] 26)
      simpa using this
    · exact (((Below.refl _ _).alloc (Nat.le_refl _) _).alloc (by simp) _).alloc (by simp; omega) _
  case round =>
    obtain ⟨j, hj, rfl, HK, HH, HB⟩ := hrel
    by_cases hlt : j < 4
    · obtain ⟨x, hxe⟩ : ∃ x, rd l (j : Int) = x := ⟨_, rfl⟩
      have hx : 0 ≤ x ∧ x ≤ 1099511627776 := by have := HY.out.2 (j : Int); rw [hxe] at this; exact this
      obtain ⟨hx0, hx1⟩ := hx
      have hidx := fun W => HIX.out j W hlt
      rw [hxe] at hidx
      have hji : (j : Int) < 4 := by omega
      have HX := Aside0.mk hxe
      clear hxe
      obtain ⟨wo, hwo⟩ : ∃ wo : World, wo = wr := ⟨_, rfl⟩
      subst hwo
      go_wp2
      go_loopw [20] (fun i wr => ∃ k : Nat, k ≤ 4 ∧ i = .int .i64 k ∧ Aside0 (wr.heap[w.heap.size + 1]? = some (.cells #[.complex .f64 0 0, .complex .f64 0 0, .complex .f64 0 0, .complex .f64 0 0] 26 (0, 0))) ∧ Aside0 (Holds 26 wr (w.heap.size + 1 + 1) (fun q => if q < k then fr l q (j + 1) else fr l q j) (fun q => if q < k then fi l q (j + 1) else fi l q j)) ∧ Aside0 (Below w.heap.size w wr)) (fun i _ => 4 - (intOf i).toNat)
      case atStart =>
        exact ⟨0, Nat.zero_le _, rfl, HK, ⟨HH.out.same (fun q _ => ⟨by rw [if_neg (by omega)], by rw [if_neg (by omega)]⟩)⟩, HB⟩
      case round =>
        obtain ⟨k, hk, rfl, HK, HH, HB⟩ := hrel
        by_cases hkl : k < 4
        · obtain ⟨a, b, hcl, ra, rb, hfz⟩ := HH.out.cell hkl
          simp only [Nat.lt_irrefl, if_false] at ra rb
          have hfr := fr_big HY.out k j
          have hfi := fi_big HY.out k j
          obtain ⟨m, hm⟩ : ∃ m : Int, (k : Int) * (j : Int) = m := ⟨_, rfl⟩
          have hpr := pr_small m
          have hpi := pi_small m
          have hxr := big_mul (c := x) ⟨hx0, hx1⟩ hpr.1 hpr.2
          have hxi := big_mul (c := x) ⟨hx0, hx1⟩ hpi.1 hpi.2
          obtain ⟨re, im, em, rre, rim⟩ := mul_rep (of_int (x := x) (by omega)) rep_zero (prb_rep m) (pib_rep m) (by omega) (by simp) (by omega) (by simp) (by simp; omega) (by simp; omega)
          obtain ⟨re2, im2, es, rs, is⟩ := sum_rep ra rb rre rim (by simp; omega) (by simp; omega)
          have HMa := Aside0.mk rs
          have HMb := Aside0.mk is
          clear rs is rre rim ra rb hfr hfi hpr hpi hxr hxi
          have em2 : cMulBits (floatOfInt .f64 x) 0 (prb m) (pib m) = some (re, im) := em
          have hmul := fun W => run_complex_mul (P := Try.prog) W 24 _ _ _ _ _ _ em2
          have hadd := fun W => run_complex_sum (P := Try.prog) W .add (Or.inl rfl) 24 .f64 _ _ _ _ _ _ es
          have hw : IntKind.i64.wrap ((k : Int) * (j : Int)) = m := by rw [hm, IntKind.wrap_i64]; have : 0 ≤ (k : Int) * (j : Int) := Int.mul_nonneg (by omega) (by omega); have : (k : Int) * (j : Int) ≤ 4 * 4 := Int.mul_le_mul (by omega) (by omega) (by omega) (by omega); omega
          have HM := Aside0.mk hm
          clear em em2 es hm
          go_wp2
          go_still_tail 12, (by kernel_rfl)
          still_call (power_still m _)
          repeat still_step
          refine wpStill_nil ?_
          change wpList _ _ _ _ _ wr.drew
          go_wp2
          go_roundw
          case rel =>
            refine ⟨k + 1, by omega, by go_num, ⟨blk_drew (blk_far HK.out (by simp) _)⟩, ⟨?_⟩, ⟨below_drew (below_set' HB.out (by simp; omega) _)⟩⟩
            refine Holds.to (W := wr.setCell ⟨w.heap.size + 1 + 1, k, none⟩ (.complex .f64 re2 im2)) ?_ rfl
            have hxk : rd l (j : Int) = x := HX.out
            have hj4 : (k : Int) * ((j : Int) % 4) = m := by rw [← HM.out, show (j : Int) % 4 = j by omega]
            refine HH.out.put hkl (x' := fun q => if q < k + 1 then fr l q (j + 1) else fr l q j) (y' := fun q => if q < k + 1 then fi l q (j + 1) else fi l q j) ?_ ?_ ?_
            · rw [if_pos (by omega)]
              simp only [fr]
              rw [hxk, hj4]
              exact HMa.out
            · rw [if_pos (by omega)]
              simp only [fi]
              rw [hxk, hj4]
              exact HMb.out
            · intro p hp hne
              by_cases hpk : p < k
              · simp only [if_pos hpk, if_pos (show p < k + 1 by omega), and_self]
              · simp only [if_neg hpk, if_neg (show ¬ p < k + 1 by omega), and_self]
          case measure => simp [intOf]; omega
        · obtain rfl : k = 4 := by omega
          go_wp2
          go_roundw
          case rel =>
            refine ⟨j + 1, by omega, by go_num, HK, ⟨HH.out.same (fun q hq => ⟨by rw [if_pos hq], by rw [if_pos hq]⟩)⟩, HB⟩
          case measure => simp [intOf]; omega
    · obtain rfl : j = 4 := by omega
      clear hj hlt
      obtain ⟨a0, b0, a1, b1, a2, b2, a3, b3, hk4_, r0, r1, r2, r3⟩ := HH.out.four
      have HK4 := Aside0.mk hk4_
      have HR4 := Aside0.mk (And.intro r0 (And.intro r1 (And.intro r2 r3)))
      clear hk4_ r0 r1 r2 r3 HH
      have c0 : wr.cell? ⟨w.heap.size + 1 + 1, 0, none⟩ = some (.complex .f64 a0 b0) := (blk_cell HK4.out 0).trans rfl
      have c1 : wr.cell? ⟨w.heap.size + 1 + 1, 1, none⟩ = some (.complex .f64 a1 b1) := (blk_cell HK4.out 1).trans rfl
      have c2 : wr.cell? ⟨w.heap.size + 1 + 1, 2, none⟩ = some (.complex .f64 a2 b2) := (blk_cell HK4.out 2).trans rfl
      have c3 : wr.cell? ⟨w.heap.size + 1 + 1, 3, none⟩ = some (.complex .f64 a3 b3) := (blk_cell HK4.out 3).trans rfl
      have z0 : wr.cell? ⟨w.heap.size + 1, 0, none⟩ = some (.complex .f64 0 0) := (blk_cell HK.out 0).trans rfl
      have f0 := blk_frozen HK.out 0
      have z1 : wr.cell? ⟨w.heap.size + 1, 1, none⟩ = some (.complex .f64 0 0) := (blk_cell HK.out 1).trans rfl
      have f1 := blk_frozen HK.out 1
      have z2 : wr.cell? ⟨w.heap.size + 1, 2, none⟩ = some (.complex .f64 0 0) := (blk_cell HK.out 2).trans rfl
      have f2 := blk_frozen HK.out 2
      have z3 : wr.cell? ⟨w.heap.size + 1, 3, none⟩ = some (.complex .f64 0 0) := (blk_cell HK.out 3).trans rfl
      have f3 := blk_frozen HK.out 3
      go_wp2
      refine bodyPost_ret (results_ct (fn := Try.f14) rfl _ _ (w.heap.size + 1) 26 #[.complex .f64 a0 b0, .complex .f64 a1 b1, .complex .f64 a2 b2, .complex .f64 a3 b3] (0, 0) _ rfl ?_ Try.underlying26 rfl (by kernel_rfl)) rfl ?_
      · refine blk_put (cs := #[.complex .f64 a0 b0, .complex .f64 a1 b1, .complex .f64 a2 b2, .complex .f64 0 0]) ?_ 3 _ rfl
        refine blk_put (cs := #[.complex .f64 a0 b0, .complex .f64 a1 b1, .complex .f64 0 0, .complex .f64 0 0]) ?_ 2 _ rfl
        refine blk_put (cs := #[.complex .f64 a0 b0, .complex .f64 0 0, .complex .f64 0 0, .complex .f64 0 0]) ?_ 1 _ rfl
        refine blk_put (cs := #[.complex .f64 0 0, .complex .f64 0 0, .complex .f64 0 0, .complex .f64 0 0]) ?_ 0 _ rfl
        exact HK.out
      · refine ⟨_, rfl, ⟨a0, b0, a1, b1, a2, b2, a3, b3, rfl, HR4.out⟩, ?_⟩
        exact below_set' (below_set' (below_set' (below_set' HB.out (Nat.le_succ _) _) (Nat.le_succ _) _) (Nat.le_succ _) _) (Nat.le_succ _) _
end Go.Proofs.Ytmjgmompcaanlaa.Turn
