/- The spectrum of bytes that the program makes: a contract. -/
import Derived.Test.YtmjgmompcaanlaaTOfPlain
import Derived.StillTailTactics
import Derived.Deep.LoopGhost
namespace Go.Proofs.Ytmjgmompcaanlaa.Turn
open Go.RowKit Go.Proofs.Ytmjgmompcaanlaa.PlainFloat Go.Proofs.YtmjgmompcaanlaaW.PrintWords
set_option linter.unusedVariables false
set_option linter.unusedSimpArgs false
attribute [local go_sem] run_store_complex
set_option maxHeartbeats 2000000 in
set_option maxRecDepth 100000 in
theorem of_calls (A : Option Addr) (c : Nat) (l : List Int) (w : World) (hr : ReadsInt w .u8 A l.length l) (hb : ByteList l) (hl : l.length ≤ 4194304) :
  Calls Try.prog 8 #[.slice A l.length c] w fun e w' => ∃ v, e = .returned v ∧ SpecV v (fun q => fr l q l.length) (fun q => fi l q l.length) ∧ Below w.heap.size w w' := by
  have HR := Aside0.mk hr
  have HY := Aside0.mk hb
  clear hr hb
  go_enter Try.func8, Try.ntmps8
  go_wp2
  go_loopw [9] (fun i wr => ∃ j : Nat, j ≤ l.length ∧ i = .int .i64 j ∧ Aside0 (wr.heap[w.heap.size]? = some (.cells #[.complex .f64 0 0, .complex .f64 0 0, .complex .f64 0 0, .complex .f64 0 0] 26 (0, 0))) ∧ Aside0 (Holds 26 wr (w.heap.size + 1) (fun q => fr l q j) (fun q => fi l q j)) ∧ Aside0 (Below w.heap.size w wr)) (fun i _ => l.length - (intOf i).toNat)
  case atStart =>
    exact ⟨0, Nat.zero_le _, rfl, ⟨blk_alloc (blk_new w _) _⟩, ⟨Holds.zero (by have := blk_new (w.alloc (.cells #[.complex .f64 0 0, .complex .f64 0 0, .complex .f64 0 0, .complex .f64 0 0] 26)) (.cells #[.complex .f64 0 0, .complex .f64 0 0, .complex .f64 0 0, .complex .f64 0 0] 26); simpa using this)⟩, ⟨((Below.refl _ _).alloc (Nat.le_refl _) _).alloc (by simp) _⟩⟩
  case round =>
    obtain ⟨j, hj, rfl, HK, HH, HB⟩ := hrel
    by_cases hlt : j < l.length
    · obtain ⟨ad, e, hc⟩ := HR.out.2.2 (by omega)
      have hcell := pw_cell_below HB.out (hc j hlt)
      obtain ⟨x, hxe⟩ : ∃ x, l.getD j 0 = x := ⟨_, rfl⟩
      rw [hxe] at hcell
      have hx : 0 ≤ x ∧ x ≤ 255 := by have := HY.out j; rw [show rd l (j : Int) = x from hxe] at this; exact this
      have HX := Aside0.mk hxe
      clear hxe hc
      subst e
      obtain ⟨wo, hwo⟩ : ∃ wo : World, wo = wr := ⟨_, rfl⟩
      subst hwo
      go_wp2
      go_loopw [14] (fun i wr => ∃ k : Nat, k ≤ 4 ∧ i = .int .i64 k ∧ Aside0 (wr.heap[w.heap.size]? = some (.cells #[.complex .f64 0 0, .complex .f64 0 0, .complex .f64 0 0, .complex .f64 0 0] 26 (0, 0))) ∧ Aside0 (Holds 26 wr (w.heap.size + 1) (fun q => if q < k then fr l q (j + 1) else fr l q j) (fun q => if q < k then fi l q (j + 1) else fi l q j)) ∧ Aside0 (Below w.heap.size w wr)) (fun i _ => 4 - (intOf i).toNat)
      case atStart =>
        exact ⟨0, Nat.zero_le _, rfl, HK, ⟨HH.out.same (fun q _ => ⟨by rw [if_neg (by omega)], by rw [if_neg (by omega)]⟩)⟩, HB⟩
      case round =>
        obtain ⟨k, hk, rfl, HK, HH, HB⟩ := hrel
        by_cases hkl : k < 4
        · obtain ⟨a, b, hcl, ra, rb, hfz⟩ := HH.out.cell hkl
          simp only [Nat.lt_irrefl, if_false] at ra rb
          have hfr := fr_small HY.out k j
          have hfi := fi_small HY.out k j
          obtain ⟨m, hm⟩ : ∃ m : Int, (k : Int) * ((j : Int) % 4) = m := ⟨_, rfl⟩
          have hpr := pr_small m
          have hpi := pi_small m
          have hxr := small_mul hx.1 hx.2 hpr.1 hpr.2
          have hxi := small_mul hx.1 hx.2 hpi.1 hpi.2
          obtain ⟨re, im, em, rre, rim⟩ := mul_rep (of_int (x := x) (by omega)) rep_zero (prb_rep m) (pib_rep m) (by omega) (by simp) (by omega) (by simp) (by simp; omega) (by simp; omega)
          obtain ⟨re2, im2, es, rs, is⟩ := sum_rep ra rb rre rim (by simp; omega) (by simp; omega)
          have HMa := Aside0.mk rs
          have HMb := Aside0.mk is
          clear rs is rre rim ra rb hfr hfi hpr hpi hxr hxi
          have em2 : cMulBits (floatOfInt .f64 x) 0 (prb m) (pib m) = some (re, im) := em
          have hmul := fun W => run_complex_mul (P := Try.prog) W 24 _ _ _ _ _ _ em2
          have hadd := fun W => run_complex_sum (P := Try.prog) W .add (Or.inl rfl) 24 .f64 _ _ _ _ _ _ es
          have HS := Aside0.mk (And.intro em2 es)
          have hw : IntKind.i64.wrap ((k : Int) * ((j : Int) % 4)) = m := by rw [hm, IntKind.wrap_i64]; have : 0 ≤ (k : Int) * ((j : Int) % 4) := Int.mul_nonneg (by omega) (by omega); have : (k : Int) * ((j : Int) % 4) ≤ 4 * 3 := Int.mul_le_mul (by omega) (by omega) (by omega) (by omega); omega
          have ha := and3 (j : Int)
          have HM := Aside0.mk hm
          clear em em2 es hm
          go_wp2
          go_still_tail 13, (by kernel_rfl)
          still_call (power_still m _)
          repeat still_step
          refine wpStill_nil ?_
          change wpList _ _ _ _ _ wr.drew
          go_wp2
          go_roundw
          case rel =>
            refine ⟨k + 1, by omega, by go_num, ⟨blk_drew (blk_far HK.out (by simp) _)⟩, ⟨?_⟩, ⟨below_drew (below_set' HB.out (by simp) _)⟩⟩
            refine Holds.to (W := wr.setCell ⟨w.heap.size + 1, k, none⟩ (.complex .f64 re2 im2)) ?_ rfl
            have hxk : rd l (j : Int) = x := HX.out
            refine HH.out.put hkl (x' := fun q => if q < k + 1 then fr l q (j + 1) else fr l q j) (y' := fun q => if q < k + 1 then fi l q (j + 1) else fi l q j) ?_ ?_ ?_
            · rw [if_pos (by omega)]
              simp only [fr]
              rw [hxk, HM.out]
              exact HMa.out
            · rw [if_pos (by omega)]
              simp only [fi]
              rw [hxk, HM.out]
              exact HMb.out
            · intro p hp hne
              by_cases hpk : p < k
              · simp only [if_pos hpk, if_pos (show p < k + 1 by omega), and_self]
              · simp only [if_neg hpk, if_neg (show ¬ p < k + 1 by omega), and_self]
          case measure => simp [intOf]; omega
        · obtain rfl : k = 4 := by omega
          go_wp2
          go_roundw
          case rel =>
            refine ⟨j + 1, by omega, by go_num, HK, ⟨HH.out.same (fun q hq => ⟨by rw [if_pos hq], by rw [if_pos hq]⟩)⟩, HB⟩
          case measure => simp [intOf]; omega
    · obtain rfl : j = l.length := by omega
      clear hj hlt
      obtain ⟨a0, b0, a1, b1, a2, b2, a3, b3, hk4_, r0, r1, r2, r3⟩ := HH.out.four
      have HK4 := Aside0.mk hk4_
      have HR4 := Aside0.mk (And.intro r0 (And.intro r1 (And.intro r2 r3)))
      clear hk4_ r0 r1 r2 r3 HH
      have c0 : wr.cell? ⟨w.heap.size + 1, 0, none⟩ = some (.complex .f64 a0 b0) := (blk_cell HK4.out 0).trans rfl
      have c1 : wr.cell? ⟨w.heap.size + 1, 1, none⟩ = some (.complex .f64 a1 b1) := (blk_cell HK4.out 1).trans rfl
      have c2 : wr.cell? ⟨w.heap.size + 1, 2, none⟩ = some (.complex .f64 a2 b2) := (blk_cell HK4.out 2).trans rfl
      have c3 : wr.cell? ⟨w.heap.size + 1, 3, none⟩ = some (.complex .f64 a3 b3) := (blk_cell HK4.out 3).trans rfl
      have z0 : wr.cell? ⟨w.heap.size, 0, none⟩ = some (.complex .f64 0 0) := (blk_cell HK.out 0).trans rfl
      have f0 := blk_frozen HK.out 0
      have z1 : wr.cell? ⟨w.heap.size, 1, none⟩ = some (.complex .f64 0 0) := (blk_cell HK.out 1).trans rfl
      have f1 := blk_frozen HK.out 1
      have z2 : wr.cell? ⟨w.heap.size, 2, none⟩ = some (.complex .f64 0 0) := (blk_cell HK.out 2).trans rfl
      have f2 := blk_frozen HK.out 2
      have z3 : wr.cell? ⟨w.heap.size, 3, none⟩ = some (.complex .f64 0 0) := (blk_cell HK.out 3).trans rfl
      have f3 := blk_frozen HK.out 3
      go_wp2
      refine bodyPost_ret (results_cell_row (fn := Try.f8) rfl _ _ w.heap.size 26 #[.complex .f64 a0 b0, .complex .f64 a1 b1, .complex .f64 a2 b2, .complex .f64 a3 b3] (0, 0) _ rfl ?_ Try.underlying26 rfl (by kernel_rfl)) rfl ?_
      · refine blk_put (cs := #[.complex .f64 a0 b0, .complex .f64 a1 b1, .complex .f64 a2 b2, .complex .f64 0 0]) ?_ 3 _ rfl
        refine blk_put (cs := #[.complex .f64 a0 b0, .complex .f64 a1 b1, .complex .f64 0 0, .complex .f64 0 0]) ?_ 2 _ rfl
        refine blk_put (cs := #[.complex .f64 a0 b0, .complex .f64 0 0, .complex .f64 0 0, .complex .f64 0 0]) ?_ 1 _ rfl
        refine blk_put (cs := #[.complex .f64 0 0, .complex .f64 0 0, .complex .f64 0 0, .complex .f64 0 0]) ?_ 0 _ rfl
        exact HK.out
      · refine ⟨_, rfl, ⟨a0, b0, a1, b1, a2, b2, a3, b3, rfl, HR4.out⟩, ?_⟩
        exact below_set' (below_set' (below_set' (below_set' HB.out (Nat.le_refl _) _) (Nat.le_refl _) _) (Nat.le_refl _) _) (Nat.le_refl _) _
end Go.Proofs.Ytmjgmompcaanlaa.Turn
