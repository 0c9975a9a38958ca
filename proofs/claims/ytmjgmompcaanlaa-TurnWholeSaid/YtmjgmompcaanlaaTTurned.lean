/- Check, and a spectrum that is turned: contracts. -/
import Derived.Test.YtmjgmompcaanlaaTSums
namespace Go.Proofs.Ytmjgmompcaanlaa.Turn
open Go.RowKit Go.Proofs.Ytmjgmompcaanlaa.PlainFloat Go.Proofs.YtmjgmompcaanlaaW.PrintWords
set_option linter.unusedVariables false
set_option linter.unusedSimpArgs false
attribute [local go_sem] run_store_complex
/-- A value is the spectrum of four sums. -/
def Of4 (v : Value) (l : List Int) : Prop := Sums4 l ∧ SpecV v (fun q => fr l q 4) (fun q => fi l q 4)
theorem list4 {l : List Int} (h : l.length = 4) : ∃ s0 s1 s2 s3, l = [s0, s1, s2, s3] := by
  match l, h with
  | [a, b, c, d], _ => exact ⟨a, b, c, d, rfl⟩
theorem Of4.agg {v : Value} {l : List Int} (h : Of4 v l) : ∃ a0 b0 a1 b1 a2 b2 a3 b3, v = .agg #[.complex .f64 a0 b0, .complex .f64 a1 b1, .complex .f64 a2 b2, .complex .f64 a3 b3] := by
  obtain ⟨_, a0, b0, a1, b1, a2, b2, a3, b3, e, _⟩ := h
  exact ⟨a0, b0, a1, b1, a2, b2, a3, b3, e⟩
set_option maxHeartbeats 1000000 in
theorem check_calls (v : Value) (l : List Int) (h : Of4 v l) (w : World) : Calls Try.prog 13 #[v] w fun e w' => e = .returned (.int .i64 0) ∧ Below w.heap.size w w' := by
  obtain ⟨s0, s1, s2, s3, hl⟩ := list4 h.1.1
  have HH := Aside0.mk h
  have HL := Aside0.mk hl
  obtain ⟨a0, b0, a1, b1, a2, b2, a3, b3, rfl⟩ := h.agg
  clear h hl
  have hu := Try.underlying26
  go_enter Try.func13, Try.ntmps13
  go_wp2_with fail
  refine (sums_calls l s0 s1 s2 s3 HL.out _ _ HH.out.1 HH.out.2).mono ?_
  rintro e w1 ⟨rfl, hb⟩
  have HB := Aside0.mk hb
  clear hb
  go_wp2
  go_ret
  exact ⟨rfl, (below_then ((Below.refl _ _).alloc (Nat.le_refl _) _) (by simp) HB.out).alloc (by have := HB.out.size; simp at this; omega) _⟩
/-- The numbers of a spectrum, each turned as often as its place says, n times. -/
def tx (l : List Int) (n : Int) (q : Nat) : Int := fr l q 4 * pr ((q : Int) * (n % 4)) - fi l q 4 * pi ((q : Int) * (n % 4))
def ty (l : List Int) (n : Int) (q : Nat) : Int := fr l q 4 * pi ((q : Int) * (n % 4)) + fi l q 4 * pr ((q : Int) * (n % 4))
theorem tparts {l : List Int} (h : Sums4 l) (q : Nat) (m : Int) : (-4398046511104 ≤ fr l q 4 * pr m ∧ fr l q 4 * pr m ≤ 4398046511104) ∧ (-4398046511104 ≤ fi l q 4 * pi m ∧ fi l q 4 * pi m ≤ 4398046511104) ∧ (-4398046511104 ≤ fr l q 4 * pi m ∧ fr l q 4 * pi m ≤ 4398046511104) ∧ (-4398046511104 ≤ fi l q 4 * pr m ∧ fi l q 4 * pr m ≤ 4398046511104) := by
  have a := fr_big h q 4
  have b := fi_big h q 4
  have c := pr_small m
  have d := pi_small m
  exact ⟨mul_le_of (b := 4398046511104) (by omega) (by omega) c.1 c.2, mul_le_of (b := 4398046511104) (by omega) (by omega) d.1 d.2, mul_le_of (b := 4398046511104) (by omega) (by omega) d.1 d.2, mul_le_of (b := 4398046511104) (by omega) (by omega) c.1 c.2⟩
set_option maxHeartbeats 2000000 in
set_option maxRecDepth 100000 in
theorem turned_calls (v : Value) (l : List Int) (h : Of4 v l) (n : Int) (w : World) : Calls Try.prog 20 #[v, .int .i64 n] w fun e w' => ∃ u, e = .returned u ∧ SpecV u (tx l n) (ty l n) ∧ Below w.heap.size w w' := by
  have HY := Aside0.mk h.1
  obtain ⟨_, a0, b0, a1, b1, a2, b2, a3, b3, rfl, hv⟩ := h
  have HV := Aside0.mk hv
  clear hv
  have ha := and3 n
  have hu := Try.underlying26
  go_enter Try.func20, Try.ntmps20
  go_wp2
  go_loopw [6] (fun i wr => ∃ k : Nat, k ≤ 4 ∧ i = .int .i64 k ∧ Aside0 (wr.heap[w.heap.size + 1]? = some (.cells #[.complex .f64 0 0, .complex .f64 0 0, .complex .f64 0 0, .complex .f64 0 0] 26 (0, 0))) ∧ Aside0 (Holds 26 wr w.heap.size (fun q => if q < k then tx l n q else fr l q 4) (fun q => if q < k then ty l n q else fi l q 4)) ∧ Aside0 (Below w.heap.size w wr)) (fun i _ => 4 - (intOf i).toNat)
  case atStart =>
    refine ⟨0, Nat.zero_le _, rfl, ⟨?_⟩, ⟨?_⟩, ⟨?_⟩⟩
    · have := blk_new (w.alloc (.cells #[.complex .f64 a0 b0, .complex .f64 a1 b1, .complex .f64 a2 b2, .complex .f64 a3 b3] 26)) (.cells #[.complex .f64 0 0, .complex .f64 0 0, .complex .f64 0 0, .complex .f64 0 0] 26)
      simpa using this
    · exact (Holds.of_four (x := fun q => fr l q 4) (y := fun q => fi l q 4) (blk_alloc (blk_new w _) _) HV.out).same (fun q _ => ⟨by rw [if_neg (by omega)], by rw [if_neg (by omega)]⟩)
    · exact ((Below.refl _ _).alloc (Nat.le_refl _) _).alloc (by simp) _
  case round =>
    obtain ⟨k, hk, rfl, HK, HH, HB⟩ := hrel
    by_cases hkl : k < 4
    · obtain ⟨a, b, hcl, ra, rb, hfz⟩ := HH.out.cell hkl
      simp only [Nat.lt_irrefl, if_false] at ra rb
      have hki : (k : Int) < 4 := by omega
      obtain ⟨m, hm⟩ : ∃ m : Int, (k : Int) * (n % 4) = m := ⟨_, rfl⟩
      obtain ⟨t1, t2, t3, t4⟩ := tparts HY.out k m
      obtain ⟨re, im, em, rre, rim⟩ := mul_rep ra rb (prb_rep m) (pib_rep m) (by omega) (by omega) (by omega) (by omega) (by omega) (by omega)
      have HMa := Aside0.mk rre
      have HMb := Aside0.mk rim
      clear rre rim ra rb t1 t2 t3 t4
      have hmul := fun W => run_complex_mul (P := Try.prog) W 24 _ _ _ _ _ _ em
      have hbd : 0 ≤ (k : Int) * (n % 4) ∧ (k : Int) * (n % 4) ≤ 4 * 4 := ⟨Int.mul_nonneg (by omega) (by omega), Int.mul_le_mul (by omega) (by omega) (by omega) (by omega)⟩
      have hw : IntKind.i64.wrap ((k : Int) * (n % 4)) = m := by rw [← hm, IntKind.wrap_i64]; omega
      have HM := Aside0.mk hm
      clear em hm hbd
      go_wp2
      go_still_tail 9, (by kernel_rfl)
      still_call (power_still m _)
      repeat still_step
      refine wpStill_nil ?_
      change wpList _ _ _ _ _ wr.drew
      go_wp2
      go_roundw
      case rel =>
        refine ⟨k + 1, by omega, by go_num, ⟨blk_drew (blk_far HK.out (by simp) _)⟩, ⟨?_⟩, ⟨below_drew (below_set' HB.out (Nat.le_refl _) _)⟩⟩
        refine Holds.to (W := wr.setCell ⟨w.heap.size, k, none⟩ (.complex .f64 re im)) ?_ rfl
        refine HH.out.put hkl (x' := fun q => if q < k + 1 then tx l n q else fr l q 4) (y' := fun q => if q < k + 1 then ty l n q else fi l q 4) ?_ ?_ ?_
        · rw [if_pos (by omega)]
          unfold tx
          rw [HM.out]
          exact HMa.out
        · rw [if_pos (by omega)]
          unfold ty
          rw [HM.out]
          exact HMb.out
        · intro p hp hne
          by_cases hpk : p < k
          · simp only [if_pos hpk, if_pos (show p < k + 1 by omega), and_self]
          · simp only [if_neg hpk, if_neg (show ¬ p < k + 1 by omega), and_self]
      case measure => simp [intOf]; omega
    · obtain rfl : k = 4 := by omega
      clear hk hkl
      obtain ⟨c0, d0, c1, d1, c2, d2, c3, d3, hk4_, r0, r1, r2, r3⟩ := (HH.out.same (x' := tx l n) (y' := ty l n) (fun q hq => ⟨by rw [if_pos hq], by rw [if_pos hq]⟩)).four
      have HK4 := Aside0.mk hk4_
      have HR4 := Aside0.mk (And.intro r0 (And.intro r1 (And.intro r2 r3)))
      clear hk4_ r0 r1 r2 r3 HH
      have k0 : wr.cell? ⟨w.heap.size, 0, none⟩ = some (.complex .f64 c0 d0) := (blk_cell HK4.out 0).trans rfl
      have k1 : wr.cell? ⟨w.heap.size, 1, none⟩ = some (.complex .f64 c1 d1) := (blk_cell HK4.out 1).trans rfl
      have k2 : wr.cell? ⟨w.heap.size, 2, none⟩ = some (.complex .f64 c2 d2) := (blk_cell HK4.out 2).trans rfl
      have k3 : wr.cell? ⟨w.heap.size, 3, none⟩ = some (.complex .f64 c3 d3) := (blk_cell HK4.out 3).trans rfl
      have z0 : wr.cell? ⟨w.heap.size + 1, 0, none⟩ = some (.complex .f64 0 0) := (blk_cell HK.out 0).trans rfl
      have z1 : wr.cell? ⟨w.heap.size + 1, 1, none⟩ = some (.complex .f64 0 0) := (blk_cell HK.out 1).trans rfl
      have z2 : wr.cell? ⟨w.heap.size + 1, 2, none⟩ = some (.complex .f64 0 0) := (blk_cell HK.out 2).trans rfl
      have z3 : wr.cell? ⟨w.heap.size + 1, 3, none⟩ = some (.complex .f64 0 0) := (blk_cell HK.out 3).trans rfl
      have f0 := blk_frozen HK.out 0
      have f1 := blk_frozen HK.out 1
      have f2 := blk_frozen HK.out 2
      have f3 := blk_frozen HK.out 3
      go_wp2
      refine bodyPost_ret (results_cell_row (fn := Try.f20) rfl _ _ (w.heap.size + 1) 26 #[.complex .f64 c0 d0, .complex .f64 c1 d1, .complex .f64 c2 d2, .complex .f64 c3 d3] (0, 0) _ rfl ?_ Try.underlying26 rfl (by kernel_rfl)) rfl ?_
      · refine blk_put (cs := #[.complex .f64 c0 d0, .complex .f64 c1 d1, .complex .f64 c2 d2, .complex .f64 0 0]) ?_ 3 _ rfl
        refine blk_put (cs := #[.complex .f64 c0 d0, .complex .f64 c1 d1, .complex .f64 0 0, .complex .f64 0 0]) ?_ 2 _ rfl
        refine blk_put (cs := #[.complex .f64 c0 d0, .complex .f64 0 0, .complex .f64 0 0, .complex .f64 0 0]) ?_ 1 _ rfl
        refine blk_put (cs := #[.complex .f64 0 0, .complex .f64 0 0, .complex .f64 0 0, .complex .f64 0 0]) ?_ 0 _ rfl
        exact HK.out
      · refine ⟨_, rfl, ⟨c0, d0, c1, d1, c2, d2, c3, d3, rfl, HR4.out⟩, ?_⟩
        exact below_set' (below_set' (below_set' (below_set' HB.out (Nat.le_succ _) _) (Nat.le_succ _) _) (Nat.le_succ _) _) (Nat.le_succ _) _
end Go.Proofs.Ytmjgmompcaanlaa.Turn
