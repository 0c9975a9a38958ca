/- Two spectra joined: a contract. -/
import Derived.Test.YtmjgmompcaanlaaTShift
namespace Go.Proofs.Ytmjgmompcaanlaa.Turn
open Go.RowKit Go.Proofs.Ytmjgmompcaanlaa.PlainFloat Go.Proofs.YtmjgmompcaanlaaW.PrintWords
set_option linter.unusedVariables false
set_option linter.unusedSimpArgs false
attribute [local go_sem] run_store_complex
set_option maxHeartbeats 4000000 in
set_option maxRecDepth 100000 in
theorem join_calls (v u : Value) (l m : List Int) (h : Of4 v l) (h' : Of4 u m) (n : Int) (hn : 0 ≤ n) (hp : Sums4 (plus l (rot n m))) (w : World) : Calls Try.prog 16 #[v, u, .int .i64 n] w fun e w' => ∃ z, e = .returned (.tuple #[z, .int .i64 0]) ∧ Of4 z (plus l (rot n m)) ∧ Below w.heap.size w w' := by
  have HY := Aside0.mk h
  have HU := Aside0.mk h'
  have HP := Aside0.mk hp
  obtain ⟨a0, b0, a1, b1, a2, b2, a3, b3, rfl⟩ := h.agg
  obtain ⟨c0, d0, c1, d1, c2, d2, c3, d3, rfl⟩ := h'.agg
  clear h h' hp
  have hu := Try.underlying26
  go_enter Try.func16, Try.ntmps16
  go_wp2_with fail
  refine (check_calls _ l HY.out _).mono ?_
  rintro e w1 ⟨rfl, hb⟩
  have N0 : w1.heap[w.heap.size]? = some (.cells #[.complex .f64 a0 b0, .complex .f64 a1 b1, .complex .f64 a2 b2, .complex .f64 a3 b3] 26 (0, 0)) := blk_below (blk_alloc (blk_alloc (blk_new w _) _) _) hb
  have N1 : w1.heap[w.heap.size + 1]? = some (.cells #[.complex .f64 c0 d0, .complex .f64 c1 d1, .complex .f64 c2 d2, .complex .f64 c3 d3] 26 (0, 0)) := blk_below (blk_alloc (heap_alloc2_new w (.cells #[.complex .f64 a0 b0, .complex .f64 a1 b1, .complex .f64 a2 b2, .complex .f64 a3 b3] 26) (.cells #[.complex .f64 c0 d0, .complex .f64 c1 d1, .complex .f64 c2 d2, .complex .f64 c3 d3] 26)) _) hb
  have N2 : w1.heap[w.heap.size + 1 + 1]? = some (.cells #[.complex .f64 0 0, .complex .f64 0 0, .complex .f64 0 0, .complex .f64 0 0] 26 (0, 0)) := by
    have := blk_new ((w.alloc (.cells #[.complex .f64 a0 b0, .complex .f64 a1 b1, .complex .f64 a2 b2, .complex .f64 a3 b3] 26)).alloc (.cells #[.complex .f64 c0 d0, .complex .f64 c1 d1, .complex .f64 c2 d2, .complex .f64 c3 d3] 26)) (.cells #[.complex .f64 0 0, .complex .f64 0 0, .complex .f64 0 0, .complex .f64 0 0] 26)
    exact blk_below (by simpa using this) hb
  have HB := Aside0.mk (below_then ((((Below.refl w.heap.size w).alloc (Nat.le_refl _) _).alloc (by simp) _).alloc (by simp; omega) _) (by simp; omega) hb)
  have M0 := Aside0.mk N0
  have M1 := Aside0.mk N1
  have M2 := Aside0.mk N2
  clear hb N0 N1 N2
  have k0 : w1.cell? ⟨w.heap.size + 1, 0, none⟩ = some (.complex .f64 c0 d0) := (blk_cell M1.out 0).trans rfl
  have k1 : w1.cell? ⟨w.heap.size + 1, 1, none⟩ = some (.complex .f64 c1 d1) := (blk_cell M1.out 1).trans rfl
  have k2 : w1.cell? ⟨w.heap.size + 1, 2, none⟩ = some (.complex .f64 c2 d2) := (blk_cell M1.out 2).trans rfl
  have k3 : w1.cell? ⟨w.heap.size + 1, 3, none⟩ = some (.complex .f64 c3 d3) := (blk_cell M1.out 3).trans rfl
  go_wp2_with fail
  refine (check_calls _ m HU.out _).mono ?_
  rintro e w2 ⟨rfl, hb⟩
  have O0 := Aside0.mk (blk_below M0.out hb)
  have O1 := Aside0.mk (blk_below M1.out hb)
  have O2 := Aside0.mk (blk_below M2.out hb)
  have HB2 := Aside0.mk (below_then HB.out HB.out.size hb)
  clear hb k0 k1 k2 k3 M0 M1 M2 HB
  have k0 : w2.cell? ⟨w.heap.size + 1, 0, none⟩ = some (.complex .f64 c0 d0) := (blk_cell O1.out 0).trans rfl
  have k1 : w2.cell? ⟨w.heap.size + 1, 1, none⟩ = some (.complex .f64 c1 d1) := (blk_cell O1.out 1).trans rfl
  have k2 : w2.cell? ⟨w.heap.size + 1, 2, none⟩ = some (.complex .f64 c2 d2) := (blk_cell O1.out 2).trans rfl
  have k3 : w2.cell? ⟨w.heap.size + 1, 3, none⟩ = some (.complex .f64 c3 d3) := (blk_cell O1.out 3).trans rfl
  go_wp2_with fail
  refine (turned4 _ m HU.out n _).mono ?_
  rintro e w3 ⟨t, rfl, hs, hb⟩
  obtain ⟨e0, f0, e1, f1, e2, f2, e3, f3, rfl⟩ := hs.agg
  have HS := Aside0.mk hs
  have Q0 := Aside0.mk (blk_below O0.out hb)
  have Q1 := Aside0.mk (blk_below O1.out hb)
  have Q2 := Aside0.mk (blk_below O2.out hb)
  have HB3 := Aside0.mk (below_then HB2.out HB2.out.size hb)
  clear hs hb k0 k1 k2 k3 O0 O1 O2 HB2
  have k0 : w3.cell? ⟨w.heap.size + 1, 0, none⟩ = some (.complex .f64 c0 d0) := (blk_cell Q1.out 0).trans rfl
  have kz0 := blk_frozen Q1.out 0
  have k1 : w3.cell? ⟨w.heap.size + 1, 1, none⟩ = some (.complex .f64 c1 d1) := (blk_cell Q1.out 1).trans rfl
  have kz1 := blk_frozen Q1.out 1
  have k2 : w3.cell? ⟨w.heap.size + 1, 2, none⟩ = some (.complex .f64 c2 d2) := (blk_cell Q1.out 2).trans rfl
  have kz2 := blk_frozen Q1.out 2
  have k3 : w3.cell? ⟨w.heap.size + 1, 3, none⟩ = some (.complex .f64 c3 d3) := (blk_cell Q1.out 3).trans rfl
  have kz3 := blk_frozen Q1.out 3
  go_wp2
  go_loopw [26] (fun i wr => ∃ k : Nat, k ≤ 4 ∧ i = .int .i64 k ∧ Aside0 (Holds 26 wr w.heap.size (fun q => if q < k then fr l q 4 + fr (rot n m) q 4 else fr l q 4) (fun q => if q < k then fi l q 4 + fi (rot n m) q 4 else fi l q 4)) ∧ Aside0 (Holds 26 wr (w.heap.size + 1) (fun q => fr (rot n m) q 4) (fun q => fi (rot n m) q 4)) ∧ Aside0 (wr.heap[w.heap.size + 1 + 1]? = some (.cells #[.complex .f64 0 0, .complex .f64 0 0, .complex .f64 0 0, .complex .f64 0 0] 26 (0, 0))) ∧ Aside0 (Below w.heap.size w wr)) (fun i _ => 4 - (intOf i).toNat)
  case atStart =>
    refine ⟨0, Nat.zero_le _, rfl, ⟨?_⟩, ⟨?_⟩, ⟨?_⟩, ⟨?_⟩⟩
    · obtain ⟨_, p0, q0, p1, q1, p2, q2, p3, q3, he, hq⟩ := HY.out
      injection he with he
      injection he with he
      simp only [List.cons.injEq, Value.complex.injEq, and_true, true_and] at he
      obtain ⟨⟨rfl, rfl⟩, ⟨rfl, rfl⟩, ⟨rfl, rfl⟩, ⟨rfl, rfl⟩⟩ := he
      refine (Holds.of_four (x := fun q => fr l q 4) (y := fun q => fi l q 4) ?_ hq).same (fun q _ => ⟨by rw [if_neg (by omega)], by rw [if_neg (by omega)]⟩)
      exact blk_far (blk_far (blk_far (blk_far Q0.out (by simp) _) (by simp) _) (by simp) _) (by simp) _
    · obtain ⟨_, p0, q0, p1, q1, p2, q2, p3, q3, he, hq⟩ := HS.out
      injection he with he
      injection he with he
      simp only [List.cons.injEq, Value.complex.injEq, and_true, true_and] at he
      obtain ⟨⟨rfl, rfl⟩, ⟨rfl, rfl⟩, ⟨rfl, rfl⟩, ⟨rfl, rfl⟩⟩ := he
      refine Holds.of_four ?_ hq
      refine blk_put (cs := #[.complex .f64 e0 f0, .complex .f64 e1 f1, .complex .f64 e2 f2, .complex .f64 c3 d3]) ?_ 3 _ rfl
      refine blk_put (cs := #[.complex .f64 e0 f0, .complex .f64 e1 f1, .complex .f64 c2 d2, .complex .f64 c3 d3]) ?_ 2 _ rfl
      refine blk_put (cs := #[.complex .f64 e0 f0, .complex .f64 c1 d1, .complex .f64 c2 d2, .complex .f64 c3 d3]) ?_ 1 _ rfl
      refine blk_put (cs := #[.complex .f64 c0 d0, .complex .f64 c1 d1, .complex .f64 c2 d2, .complex .f64 c3 d3]) ?_ 0 _ rfl
      exact Q1.out
    · exact blk_far (blk_far (blk_far (blk_far Q2.out (by simp) _) (by simp) _) (by simp) _) (by simp) _
    · exact below_set' (below_set' (below_set' (below_set' HB3.out (Nat.le_succ _) _) (Nat.le_succ _) _) (Nat.le_succ _) _) (Nat.le_succ _) _
  case round =>
    obtain ⟨k, hk, rfl, HF, HG, HZ, HB⟩ := hrel
    by_cases hkl : k < 4
    · obtain ⟨a, b, hcl, ra, rb, hfz⟩ := HF.out.cell hkl
      obtain ⟨c, d, hcg, rc, rd', hfg⟩ := HG.out.cell hkl
      simp only [Nat.lt_irrefl, if_false] at ra rb
      have hki : (k : Int) < 4 := by omega
      have hsm := HY.out.add_small HS.out k
      obtain ⟨re, im, es, rs, is⟩ := sum_rep ra rb rc rd' hsm.1 hsm.2
      have HMa := Aside0.mk rs
      have HMb := Aside0.mk is
      have hadd := fun W => run_complex_sum (P := Try.prog) W .add (Or.inl rfl) 24 .f64 _ _ _ _ _ _ es
      clear rs is ra rb rc rd' es hsm hfg
      go_wp2
      go_still_tail 7, (by kernel_rfl)
      change wpList _ _ _ _ _ wr.drew
      go_wp2
      go_roundw
      case rel =>
        refine ⟨k + 1, by omega, by go_num, ⟨?_⟩, ⟨HG.out.to (blk_get_far wr (by simp) _)⟩, ⟨blk_drew (blk_far HZ.out (by simp; omega) _)⟩, ⟨below_drew (below_set' HB.out (Nat.le_refl _) _)⟩⟩
        refine Holds.to (W := wr.setCell ⟨w.heap.size, k, none⟩ (.complex .f64 re im)) ?_ rfl
        refine HF.out.put hkl (x' := fun q => if q < k + 1 then fr l q 4 + fr (rot n m) q 4 else fr l q 4) (y' := fun q => if q < k + 1 then fi l q 4 + fi (rot n m) q 4 else fi l q 4) ?_ ?_ ?_
        · rw [if_pos (by omega)]
          exact HMa.out
        · rw [if_pos (by omega)]
          exact HMb.out
        · intro p hp hne
          by_cases hpk : p < k
          · simp only [if_pos hpk, if_pos (show p < k + 1 by omega), and_self]
          · simp only [if_neg hpk, if_neg (show ¬ p < k + 1 by omega), and_self]
      case measure => simp [intOf]; omega
    · obtain rfl : k = 4 := by omega
      clear hk hkl
      have hsum : ∀ q, q < 4 → fr (plus l (rot n m)) q 4 = fr l q 4 + fr (rot n m) q 4 ∧ fi (plus l (rot n m)) q 4 = fi l q 4 + fi (rot n m) q 4 := by
        obtain ⟨s0, s1, s2, s3, el⟩ := list4 HY.out.1.1
        obtain ⟨t0, t1, t2, t3, em⟩ := list4 HS.out.1.1
        rw [el, em]
        exact fun q hq => plus_is s0 s1 s2 s3 t0 t1 t2 t3 q hq
      obtain ⟨g0, h0, g1, h1, g2, h2, g3, h3, hk4_, r0⟩ := (HF.out.same (x' := fun q => fr (plus l (rot n m)) q 4) (y' := fun q => fi (plus l (rot n m)) q 4) (fun q hq => ⟨by rw [if_pos hq]; exact (hsum q hq).1, by rw [if_pos hq]; exact (hsum q hq).2⟩)).four
      have HK4 := Aside0.mk hk4_
      have HO : Aside0 (Of4 (.agg #[.complex .f64 g0 h0, .complex .f64 g1 h1, .complex .f64 g2 h2, .complex .f64 g3 h3]) (plus l (rot n m))) := ⟨⟨HP.out, g0, h0, g1, h1, g2, h2, g3, h3, rfl, r0⟩⟩
      clear hk4_ r0 hsum HF HG
      have k0 : wr.cell? ⟨w.heap.size, 0, none⟩ = some (.complex .f64 g0 h0) := (blk_cell HK4.out 0).trans rfl
      have k1 : wr.cell? ⟨w.heap.size, 1, none⟩ = some (.complex .f64 g1 h1) := (blk_cell HK4.out 1).trans rfl
      have k2 : wr.cell? ⟨w.heap.size, 2, none⟩ = some (.complex .f64 g2 h2) := (blk_cell HK4.out 2).trans rfl
      have k3 : wr.cell? ⟨w.heap.size, 3, none⟩ = some (.complex .f64 g3 h3) := (blk_cell HK4.out 3).trans rfl
      go_wp2_with fail
      refine (check_calls _ (plus l (rot n m)) HO.out _).mono ?_
      rintro e w4 ⟨rfl, hb⟩
      have U0 := Aside0.mk (blk_below HK4.out hb)
      have U2 := Aside0.mk (blk_below HZ.out hb)
      have HB4 := Aside0.mk (below_then HB.out HB.out.size hb)
      clear hb k0 k1 k2 k3
      have k0 : w4.cell? ⟨w.heap.size, 0, none⟩ = some (.complex .f64 g0 h0) := (blk_cell U0.out 0).trans rfl
      have k1 : w4.cell? ⟨w.heap.size, 1, none⟩ = some (.complex .f64 g1 h1) := (blk_cell U0.out 1).trans rfl
      have k2 : w4.cell? ⟨w.heap.size, 2, none⟩ = some (.complex .f64 g2 h2) := (blk_cell U0.out 2).trans rfl
      have k3 : w4.cell? ⟨w.heap.size, 3, none⟩ = some (.complex .f64 g3 h3) := (blk_cell U0.out 3).trans rfl
      have z0 : w4.cell? ⟨w.heap.size + 1 + 1, 0, none⟩ = some (.complex .f64 0 0) := (blk_cell U2.out 0).trans rfl
      have zz0 := blk_frozen U2.out 0
      have z1 : w4.cell? ⟨w.heap.size + 1 + 1, 1, none⟩ = some (.complex .f64 0 0) := (blk_cell U2.out 1).trans rfl
      have zz1 := blk_frozen U2.out 1
      have z2 : w4.cell? ⟨w.heap.size + 1 + 1, 2, none⟩ = some (.complex .f64 0 0) := (blk_cell U2.out 2).trans rfl
      have zz2 := blk_frozen U2.out 2
      have z3 : w4.cell? ⟨w.heap.size + 1 + 1, 3, none⟩ = some (.complex .f64 0 0) := (blk_cell U2.out 3).trans rfl
      have zz3 := blk_frozen U2.out 3
      go_wp2
      refine bodyPost_ret (results_ct (fn := Try.f16) rfl _ _ (w.heap.size + 1 + 1) 26 #[.complex .f64 g0 h0, .complex .f64 g1 h1, .complex .f64 g2 h2, .complex .f64 g3 h3] (0, 0) _ rfl ?_ Try.underlying26 rfl (by kernel_rfl)) rfl ?_
      · refine blk_put (cs := #[.complex .f64 g0 h0, .complex .f64 g1 h1, .complex .f64 g2 h2, .complex .f64 0 0]) ?_ 3 _ rfl
        refine blk_put (cs := #[.complex .f64 g0 h0, .complex .f64 g1 h1, .complex .f64 0 0, .complex .f64 0 0]) ?_ 2 _ rfl
        refine blk_put (cs := #[.complex .f64 g0 h0, .complex .f64 0 0, .complex .f64 0 0, .complex .f64 0 0]) ?_ 1 _ rfl
        refine blk_put (cs := #[.complex .f64 0 0, .complex .f64 0 0, .complex .f64 0 0, .complex .f64 0 0]) ?_ 0 _ rfl
        exact U2.out
      · refine ⟨_, rfl, HO.out, ?_⟩
        exact below_set' (below_set' (below_set' (below_set' HB4.out (by simp; omega) _) (by simp; omega) _) (by simp; omega) _) (by simp; omega) _
end Go.Proofs.Ytmjgmompcaanlaa.Turn
