/- Spectra shifted and joined: contracts. -/
import Derived.Test.YtmjgmompcaanlaaTShiftPlain
namespace Go.Proofs.Ytmjgmompcaanlaa.Turn
open Go.RowKit Go.Proofs.Ytmjgmompcaanlaa.PlainFloat Go.Proofs.YtmjgmompcaanlaaW.PrintWords
set_option linter.unusedVariables false
set_option linter.unusedSimpArgs false
attribute [local go_sem] run_store_complex
set_option maxHeartbeats 2000000 in
set_option maxRecDepth 100000 in
theorem shift_calls (v : Value) (l : List Int) (h : Of4 v l) (n : Int) (hn : 0 ≤ n) (w : World) : Calls Try.prog 15 #[v, .int .i64 n] w fun e w' => ∃ u, e = .returned (.tuple #[u, .int .i64 0]) ∧ Of4 u (rot n l) ∧ Below w.heap.size w w' := by
  have HY := Aside0.mk h
  obtain ⟨a0, b0, a1, b1, a2, b2, a3, b3, rfl⟩ := h.agg
  clear h
  have hu := Try.underlying26
  go_enter Try.func15, Try.ntmps15
  go_wp2_with fail
  refine (check_calls _ l HY.out _).mono ?_
  rintro e w1 ⟨rfl, hb⟩
  have N0 : w1.heap[w.heap.size]? = some (.cells #[.complex .f64 a0 b0, .complex .f64 a1 b1, .complex .f64 a2 b2, .complex .f64 a3 b3] 26 (0, 0)) := blk_below (blk_alloc (blk_new w _) _) hb
  have N1 : w1.heap[w.heap.size + 1]? = some (.cells #[.complex .f64 0 0, .complex .f64 0 0, .complex .f64 0 0, .complex .f64 0 0] 26 (0, 0)) := blk_below (heap_alloc2_new w (.cells #[.complex .f64 a0 b0, .complex .f64 a1 b1, .complex .f64 a2 b2, .complex .f64 a3 b3] 26) (.cells #[.complex .f64 0 0, .complex .f64 0 0, .complex .f64 0 0, .complex .f64 0 0] 26)) hb
  have HB := Aside0.mk (below_then (((Below.refl w.heap.size w).alloc (Nat.le_refl _) _).alloc (by simp) _) (by simp; omega) hb)
  have M0 := Aside0.mk N0
  have M1 := Aside0.mk N1
  clear hb N0 N1
  have k0 : w1.cell? ⟨w.heap.size, 0, none⟩ = some (.complex .f64 a0 b0) := (blk_cell M0.out 0).trans rfl
  have k1 : w1.cell? ⟨w.heap.size, 1, none⟩ = some (.complex .f64 a1 b1) := (blk_cell M0.out 1).trans rfl
  have k2 : w1.cell? ⟨w.heap.size, 2, none⟩ = some (.complex .f64 a2 b2) := (blk_cell M0.out 2).trans rfl
  have k3 : w1.cell? ⟨w.heap.size, 3, none⟩ = some (.complex .f64 a3 b3) := (blk_cell M0.out 3).trans rfl
  go_wp2_with fail
  refine (turned4 _ l HY.out n _).mono ?_
  rintro e w2 ⟨u, rfl, hs, hb⟩
  obtain ⟨c0, d0, c1, d1, c2, d2, c3, d3, rfl⟩ := hs.agg
  have HS := Aside0.mk hs
  have P1 := Aside0.mk (blk_below M1.out hb)
  have HB2 := Aside0.mk (below_then HB.out HB.out.size hb)
  clear hs hb k0 k1 k2 k3
  have z0 : w2.cell? ⟨w.heap.size + 1, 0, none⟩ = some (.complex .f64 0 0) := (blk_cell P1.out 0).trans rfl
  have f0 := blk_frozen P1.out 0
  have z1 : w2.cell? ⟨w.heap.size + 1, 1, none⟩ = some (.complex .f64 0 0) := (blk_cell P1.out 1).trans rfl
  have f1 := blk_frozen P1.out 1
  have z2 : w2.cell? ⟨w.heap.size + 1, 2, none⟩ = some (.complex .f64 0 0) := (blk_cell P1.out 2).trans rfl
  have f2 := blk_frozen P1.out 2
  have z3 : w2.cell? ⟨w.heap.size + 1, 3, none⟩ = some (.complex .f64 0 0) := (blk_cell P1.out 3).trans rfl
  have f3 := blk_frozen P1.out 3
  go_wp2
  refine bodyPost_ret (results_ct (fn := Try.f15) rfl _ _ (w.heap.size + 1) 26 #[.complex .f64 c0 d0, .complex .f64 c1 d1, .complex .f64 c2 d2, .complex .f64 c3 d3] (0, 0) _ rfl ?_ Try.underlying26 rfl (by kernel_rfl)) rfl ?_
  · refine blk_put (cs := #[.complex .f64 c0 d0, .complex .f64 c1 d1, .complex .f64 c2 d2, .complex .f64 0 0]) ?_ 3 _ rfl
    refine blk_put (cs := #[.complex .f64 c0 d0, .complex .f64 c1 d1, .complex .f64 0 0, .complex .f64 0 0]) ?_ 2 _ rfl
    refine blk_put (cs := #[.complex .f64 c0 d0, .complex .f64 0 0, .complex .f64 0 0, .complex .f64 0 0]) ?_ 1 _ rfl
    refine blk_put (cs := #[.complex .f64 0 0, .complex .f64 0 0, .complex .f64 0 0, .complex .f64 0 0]) ?_ 0 _ rfl
    exact P1.out
  · refine ⟨_, rfl, HS.out, ?_⟩
    exact below_set' (below_set' (below_set' (below_set' HB2.out (Nat.le_succ _) _) (Nat.le_succ _) _) (Nat.le_succ _) _) (Nat.le_succ _) _
end Go.Proofs.Ytmjgmompcaanlaa.Turn
