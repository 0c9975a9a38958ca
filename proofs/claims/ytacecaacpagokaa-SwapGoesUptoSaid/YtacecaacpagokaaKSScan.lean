/- swap.Scan: a contract. -/
import Derived.Test.YtacecaacpagokaaKSScope
import Derived.OwnWalk
namespace Go.Proofs.Ytacecaacpagokaa.Swap
open Go.RowKit Go.Proofs.Ytacecaacpagokaa.PSwapGoes Go.Proofs.Ytacecaacpagokaa.Plain Go.Proofs.Ytacecaacpagokaa.Pure Go.Proofs.Ytacecaacpagokaa.Codec Go.Proofs.Ytacecaacpagokaa.Turn Go.Proofs.Ytacecaacpagokaa.PlainFloat Go.Proofs.YtacecaacpagokaaW.PrintWords Go.Proofs.YtacecaacpagokaaW.PrintLast Go.Proofs.YtacecaacpagokaaW.PrintMore
set_option linter.unusedVariables false
set_option linter.unusedSimpArgs false
attribute [local go_sem] run_store_complex max2_int min2_int max_two min_two
theorem info5s : (Try.prog.info? 5).map (·.size) = some 1 := by kernel_rfl
theorem cut_bytes (A : Option Addr) (n c hi_ : Nat) (h : hi_ ≤ c) (W : World) : (Instr.slice 22 (.slice A n c) none (some (.int .i64 (hi_ : Int))) none).run Try.prog W = .ok (.slice A hi_ c) W := by
  obtain ⟨i, hi, hs⟩ := Option.map_eq_some_iff.1 info5s
  have hel : Try.prog.elem 22 = 5 := by simp [Program.elem, Try.underlying22]
  have hu : Try.prog.underlying 22 = some (.slice (Try.prog.elem 22)) := by rw [hel]; exact Try.underlying22
  have ha : (A.map fun x => x.add 0) = A := by cases A <;> simp [Addr.add]
  rw [run_slice_h W 22 A n c hu .i64 hi_ (by omega) (by omega), hel]
  simp [sizeOf, typeInfo, hi, hs, sliced, Result.andThen, ha]
theorem C_cut {w : World} {A : Option Addr} {l : List Int} (h : Kd.C (Kd.int .u8) w A l.length l) (q : Nat) (hq : (l.take q).length = q) : Kd.C (Kd.int .u8) w A q (l.take q) := by
  have hr := brow_C h
  have hq2 : q ≤ l.length := by rw [List.length_take] at hq; omega
  refine brow_ofC ⟨hq, by have := hr.2.1; omega, fun hn => ?_⟩
  obtain ⟨ad, e, hc⟩ := hr.2.2 (by omega)
  refine ⟨ad, e, fun j hj => ?_⟩
  rw [hc j (by omega)]
  simp only [List.getD_eq_getElem?_getD, List.getElem?_take]
  rw [if_pos hj]
/-- What is seen of the world between two steps. -/
structure St (w W : World) (vl : Value) (t : Tl) (acc : List S46) : Prop where
  tail : ∃ a0 b0 a1 b1 a2 b2 a3 b3, W.heap[w.heap.size]? = some (.cells #[.int .i64 t.a, .int .i64 t.q, .int .i64 t.b, .complex .f64 a0 b0, .complex .f64 a1 b1, .complex .f64 a2 b2, .complex .f64 a3 b3] 29 (0, 0)) ∧ Of4 (.agg #[.complex .f64 a0 b0, .complex .f64 a1 b1, .complex .f64 a2 b2, .complex .f64 a3 b3]) t.S
  rec_ : ∃ (y0 y1 y2 y3 y4 y5 y6 y7 : Int) (ys : ByteArray), W.heap[w.heap.size + 1]? = some (.cells #[.int .i64 y0, .int .i64 y1, .int .i64 y2, .int .i64 y3, .int .i64 y4, .int .i64 y5, .int .i64 y6, .int .i64 y7, .string ys] 58 (0, 0))
  spec : ∃ a0 b0 a1 b1 a2 b2 a3 b3, W.heap[w.heap.size + 1 + 1]? = some (.cells #[.complex .f64 a0 b0, .complex .f64 a1 b1, .complex .f64 a2 b2, .complex .f64 a3 b3] 27 (0, 0))
  sums : ∃ (t0 t1 t2 t3 : Int), W.heap[w.heap.size + 1 + 1 + 1]? = some (.cells #[.int .i64 t0, .int .i64 t1, .int .i64 t2, .int .i64 t3] 56 (0, 0))
  list : Kd.R k46 46 W (w.heap.size + 1 + 1 + 1 + 1) (fun _ => True) vl acc
  below : Below w.heap.size w W
  size : w.heap.size + 1 + 1 + 1 + 1 ≤ W.heap.size
theorem put4 {w : World} {g : Nat} {t : TypeId} {a0 a1 a2 a3 : Value} (h : w.heap[g]? = some (.cells #[a0, a1, a2, a3] t (0, 0))) (v0 v1 v2 v3 : Value) : ((((w.setCell ⟨g, 0, none⟩ v0).setCell ⟨g, 1, none⟩ v1).setCell ⟨g, 2, none⟩ v2).setCell ⟨g, 3, none⟩ v3).heap[g]? = some (.cells #[v0, v1, v2, v3] t (0, 0)) := by
  refine blk_put (cs := #[v0, v1, v2, a3]) ?_ 3 _ rfl
  refine blk_put (cs := #[v0, v1, a2, a3]) ?_ 2 _ rfl
  refine blk_put (cs := #[v0, a1, a2, a3]) ?_ 1 _ rfl
  exact blk_put (cs := #[a0, a1, a2, a3]) h 0 _ rfl
theorem far4 {w : World} {g k : Nat} {o : Option Obj} (h : w.heap[k]? = o) (hk : k ≠ g) (v0 v1 v2 v3 : Value) : ((((w.setCell ⟨g, 0, none⟩ v0).setCell ⟨g, 1, none⟩ v1).setCell ⟨g, 2, none⟩ v2).setCell ⟨g, 3, none⟩ v3).heap[k]? = o := ((Below.heap_setCell _ ⟨g, 3, none⟩ v3 k hk).trans ((Below.heap_setCell _ ⟨g, 2, none⟩ v2 k hk).trans ((Below.heap_setCell _ ⟨g, 1, none⟩ v1 k hk).trans ((Below.heap_setCell _ ⟨g, 0, none⟩ v0 k hk).trans h))))
theorem rows_keep {W W' : World} {base : Nat} {v : Value} {xs : List S46} (h : Kd.R k46 46 W base (fun _ => True) v xs) (hk : ∀ k, base ≤ k → k < W.heap.size → W'.heap[k]? = W.heap[k]?) : Kd.R k46 46 W' base (fun _ => True) v xs :=
  Kd.R_mono (Kd.R_move (Kd.R_bound h) (fun k hk' => hk k hk'.2.1 hk'.2.2.1)) (fun _ _ => trivial)
theorem St.later {w W W' : World} {vl : Value} {t : Tl} {acc : List S46} (h : St w W vl t acc) (hb : Below W.heap.size W W') : St w W' vl t acc := by
  obtain ⟨⟨_, _, _, _, _, _, _, _, t1, t2⟩, ⟨_, _, _, _, _, _, _, _, _, r1⟩, ⟨_, _, _, _, _, _, _, _, f1⟩, ⟨_, _, _, _, s1⟩, l1, b1, z1⟩ := h
  exact ⟨⟨_, _, _, _, _, _, _, _, blk_below t1 hb, t2⟩, ⟨_, _, _, _, _, _, _, _, _, blk_below r1 hb⟩, ⟨_, _, _, _, _, _, _, _, blk_below f1 hb⟩, ⟨_, _, _, _, blk_below s1 hb⟩, rows_keep l1 (fun k _ hk => hb.block k hk), below_then b1 b1.size hb, Nat.le_trans z1 hb.size⟩
theorem far9 {w : World} {g k : Nat} {o : Option Obj} (h : w.heap[k]? = o) (hk : k ≠ g) (v0 v1 v2 v3 v4 v5 v6 v7 v8 : Value) : (((((((((w.setCell ⟨g, 0, none⟩ v0).setCell ⟨g, 1, none⟩ v1).setCell ⟨g, 2, none⟩ v2).setCell ⟨g, 3, none⟩ v3).setCell ⟨g, 4, none⟩ v4).setCell ⟨g, 5, none⟩ v5).setCell ⟨g, 6, none⟩ v6).setCell ⟨g, 7, none⟩ v7).setCell ⟨g, 8, none⟩ v8).heap[k]? = o := ((Below.heap_setCell _ ⟨g, 8, none⟩ v8 k hk).trans ((Below.heap_setCell _ ⟨g, 7, none⟩ v7 k hk).trans ((Below.heap_setCell _ ⟨g, 6, none⟩ v6 k hk).trans ((Below.heap_setCell _ ⟨g, 5, none⟩ v5 k hk).trans ((Below.heap_setCell _ ⟨g, 4, none⟩ v4 k hk).trans ((Below.heap_setCell _ ⟨g, 3, none⟩ v3 k hk).trans ((Below.heap_setCell _ ⟨g, 2, none⟩ v2 k hk).trans ((Below.heap_setCell _ ⟨g, 1, none⟩ v1 k hk).trans ((Below.heap_setCell _ ⟨g, 0, none⟩ v0 k hk).trans h)))))))))
theorem St.rec9 {w W : World} {vl : Value} {t : Tl} {acc : List S46} (h : St w W vl t acc) (v0 v1 v2 v3 v4 v5 v6 v7 : Int) (v8 : ByteArray) : St w (((((((((W.setCell ⟨w.heap.size + 1, 0, none⟩ (.int .i64 v0)).setCell ⟨w.heap.size + 1, 1, none⟩ (.int .i64 v1)).setCell ⟨w.heap.size + 1, 2, none⟩ (.int .i64 v2)).setCell ⟨w.heap.size + 1, 3, none⟩ (.int .i64 v3)).setCell ⟨w.heap.size + 1, 4, none⟩ (.int .i64 v4)).setCell ⟨w.heap.size + 1, 5, none⟩ (.int .i64 v5)).setCell ⟨w.heap.size + 1, 6, none⟩ (.int .i64 v6)).setCell ⟨w.heap.size + 1, 7, none⟩ (.int .i64 v7)).setCell ⟨w.heap.size + 1, 8, none⟩ (.string v8)) vl t acc := by
  obtain ⟨⟨_, _, _, _, _, _, _, _, t1, t2⟩, ⟨_, _, _, _, _, _, _, _, _, r1⟩, ⟨_, _, _, _, _, _, _, _, f1⟩, ⟨_, _, _, _, s1⟩, l1, b1, z1⟩ := h
  exact ⟨⟨_, _, _, _, _, _, _, _, far9 t1 (by omega) _ _ _ _ _ _ _ _ _, t2⟩, ⟨_, _, _, _, _, _, _, _, _, put9 r1 _ _ _ _ _ _ _ _ _⟩, ⟨_, _, _, _, _, _, _, _, far9 f1 (by omega) _ _ _ _ _ _ _ _ _⟩, ⟨_, _, _, _, far9 s1 (by omega) _ _ _ _ _ _ _ _ _⟩, rows_keep l1 (fun k hk _ => far9 rfl (by omega) _ _ _ _ _ _ _ _ _), below9 b1 (by omega) _ _ _ _ _ _ _ _ _, by simpa [World.setCell] using z1⟩
theorem St.fs8 {w W : World} {vl : Value} {t : Tl} {acc : List S46} (h : St w W vl t acc) (c0 d0 c1 d1 c2 d2 c3 d3 : Nat) (s0 s1 s2 s3 : Int) : St w ((((((((W.setCell ⟨w.heap.size + 1 + 1, 0, none⟩ (.complex .f64 c0 d0)).setCell ⟨w.heap.size + 1 + 1, 1, none⟩ (.complex .f64 c1 d1)).setCell ⟨w.heap.size + 1 + 1, 2, none⟩ (.complex .f64 c2 d2)).setCell ⟨w.heap.size + 1 + 1, 3, none⟩ (.complex .f64 c3 d3)).setCell ⟨w.heap.size + 1 + 1 + 1, 0, none⟩ (.int .i64 s0)).setCell ⟨w.heap.size + 1 + 1 + 1, 1, none⟩ (.int .i64 s1)).setCell ⟨w.heap.size + 1 + 1 + 1, 2, none⟩ (.int .i64 s2)).setCell ⟨w.heap.size + 1 + 1 + 1, 3, none⟩ (.int .i64 s3)) vl t acc ∧ (((((((((W.setCell ⟨w.heap.size + 1 + 1, 0, none⟩ (.complex .f64 c0 d0)).setCell ⟨w.heap.size + 1 + 1, 1, none⟩ (.complex .f64 c1 d1)).setCell ⟨w.heap.size + 1 + 1, 2, none⟩ (.complex .f64 c2 d2)).setCell ⟨w.heap.size + 1 + 1, 3, none⟩ (.complex .f64 c3 d3)).setCell ⟨w.heap.size + 1 + 1 + 1, 0, none⟩ (.int .i64 s0)).setCell ⟨w.heap.size + 1 + 1 + 1, 1, none⟩ (.int .i64 s1)).setCell ⟨w.heap.size + 1 + 1 + 1, 2, none⟩ (.int .i64 s2)).setCell ⟨w.heap.size + 1 + 1 + 1, 3, none⟩ (.int .i64 s3))).heap[w.heap.size + 1 + 1]? = some (.cells #[.complex .f64 c0 d0, .complex .f64 c1 d1, .complex .f64 c2 d2, .complex .f64 c3 d3] 27 (0, 0)) ∧ (((((((((W.setCell ⟨w.heap.size + 1 + 1, 0, none⟩ (.complex .f64 c0 d0)).setCell ⟨w.heap.size + 1 + 1, 1, none⟩ (.complex .f64 c1 d1)).setCell ⟨w.heap.size + 1 + 1, 2, none⟩ (.complex .f64 c2 d2)).setCell ⟨w.heap.size + 1 + 1, 3, none⟩ (.complex .f64 c3 d3)).setCell ⟨w.heap.size + 1 + 1 + 1, 0, none⟩ (.int .i64 s0)).setCell ⟨w.heap.size + 1 + 1 + 1, 1, none⟩ (.int .i64 s1)).setCell ⟨w.heap.size + 1 + 1 + 1, 2, none⟩ (.int .i64 s2)).setCell ⟨w.heap.size + 1 + 1 + 1, 3, none⟩ (.int .i64 s3))).heap[w.heap.size + 1 + 1 + 1]? = some (.cells #[.int .i64 s0, .int .i64 s1, .int .i64 s2, .int .i64 s3] 56 (0, 0)) ∧ (∀ g, g ≠ w.heap.size + 1 + 1 → g ≠ w.heap.size + 1 + 1 + 1 → (((((((((W.setCell ⟨w.heap.size + 1 + 1, 0, none⟩ (.complex .f64 c0 d0)).setCell ⟨w.heap.size + 1 + 1, 1, none⟩ (.complex .f64 c1 d1)).setCell ⟨w.heap.size + 1 + 1, 2, none⟩ (.complex .f64 c2 d2)).setCell ⟨w.heap.size + 1 + 1, 3, none⟩ (.complex .f64 c3 d3)).setCell ⟨w.heap.size + 1 + 1 + 1, 0, none⟩ (.int .i64 s0)).setCell ⟨w.heap.size + 1 + 1 + 1, 1, none⟩ (.int .i64 s1)).setCell ⟨w.heap.size + 1 + 1 + 1, 2, none⟩ (.int .i64 s2)).setCell ⟨w.heap.size + 1 + 1 + 1, 3, none⟩ (.int .i64 s3))).heap[g]? = W.heap[g]?) := by
  obtain ⟨⟨_, _, _, _, _, _, _, _, t1, t2⟩, ⟨_, _, _, _, _, _, _, _, _, r1⟩, ⟨_, _, _, _, _, _, _, _, f1⟩, ⟨_, _, _, _, hs⟩, l1, b1, z1⟩ := h
  have F1 := put4 f1 (.complex .f64 c0 d0) (.complex .f64 c1 d1) (.complex .f64 c2 d2) (.complex .f64 c3 d3)
  have S1 := put4 (far4 hs (k := w.heap.size + 1 + 1 + 1) (g := w.heap.size + 1 + 1) (by omega) (.complex .f64 c0 d0) (.complex .f64 c1 d1) (.complex .f64 c2 d2) (.complex .f64 c3 d3)) (.int .i64 s0) (.int .i64 s1) (.int .i64 s2) (.int .i64 s3)
  have F2 := far4 F1 (k := w.heap.size + 1 + 1) (g := w.heap.size + 1 + 1 + 1) (by omega) (.int .i64 s0) (.int .i64 s1) (.int .i64 s2) (.int .i64 s3)
  have hfar : ∀ g, g ≠ w.heap.size + 1 + 1 → g ≠ w.heap.size + 1 + 1 + 1 → (((((((((W.setCell ⟨w.heap.size + 1 + 1, 0, none⟩ (.complex .f64 c0 d0)).setCell ⟨w.heap.size + 1 + 1, 1, none⟩ (.complex .f64 c1 d1)).setCell ⟨w.heap.size + 1 + 1, 2, none⟩ (.complex .f64 c2 d2)).setCell ⟨w.heap.size + 1 + 1, 3, none⟩ (.complex .f64 c3 d3)).setCell ⟨w.heap.size + 1 + 1 + 1, 0, none⟩ (.int .i64 s0)).setCell ⟨w.heap.size + 1 + 1 + 1, 1, none⟩ (.int .i64 s1)).setCell ⟨w.heap.size + 1 + 1 + 1, 2, none⟩ (.int .i64 s2)).setCell ⟨w.heap.size + 1 + 1 + 1, 3, none⟩ (.int .i64 s3))).heap[g]? = W.heap[g]? := fun g h1 h2 => far4 (far4 rfl h1 _ _ _ _) h2 _ _ _ _
  refine ⟨⟨⟨_, _, _, _, _, _, _, _, (hfar _ (by omega) (by omega)).trans t1, t2⟩, ⟨_, _, _, _, _, _, _, _, _, (hfar _ (by omega) (by omega)).trans r1⟩, ⟨_, _, _, _, _, _, _, _, F2⟩, ⟨_, _, _, _, S1⟩, rows_keep l1 (fun k hk _ => hfar k (by omega) (by omega)), ?_, by simpa [World.setCell] using z1⟩, F2, S1, hfar⟩
  exact below_set' (below_set' (below_set' (below_set' (below_set' (below_set' (below_set' (below_set' b1 (by simp; omega) _) (by simp; omega) _) (by simp; omega) _) (by simp; omega) _) (by simp; omega) _) (by simp; omega) _) (by simp; omega) _) (by simp; omega) _
theorem St.push {w W W7 : World} {vl v7 : Value} {t : Tl} {acc xs : List S46} (h : St w W vl t acc) (ho : Kd.R k46 46 W7 (w.heap.size + 1 + 1 + 1 + 1) (fun _ => True) v7 xs) (hb : Below (w.heap.size + 1 + 1 + 1 + 1) W W7) : St w W7 v7 t xs := by
  obtain ⟨⟨_, _, _, _, _, _, _, _, t1, t2⟩, ⟨_, _, _, _, _, _, _, _, _, r1⟩, ⟨_, _, _, _, _, _, _, _, f1⟩, ⟨_, _, _, _, s1⟩, l1, b1, z1⟩ := h
  exact ⟨⟨_, _, _, _, _, _, _, _, (hb.block _ (by omega)).trans t1, t2⟩, ⟨_, _, _, _, _, _, _, _, _, (hb.block _ (by omega)).trans r1⟩, ⟨_, _, _, _, _, _, _, _, (hb.block _ (by omega)).trans f1⟩, ⟨_, _, _, _, (hb.block _ (by omega)).trans s1⟩, ho, b1.trans (hb.mono (by omega)), Nat.le_trans z1 hb.size⟩
theorem put7 {w : World} {g : Nat} {t : TypeId} {a0 a1 a2 a3 a4 a5 a6 : Value} (h : w.heap[g]? = some (.cells #[a0, a1, a2, a3, a4, a5, a6] t (0, 0))) (v0 v1 v2 v3 v4 v5 v6 : Value) : (((((((w.setCell ⟨g, 0, none⟩ v0).setCell ⟨g, 1, none⟩ v1).setCell ⟨g, 2, none⟩ v2).setCell ⟨g, 3, none⟩ v3).setCell ⟨g, 4, none⟩ v4).setCell ⟨g, 5, none⟩ v5).setCell ⟨g, 6, none⟩ v6).heap[g]? = some (.cells #[v0, v1, v2, v3, v4, v5, v6] t (0, 0)) := by
  refine blk_put (cs := #[v0, v1, v2, v3, v4, v5, a6]) ?_ 6 _ rfl
  refine blk_put (cs := #[v0, v1, v2, v3, v4, a5, a6]) ?_ 5 _ rfl
  refine blk_put (cs := #[v0, v1, v2, v3, a4, a5, a6]) ?_ 4 _ rfl
  refine blk_put (cs := #[v0, v1, v2, a3, a4, a5, a6]) ?_ 3 _ rfl
  refine blk_put (cs := #[v0, v1, a2, a3, a4, a5, a6]) ?_ 2 _ rfl
  refine blk_put (cs := #[v0, a1, a2, a3, a4, a5, a6]) ?_ 1 _ rfl
  exact blk_put (cs := #[a0, a1, a2, a3, a4, a5, a6]) h 0 _ rfl
theorem far7 {w : World} {g k : Nat} {o : Option Obj} (h : w.heap[k]? = o) (hk : k ≠ g) (v0 v1 v2 v3 v4 v5 v6 : Value) : (((((((w.setCell ⟨g, 0, none⟩ v0).setCell ⟨g, 1, none⟩ v1).setCell ⟨g, 2, none⟩ v2).setCell ⟨g, 3, none⟩ v3).setCell ⟨g, 4, none⟩ v4).setCell ⟨g, 5, none⟩ v5).setCell ⟨g, 6, none⟩ v6).heap[k]? = o := (Below.heap_setCell _ ⟨g, 6, none⟩ v6 k hk).trans ((Below.heap_setCell _ ⟨g, 5, none⟩ v5 k hk).trans ((Below.heap_setCell _ ⟨g, 4, none⟩ v4 k hk).trans (far4 h hk v0 v1 v2 v3)))
theorem St.tl7 {w W : World} {vl : Value} {t t' : Tl} {acc : List S46} (h : St w W vl t acc) (c0 d0 c1 d1 c2 d2 c3 d3 : Nat) (hS : Of4 (.agg #[.complex .f64 c0 d0, .complex .f64 c1 d1, .complex .f64 c2 d2, .complex .f64 c3 d3]) t'.S) : St w (((((((W.setCell ⟨w.heap.size, 0, none⟩ (.int .i64 t'.a)).setCell ⟨w.heap.size, 1, none⟩ (.int .i64 t'.q)).setCell ⟨w.heap.size, 2, none⟩ (.int .i64 t'.b)).setCell ⟨w.heap.size, 3, none⟩ (.complex .f64 c0 d0)).setCell ⟨w.heap.size, 4, none⟩ (.complex .f64 c1 d1)).setCell ⟨w.heap.size, 5, none⟩ (.complex .f64 c2 d2)).setCell ⟨w.heap.size, 6, none⟩ (.complex .f64 c3 d3)) vl t' acc := by
  obtain ⟨⟨_, _, _, _, _, _, _, _, t1, t2⟩, ⟨_, _, _, _, _, _, _, _, _, r1⟩, ⟨_, _, _, _, _, _, _, _, f1⟩, ⟨_, _, _, _, s1⟩, l1, b1, z1⟩ := h
  exact ⟨⟨_, _, _, _, _, _, _, _, put7 t1 _ _ _ _ _ _ _, hS⟩, ⟨_, _, _, _, _, _, _, _, _, far7 r1 (by omega) _ _ _ _ _ _ _⟩, ⟨_, _, _, _, _, _, _, _, far7 f1 (by omega) _ _ _ _ _ _ _⟩, ⟨_, _, _, _, far7 s1 (by omega) _ _ _ _ _ _ _⟩, rows_keep l1 (fun k hk _ => far7 rfl (by omega) _ _ _ _ _ _ _), below_set' (below_set' (below_set' (below_set' (below_set' (below_set' (below_set' b1 (Nat.le_refl _) _) (Nat.le_refl _) _) (Nat.le_refl _) _) (Nat.le_refl _) _) (Nat.le_refl _) _) (Nat.le_refl _) _) (Nat.le_refl _) _, by simpa [World.setCell] using z1⟩
theorem infoE : (Try.prog.info? 46).map (fun i => (i.zero, i.size, i.bytes)) = some (some (.agg #[.int .i64 0, .int .i64 0, .string ⟨#[]⟩]), 3, 32) := by kernel_rfl
theorem lit_E (W : World) (x : S46) : Kd.C k46 (W.alloc (.cells #[.int .i64 x.f0, .int .i64 x.f1, .string x.f2] 46)) (some ⟨W.heap.size, 0, none⟩) 1 [x] := by
  refine ⟨rfl, by decide, fun _ => ⟨_, rfl, fun j p hj => ?_⟩⟩
  obtain rfl : j = 0 := by
    have := (List.getElem?_eq_some_iff.1 hj).1
    simp at this
    omega
  obtain rfl : x = p := by simpa using hj
  refine ⟨[.int .i64 x.f0, .int .i64 x.f1, .string x.f2], rfl, k46_mk _ x, fun i u hu => ?_⟩
  rw [add_plain, blk_cell (blk_new W (.cells #[.int .i64 x.f0, .int .i64 x.f1, .string x.f2] 46))]
  have hi : i < 3 := (List.getElem?_eq_some_iff.1 hu).1
  match i, hi with
  | 0, _ => simpa using hu
  | 1, _ => simpa using hu
  | 2, _ => simpa using hu
theorem st_new {w w1 : World} (h : Below ((((w.alloc (.cells #[.int .i64 0, .int .i64 0, .int .i64 0, .complex .f64 0 0, .complex .f64 0 0, .complex .f64 0 0, .complex .f64 0 0] 29)).alloc (.cells #[.int .i64 0, .int .i64 0, .int .i64 0, .int .i64 0, .int .i64 0, .int .i64 0, .int .i64 0, .int .i64 0, .string ⟨#[]⟩] 58)).alloc (.cells #[.complex .f64 0 0, .complex .f64 0 0, .complex .f64 0 0, .complex .f64 0 0] 27)).alloc (.cells #[.int .i64 0, .int .i64 0, .int .i64 0, .int .i64 0] 56)).heap.size ((((w.alloc (.cells #[.int .i64 0, .int .i64 0, .int .i64 0, .complex .f64 0 0, .complex .f64 0 0, .complex .f64 0 0, .complex .f64 0 0] 29)).alloc (.cells #[.int .i64 0, .int .i64 0, .int .i64 0, .int .i64 0, .int .i64 0, .int .i64 0, .int .i64 0, .int .i64 0, .string ⟨#[]⟩] 58)).alloc (.cells #[.complex .f64 0 0, .complex .f64 0 0, .complex .f64 0 0, .complex .f64 0 0] 27)).alloc (.cells #[.int .i64 0, .int .i64 0, .int .i64 0, .int .i64 0] 56)) w1) : St w w1 (.slice none 0 0) Tl0 [] := by
  have N0 : ((((w.alloc (.cells #[.int .i64 0, .int .i64 0, .int .i64 0, .complex .f64 0 0, .complex .f64 0 0, .complex .f64 0 0, .complex .f64 0 0] 29)).alloc (.cells #[.int .i64 0, .int .i64 0, .int .i64 0, .int .i64 0, .int .i64 0, .int .i64 0, .int .i64 0, .int .i64 0, .string ⟨#[]⟩] 58)).alloc (.cells #[.complex .f64 0 0, .complex .f64 0 0, .complex .f64 0 0, .complex .f64 0 0] 27)).alloc (.cells #[.int .i64 0, .int .i64 0, .int .i64 0, .int .i64 0] 56)).heap[w.heap.size]? = some (.cells #[.int .i64 0, .int .i64 0, .int .i64 0, .complex .f64 0 0, .complex .f64 0 0, .complex .f64 0 0, .complex .f64 0 0] 29 (0, 0)) := blk_alloc (blk_alloc (blk_alloc (blk_new w _) _) _) _
  have N1 : ((((w.alloc (.cells #[.int .i64 0, .int .i64 0, .int .i64 0, .complex .f64 0 0, .complex .f64 0 0, .complex .f64 0 0, .complex .f64 0 0] 29)).alloc (.cells #[.int .i64 0, .int .i64 0, .int .i64 0, .int .i64 0, .int .i64 0, .int .i64 0, .int .i64 0, .int .i64 0, .string ⟨#[]⟩] 58)).alloc (.cells #[.complex .f64 0 0, .complex .f64 0 0, .complex .f64 0 0, .complex .f64 0 0] 27)).alloc (.cells #[.int .i64 0, .int .i64 0, .int .i64 0, .int .i64 0] 56)).heap[w.heap.size + 1]? = some (.cells #[.int .i64 0, .int .i64 0, .int .i64 0, .int .i64 0, .int .i64 0, .int .i64 0, .int .i64 0, .int .i64 0, .string ⟨#[]⟩] 58 (0, 0)) := by
    refine blk_alloc (blk_alloc ?_ _) _
    have := blk_new (w.alloc (.cells #[.int .i64 0, .int .i64 0, .int .i64 0, .complex .f64 0 0, .complex .f64 0 0, .complex .f64 0 0, .complex .f64 0 0] 29)) (.cells #[.int .i64 0, .int .i64 0, .int .i64 0, .int .i64 0, .int .i64 0, .int .i64 0, .int .i64 0, .int .i64 0, .string ⟨#[]⟩] 58)
    simpa using this
  have N2 : ((((w.alloc (.cells #[.int .i64 0, .int .i64 0, .int .i64 0, .complex .f64 0 0, .complex .f64 0 0, .complex .f64 0 0, .complex .f64 0 0] 29)).alloc (.cells #[.int .i64 0, .int .i64 0, .int .i64 0, .int .i64 0, .int .i64 0, .int .i64 0, .int .i64 0, .int .i64 0, .string ⟨#[]⟩] 58)).alloc (.cells #[.complex .f64 0 0, .complex .f64 0 0, .complex .f64 0 0, .complex .f64 0 0] 27)).alloc (.cells #[.int .i64 0, .int .i64 0, .int .i64 0, .int .i64 0] 56)).heap[w.heap.size + 1 + 1]? = some (.cells #[.complex .f64 0 0, .complex .f64 0 0, .complex .f64 0 0, .complex .f64 0 0] 27 (0, 0)) := by
    refine blk_alloc ?_ _
    have := blk_new ((w.alloc (.cells #[.int .i64 0, .int .i64 0, .int .i64 0, .complex .f64 0 0, .complex .f64 0 0, .complex .f64 0 0, .complex .f64 0 0] 29)).alloc (.cells #[.int .i64 0, .int .i64 0, .int .i64 0, .int .i64 0, .int .i64 0, .int .i64 0, .int .i64 0, .int .i64 0, .string ⟨#[]⟩] 58)) (.cells #[.complex .f64 0 0, .complex .f64 0 0, .complex .f64 0 0, .complex .f64 0 0] 27)
    simpa using this
  have N3 : ((((w.alloc (.cells #[.int .i64 0, .int .i64 0, .int .i64 0, .complex .f64 0 0, .complex .f64 0 0, .complex .f64 0 0, .complex .f64 0 0] 29)).alloc (.cells #[.int .i64 0, .int .i64 0, .int .i64 0, .int .i64 0, .int .i64 0, .int .i64 0, .int .i64 0, .int .i64 0, .string ⟨#[]⟩] 58)).alloc (.cells #[.complex .f64 0 0, .complex .f64 0 0, .complex .f64 0 0, .complex .f64 0 0] 27)).alloc (.cells #[.int .i64 0, .int .i64 0, .int .i64 0, .int .i64 0] 56)).heap[w.heap.size + 1 + 1 + 1]? = some (.cells #[.int .i64 0, .int .i64 0, .int .i64 0, .int .i64 0] 56 (0, 0)) := by
    have := blk_new (((w.alloc (.cells #[.int .i64 0, .int .i64 0, .int .i64 0, .complex .f64 0 0, .complex .f64 0 0, .complex .f64 0 0, .complex .f64 0 0] 29)).alloc (.cells #[.int .i64 0, .int .i64 0, .int .i64 0, .int .i64 0, .int .i64 0, .int .i64 0, .int .i64 0, .int .i64 0, .string ⟨#[]⟩] 58)).alloc (.cells #[.complex .f64 0 0, .complex .f64 0 0, .complex .f64 0 0, .complex .f64 0 0] 27)) (.cells #[.int .i64 0, .int .i64 0, .int .i64 0, .int .i64 0] 56)
    simpa using this
  have hz : ((((w.alloc (.cells #[.int .i64 0, .int .i64 0, .int .i64 0, .complex .f64 0 0, .complex .f64 0 0, .complex .f64 0 0, .complex .f64 0 0] 29)).alloc (.cells #[.int .i64 0, .int .i64 0, .int .i64 0, .int .i64 0, .int .i64 0, .int .i64 0, .int .i64 0, .int .i64 0, .string ⟨#[]⟩] 58)).alloc (.cells #[.complex .f64 0 0, .complex .f64 0 0, .complex .f64 0 0, .complex .f64 0 0] 27)).alloc (.cells #[.int .i64 0, .int .i64 0, .int .i64 0, .int .i64 0] 56)).heap.size = w.heap.size + 1 + 1 + 1 + 1 := by simp
  have hb : Below w.heap.size w ((((w.alloc (.cells #[.int .i64 0, .int .i64 0, .int .i64 0, .complex .f64 0 0, .complex .f64 0 0, .complex .f64 0 0, .complex .f64 0 0] 29)).alloc (.cells #[.int .i64 0, .int .i64 0, .int .i64 0, .int .i64 0, .int .i64 0, .int .i64 0, .int .i64 0, .int .i64 0, .string ⟨#[]⟩] 58)).alloc (.cells #[.complex .f64 0 0, .complex .f64 0 0, .complex .f64 0 0, .complex .f64 0 0] 27)).alloc (.cells #[.int .i64 0, .int .i64 0, .int .i64 0, .int .i64 0] 56)) := ((((Below.refl _ _).alloc (Nat.le_refl _) _).alloc (by simp) _).alloc (by simp; omega) _).alloc (by simp; omega) _
  generalize ((((w.alloc (.cells #[.int .i64 0, .int .i64 0, .int .i64 0, .complex .f64 0 0, .complex .f64 0 0, .complex .f64 0 0, .complex .f64 0 0] 29)).alloc (.cells #[.int .i64 0, .int .i64 0, .int .i64 0, .int .i64 0, .int .i64 0, .int .i64 0, .int .i64 0, .int .i64 0, .string ⟨#[]⟩] 58)).alloc (.cells #[.complex .f64 0 0, .complex .f64 0 0, .complex .f64 0 0, .complex .f64 0 0] 27)).alloc (.cells #[.int .i64 0, .int .i64 0, .int .i64 0, .int .i64 0] 56)) = W at h N0 N1 N2 N3 hz hb
  refine ⟨⟨_, _, _, _, _, _, _, _, blk_below N0 h, (tl0_ok []).S, _, _, _, _, _, _, _, _, rfl, ⟨rep_zero, rep_zero⟩, ⟨rep_zero, rep_zero⟩, ⟨rep_zero, rep_zero⟩, ⟨rep_zero, rep_zero⟩⟩, ⟨_, _, _, _, _, _, _, _, _, blk_below N1 h⟩, ⟨_, _, _, _, _, _, _, _, blk_below N2 h⟩, ⟨_, _, _, _, blk_below N3 h⟩, Kd.R_nil _ _ _ _ _, below_then hb hb.size h, ?_⟩
  rw [← hz]
  exact h.size
/-- Where the walk stands, and how much is left. -/
inductive Phase (b : List Int) (block base : Int) (t : Tl) : Nat → Nat → Value → Prop
  | rec_ (ua : Value) : Phase b block base t (8 * ((b.length : Int) - t.a).toNat + 5) 0 ua
  | try1 : Phase b block base t (8 * ((b.length : Int) - t.a).toNat + 4) 2 (.int .i64 t.a)
  | oth1 : tryAt b block base t t.a = none → Phase b block base t (8 * ((b.length : Int) - t.a).toNat + 3) 1 (.int .i64 t.a)
  | try2 : tryAt b block base t t.a = none → t.a % block ≠ 0 → Phase b block base t (8 * ((b.length : Int) - t.a).toNat + 2) 2 (.int .i64 (nx t.a block))
  | oth2 : tryAt b block base t t.a = none → t.a % block ≠ 0 → tryAt b block base t (nx t.a block) = none → Phase b block base t (8 * ((b.length : Int) - t.a).toNat + 1) 1 (.int .i64 (nx t.a block))
theorem Phase.label {b : List Int} {block base : Int} {t : Tl} {n l : Nat} {ua : Value} (h : Phase b block base t n l ua) : l = 0 ∨ l = 1 ∨ l = 2 := by cases h <;> simp
theorem Phase.try_ {b : List Int} {block base : Int} (hk : 0 < block) {t : Tl} {n : Nat} {ua : Value} (h : Phase b block base t n 2 ua) : ∃ (at_ : Int) (m : Nat), ua = .int .i64 at_ ∧ t.a ≤ at_ ∧ at_ ≤ t.a + block ∧ n = m + 1 ∧ 8 * ((b.length : Int) - t.a).toNat < m ∧ (tryAt b block base t at_ = none → Phase b block base t m 1 (.int .i64 at_)) ∧ (∀ r, tryAt b block base t at_ = some r → stepOf b block base t = some r) := by
  cases h with
  | try1 => exact ⟨t.a, _, rfl, Int.le_refl _, by omega, rfl, by omega, .oth1, fun r hr => by unfold stepOf; rw [hr]⟩
  | try2 h1 h2 =>
    have := nx_pos (a := t.a) hk
    exact ⟨nx t.a block, _, rfl, by omega, this.2, rfl, by omega, .oth2 h1 h2, fun r hr => by unfold stepOf; rw [h1]; simp only; rw [if_pos h2]; exact hr⟩
theorem Phase.oth {b : List Int} {block base : Int} (hk : 0 < block) {t : Tl} {n : Nat} {ua : Value} (h : Phase b block base t n 1 ua) : ∃ at_ : Int, ua = .int .i64 at_ ∧ ((at_ = t.a ∧ t.a % block ≠ 0 ∧ ∃ m, m < n ∧ Phase b block base t m 2 (.int .i64 (nx t.a block))) ∨ ((at_ ≠ t.a ∨ t.a % block = 0) ∧ stepOf b block base t = none)) := by
  cases h with
  | oth1 h1 =>
    refine ⟨t.a, rfl, ?_⟩
    by_cases c : t.a % block = 0
    · exact .inr ⟨.inr c, by unfold stepOf; rw [h1]; simp only; rw [if_neg (fun q => q c)]⟩
    · exact .inl ⟨rfl, c, _, by omega, .try2 h1 c⟩
  | oth2 h1 h2 h3 =>
    have := nx_pos (a := t.a) hk
    exact ⟨nx t.a block, rfl, .inr ⟨.inl (by omega), by unfold stepOf; rw [h1]; simp only; rw [if_pos h2]; exact h3⟩⟩
/-- What holds at every jump. -/
inductive ScanJ (b : List Int) (block base : Int) (A : Option Addr) (c : Nat) (w : World) (W : World) : Nat → Nat → Act → Prop
  | mk (n l : Nat) (t : Tl) (acc : List S46) (vl ue ua un u14 u15 u16 u17 u18 u19 u20 u21 u22 u23 u24 u25 u26 u27 u28 u29 u30 u31 u32 u33 u34 u35 u36 u37 u38 u39 u40 u41 u42 u43 u44 u45 u46 u47 u48 u49 u50 u51 u52 u53 u54 u55 u56 u57 u58 u59 u60 u61 u62 u63 u64 u65 u66 u67 u68 u69 u70 u71 u72 u73 u74 u75 u76 u77 u78 u79 u80 u81 u82 u83 u84 u85 u86 u87 u88 u89 u90 u91 u92 u93 u94 u95 u96 u97 u98 u99 u100 u101 u102 u103 u104 u105 : Value) (hph : Phase b block base t n l ua) (hst : St w W vl t acc) (hok : TlOk b t) (hsc : ∀ l u, Scans b block base t l u → Scans b block base Tl0 (acc ++ l) u) (hal : (acc.length : Int) = t.q) : ScanJ b block base A c w W n l { tmps := #[.slice A b.length c, .int .i64 block, .int .i64 base, undef, undef, undef, vl, .pointer (some ⟨w.heap.size, 0, none⟩), ue, .pointer (some ⟨w.heap.size + 1, 0, none⟩), .pointer (some ⟨w.heap.size + 1 + 1, 0, none⟩), .pointer (some ⟨w.heap.size + 1 + 1 + 1, 0, none⟩), ua, un, u14, u15, u16, u17, u18, u19, u20, u21, u22, u23, u24, u25, u26, u27, u28, u29, u30, u31, u32, u33, u34, u35, u36, u37, u38, u39, u40, u41, u42, u43, u44, u45, u46, u47, u48, u49, u50, u51, u52, u53, u54, u55, u56, u57, u58, u59, u60, u61, u62, u63, u64, u65, u66, u67, u68, u69, u70, u71, u72, u73, u74, u75, u76, u77, u78, u79, u80, u81, u82, u83, u84, u85, u86, u87, u88, u89, u90, u91, u92, u93, u94, u95, u96, u97, u98, u99, u100, u101, u102, u103, u104, u105], defers := [] }

theorem infoT : (Try.prog.info? 29).map (·.size) = some 7 := by kernel_rfl
def scan.T18 : Bool × List (List Nat × List Nat) := (true, [([], []), ([], []), ([0, 0], [0]), ([1, 2, 0, 1, 2], [1]), ([3, 0, 1, 2, 3], [])])
def scan.B18 : List Nat := [0, 0, 1, 7, 15]
theorem scan.tab18 : rtab .any (opsOf Try.f9 18) = scan.T18 := by kernel_rfl
theorem scan.bits18 : waitsOk scan.T18.2 scan.B18 = true := by kernel_rfl

set_option maxHeartbeats 8000000 in
set_option maxRecDepth 100000 in
theorem scan_ok (b : List Int) (block base : Int) (A : Option Addr) (c : Nat) (w : World) (hr : Kd.C (Kd.int .u8) w A b.length b) (hc : b.length ≤ c) (hb : Bytes b) (hs : b.length ≤ 4194304) (mx : Int) (hf : swap_file.f block base = some (mx, 0)) (hk : 64 ≤ block ∧ block ≤ 4096) :
    Calls Try.prog 9 #[.slice A b.length c, .int .i64 block, .int .i64 base] w fun e w' => ∃ v L u a0 b0 a1 b1 a2 b2 a3 b3, Scans b block base Tl0 L u ∧ TlOk b u ∧ Of4 (.agg #[.complex .f64 a0 b0, .complex .f64 a1 b1, .complex .f64 a2 b2, .complex .f64 a3 b3]) u.S ∧ e = .returned (.tuple #[v, .agg #[.int .i64 u.a, .int .i64 u.q, .int .i64 u.b, .complex .f64 a0 b0, .complex .f64 a1 b1, .complex .f64 a2 b2, .complex .f64 a3 b3], .int .i64 0]) ∧ Kd.R k46 46 w' (w.heap.size + 1 + 1 + 1 + 1) (fun _ => True) v L ∧ Below w.heap.size w w' := by
  have hu := Try.underlying29
  have hu2 := Try.underlying27
  have hu3 := Try.underlying56
  have hu4 := Try.underlying58
  have hu5 := Try.underlying46
  have HR := Aside0.mk hr
  have HC := Aside0.mk hc
  have HBY := Aside0.mk hb
  have HS := Aside0.mk hs
  have HF := Aside0.mk (fun W => swap_file.calls block base mx 0 W hf)
  have HK := Aside0.mk hk
  clear hr hc hb hs hf hk
  go_enter Try.func9, Try.ntmps9
  go_wp2
  refine wp_scope_many (fun n l a' W => ScanJ b block base A c w W n l a') (fun GO => ?_) (fun n l a0 W GO hJ => ?_)
  · go_wp2_with fail
    refine (HF.out _).mono ?_
    rintro e w1 ⟨rfl, hd⟩
    have HD := Aside0.mk hd.below
    clear hd
    go_wp2_with fail
    go_step3
    simp only [Exit.then]
    apply_assumption
    exact GO _ 0 _ _ _ rfl (.mk _ _ Tl0 [] _ _ _ _ _ _ _ _ _ _ _ _ _ _ _ _ _ _ _ _ _ _ _ _ _ _ _ _ _ _ _ _ _ _ _ _ _ _ _ _ _ _ _ _ _ _ _ _ _ _ _ _ _ _ _ _ _ _ _ _ _ _ _ _ _ _ _ _ _ _ _ _ _ _ _ _ _ _ _ _ _ _ _ _ _ _ _ _ _ _ _ _ _ _ _ _ (.rec_ _) (st_new HD.out) (tl0_ok b) (fun l u h => h) rfl)
  · cases hJ with
    | mk t acc vl ue ua un u14 u15 u16 u17 u18 u19 u20 u21 u22 u23 u24 u25 u26 u27 u28 u29 u30 u31 u32 u33 u34 u35 u36 u37 u38 u39 u40 u41 u42 u43 u44 u45 u46 u47 u48 u49 u50 u51 u52 u53 u54 u55 u56 u57 u58 u59 u60 u61 u62 u63 u64 u65 u66 u67 u68 u69 u70 u71 u72 u73 u74 u75 u76 u77 u78 u79 u80 u81 u82 u83 u84 u85 u86 u87 u88 u89 u90 u91 u92 u93 u94 u95 u96 u97 u98 u99 u100 u101 u102 u103 u104 u105 hph hst hok hsc hal =>
    have hk0 : 0 < block := by have := HK.out; omega
    rcases hph.label with rfl | rfl | rfl
    · cases hph with
      | rec_ =>
      refine ⟨_, rfl, ?_⟩
      obtain ⟨a0, b0, a1, b1, a2, b2, a3, b3, htl, hof⟩ := hst.tail
      have kt : W.cell? ⟨w.heap.size, 0, none⟩ = some (.int .i64 t.a) := (blk_cell htl 0).trans rfl
      go_wp2_with fail
      go_step3
      simp only [Exit.then]
      apply_assumption
      exact GO _ 2 _ _ _ (Nat.lt_succ_self _) rfl (.mk _ _ t acc _ _ _ _ _ _ _ _ _ _ _ _ _ _ _ _ _ _ _ _ _ _ _ _ _ _ _ _ _ _ _ _ _ _ _ _ _ _ _ _ _ _ _ _ _ _ _ _ _ _ _ _ _ _ _ _ _ _ _ _ _ _ _ _ _ _ _ _ _ _ _ _ _ _ _ _ _ _ _ _ _ _ _ _ _ _ _ _ _ _ _ _ _ _ _ _ .try1 hst hok hsc hal)
    · obtain ⟨at_, rfl, hoth⟩ := hph.oth hk0
      refine ⟨_, rfl, ?_⟩
      obtain ⟨a0, b0, a1, b1, a2, b2, a3, b3, htl, hof⟩ := hst.tail
      have HTL := Aside0.mk htl
      have HOF := Aside0.mk hof
      have kt : W.cell? ⟨w.heap.size, 0, none⟩ = some (.int .i64 t.a) := (blk_cell htl 0).trans rfl
      have hbz : (block == 0) = false := beq_eq_false_iff_ne.2 (by omega)
      have hbz2 : ¬ block = 0 := by omega
      have htm : Int.tmod t.a block = t.a % block := Int.tmod_eq_emod_of_nonneg hok.a0
      clear htl hof
      rcases hoth with ⟨rfl, hmod, m, hm, hph2⟩ | ⟨hor, hstep⟩
      · have e0 : (t.a == t.a) = true := beq_iff_eq.2 rfl
        have e1 : (t.a % block != 0) = true := bne_iff_ne.2 hmod
        have hnx : swap_next.f t.a block = some (nx t.a block) := by
          unfold swap_next.f nx
          have h1 := Int.emod_nonneg t.a (show block ≠ 0 by omega)
          have h2 := Int.emod_lt_of_pos t.a hk0
          have h3 := hok.a0
          have h4 := hok.a1
          have h5 := HS.out
          have h6 := HK.out
          have e1 : wrap64 (t.a - t.a % block) = t.a - t.a % block := w64 (by omega) (by omega)
          rw [if_neg (by omega), Int.tmod_eq_emod_of_nonneg h3, e1, w64 (by omega) (by omega)]
        have HX := Aside0.mk (fun W => swap_next.calls t.a block (nx t.a block) W hnx)
        have HPH := Aside0.mk (And.intro hm hph2)
        have HM := Aside0.mk hmod
        clear hnx hm hph2 hmod
        go_wp2_with fail
        refine (HX.out _).mono ?_
        rintro e W2 ⟨rfl, hd⟩
        have H2 := Aside0.mk (hst.later hd.below)
        clear hd
        go_wp2_with fail
        go_step3
        exact ⟨m, HPH.out.1, .mk _ _ t acc _ _ _ _ _ _ _ _ _ _ _ _ _ _ _ _ _ _ _ _ _ _ _ _ _ _ _ _ _ _ _ _ _ _ _ _ _ _ _ _ _ _ _ _ _ _ _ _ _ _ _ _ _ _ _ _ _ _ _ _ _ _ _ _ _ _ _ _ _ _ _ _ _ _ _ _ _ _ _ _ _ _ _ _ _ _ _ _ _ _ _ _ _ _ _ _ HPH.out.2 H2.out hok hsc hal⟩
      · have HST := Aside0.mk hstep
        have HOR := Aside0.mk hor
        clear hstep hor
        by_cases ca : at_ = t.a
        · have e0 : (at_ == t.a) = true := beq_iff_eq.2 ca
          have e1 : (t.a % block != 0) = false := bne_eq_false_iff_eq.2 (HOR.out.elim (fun q => absurd ca q) id)
          subst ca
          go_wp2_with fail
          refine start_ (n := 5) (S := (fun w' => w'.heap[w.heap.size]? = some (.cells #[.int .i64 t.a, .int .i64 t.q, .int .i64 t.b, .complex .f64 a0 b0, .complex .f64 a1 b1, .complex .f64 a2 b2, .complex .f64 a3 b3] 29 (0, 0)))) (ds := [3]) #[false, false, false, false, false] (by kernel_rfl) rfl rfl (blk_drew HTL.out) (fun hHeld => ?_); refine with_tabW scan.tab18 scan.bits18 (fun HT_ HW_ => ?_)
          have HBD := Aside0.mk (St.later hst (below_drew (Below.refl W.heap.size W)))
          clear HTL hst
          generalize W.drew = wd at HBD hHeld ⊢
          refine pure_ (i := 0) (N := (some 104)) (v := ?_) (a' := ?_) #[true, false, false, false, false] rfl rfl (any_of HT_.out (by kernel_rfl)) (fun _ _ _ h => h) (Or.inl ⟨by rfl, ?_⟩) ?_ ?_
          rotate_left
          · intro w'
            go_simp
            with_reducible rfl
          rotate_left
          · simp only [Act.put, List.setIfInBounds_toArray, List.set_cons_zero, List.set_cons_succ, i64_w, i32_w]
            rfl
          refine take_ (i := 1) (N := (some 105)) (v := ?_) (a' := ?_) #[true, true, false, false, false] rfl rfl (take_ofW HT_.out HW_.out (by kernel_rfl)) (fun _ _ _ h => h) (Or.inl ⟨by rfl, ?_⟩) hHeld ?_ ?_
          rotate_left
          · intro w' hbk
            have k0 : w'.cell? ⟨w.heap.size, 0, none⟩ = some (.int .i64 t.a) := (blk_cell hbk 0).trans rfl
            have k1 : w'.cell? ⟨w.heap.size, 1, none⟩ = some (.int .i64 t.q) := (blk_cell hbk 1).trans rfl
            have k2 : w'.cell? ⟨w.heap.size, 2, none⟩ = some (.int .i64 t.b) := (blk_cell hbk 2).trans rfl
            have k3 : w'.cell? ⟨w.heap.size, 3, none⟩ = some (.complex .f64 a0 b0) := (blk_cell hbk 3).trans rfl
            have k4 : w'.cell? ⟨w.heap.size, 4, none⟩ = some (.complex .f64 a1 b1) := (blk_cell hbk 4).trans rfl
            have k5 : w'.cell? ⟨w.heap.size, 5, none⟩ = some (.complex .f64 a2 b2) := (blk_cell hbk 5).trans rfl
            have k6 : w'.cell? ⟨w.heap.size, 6, none⟩ = some (.complex .f64 a3 b3) := (blk_cell hbk 6).trans rfl
            clear hbk
            go_simp
            with_reducible rfl
          rotate_left
          · simp only [Act.put, List.setIfInBounds_toArray, List.set_cons_zero, List.set_cons_succ, i64_w, i32_w]
            rfl
          refine pure_ (i := 2) (N := (some 6)) (v := ?_) (a' := ?_) #[true, true, true, false, false] rfl rfl (any_of HT_.out (by kernel_rfl)) (fun _ _ _ h => h) (Or.inl ⟨by rfl, ?_⟩) ?_ ?_
          rotate_left
          · intro w'
            go_simp
            with_reducible rfl
          rotate_left
          · simp only [Act.put, List.setIfInBounds_toArray, List.set_cons_zero, List.set_cons_succ, i64_w, i32_w]
            rfl
          refine last_ (i := 3) (N := none) #[true, true, true, true, false] rfl rfl (one_of HT_.out (by kernel_rfl)) (by decide) (fun K hK => ?_)
          rw [if_pos (by rfl)]
          refine wp_store_row 29 (.tmp 7) (.tmp 105) (by rfl) w.heap.size #[.int .i64 t.a, .int .i64 t.q, .int .i64 t.b, .complex .f64 a0 b0, .complex .f64 a1 b1, .complex .f64 a2 b2, .complex .f64 a3 b3] (by rfl) (by rfl) 29 #[.int .i64 t.a, .int .i64 t.q, .int .i64 t.b, .complex .f64 a0 b0, .complex .f64 a1 b1, .complex .f64 a2 b2, .complex .f64 a3 b3] hHeld infoT (by rfl) (by simp [Value.oneCell']) ?_
          have hn := setRow_heap wd w.heap.size #[.int .i64 t.a, .int .i64 t.q, .int .i64 t.b, .complex .f64 a0 b0, .complex .f64 a1 b1, .complex .f64 a2 b2, .complex .f64 a3 b3] #[.int .i64 t.a, .int .i64 t.q, .int .i64 t.b, .complex .f64 a0 b0, .complex .f64 a1 b1, .complex .f64 a2 b2, .complex .f64 a3 b3] 29 (0, 0) hHeld
          have HBE := Aside0.mk (below_setRow (g := w.heap.size) HBD.out.below (Nat.le_refl _) #[.int .i64 t.a, .int .i64 t.q, .int .i64 t.b, .complex .f64 a0 b0, .complex .f64 a1 b1, .complex .f64 a2 b2, .complex .f64 a3 b3])
          have HLE := Aside0.mk (rows_keep (W' := wd.setRow w.heap.size #[.int .i64 t.a, .int .i64 t.q, .int .i64 t.b, .complex .f64 a0 b0, .complex .f64 a1 b1, .complex .f64 a2 b2, .complex .f64 a3 b3]) HBD.out.list (fun k hk _ => setRow_other wd w.heap.size k _ (by omega)))
          generalize wd.setRow w.heap.size #[.int .i64 t.a, .int .i64 t.q, .int .i64 t.b, .complex .f64 a0 b0, .complex .f64 a1 b1, .complex .f64 a2 b2, .complex .f64 a3 b3] = we at hn HBE HLE ⊢
          clear hHeld HBD
          refine hK.out _ _ ?_
          clear hK K
          refine norm_ (a' := ?_) ?_ ?_
          rotate_left
          · show Act.put _ none _ = _
            simp only [Act.put, List.setIfInBounds_toArray, List.set_cons_zero, List.set_cons_succ, i64_w, i32_w]
            rfl
          refine pure_ (i := 4) (N := (some 8)) (v := ?_) (a' := ?_) #[true, true, true, true, true] rfl rfl (any_of HT_.out (by kernel_rfl)) (fun _ _ _ h => h) (Or.inl ⟨by rfl, ?_⟩) ?_ ?_
          rotate_left
          · intro w'
            go_simp
            with_reducible rfl
          rotate_left
          · simp only [Act.put, List.setIfInBounds_toArray, List.set_cons_zero, List.set_cons_succ, i64_w, i32_w]
            rfl
          refine done_ (done_of HT_.out (by kernel_rfl)) ?_
          go_wp2_with fail
          simp only [jumps]
          refine bodyPost_ret (results_tct (fn := Try.f9) rfl _ _ w.heap.size 29 #[.int .i64 t.a, .int .i64 t.q, .int .i64 t.b, .complex .f64 a0 b0, .complex .f64 a1 b1, .complex .f64 a2 b2, .complex .f64 a3 b3] (0, 0) _ rfl hn hu rfl (by kernel_rfl)) rfl ?_
          have hs0 := hsc [] t (.stop HST.out)
          rw [List.append_nil] at hs0
          exact ⟨_, acc, t, _, _, _, _, _, _, _, _, hs0, hok, HOF.out, rfl, HLE.out, HBE.out⟩
        · have e0 : (at_ == t.a) = false := beq_eq_false_iff_ne.2 ca
          go_wp2_with fail
          refine start_ (n := 5) (S := (fun w' => w'.heap[w.heap.size]? = some (.cells #[.int .i64 t.a, .int .i64 t.q, .int .i64 t.b, .complex .f64 a0 b0, .complex .f64 a1 b1, .complex .f64 a2 b2, .complex .f64 a3 b3] 29 (0, 0)))) (ds := [3]) #[false, false, false, false, false] (by kernel_rfl) rfl rfl (blk_drew HTL.out) (fun hHeld => ?_); refine with_tabW scan.tab18 scan.bits18 (fun HT_ HW_ => ?_)
          have HBD := Aside0.mk (St.later hst (below_drew (Below.refl W.heap.size W)))
          clear HTL hst
          generalize W.drew = wd at HBD hHeld ⊢
          refine pure_ (i := 0) (N := (some 104)) (v := ?_) (a' := ?_) #[true, false, false, false, false] rfl rfl (any_of HT_.out (by kernel_rfl)) (fun _ _ _ h => h) (Or.inl ⟨by rfl, ?_⟩) ?_ ?_
          rotate_left
          · intro w'
            go_simp
            with_reducible rfl
          rotate_left
          · simp only [Act.put, List.setIfInBounds_toArray, List.set_cons_zero, List.set_cons_succ, i64_w, i32_w]
            rfl
          refine take_ (i := 1) (N := (some 105)) (v := ?_) (a' := ?_) #[true, true, false, false, false] rfl rfl (take_ofW HT_.out HW_.out (by kernel_rfl)) (fun _ _ _ h => h) (Or.inl ⟨by rfl, ?_⟩) hHeld ?_ ?_
          rotate_left
          · intro w' hbk
            have k0 : w'.cell? ⟨w.heap.size, 0, none⟩ = some (.int .i64 t.a) := (blk_cell hbk 0).trans rfl
            have k1 : w'.cell? ⟨w.heap.size, 1, none⟩ = some (.int .i64 t.q) := (blk_cell hbk 1).trans rfl
            have k2 : w'.cell? ⟨w.heap.size, 2, none⟩ = some (.int .i64 t.b) := (blk_cell hbk 2).trans rfl
            have k3 : w'.cell? ⟨w.heap.size, 3, none⟩ = some (.complex .f64 a0 b0) := (blk_cell hbk 3).trans rfl
            have k4 : w'.cell? ⟨w.heap.size, 4, none⟩ = some (.complex .f64 a1 b1) := (blk_cell hbk 4).trans rfl
            have k5 : w'.cell? ⟨w.heap.size, 5, none⟩ = some (.complex .f64 a2 b2) := (blk_cell hbk 5).trans rfl
            have k6 : w'.cell? ⟨w.heap.size, 6, none⟩ = some (.complex .f64 a3 b3) := (blk_cell hbk 6).trans rfl
            clear hbk
            go_simp
            with_reducible rfl
          rotate_left
          · simp only [Act.put, List.setIfInBounds_toArray, List.set_cons_zero, List.set_cons_succ, i64_w, i32_w]
            rfl
          refine pure_ (i := 2) (N := (some 6)) (v := ?_) (a' := ?_) #[true, true, true, false, false] rfl rfl (any_of HT_.out (by kernel_rfl)) (fun _ _ _ h => h) (Or.inl ⟨by rfl, ?_⟩) ?_ ?_
          rotate_left
          · intro w'
            go_simp
            with_reducible rfl
          rotate_left
          · simp only [Act.put, List.setIfInBounds_toArray, List.set_cons_zero, List.set_cons_succ, i64_w, i32_w]
            rfl
          refine last_ (i := 3) (N := none) #[true, true, true, true, false] rfl rfl (one_of HT_.out (by kernel_rfl)) (by decide) (fun K hK => ?_)
          rw [if_pos (by rfl)]
          refine wp_store_row 29 (.tmp 7) (.tmp 105) (by rfl) w.heap.size #[.int .i64 t.a, .int .i64 t.q, .int .i64 t.b, .complex .f64 a0 b0, .complex .f64 a1 b1, .complex .f64 a2 b2, .complex .f64 a3 b3] (by rfl) (by rfl) 29 #[.int .i64 t.a, .int .i64 t.q, .int .i64 t.b, .complex .f64 a0 b0, .complex .f64 a1 b1, .complex .f64 a2 b2, .complex .f64 a3 b3] hHeld infoT (by rfl) (by simp [Value.oneCell']) ?_
          have hn := setRow_heap wd w.heap.size #[.int .i64 t.a, .int .i64 t.q, .int .i64 t.b, .complex .f64 a0 b0, .complex .f64 a1 b1, .complex .f64 a2 b2, .complex .f64 a3 b3] #[.int .i64 t.a, .int .i64 t.q, .int .i64 t.b, .complex .f64 a0 b0, .complex .f64 a1 b1, .complex .f64 a2 b2, .complex .f64 a3 b3] 29 (0, 0) hHeld
          have HBE := Aside0.mk (below_setRow (g := w.heap.size) HBD.out.below (Nat.le_refl _) #[.int .i64 t.a, .int .i64 t.q, .int .i64 t.b, .complex .f64 a0 b0, .complex .f64 a1 b1, .complex .f64 a2 b2, .complex .f64 a3 b3])
          have HLE := Aside0.mk (rows_keep (W' := wd.setRow w.heap.size #[.int .i64 t.a, .int .i64 t.q, .int .i64 t.b, .complex .f64 a0 b0, .complex .f64 a1 b1, .complex .f64 a2 b2, .complex .f64 a3 b3]) HBD.out.list (fun k hk _ => setRow_other wd w.heap.size k _ (by omega)))
          generalize wd.setRow w.heap.size #[.int .i64 t.a, .int .i64 t.q, .int .i64 t.b, .complex .f64 a0 b0, .complex .f64 a1 b1, .complex .f64 a2 b2, .complex .f64 a3 b3] = we at hn HBE HLE ⊢
          clear hHeld HBD
          refine hK.out _ _ ?_
          clear hK K
          refine norm_ (a' := ?_) ?_ ?_
          rotate_left
          · show Act.put _ none _ = _
            simp only [Act.put, List.setIfInBounds_toArray, List.set_cons_zero, List.set_cons_succ, i64_w, i32_w]
            rfl
          refine pure_ (i := 4) (N := (some 8)) (v := ?_) (a' := ?_) #[true, true, true, true, true] rfl rfl (any_of HT_.out (by kernel_rfl)) (fun _ _ _ h => h) (Or.inl ⟨by rfl, ?_⟩) ?_ ?_
          rotate_left
          · intro w'
            go_simp
            with_reducible rfl
          rotate_left
          · simp only [Act.put, List.setIfInBounds_toArray, List.set_cons_zero, List.set_cons_succ, i64_w, i32_w]
            rfl
          refine done_ (done_of HT_.out (by kernel_rfl)) ?_
          go_wp2_with fail
          simp only [jumps]
          refine bodyPost_ret (results_tct (fn := Try.f9) rfl _ _ w.heap.size 29 #[.int .i64 t.a, .int .i64 t.q, .int .i64 t.b, .complex .f64 a0 b0, .complex .f64 a1 b1, .complex .f64 a2 b2, .complex .f64 a3 b3] (0, 0) _ rfl hn hu rfl (by kernel_rfl)) rfl ?_
          have hs0 := hsc [] t (.stop HST.out)
          rw [List.append_nil] at hs0
          exact ⟨_, acc, t, _, _, _, _, _, _, _, _, hs0, hok, HOF.out, rfl, HLE.out, HBE.out⟩
    · obtain ⟨at_, m, rfl, hat, hat2, rfl, hm, hnone, hsome⟩ := hph.try_ hk0
      refine ⟨_, rfl, ?_⟩
      obtain ⟨a0, b0, a1, b1, a2, b2, a3, b3, htl, hof⟩ := hst.tail
      by_cases c1 : (b.length : Int) ≤ at_
      · have d1 : decide ((b.length : Int) ≤ at_) = true := decide_eq_true c1
        have hn := hnone (by unfold tryAt; rw [if_pos c1])
        have HN := Aside0.mk hn
        clear hnone hsome hn
        go_wp2_with fail
        go_step3
        exact ⟨m, Nat.lt_succ_self _, .mk _ _ t acc _ _ _ _ _ _ _ _ _ _ _ _ _ _ _ _ _ _ _ _ _ _ _ _ _ _ _ _ _ _ _ _ _ _ _ _ _ _ _ _ _ _ _ _ _ _ _ _ _ _ _ _ _ _ _ _ _ _ _ _ _ _ _ _ _ _ _ _ _ _ _ _ _ _ _ _ _ _ _ _ _ _ _ _ _ _ _ _ _ _ _ _ _ _ _ _ HN.out hst hok hsc hal⟩
      · have d1 : decide ((b.length : Int) ≤ at_) = false := decide_eq_false c1
        have ha0 : 0 ≤ at_ := Int.le_trans hok.a0 hat
        have hsl := HS.out
        have hkb := HK.out
        have hnx : swap_next.f at_ block = some (nx at_ block) := by
          unfold swap_next.f nx
          have h1 := Int.emod_nonneg at_ (show block ≠ 0 by omega)
          have h2 := Int.emod_lt_of_pos at_ hk0
          have e1 : wrap64 (at_ - at_ % block) = at_ - at_ % block := w64 (by omega) (by omega)
          rw [if_neg (by omega), Int.tmod_eq_emod_of_nonneg ha0, e1, w64 (by omega) (by omega)]
        have HX := Aside0.mk (fun W => swap_next.calls at_ block (nx at_ block) W hnx)
        have hnp := nx_pos (a := at_) hk0
        obtain ⟨nn, hnn⟩ : ∃ nn, nx at_ block = nn := ⟨_, rfl⟩
        rw [hnn] at HX hnp
        have HNN := Aside0.mk hnn
        obtain ⟨q, hq⟩ : ∃ q : Nat, (min (b.length : Int) nn).toNat = q := ⟨_, rfl⟩
        have hmin : (if nn < (b.length : Int) then nn else (b.length : Int)) = (q : Int) := by split <;> omega
        have hql : q ≤ b.length := by omega
        have hct : ∀ W : World, (Instr.slice 22 (.slice A b.length c) none (some (.int .i64 (q : Int))) none).run Try.prog W = .ok (.slice A q c) W := fun W => cut_bytes A b.length c q (by have := HC.out; omega) W
        have HFR : Aside0 (fr_ b block at_ = unf (b.take q) at_) := ⟨by unfold fr_; rw [hnn, hq]⟩
        have hqt : (b.take q).length = q := by rw [List.length_take]; omega
        have hun := fun W h => unrecord_calls A c (b.take q) at_ W h (by have := HC.out; omega) (bytes_take HBY.out q) (by omega) (by omega)
        rw [hqt] at hun
        have HUN := Aside0.mk hun
        have HQT := Aside0.mk hqt
        clear hnx hnn hq hql hun hqt
        have HAT := Aside0.mk (And.intro hat (And.intro hat2 (And.intro hm (And.intro ha0 c1))))
        have HNO := Aside0.mk hnone
        have HSO := Aside0.mk hsome
        clear hnone hsome hat hat2 hm c1 ha0
        go_wp2_with fail
        refine (HX.out _).mono ?_
        rintro e W2 ⟨rfl, hd⟩
        have H2 := Aside0.mk (hst.later hd.below)
        have HU2 := Aside0.mk (HUN.out W2 (C_cut (Kd.C_below HR.out H2.out.below) q HQT.out))
        rw [← HFR.out] at HU2
        obtain ⟨⟨pl, en, er⟩, hF⟩ : ∃ z, fr_ b block at_ = z := ⟨_, rfl⟩
        rw [hF] at HU2
        have HFF := Aside0.mk hF
        have HTR : Aside0 (tryAt b block base t at_ = if er ≠ 0 ∨ pl.length < 24 then none else if le (field_part.seg pl 0 4) ≠ base ∨ le (field_part.seg pl 4 4) ≠ t.q + 1 then none else if ¬ Small4 (sealOf t (pl.drop 24)) then none else if (sealOf t (pl.drop 24)).map (· % 65536) ≠ sealNums pl then none else some (edOf pl, tlOf t pl en)) := ⟨by unfold tryAt; rw [if_neg (by have := HAT.out; omega), hF]⟩
        clear hF hst hd htl hof HUN HX d1 HFR HQT
        by_cases cb : er ≠ 0 ∨ pl.length < 24
        · have hno := HNO.out (by rw [HTR.out, if_pos cb])
          have HN := Aside0.mk hno
          obtain ⟨er2, her2, hrr⟩ : ∃ er2 : Int, (er2 != 0) = true ∧ recRes (pl, en, er) = .tuple #[.agg recZero, .int .i64 0, .int .i64 er2] := by
            by_cases c : er = 0
            · refine ⟨4, by decide, ?_⟩
              unfold recRes
              rw [if_pos c, if_pos (cb.elim (fun q => absurd c q) id)]
            · refine ⟨er, bne_iff_ne.2 c, ?_⟩
              unfold recRes
              rw [if_neg c]
          rw [hrr] at HU2
          unfold recZero at HU2
          clear hno cb hrr HNO HSO HTR
          go_wp2_with fail
          refine HU2.out.mono ?_
          rintro e W3 ⟨rfl, hb3⟩
          have H3 := Aside0.mk (H2.out.later hb3)
          obtain ⟨y0, y1, y2, y3, y4, y5, y6, y7, ys, hrec⟩ := H3.out.rec_
          have k0 : W3.cell? ⟨w.heap.size + 1, 0, none⟩ = some (.int .i64 y0) := (blk_cell hrec 0).trans rfl
          have k1 : W3.cell? ⟨w.heap.size + 1, 1, none⟩ = some (.int .i64 y1) := (blk_cell hrec 1).trans rfl
          have k2 : W3.cell? ⟨w.heap.size + 1, 2, none⟩ = some (.int .i64 y2) := (blk_cell hrec 2).trans rfl
          have k3 : W3.cell? ⟨w.heap.size + 1, 3, none⟩ = some (.int .i64 y3) := (blk_cell hrec 3).trans rfl
          have k4 : W3.cell? ⟨w.heap.size + 1, 4, none⟩ = some (.int .i64 y4) := (blk_cell hrec 4).trans rfl
          have k5 : W3.cell? ⟨w.heap.size + 1, 5, none⟩ = some (.int .i64 y5) := (blk_cell hrec 5).trans rfl
          have k6 : W3.cell? ⟨w.heap.size + 1, 6, none⟩ = some (.int .i64 y6) := (blk_cell hrec 6).trans rfl
          have k7 : W3.cell? ⟨w.heap.size + 1, 7, none⟩ = some (.int .i64 y7) := (blk_cell hrec 7).trans rfl
          have ks : W3.cell? ⟨w.heap.size + 1, 8, none⟩ = some (.string ys) := (blk_cell hrec 8).trans rfl
          have f0 := blk_frozen hrec 0
          have f1 := blk_frozen hrec 1
          have f2 := blk_frozen hrec 2
          have f3 := blk_frozen hrec 3
          have f4 := blk_frozen hrec 4
          have f5 := blk_frozen hrec 5
          have f6 := blk_frozen hrec 6
          have f7 := blk_frozen hrec 7
          have f8 := blk_frozen hrec 8
          clear hrec hb3 HU2 H2
          go_wp2_with fail
          go_step3
          exact ⟨m, Nat.lt_succ_self _, .mk _ _ t acc _ _ _ _ _ _ _ _ _ _ _ _ _ _ _ _ _ _ _ _ _ _ _ _ _ _ _ _ _ _ _ _ _ _ _ _ _ _ _ _ _ _ _ _ _ _ _ _ _ _ _ _ _ _ _ _ _ _ _ _ _ _ _ _ _ _ _ _ _ _ _ _ _ _ _ _ _ _ _ _ _ _ _ _ _ _ _ _ _ _ _ _ _ _ _ _ HN.out (H3.out.rec9 0 0 0 0 0 0 0 0 ⟨#[]⟩) hok hsc hal⟩
        · have hen := unf_ok (l := b.take (min (b.length : Int) (nx at_ block)).toNat) (bytes_take HBY.out _) (a := at_) (by
            have h := HFF.out
            unfold fr_ at h
            rw [h]
            exact Classical.byContradiction fun q => cb (.inl q))
          have hff : unf (b.take (min (b.length : Int) (nx at_ block)).toNat) at_ = (pl, en, er) := HFF.out
          rw [hff] at hen
          have HEN := Aside0.mk hen
          have hp24 : 24 ≤ pl.length := by
            rcases Nat.lt_or_ge pl.length 24 with q | q
            · exact absurd (.inr q) cb
            · exact q
          have HP24 := Aside0.mk hp24
          have hrr : recRes (pl, en, er) = .tuple #[.agg (recVals pl), .int .i64 en, .int .i64 0] := by
            unfold recRes
            rw [if_pos (Classical.byContradiction fun q => cb (.inl q)), if_neg (show ¬ (pl, en, er).1.length < 24 from by show ¬ pl.length < 24; omega)]
          have HTQ : Aside0 (tryAt b block base t at_ = if le (field_part.seg pl 0 4) ≠ base ∨ le (field_part.seg pl 4 4) ≠ t.q + 1 then none else if ¬ Small4 (sealOf t (pl.drop 24)) then none else if (sealOf t (pl.drop 24)).map (· % 65536) ≠ sealNums pl then none else some (edOf pl, tlOf t pl en)) := ⟨by rw [HTR.out, if_neg cb]⟩
          have hsn : sealNums pl = [le (field_part.seg pl 16 2), le (field_part.seg pl 18 2), le (field_part.seg pl 20 2), le (field_part.seg pl 22 2)] := rfl
          have hed : edOf pl = ⟨le (field_part.seg pl 8 4), le (field_part.seg pl 12 4), strOfNums (pl.drop 24)⟩ := rfl
          rw [hrr] at HU2
          unfold recVals at HU2
          rw [hsn, hed] at HTQ
          obtain ⟨r0, hr0⟩ : ∃ x, le (field_part.seg pl 0 4) = x := ⟨_, rfl⟩; rw [hr0] at HU2 HTQ; clear hr0
          obtain ⟨r1, hr1⟩ : ∃ x, le (field_part.seg pl 4 4) = x := ⟨_, rfl⟩; rw [hr1] at HU2 HTQ; clear hr1
          obtain ⟨r2, hr2⟩ : ∃ x, le (field_part.seg pl 16 2) = x := ⟨_, rfl⟩; rw [hr2] at HU2 HTQ; clear hr2
          obtain ⟨r3, hr3⟩ : ∃ x, le (field_part.seg pl 18 2) = x := ⟨_, rfl⟩; rw [hr3] at HU2 HTQ; clear hr3
          obtain ⟨r4, hr4⟩ : ∃ x, le (field_part.seg pl 20 2) = x := ⟨_, rfl⟩; rw [hr4] at HU2 HTQ; clear hr4
          obtain ⟨r5, hr5⟩ : ∃ x, le (field_part.seg pl 22 2) = x := ⟨_, rfl⟩; rw [hr5] at HU2 HTQ; clear hr5
          obtain ⟨r6, hr6⟩ : ∃ x, le (field_part.seg pl 8 4) = x := ⟨_, rfl⟩; rw [hr6] at HU2 HTQ; clear hr6
          obtain ⟨r7, hr7⟩ : ∃ x, le (field_part.seg pl 12 4) = x := ⟨_, rfl⟩; rw [hr7] at HU2 HTQ; clear hr7
          obtain ⟨rs, hrs⟩ : ∃ x, strOfNums (pl.drop 24) = x := ⟨_, rfl⟩
          rw [hrs] at HU2 HTQ
          have HRS := Aside0.mk hrs
          clear hff hen hp24 hrr cb HTR hsn hed hrs
          go_wp2_with fail
          refine HU2.out.mono ?_
          rintro e W3 ⟨rfl, hb3⟩
          have H3 := Aside0.mk (H2.out.later hb3)
          obtain ⟨y0, y1, y2, y3, y4, y5, y6, y7, ys, hrec⟩ := H3.out.rec_
          have k0 : W3.cell? ⟨w.heap.size + 1, 0, none⟩ = some (.int .i64 y0) := (blk_cell hrec 0).trans rfl
          have k1 : W3.cell? ⟨w.heap.size + 1, 1, none⟩ = some (.int .i64 y1) := (blk_cell hrec 1).trans rfl
          have k2 : W3.cell? ⟨w.heap.size + 1, 2, none⟩ = some (.int .i64 y2) := (blk_cell hrec 2).trans rfl
          have k3 : W3.cell? ⟨w.heap.size + 1, 3, none⟩ = some (.int .i64 y3) := (blk_cell hrec 3).trans rfl
          have k4 : W3.cell? ⟨w.heap.size + 1, 4, none⟩ = some (.int .i64 y4) := (blk_cell hrec 4).trans rfl
          have k5 : W3.cell? ⟨w.heap.size + 1, 5, none⟩ = some (.int .i64 y5) := (blk_cell hrec 5).trans rfl
          have k6 : W3.cell? ⟨w.heap.size + 1, 6, none⟩ = some (.int .i64 y6) := (blk_cell hrec 6).trans rfl
          have k7 : W3.cell? ⟨w.heap.size + 1, 7, none⟩ = some (.int .i64 y7) := (blk_cell hrec 7).trans rfl
          have ks : W3.cell? ⟨w.heap.size + 1, 8, none⟩ = some (.string ys) := (blk_cell hrec 8).trans rfl
          have f0 := blk_frozen hrec 0
          have f1 := blk_frozen hrec 1
          have f2 := blk_frozen hrec 2
          have f3 := blk_frozen hrec 3
          have f4 := blk_frozen hrec 4
          have f5 := blk_frozen hrec 5
          have f6 := blk_frozen hrec 6
          have f7 := blk_frozen hrec 7
          have f8 := blk_frozen hrec 8
          have HRX := Aside0.mk (put9 hrec (.int .i64 r0) (.int .i64 r1) (.int .i64 r2) (.int .i64 r3) (.int .i64 r4) (.int .i64 r5) (.int .i64 r6) (.int .i64 r7) (.string rs))
          have H4 := Aside0.mk (H3.out.rec9 r0 r1 r2 r3 r4 r5 r6 r7 rs)
          clear hrec hb3 HU2 H2
          go_upto_region 11 with (fail)
          generalize (((((((((W3.setCell ⟨w.heap.size + 1, 0, none⟩ (.int .i64 r0)).setCell ⟨w.heap.size + 1, 1, none⟩ (.int .i64 r1)).setCell ⟨w.heap.size + 1, 2, none⟩ (.int .i64 r2)).setCell ⟨w.heap.size + 1, 3, none⟩ (.int .i64 r3)).setCell ⟨w.heap.size + 1, 4, none⟩ (.int .i64 r4)).setCell ⟨w.heap.size + 1, 5, none⟩ (.int .i64 r5)).setCell ⟨w.heap.size + 1, 6, none⟩ (.int .i64 r6)).setCell ⟨w.heap.size + 1, 7, none⟩ (.int .i64 r7)).setCell ⟨w.heap.size + 1, 8, none⟩ (.string rs)) = W4 at HRX H4 ⊢
          clear k0 k1 k2 k3 k4 k5 k6 k7 ks f0 f1 f2 f3 f4 f5 f6 f7 f8 H3
          have z0 : W4.cell? ⟨w.heap.size + 1, 0, none⟩ = some (.int .i64 r0) := (blk_cell HRX.out 0).trans rfl
          have z1 : W4.cell? ⟨w.heap.size + 1, 1, none⟩ = some (.int .i64 r1) := (blk_cell HRX.out 1).trans rfl
          have z2 : W4.cell? ⟨w.heap.size + 1, 2, none⟩ = some (.int .i64 r2) := (blk_cell HRX.out 2).trans rfl
          have z3 : W4.cell? ⟨w.heap.size + 1, 3, none⟩ = some (.int .i64 r3) := (blk_cell HRX.out 3).trans rfl
          have z4 : W4.cell? ⟨w.heap.size + 1, 4, none⟩ = some (.int .i64 r4) := (blk_cell HRX.out 4).trans rfl
          have z5 : W4.cell? ⟨w.heap.size + 1, 5, none⟩ = some (.int .i64 r5) := (blk_cell HRX.out 5).trans rfl
          have z6 : W4.cell? ⟨w.heap.size + 1, 6, none⟩ = some (.int .i64 r6) := (blk_cell HRX.out 6).trans rfl
          have z7 : W4.cell? ⟨w.heap.size + 1, 7, none⟩ = some (.int .i64 r7) := (blk_cell HRX.out 7).trans rfl
          have z8 : W4.cell? ⟨w.heap.size + 1, 8, none⟩ = some (.string rs) := (blk_cell HRX.out 8).trans rfl
          obtain ⟨a0, b0, a1, b1, a2, b2, a3, b3, htl, hof⟩ := H4.out.tail
          have x0 : W4.cell? ⟨w.heap.size, 0, none⟩ = some (.int .i64 t.a) := (blk_cell htl 0).trans rfl
          have x1 : W4.cell? ⟨w.heap.size, 1, none⟩ = some (.int .i64 t.q) := (blk_cell htl 1).trans rfl
          have x2 : W4.cell? ⟨w.heap.size, 2, none⟩ = some (.int .i64 t.b) := (blk_cell htl 2).trans rfl
          have x3 : W4.cell? ⟨w.heap.size, 3, none⟩ = some (.complex .f64 a0 b0) := (blk_cell htl 3).trans rfl
          have x4 : W4.cell? ⟨w.heap.size, 4, none⟩ = some (.complex .f64 a1 b1) := (blk_cell htl 4).trans rfl
          have x5 : W4.cell? ⟨w.heap.size, 5, none⟩ = some (.complex .f64 a2 b2) := (blk_cell htl 5).trans rfl
          have x6 : W4.cell? ⟨w.heap.size, 6, none⟩ = some (.complex .f64 a3 b3) := (blk_cell htl 6).trans rfl
          have HTL := Aside0.mk htl
          have HOF := Aside0.mk hof
          have hq1 := hok.q1
          have hq0 := hok.q0
          have wq : wrap64 (t.q + 1) = t.q + 1 := w64 (by omega) (by omega)
          have wq2 : IntKind.i64.wrap (t.q + 1) = t.q + 1 := by rw [IntKind.wrap_i64]; omega
          clear htl hof hq1 hq0
          by_cases cr : r0 ≠ base ∨ r1 ≠ t.q + 1
          · have HN := Aside0.mk (HNO.out (by rw [HTQ.out, if_pos cr]))
            by_cases cr0 : r0 = base
            · have cr1 : r1 ≠ t.q + 1 := cr.elim (fun q => absurd cr0 q) id
              have nb0 : (r0 != base) = false := by rw [cr0]; exact bne_eq_false_iff_eq.2 rfl
              have nb1 : (r1 != t.q + 1) = true := bne_iff_ne.2 cr1
              clear cr cr0 cr1 HNO HSO HTQ
              go_wp2_with fail
              go_step3
              exact ⟨m, Nat.lt_succ_self _, .mk _ _ t acc _ _ _ _ _ _ _ _ _ _ _ _ _ _ _ _ _ _ _ _ _ _ _ _ _ _ _ _ _ _ _ _ _ _ _ _ _ _ _ _ _ _ _ _ _ _ _ _ _ _ _ _ _ _ _ _ _ _ _ _ _ _ _ _ _ _ _ _ _ _ _ _ _ _ _ _ _ _ _ _ _ _ _ _ _ _ _ _ _ _ _ _ _ _ _ _ HN.out H4.out hok hsc hal⟩
            · have nb0 : (r0 != base) = true := bne_iff_ne.2 cr0
              clear cr cr0 HNO HSO HTQ
              go_wp2_with fail
              go_step3
              exact ⟨m, Nat.lt_succ_self _, .mk _ _ t acc _ _ _ _ _ _ _ _ _ _ _ _ _ _ _ _ _ _ _ _ _ _ _ _ _ _ _ _ _ _ _ _ _ _ _ _ _ _ _ _ _ _ _ _ _ _ _ _ _ _ _ _ _ _ _ _ _ _ _ _ _ _ _ _ _ _ _ _ _ _ _ _ _ _ _ _ _ _ _ _ _ _ _ _ _ _ _ _ _ _ _ _ _ _ _ _ HN.out H4.out hok hsc hal⟩
          · have nb0 : (r0 != base) = false := bne_eq_false_iff_eq.2 (Classical.byContradiction fun q => cr (.inl q))
            have nb1 : (r1 != t.q + 1) = false := bne_eq_false_iff_eq.2 (Classical.byContradiction fun q => cr (.inr q))
            have HTW : Aside0 (tryAt b block base t at_ = if ¬ Small4 (sealOf t (pl.drop 24)) then none else if (sealOf t (pl.drop 24)).map (· % 65536) ≠ [r2, r3, r4, r5] then none else some (⟨r6, r7, rs⟩, tlOf t pl en)) := ⟨by rw [HTQ.out, if_neg cr]⟩
            clear cr HTQ
            have hpb := HEN.out.2.2.2.1
            have htx : bytesOf rs = pl.drop 24 := by rw [← HRS.out]; exact bytes_str (hpb.drop 24)
            have htl2 : (pl.drop 24).length ≤ 65535 := by have h := HEN.out.2.2.2.2; rw [List.length_drop]; have h : pl.length ≤ 65535 := h; omega
            have hrz : rs.size = (pl.drop 24).length := by rw [← HRS.out, str_size]
            have hsm : Small4 (sealOf t (pl.drop 24)) := by
              intro y hy
              have h1 := seal_le hok.S.1 hok.S2 (hpb.drop 24) y hy
              have h2 := hok.b1
              have h3 := hok.a1
              have h4 := HS.out
              omega
            have hs4 : Sums4 (sealOf t (pl.drop 24)) := (sums4_iff hok.S (rot_sums (four_ok (hpb.drop 24) (by omega)) _)).2 hsm
            have HTV : Aside0 (tryAt b block base t at_ = if (sealOf t (pl.drop 24)).map (· % 65536) ≠ [r2, r3, r4, r5] then none else some (⟨r6, r7, rs⟩, tlOf t pl en)) := ⟨by rw [HTW.out, if_neg (fun q => q hsm)]⟩
            have hse := seal_ok t.a t.q t.b a0 b0 a1 b1 a2 b2 a3 b3 t.S rs W4 HOF.out hok.b0 (by omega) (by rw [htx]; exact hs4)
            rw [htx] at hse
            have HSE := Aside0.mk hse
            have HRZ := Aside0.mk (And.intro hrz htl2)
            clear htx htl2 hrz hsm hs4 HTW hse hpb
            go_wp2_with fail
            refine HSE.out.mono ?_
            rintro e W5 ⟨c0, d0, c1, d1, c2, d2, c3, d3, s0, s1, s2, s3, hs0, hof5, rfl, hb5⟩
            have HS0 := Aside0.mk (show sealOf t (pl.drop 24) = [s0, s1, s2, s3] from hs0)
            have HO5 := Aside0.mk hof5
            have HRY := Aside0.mk (blk_below HRX.out hb5)
            have HTM := Aside0.mk (blk_below HTL.out hb5)
            have H5 := Aside0.mk (H4.out.later hb5)
            clear hs0 hof5 hb5 HSE H4 HRX HTL z0 z1 z2 z3 z4 z5 z6 z7 z8 x0 x1 x2 x3 x4 x5 x6 wq wq2 nb0 nb1
            obtain ⟨g0, h0, g1, h1, g2, h2, g3, h3, hsp⟩ := H5.out.spec
            obtain ⟨i0, i1, i2, i3, hsu⟩ := H5.out.sums
            have m0 : W5.cell? ⟨w.heap.size + 1 + 1, 0, none⟩ = some (.complex .f64 g0 h0) := (blk_cell hsp 0).trans rfl
            have n0 := blk_frozen hsp 0
            have m1 : W5.cell? ⟨w.heap.size + 1 + 1, 1, none⟩ = some (.complex .f64 g1 h1) := (blk_cell hsp 1).trans rfl
            have n1 := blk_frozen hsp 1
            have m2 : W5.cell? ⟨w.heap.size + 1 + 1, 2, none⟩ = some (.complex .f64 g2 h2) := (blk_cell hsp 2).trans rfl
            have n2 := blk_frozen hsp 2
            have m3 : W5.cell? ⟨w.heap.size + 1 + 1, 3, none⟩ = some (.complex .f64 g3 h3) := (blk_cell hsp 3).trans rfl
            have n3 := blk_frozen hsp 3
            have o0 : W5.cell? ⟨w.heap.size + 1 + 1 + 1, 0, none⟩ = some (.int .i64 i0) := (blk_cell hsu 0).trans rfl
            have p0 := blk_frozen hsu 0
            have o1 : W5.cell? ⟨w.heap.size + 1 + 1 + 1, 1, none⟩ = some (.int .i64 i1) := (blk_cell hsu 1).trans rfl
            have p1 := blk_frozen hsu 1
            have o2 : W5.cell? ⟨w.heap.size + 1 + 1 + 1, 2, none⟩ = some (.int .i64 i2) := (blk_cell hsu 2).trans rfl
            have p2 := blk_frozen hsu 2
            have o3 : W5.cell? ⟨w.heap.size + 1 + 1 + 1, 3, none⟩ = some (.int .i64 i3) := (blk_cell hsu 3).trans rfl
            have p3 := blk_frozen hsu 3
            have HFS := Aside0.mk (H5.out.fs8 c0 d0 c1 d1 c2 d2 c3 d3 (s0 % 65536) (s1 % 65536) (s2 % 65536) (s3 % 65536))
            clear hsp hsu H5
            go_upto_region 13 with (fail)
            have HFR : Aside0 ((((((((((W5.setCell ⟨w.heap.size + 1 + 1, 0, none⟩ (.complex .f64 c0 d0)).setCell ⟨w.heap.size + 1 + 1, 1, none⟩ (.complex .f64 c1 d1)).setCell ⟨w.heap.size + 1 + 1, 2, none⟩ (.complex .f64 c2 d2)).setCell ⟨w.heap.size + 1 + 1, 3, none⟩ (.complex .f64 c3 d3)).setCell ⟨w.heap.size + 1 + 1 + 1, 0, none⟩ (.int .i64 (s0 % 65536))).setCell ⟨w.heap.size + 1 + 1 + 1, 1, none⟩ (.int .i64 (s1 % 65536))).setCell ⟨w.heap.size + 1 + 1 + 1, 2, none⟩ (.int .i64 (s2 % 65536))).setCell ⟨w.heap.size + 1 + 1 + 1, 3, none⟩ (.int .i64 (s3 % 65536)))).heap[w.heap.size + 1]? = _) := ⟨(HFS.out.2.2.2 (w.heap.size + 1) (by omega) (by omega)).trans HRY.out⟩
            have HFT : Aside0 ((((((((((W5.setCell ⟨w.heap.size + 1 + 1, 0, none⟩ (.complex .f64 c0 d0)).setCell ⟨w.heap.size + 1 + 1, 1, none⟩ (.complex .f64 c1 d1)).setCell ⟨w.heap.size + 1 + 1, 2, none⟩ (.complex .f64 c2 d2)).setCell ⟨w.heap.size + 1 + 1, 3, none⟩ (.complex .f64 c3 d3)).setCell ⟨w.heap.size + 1 + 1 + 1, 0, none⟩ (.int .i64 (s0 % 65536))).setCell ⟨w.heap.size + 1 + 1 + 1, 1, none⟩ (.int .i64 (s1 % 65536))).setCell ⟨w.heap.size + 1 + 1 + 1, 2, none⟩ (.int .i64 (s2 % 65536))).setCell ⟨w.heap.size + 1 + 1 + 1, 3, none⟩ (.int .i64 (s3 % 65536)))).heap[w.heap.size]? = _) := ⟨(HFS.out.2.2.2 w.heap.size (by omega) (by omega)).trans HTM.out⟩
            clear m0 n0 m1 n1 m2 n2 m3 n3 o0 p0 o1 p1 o2 p2 o3 p3 HRY HTM
            generalize ((((((((W5.setCell ⟨w.heap.size + 1 + 1, 0, none⟩ (.complex .f64 c0 d0)).setCell ⟨w.heap.size + 1 + 1, 1, none⟩ (.complex .f64 c1 d1)).setCell ⟨w.heap.size + 1 + 1, 2, none⟩ (.complex .f64 c2 d2)).setCell ⟨w.heap.size + 1 + 1, 3, none⟩ (.complex .f64 c3 d3)).setCell ⟨w.heap.size + 1 + 1 + 1, 0, none⟩ (.int .i64 (s0 % 65536))).setCell ⟨w.heap.size + 1 + 1 + 1, 1, none⟩ (.int .i64 (s1 % 65536))).setCell ⟨w.heap.size + 1 + 1 + 1, 2, none⟩ (.int .i64 (s2 % 65536))).setCell ⟨w.heap.size + 1 + 1 + 1, 3, none⟩ (.int .i64 (s3 % 65536))) = W6 at HFS HFR HFT ⊢
            have H6 := Aside0.mk HFS.out.1
            have HFF6 := Aside0.mk HFS.out.2.1
            have HSS6 := Aside0.mk HFS.out.2.2.1
            clear HFS
            obtain ⟨t0, ht0⟩ : ∃ t0, s0 % 65536 = t0 := ⟨_, rfl⟩
            obtain ⟨t1, ht1⟩ : ∃ t1, s1 % 65536 = t1 := ⟨_, rfl⟩
            obtain ⟨t2, ht2⟩ : ∃ t2, s2 % 65536 = t2 := ⟨_, rfl⟩
            obtain ⟨t3, ht3⟩ : ∃ t3, s3 % 65536 = t3 := ⟨_, rfl⟩
            rw [ht0, ht1, ht2, ht3] at HSS6 ⊢
            have HTU : Aside0 (tryAt b block base t at_ = if [t0, t1, t2, t3] ≠ [r2, r3, r4, r5] then none else some (⟨r6, r7, rs⟩, tlOf t pl en)) := ⟨by rw [HTV.out, HS0.out, ← ht0, ← ht1, ← ht2, ← ht3]; rfl⟩
            clear ht0 ht1 ht2 ht3 HTV
            have z0 : W6.cell? ⟨w.heap.size + 1, 0, none⟩ = some (.int .i64 r0) := (blk_cell HFR.out 0).trans rfl
            have z1 : W6.cell? ⟨w.heap.size + 1, 1, none⟩ = some (.int .i64 r1) := (blk_cell HFR.out 1).trans rfl
            have z2 : W6.cell? ⟨w.heap.size + 1, 2, none⟩ = some (.int .i64 r2) := (blk_cell HFR.out 2).trans rfl
            have z3 : W6.cell? ⟨w.heap.size + 1, 3, none⟩ = some (.int .i64 r3) := (blk_cell HFR.out 3).trans rfl
            have z4 : W6.cell? ⟨w.heap.size + 1, 4, none⟩ = some (.int .i64 r4) := (blk_cell HFR.out 4).trans rfl
            have z5 : W6.cell? ⟨w.heap.size + 1, 5, none⟩ = some (.int .i64 r5) := (blk_cell HFR.out 5).trans rfl
            have z6 : W6.cell? ⟨w.heap.size + 1, 6, none⟩ = some (.int .i64 r6) := (blk_cell HFR.out 6).trans rfl
            have z7 : W6.cell? ⟨w.heap.size + 1, 7, none⟩ = some (.int .i64 r7) := (blk_cell HFR.out 7).trans rfl
            have z8 : W6.cell? ⟨w.heap.size + 1, 8, none⟩ = some (.string rs) := (blk_cell HFR.out 8).trans rfl
            have o0 : W6.cell? ⟨w.heap.size + 1 + 1 + 1, 0, none⟩ = some (.int .i64 t0) := (blk_cell HSS6.out 0).trans rfl
            have o1 : W6.cell? ⟨w.heap.size + 1 + 1 + 1, 1, none⟩ = some (.int .i64 t1) := (blk_cell HSS6.out 1).trans rfl
            have o2 : W6.cell? ⟨w.heap.size + 1 + 1 + 1, 2, none⟩ = some (.int .i64 t2) := (blk_cell HSS6.out 2).trans rfl
            have o3 : W6.cell? ⟨w.heap.size + 1 + 1 + 1, 3, none⟩ = some (.int .i64 t3) := (blk_cell HSS6.out 3).trans rfl
            have hgd := ints_guard
            by_cases ch : [t0, t1, t2, t3] = [r2, r3, r4, r5]
            rotate_left
            · have HN := Aside0.mk (HNO.out (by rw [HTU.out, if_pos ch]))
              have hnq := ints_neq t0 t1 t2 t3 r2 r3 r4 r5 (decide_eq_false ch)
              clear ch HNO HSO HTU
              go_wp2_with fail
              go_step3
              exact ⟨m, Nat.lt_succ_self _, .mk _ _ t acc _ _ _ _ _ _ _ _ _ _ _ _ _ _ _ _ _ _ _ _ _ _ _ _ _ _ _ _ _ _ _ _ _ _ _ _ _ _ _ _ _ _ _ _ _ _ _ _ _ _ _ _ _ _ _ _ _ _ _ _ _ _ _ _ _ _ _ _ _ _ _ _ _ _ _ _ _ _ _ _ _ _ _ _ _ _ _ _ _ _ _ _ _ _ _ _ HN.out H6.out hok hsc hal⟩
            · have hnq := ints_neq t0 t1 t2 t3 r2 r3 r4 r5 (decide_eq_true ch)
              have htr : tryAt b block base t at_ = some (⟨r6, r7, rs⟩, tlOf t pl en) := by rw [HTU.out, if_neg (fun q => q ch)]
              have hstep := HSO.out _ htr
              have hok' := try_some HBY.out hk0 hok HAT.out.1 htr
              have HSC' : Aside0 (∀ l u, Scans b block base (tlOf t pl en) l u → Scans b block base Tl0 (acc ++ [⟨r6, r7, rs⟩] ++ l) u) := ⟨fun l u h => by rw [List.append_assoc]; exact hsc _ _ (.more hstep h)⟩
              have HOK' := Aside0.mk hok'
              have HAL := Aside0.mk (show ((acc ++ [(⟨r6, r7, rs⟩ : S46)]).length : Int) = t.q + 1 by rw [List.length_append]; show ((acc.length + 1 : Nat) : Int) = _; omega)
              have hfit : (acc.length + 1) * 32 ≤ 140737488355328 := by have := hok.q1; omega
              clear ch HNO HSO HTU htr hstep hok' hsc hal
              go_wp2_with ((with_reducible refine gate_builtin (b := .append) (xs := #[.tmp 79, .tmp 82]) rfl ?_); at_builtin; refine Kd.R_append_rows k46 (w0 := W6) (w.heap.size + 1 + 1 + 1 + 1) rfl (.tmp 79) (.tmp 82) 24 46 (.agg #[.int .i64 0, .int .i64 0, .string ⟨#[]⟩]) 32 rfl Try.underlying24 infoE rfl (by decide) (by omega) vl acc [(⟨r6, r7, rs⟩ : S46)] (some ⟨W6.heap.size, 0, none⟩) 1 1 (fun _ => True) (fun _ => False) (by rfl) (by rfl) (Kd.R_alloc H6.out.list _) (lit_E W6 ⟨r6, r7, rs⟩) (fun x cs h => by obtain rfl := k46_open h; exact k46_mkM _ _ _ _) (fun _ h => h.elim) (fun _ _ => trivial) ((Below.refl _ _).alloc H6.out.size _) ((Below.refl _ _).alloc H6.out.size _ |>.size |> Nat.le_trans H6.out.size) hfit ?_; intro v7 W7 ho hb7 hg hat; have H7 := Aside0.mk (H6.out.push ho hb7); have T7 := Aside0.mk ((hb7.block w.heap.size (by omega)).trans HFT.out); have R7 := Aside0.mk ((hb7.block (w.heap.size + 1) (by omega)).trans HFR.out); have F7 := Aside0.mk ((hb7.block (w.heap.size + 1 + 1) (by omega)).trans HFF6.out); have x0 : W7.cell? ⟨w.heap.size, 0, none⟩ = some (.int .i64 t.a) := (blk_cell T7.out 0).trans rfl; have x1 : W7.cell? ⟨w.heap.size, 1, none⟩ = some (.int .i64 t.q) := (blk_cell T7.out 1).trans rfl; have x2 : W7.cell? ⟨w.heap.size, 2, none⟩ = some (.int .i64 t.b) := (blk_cell T7.out 2).trans rfl; have x3 : W7.cell? ⟨w.heap.size, 3, none⟩ = some (.complex .f64 a0 b0) := (blk_cell T7.out 3).trans rfl; have x4 : W7.cell? ⟨w.heap.size, 4, none⟩ = some (.complex .f64 a1 b1) := (blk_cell T7.out 4).trans rfl; have x5 : W7.cell? ⟨w.heap.size, 5, none⟩ = some (.complex .f64 a2 b2) := (blk_cell T7.out 5).trans rfl; have x6 : W7.cell? ⟨w.heap.size, 6, none⟩ = some (.complex .f64 a3 b3) := (blk_cell T7.out 6).trans rfl; have m0 : W7.cell? ⟨w.heap.size + 1 + 1, 0, none⟩ = some (.complex .f64 c0 d0) := (blk_cell F7.out 0).trans rfl; have m1 : W7.cell? ⟨w.heap.size + 1 + 1, 1, none⟩ = some (.complex .f64 c1 d1) := (blk_cell F7.out 1).trans rfl; have m2 : W7.cell? ⟨w.heap.size + 1 + 1, 2, none⟩ = some (.complex .f64 c2 d2) := (blk_cell F7.out 2).trans rfl; have m3 : W7.cell? ⟨w.heap.size + 1 + 1, 3, none⟩ = some (.complex .f64 c3 d3) := (blk_cell F7.out 3).trans rfl; have r8 : W7.cell? ⟨w.heap.size + 1, 8, none⟩ = some (.string rs) := (blk_cell R7.out 8).trans rfl; clear ho hb7 hg hat)
              have hq1 := hok.q1
              have hq0 := hok.q0
              have hb0 := hok.b0
              have hb1 := hok.b1
              have ha1 := hok.a1
              have hSz := HS.out
              have hrz := HRZ.out
              refine (behind_calls t.a t.q t.b en a0 b0 a1 b1 a2 b2 a3 b3 c0 d0 c1 d1 c2 d2 c3 d3 rs W7 (by omega) (by omega) (by omega)).mono ?_
              rintro e W8 ⟨rfl, hb8⟩
              have H8 := Aside0.mk (H7.out.later hb8)
              have T8 := Aside0.mk (blk_below T7.out hb8)
              clear hb8 H7 T7 R7 F7 x0 x1 x2 x3 x4 x5 x6 m0 m1 m2 m3 r8 hq1 hq0 hb0 hb1 ha1 hSz hrz hfit H6 HFT HFR HFF6 HSS6 o0 o1 o2 o3 z0 z1 z2 z3 z4 z5 z6 z7 z8
              have x0 : W8.cell? ⟨w.heap.size, 0, none⟩ = some (.int .i64 t.a) := (blk_cell T8.out 0).trans rfl
              have g0 := blk_frozen T8.out 0
              have x1 : W8.cell? ⟨w.heap.size, 1, none⟩ = some (.int .i64 t.q) := (blk_cell T8.out 1).trans rfl
              have g1 := blk_frozen T8.out 1
              have x2 : W8.cell? ⟨w.heap.size, 2, none⟩ = some (.int .i64 t.b) := (blk_cell T8.out 2).trans rfl
              have g2 := blk_frozen T8.out 2
              have x3 : W8.cell? ⟨w.heap.size, 3, none⟩ = some (.complex .f64 a0 b0) := (blk_cell T8.out 3).trans rfl
              have g3 := blk_frozen T8.out 3
              have x4 : W8.cell? ⟨w.heap.size, 4, none⟩ = some (.complex .f64 a1 b1) := (blk_cell T8.out 4).trans rfl
              have g4 := blk_frozen T8.out 4
              have x5 : W8.cell? ⟨w.heap.size, 5, none⟩ = some (.complex .f64 a2 b2) := (blk_cell T8.out 5).trans rfl
              have g5 := blk_frozen T8.out 5
              have x6 : W8.cell? ⟨w.heap.size, 6, none⟩ = some (.complex .f64 a3 b3) := (blk_cell T8.out 6).trans rfl
              have g6 := blk_frozen T8.out 6
              have ht' : tlOf t pl en = ⟨en, t.q + 1, t.b + (rs.size : Int), [s0, s1, s2, s3]⟩ := by unfold tlOf; rw [HRZ.out.1, HS0.out]
              rw [ht'] at HOK' HSC'
              have HLT : Aside0 (8 * ((b.length : Int) - en).toNat + 5 < m + 1) := ⟨by have h1 := HOK'.out.1.a1; have h2 := HOK'.out.2.1; have h3 := HAT.out; simp only at h1 h2; omega⟩
              clear ht' hok
              go_wp2_with fail
              go_step3
              exact ⟨_, HLT.out, .mk _ _ ⟨en, t.q + 1, t.b + (rs.size : Int), [s0, s1, s2, s3]⟩ (acc ++ [⟨r6, r7, rs⟩]) _ _ _ _ _ _ _ _ _ _ _ _ _ _ _ _ _ _ _ _ _ _ _ _ _ _ _ _ _ _ _ _ _ _ _ _ _ _ _ _ _ _ _ _ _ _ _ _ _ _ _ _ _ _ _ _ _ _ _ _ _ _ _ _ _ _ _ _ _ _ _ _ _ _ _ _ _ _ _ _ _ _ _ _ _ _ _ _ _ _ _ _ _ _ _ _ (.rec_ _) (H8.out.tl7 (t' := ⟨en, t.q + 1, t.b + (rs.size : Int), [s0, s1, s2, s3]⟩) c0 d0 c1 d1 c2 d2 c3 d3 HO5.out) HOK'.out.1 HSC'.out HAL.out⟩
end Go.Proofs.Ytacecaacpagokaa.Swap
