/- Texts of this claim, merged. -/
import Derived.Test.YtacecaacpagokaaKSChain
namespace Go.Proofs.Ytacecaacpagokaa.Swap
open Go.RowKit Go.Proofs.Ytacecaacpagokaa.PSwapGoes Go.Proofs.Ytacecaacpagokaa.Plain Go.Proofs.Ytacecaacpagokaa.Pure Go.Proofs.Ytacecaacpagokaa.Codec Go.Proofs.Ytacecaacpagokaa.Turn Go.Proofs.Ytacecaacpagokaa.PlainFloat Go.Proofs.YtacecaacpagokaaW.PrintWords Go.Proofs.YtacecaacpagokaaW.PrintLast Go.Proofs.YtacecaacpagokaaW.PrintMore
set_option linter.unusedVariables false
set_option linter.unusedSimpArgs false
attribute [local go_sem] run_store_complex
def hiE : S46 := ⟨0, 0, ⟨#[104, 105]⟩⟩
theorem zero_of4 : Of4 (.agg #[.complex .f64 0 0, .complex .f64 0 0, .complex .f64 0 0, .complex .f64 0 0]) Tl0.S := ⟨(tl0_ok []).S, _, _, _, _, _, _, _, _, rfl, ⟨rep_zero, rep_zero⟩, ⟨rep_zero, rep_zero⟩, ⟨rep_zero, rep_zero⟩, ⟨rep_zero, rep_zero⟩⟩
theorem hi_err : appErr 64 1 Tl0 hiE = 0 := by decide +kernel
theorem hi_small : Small4 (sealOf Tl0 (bytesOf hiE.f2)) := by decide +kernel
theorem hi_app : AppOk Tl0 hiE := ⟨by decide, by decide, by decide, by decide, (sums4_iff (tl0_ok []).S (rot_sums (four_ok (bytesOf_bytes _) (by decide)) _)).2 hi_small⟩
theorem hi_len : (recOf 1 Tl0 hiE).1.length = 32 := by
  obtain ⟨P, hc, _, hl, _⟩ := app_rec (tl0_ok []).S.1 hi_err
  rw [hc, frm_length, hl]
  rfl
set_option maxHeartbeats 4000000 in
set_option maxRecDepth 100000 in
theorem wakes_ok (w : World) : Calls Try.prog 8 #[] w fun e w' => e = .returned (.bool true) ∧ Below w.heap.size w w' := by
  have hu := Try.underlying29
  have hu5 := Try.underlying46
  have hA := fun W => app_ok 64 1 Tl0 hiE 0 0 0 0 0 0 0 0 W zero_of4 hi_app (by decide +kernel) (by decide)
  have hpl : placeOf 64 Tl0 32 = 0 := by decide
  have hta : (appTl 64 1 Tl0 hiE).a = 32 := by
    unfold appTl
    simp only [hi_len]
    decide
  have HA : Aside0 (∀ W, Calls Try.prog 14 #[.agg #[.int .i64 0, .int .i64 0, .int .i64 0, .complex .f64 0 0, .complex .f64 0 0, .complex .f64 0 0, .complex .f64 0 0], .int .i64 64, .int .i64 1, .agg #[.int .i64 0, .int .i64 0, .string ⟨#[104, 105]⟩]] W fun e w' => (∃ A k c0 d0 c1 d1 c2 d2 c3 d3, e = .returned (.tuple #[.int .i64 0, .slice A 32 k, .agg #[.int .i64 32, .int .i64 1, .int .i64 2, .complex .f64 c0 d0, .complex .f64 c1 d1, .complex .f64 c2 d2, .complex .f64 c3 d3], .int .i64 0])) ∧ Below W.heap.size W w') := ⟨fun W => (hA W).mono fun e w' h => by
    obtain ⟨h, hb⟩ := h
    rcases h with ⟨h0, _⟩ | ⟨_, v, c0, d0, c1, d1, c2, d2, c3, d3, _, hr, rfl⟩
    · exact absurd hi_err h0
    · obtain ⟨A, k, rfl, _, _⟩ := brow_reads hr
      rw [hi_len] at *
      refine ⟨⟨A, k, c0, d0, c1, d1, c2, d2, c3, d3, ?_⟩, hb⟩
      rw [hta]
      show Ending.returned (.tuple #[.int .i64 (placeOf 64 Tl0 32), _, _, _]) = _
      rw [hpl]
      rfl⟩
  clear hA hpl hta
  go_enter Try.func8, Try.ntmps8
  go_wp2_with fail
  refine (HA.out _).mono ?_
  rintro e w2 ⟨⟨A, k, c0, d0, c1, d1, c2, d2, c3, d3, rfl⟩, hb⟩
  have HB := Aside0.mk hb
  clear hb HA
  go_wp2
  go_ret
  exact ⟨rfl, HB.out.alloc HB.out.size _⟩
end Go.Proofs.Ytacecaacpagokaa.Swap

namespace Go.Proofs.Ytacecaacpagokaa.Swap
open Go.RowKit Go.Proofs.Ytacecaacpagokaa.PSwapGoes Go.Proofs.Ytacecaacpagokaa.Plain Go.Proofs.Ytacecaacpagokaa.Pure Go.Proofs.Ytacecaacpagokaa.Codec Go.Proofs.Ytacecaacpagokaa.Turn Go.Proofs.Ytacecaacpagokaa.PlainFloat Go.Proofs.YtacecaacpagokaaW.PrintWords Go.Proofs.YtacecaacpagokaaW.PrintLast Go.Proofs.YtacecaacpagokaaW.PrintMore
set_option linter.unusedVariables false
set_option linter.unusedSimpArgs false
/-- Elements of whose rows nothing lies elsewhere. -/
def Flat {α : Type} (d : Kd α) : Prop := ∀ W W' b b' ok ok' x cs, d.M W b ok x cs → d.M W' b' ok' x cs
theorem flat_u8 : Flat (Kd.int .u8) := fun _ _ _ _ _ _ _ _ h => h
theorem flat_i64 : Flat (Kd.int .i64) := fun _ _ _ _ _ _ _ _ h => h
theorem flat_e : Flat k46 := fun _ _ _ _ _ _ _ _ h => by obtain rfl := k46_openM h; exact k46_mkM _ _ _ _
theorem R_keep {α : Type} {d : Kd α} (hM : Flat d) {e base : Nat} {ok : Nat → Prop} {W W' : World} {v : Value} {xs : List α} (h : d.R e W base ok v xs) (hk : ∀ k, v.ownBlock = some k → W'.heap[k]? = W.heap[k]?) : d.R e W' base (fun _ => True) v xs := by
  obtain ⟨_, inner, ho, hr⟩ := h
  exact ⟨fun _ _ => trivial, inner, own_move ho hk, hr.imp_ (fun _ _ hp => hM _ _ _ _ _ _ _ _ hp)⟩
theorem R_blk {α : Type} {d : Kd α} {e base : Nat} {ok : Nat → Prop} {W : World} {v : Value} {xs : List α} (h : d.R e W base ok v xs) : ∀ k, v.ownBlock = some k → base ≤ k ∧ k < W.heap.size ∧ ∃ cells, W.heap[k]? = some (.cells cells e (0, 0)) := by
  obtain ⟨_, inner, ho, _⟩ := h
  exact fun k hk => ⟨own_base ho k hk, own_lt ho k hk, own_typed ho k hk⟩
theorem R_low {α : Type} {d : Kd α} (hM : Flat d) {e base b2 : Nat} {ok : Nat → Prop} {W : World} {v : Value} {xs : List α} (h : d.R e W base ok v xs) (hb : b2 ≤ base) : d.R e W b2 (fun _ => True) v xs := by
  obtain ⟨_, inner, ho, hr⟩ := h
  exact ⟨fun _ _ => trivial, inner, own_less ho hb, hr.imp_ (fun _ _ hp => hM _ _ _ _ _ _ _ _ hp)⟩
theorem R_apart {α β : Type} {d : Kd α} {d' : Kd β} {e e' base base' : Nat} {ok ok' : Nat → Prop} {W : World} {v v' : Value} {xs : List α} {ys : List β} (h : d.R e W base ok v xs) (h' : d'.R e' W base' ok' v' ys) (hne : e ≠ e') : ∀ k, v.ownBlock = some k → v'.ownBlock ≠ some k := by
  intro k hk hk'
  obtain ⟨_, _, c1, h1⟩ := R_blk h k hk
  obtain ⟨_, _, c2, h2⟩ := R_blk h' k hk'
  rw [h1] at h2
  exact hne (by injection h2 with h2; injection h2)
/-- The world while a file is written. -/
structure WSt (w W : World) (vb vd ve : Value) (t : Tl) (b : List Int) (done : List S46) (ends : List Int) : Prop where
  tail : ∃ a0 b0 a1 b1 a2 b2 a3 b3, W.heap[w.heap.size]? = some (.cells #[.int .i64 t.a, .int .i64 t.q, .int .i64 t.b, .complex .f64 a0 b0, .complex .f64 a1 b1, .complex .f64 a2 b2, .complex .f64 a3 b3] 29 (0, 0)) ∧ Of4 (.agg #[.complex .f64 a0 b0, .complex .f64 a1 b1, .complex .f64 a2 b2, .complex .f64 a3 b3]) t.S
  rb : Kd.R (Kd.int .u8) 5 W (w.heap.size + 1) (fun _ => True) vb b
  rd : Kd.R k46 46 W (w.heap.size + 1) (fun _ => True) vd done
  re : Kd.R (Kd.int .i64) 3 W (w.heap.size + 1) (fun _ => True) ve ends
  below : Below w.heap.size w W
  size : w.heap.size + 1 ≤ W.heap.size
theorem WSt.later {w W W' : World} {vb vd ve : Value} {t : Tl} {b : List Int} {done : List S46} {ends : List Int} (h : WSt w W vb vd ve t b done ends) (hb : Below W.heap.size W W') : WSt w W' vb vd ve t b done ends := by
  obtain ⟨⟨_, _, _, _, _, _, _, _, t1, t2⟩, b1, d1, e1, w1, z1⟩ := h
  exact ⟨⟨_, _, _, _, _, _, _, _, blk_below t1 hb, t2⟩, R_keep flat_u8 b1 (fun k hk => hb.block k (R_blk b1 k hk).2.1), R_keep flat_e d1 (fun k hk => hb.block k (R_blk d1 k hk).2.1), R_keep flat_i64 e1 (fun k hk => hb.block k (R_blk e1 k hk).2.1), below_then w1 w1.size hb, Nat.le_trans z1 hb.size⟩
theorem grown_tail {w W W' : World} {row : Option Nat} (hg : W.grownBy W' row) (hr : ∀ k, row = some k → w.heap.size + 1 ≤ k) {o : Obj} (h : W.heap[w.heap.size]? = some o) : W'.heap[w.heap.size]? = some o :=
  (hg.block _ (blk_lt h) (fun e => by have := hr _ e.symm; omega)).trans h
theorem WSt.pushB {w W W' : World} {vb vd ve vb' : Value} {t : Tl} {b b' : List Int} {done : List S46} {ends : List Int} (h : WSt w W vb vd ve t b done ends) (ho : Kd.R (Kd.int .u8) 5 W' (w.heap.size + 1) (fun _ => True) vb' b') (hg : W.grownBy W' vb.ownBlock) (hb : Below (w.heap.size + 1) W W') : WSt w W' vb' vd ve t b' done ends := by
  obtain ⟨⟨_, _, _, _, _, _, _, _, t1, t2⟩, b1, d1, e1, w1, z1⟩ := h
  exact ⟨⟨_, _, _, _, _, _, _, _, (hb.block _ (by omega)).trans t1, t2⟩, ho, R_keep flat_e d1 (fun k hk => hg.block k (R_blk d1 k hk).2.1 (fun e => R_apart d1 b1 (by decide) k hk e.symm)), R_keep flat_i64 e1 (fun k hk => hg.block k (R_blk e1 k hk).2.1 (fun e => R_apart e1 b1 (by decide) k hk e.symm)), w1.trans (hb.mono (by omega)), Nat.le_trans z1 hb.size⟩
theorem WSt.pushD {w W W' : World} {vb vd ve vd' : Value} {t : Tl} {b : List Int} {done done' : List S46} {ends : List Int} (h : WSt w W vb vd ve t b done ends) (ho : Kd.R k46 46 W' (w.heap.size + 1) (fun _ => True) vd' done') (hg : W.grownBy W' vd.ownBlock) (hb : Below (w.heap.size + 1) W W') : WSt w W' vb vd' ve t b done' ends := by
  obtain ⟨⟨_, _, _, _, _, _, _, _, t1, t2⟩, b1, d1, e1, w1, z1⟩ := h
  exact ⟨⟨_, _, _, _, _, _, _, _, (hb.block _ (by omega)).trans t1, t2⟩, R_keep flat_u8 b1 (fun k hk => hg.block k (R_blk b1 k hk).2.1 (fun e => R_apart b1 d1 (by decide) k hk e.symm)), ho, R_keep flat_i64 e1 (fun k hk => hg.block k (R_blk e1 k hk).2.1 (fun e => R_apart e1 d1 (by decide) k hk e.symm)), w1.trans (hb.mono (by omega)), Nat.le_trans z1 hb.size⟩
theorem WSt.pushE {w W W' : World} {vb vd ve ve' : Value} {t : Tl} {b : List Int} {done : List S46} {ends ends' : List Int} (h : WSt w W vb vd ve t b done ends) (ho : Kd.R (Kd.int .i64) 3 W' (w.heap.size + 1) (fun _ => True) ve' ends') (hg : W.grownBy W' ve.ownBlock) (hb : Below (w.heap.size + 1) W W') : WSt w W' vb vd ve' t b done ends' := by
  obtain ⟨⟨_, _, _, _, _, _, _, _, t1, t2⟩, b1, d1, e1, w1, z1⟩ := h
  exact ⟨⟨_, _, _, _, _, _, _, _, (hb.block _ (by omega)).trans t1, t2⟩, R_keep flat_u8 b1 (fun k hk => hg.block k (R_blk b1 k hk).2.1 (fun e => R_apart b1 e1 (by decide) k hk e.symm)), R_keep flat_e d1 (fun k hk => hg.block k (R_blk d1 k hk).2.1 (fun e => R_apart d1 e1 (by decide) k hk e.symm)), ho, w1.trans (hb.mono (by omega)), Nat.le_trans z1 hb.size⟩
theorem WSt.setT {w W : World} {vb vd ve : Value} {t t' : Tl} {b : List Int} {done : List S46} {ends : List Int} (h : WSt w W vb vd ve t b done ends) (c0 d0 c1 d1 c2 d2 c3 d3 : Nat) (hS : Of4 (.agg #[.complex .f64 c0 d0, .complex .f64 c1 d1, .complex .f64 c2 d2, .complex .f64 c3 d3]) t'.S) : WSt w (((((((W.setCell ⟨w.heap.size, 0, none⟩ (.int .i64 t'.a)).setCell ⟨w.heap.size, 1, none⟩ (.int .i64 t'.q)).setCell ⟨w.heap.size, 2, none⟩ (.int .i64 t'.b)).setCell ⟨w.heap.size, 3, none⟩ (.complex .f64 c0 d0)).setCell ⟨w.heap.size, 4, none⟩ (.complex .f64 c1 d1)).setCell ⟨w.heap.size, 5, none⟩ (.complex .f64 c2 d2)).setCell ⟨w.heap.size, 6, none⟩ (.complex .f64 c3 d3)) vb vd ve t' b done ends := by
  obtain ⟨⟨_, _, _, _, _, _, _, _, t1, t2⟩, b1, d1, e1, w1, z1⟩ := h
  exact ⟨⟨_, _, _, _, _, _, _, _, put7 t1 _ _ _ _ _ _ _, hS⟩, R_keep flat_u8 b1 (fun k hk => far7 rfl (by have := (R_blk b1 k hk).1; omega) _ _ _ _ _ _ _), R_keep flat_e d1 (fun k hk => far7 rfl (by have := (R_blk d1 k hk).1; omega) _ _ _ _ _ _ _), R_keep flat_i64 e1 (fun k hk => far7 rfl (by have := (R_blk e1 k hk).1; omega) _ _ _ _ _ _ _), below_set' (below_set' (below_set' (below_set' (below_set' (below_set' (below_set' w1 (Nat.le_refl _) _) (Nat.le_refl _) _) (Nat.le_refl _) _) (Nat.le_refl _) _) (Nat.le_refl _) _) (Nat.le_refl _) _) (Nat.le_refl _) _, by simpa [World.setCell] using z1⟩
theorem lit_b (W : World) (x : Int) : Kd.C (Kd.int .u8) (W.alloc (.cells #[.int .u8 x] 5)) (some ⟨W.heap.size, 0, none⟩) 1 [x] := by
  refine Kd.C_of_reads (d := (0 : Int)) (h1 := fun _ => rfl) ⟨rfl, by decide, fun _ => ⟨_, rfl, fun j hj => ?_⟩⟩
  obtain rfl : j = 0 := by omega
  rw [add_plain, blk_cell (blk_new W (.cells #[.int .u8 x] 5))]
  rfl
theorem lit_i (W : World) (x : Int) : Kd.C (Kd.int .i64) (W.alloc (.cells #[.int .i64 x] 3)) (some ⟨W.heap.size, 0, none⟩) 1 [x] := by
  refine Kd.C_of_reads (d := (0 : Int)) (h1 := fun _ => rfl) ⟨rfl, by decide, fun _ => ⟨_, rfl, fun j hj => ?_⟩⟩
  obtain rfl : j = 0 := by omega
  rw [add_plain, blk_cell (blk_new W (.cells #[.int .i64 x] 3))]
  rfl
theorem info3i : (Try.prog.info? 3).map (fun i => (i.zero, i.size, i.bytes)) = some (some (.int .i64 0), 1, 8) := by kernel_rfl
theorem info5b : (Try.prog.info? 5).map (fun i => (i.zero, i.size, i.bytes)) = some (some (.int .u8 0), 1, 1) := by kernel_rfl
/-- What is written may be appended to: no sum grows too large. -/
theorem wr_app {block base : Int} (hk : 64 ≤ block ∧ block ≤ 4096) {done : List S46} {t : Tl} {b ends : List Int} (h : Wr block base done t b ends) (hd : done.length ≤ 41) (x : S46) (hx : x.f2.size ≤ 4194304) : AppOk t x ∧ Small4 (sealOf t (bytesOf x.f2)) := by
  have hok := wr_ok hk h
  have hm := hok.most
  have hm2 : (done.length : Int) * (2 * block) ≤ 41 * 8192 := Int.mul_le_mul (by omega) (by omega) (by omega) (by decide)
  have a0 := hok.ok.a0
  have q0 := hok.ok.q0
  have b0 := hok.ok.b0
  have b1 := hok.ok.b1
  have hq := hok.q
  have hS2 := seal_le hok.ok.S.1 hok.ok.S2 (bytesOf_bytes x.f2)
  rw [bytesOf_length] at hS2
  have hsm : Small4 (sealOf t (bytesOf x.f2)) := fun y hy => by have := hS2 y hy; omega
  exact ⟨⟨⟨a0, by omega⟩, ⟨q0, by omega⟩, ⟨b0, by omega⟩, hx, (sums4_iff hok.ok.S (rot_sums (four_ok (bytesOf_bytes x.f2) (by rw [bytesOf_length]; exact hx)) t.b)).2 hsm⟩, hsm⟩
end Go.Proofs.Ytacecaacpagokaa.Swap

namespace Go.Proofs.Ytacecaacpagokaa.Swap
open Go.RowKit Go.Proofs.Ytacecaacpagokaa.PSwapGoes Go.Proofs.Ytacecaacpagokaa.Plain Go.Proofs.Ytacecaacpagokaa.Pure Go.Proofs.Ytacecaacpagokaa.Codec Go.Proofs.Ytacecaacpagokaa.Turn Go.Proofs.Ytacecaacpagokaa.PlainFloat Go.Proofs.YtacecaacpagokaaW.PrintWords Go.Proofs.YtacecaacpagokaaW.PrintLast Go.Proofs.YtacecaacpagokaaW.PrintMore
set_option linter.unusedVariables false
set_option linter.unusedSimpArgs false
attribute [local go_sem] run_store_complex max2_int min2_int max_two min_two
/-- A record that was made, and the end behind it, beside a file. -/
structure NSt (W : World) (vb vc : Value) (gx : Nat) (c : List Int) (t : Tl) : Prop where
  nx : ∃ a0 b0 a1 b1 a2 b2 a3 b3, W.heap[gx]? = some (.cells #[.int .i64 t.a, .int .i64 t.q, .int .i64 t.b, .complex .f64 a0 b0, .complex .f64 a1 b1, .complex .f64 a2 b2, .complex .f64 a3 b3] 29 (0, 0)) ∧ Of4 (.agg #[.complex .f64 a0 b0, .complex .f64 a1 b1, .complex .f64 a2 b2, .complex .f64 a3 b3]) t.S
  rc : Kd.R (Kd.int .u8) 5 W 0 (fun _ => True) vc c
  ap : ∀ k, vc.ownBlock = some k → vb.ownBlock ≠ some k
theorem NSt.later {W W' : World} {vb vc : Value} {gx : Nat} {c : List Int} {t : Tl} (h : NSt W vb vc gx c t) (hb : Below W.heap.size W W') : NSt W' vb vc gx c t := by
  obtain ⟨⟨_, _, _, _, _, _, _, _, t1, t2⟩, r1, a1⟩ := h
  exact ⟨⟨_, _, _, _, _, _, _, _, blk_below t1 hb, t2⟩, R_keep flat_u8 r1 (fun k hk => hb.block k (R_blk r1 k hk).2.1), a1⟩
theorem NSt.pushB {w W W' : World} {vb vb' vd ve vc : Value} {gx : Nat} {c b : List Int} {t u : Tl} {done : List S46} {ends : List Int} (h : NSt W vb vc gx c t) (hw : WSt w W vb vd ve u b done ends) (hg : W.grownBy W' vb.ownBlock) (hat : vb'.ownBlock = vb.ownBlock ∨ ∃ k, vb'.ownBlock = some k ∧ W.heap.size ≤ k) : NSt W' vb' vc gx c t := by
  obtain ⟨⟨_, _, _, _, _, _, _, _, t1, t2⟩, r1, a1⟩ := h
  refine ⟨⟨_, _, _, _, _, _, _, _, (hg.block _ (blk_lt t1) (fun e => ?_)).trans t1, t2⟩, R_keep flat_u8 r1 (fun k hk => hg.block k (R_blk r1 k hk).2.1 (fun e => a1 k hk e.symm)), fun k hk e => ?_⟩
  · obtain ⟨_, _, cs, hc⟩ := R_blk hw.rb gx e.symm
    rw [t1] at hc
    injection hc with hc
    injection hc with _ h2
    exact absurd h2 (by decide)
  · rcases hat with q | ⟨k2, q, hq⟩
    · rw [q] at e; exact a1 k hk e
    · rw [q] at e
      have := (R_blk r1 k hk).2.1
      have := Option.some.inj e
      omega
theorem NSt.other {α : Type} {d : Kd α} {e base : Nat} {ok : Nat → Prop} {W W' : World} {vb vc v : Value} {gx : Nat} {c : List Int} {t : Tl} {xs : List α} (h : NSt W vb vc gx c t) (hv : d.R e W base ok v xs) (h5 : e ≠ 5) (h29 : e ≠ 29) (hg : W.grownBy W' v.ownBlock) : NSt W' vb vc gx c t := by
  obtain ⟨⟨_, _, _, _, _, _, _, _, t1, t2⟩, r1, a1⟩ := h
  refine ⟨⟨_, _, _, _, _, _, _, _, (hg.block _ (blk_lt t1) (fun q => ?_)).trans t1, t2⟩, R_keep flat_u8 r1 (fun k hk => hg.block k (R_blk r1 k hk).2.1 (fun q => R_apart hv r1 h5 k q.symm hk)), a1⟩
  obtain ⟨_, _, cs, hc⟩ := R_blk hv gx q.symm
  rw [t1] at hc
  injection hc with hc
  injection hc with _ h2
  exact absurd h2.symm h29
theorem type_ne {W : World} {gx : Nat} {cs : Array Value} {α : Type} {d : Kd α} {e base : Nat} {ok : Nat → Prop} {v : Value} {xs : List α} (hnx : W.heap[gx]? = some (.cells cs 29 (0, 0))) (h : d.R e W base ok v xs) (he : e ≠ 29) : ∀ k, v.ownBlock = some k → k ≠ gx := by
  intro k hk q
  obtain ⟨_, _, cells, hc⟩ := R_blk h k hk
  rw [q, hnx] at hc
  injection hc with hc
  injection hc with _ h2
  exact he h2.symm
theorem WSt.setN {w W W' : World} {vb vd ve : Value} {t : Tl} {b : List Int} {done : List S46} {ends : List Int} (h : WSt w W vb vd ve t b done ends) {gx : Nat} {cs : Array Value} (hnx : W.heap[gx]? = some (.cells cs 29 (0, 0))) (hgx : w.heap.size + 1 ≤ gx) (hg : ∀ k, k ≠ gx → W'.heap[k]? = W.heap[k]?) (hb : Below gx W W') : WSt w W' vb vd ve t b done ends := by
  obtain ⟨⟨_, _, _, _, _, _, _, _, t1, t2⟩, b1, d1, e1, w1, z1⟩ := h
  exact ⟨⟨_, _, _, _, _, _, _, _, (hg _ (by omega)).trans t1, t2⟩, R_keep flat_u8 b1 (fun k hk => hg k (type_ne hnx b1 (by decide) k hk)), R_keep flat_e d1 (fun k hk => hg k (type_ne hnx d1 (by decide) k hk)), R_keep flat_i64 e1 (fun k hk => hg k (type_ne hnx e1 (by decide) k hk)), w1.trans (hb.mono (by omega)), Nat.le_trans z1 hb.size⟩
/-- What is answered of an edit that is appended, one way for all. -/
def AppR (block base : Int) (t : Tl) (x : S46) (W : World) (e : Ending) (w' : World) : Prop := ∃ (vp er : Int) (vv : Value) (cl : List Int) (tn : Tl) (c0 d0 c1 d1 c2 d2 c3 d3 : Nat), e = .returned (.tuple #[.int .i64 vp, vv, .agg #[.int .i64 tn.a, .int .i64 tn.q, .int .i64 tn.b, .complex .f64 c0 d0, .complex .f64 c1 d1, .complex .f64 c2 d2, .complex .f64 c3 d3], .int .i64 er]) ∧ er = appErr block base t x ∧ Of4 (.agg #[.complex .f64 c0 d0, .complex .f64 c1 d1, .complex .f64 c2 d2, .complex .f64 c3 d3]) tn.S ∧ Kd.R (Kd.int .u8) 5 w' W.heap.size (fun _ => True) vv cl ∧ Below W.heap.size W w' ∧ (er = 0 → vp = placeOf block t ((recOf base t x).1.length : Int) ∧ cl = (recOf base t x).1 ∧ tn = appTl block base t x)
theorem app_any (block base : Int) (t : Tl) (x : S46) (a0 b0 a1 b1 a2 b2 a3 b3 : Nat) (w : World) (hof : Of4 (.agg #[.complex .f64 a0 b0, .complex .f64 a1 b1, .complex .f64 a2 b2, .complex .f64 a3 b3]) t.S) (hx : AppOk t x) (hf : swap_file.f block base = some (block - 30, 0)) (hk : 64 ≤ block ∧ block ≤ 4096) :
    Calls Try.prog 14 #[.agg #[.int .i64 t.a, .int .i64 t.q, .int .i64 t.b, .complex .f64 a0 b0, .complex .f64 a1 b1, .complex .f64 a2 b2, .complex .f64 a3 b3], .int .i64 block, .int .i64 base, .agg #[.int .i64 x.f0, .int .i64 x.f1, .string x.f2]] w (AppR block base t x w) := by
  refine (app_ok block base t x a0 b0 a1 b1 a2 b2 a3 b3 w hof hx hf hk).mono ?_
  rintro e w' ⟨h, hb⟩
  rcases h with ⟨h0, rfl⟩ | ⟨h0, v, c0, d0, c1, d1, c2, d2, c3, d3, ho, hr, rfl⟩
  · exact ⟨0, _, _, [], Tl0, 0, 0, 0, 0, 0, 0, 0, 0, rfl, rfl, zero_of4, brow_nil _ _, hb, fun q => absurd q h0⟩
  · exact ⟨_, 0, _, _, appTl block base t x, c0, d0, c1, d1, c2, d2, c3, d3, rfl, h0.symm, ho, hr, hb, fun _ => ⟨rfl, rfl, rfl⟩⟩
theorem results_tttt {P : Program} {fn : Func} {u v x y : Tmp} (h : fn.results = #[.tmp u, .tmp v, .tmp x, .tmp y]) (tmps : Array Value) (w : World) : (results fn tmps).run P w = .ok (.tuple #[tmps.getD u undef, tmps.getD v undef, tmps.getD x undef, tmps.getD y undef]) w := by simp [results, h]
theorem same_block {block p n : Int} (hk : 64 ≤ block ∧ block ≤ 4096) (h0 : 0 ≤ p) (hn : 0 < n) (h : p + n ≤ nx p block) : p.tdiv block = (p + n - 1).tdiv block := by
  rw [Int.tdiv_eq_ediv_of_nonneg h0, Int.tdiv_eq_ediv_of_nonneg (by omega)]
  unfold nx at h
  have h1 := Int.mul_ediv_add_emod p block
  rw [Int.mul_comm] at h1
  have h2 := Int.emod_nonneg p (show block ≠ 0 by omega)
  have h3 := Int.emod_lt_of_pos p (show 0 < block by omega)
  have : p + n - 1 = (p % block + n - 1) + p / block * block := by omega
  have h9 : (p % block + n - 1) / block = 0 := Int.ediv_eq_zero_of_lt (by omega) (by omega)
  rw [this, Int.add_mul_ediv_right _ _ (by omega), h9]
  omega
theorem info7 : (Try.prog.info? 29).map (·.size) = some 7 := by kernel_rfl

def written.T8 : Bool × List (List Nat × List Nat) := (true, [([], []), ([], []), ([], []), ([], []), ([], []), ([3, 4], [3, 4]), ([5], [5]), ([0, 1, 2, 6], [0, 1, 2, 6]), ([7], [7]), ([8], [8]), ([8], [8]), ([8], [8]), ([8], [8]), ([], []), ([9, 7, 0, 1, 2, 3, 4, 5, 6, 7, 8, 9, 13], [9]), ([10, 14, 0, 1, 2, 3, 4, 5, 6, 7, 8, 9, 10, 13, 14], [10]), ([13, 11, 15, 0, 1, 2, 3, 4, 5, 6, 7, 8, 9, 10, 11, 13, 14, 15], [11, 13]), ([12, 16, 0, 1, 2, 3, 4, 5, 6, 7, 8, 9, 10, 11, 12, 13, 14, 15, 16], [12])])
def written.B8 : List Nat := [0, 0, 0, 0, 0, 24, 56, 127, 255, 511, 511, 511, 511, 0, 9215, 26623, 61439, 131071]
theorem written.tab8 : rtab .any (opsOf Try.f13 8) = written.T8 := by kernel_rfl
theorem written.bits8 : waitsOk written.T8.2 written.B8 = true := by kernel_rfl

set_option maxHeartbeats 8000000 in
set_option maxRecDepth 100000 in
theorem written_ok (block base : Int) (A : Option Addr) (c : Nat) (l : List S46) (w : World) (hr : Kd.C k46 w A l.length l) (hl : l.length ≤ 40) (hsz : ∀ x ∈ l, x.f2.size ≤ 4194304) (hf : swap_file.f block base = some (block - 30, 0)) (hk : 64 ≤ block ∧ block ≤ 4096) :
    Calls Try.prog 13 #[.int .i64 block, .int .i64 base, .slice A l.length c] w fun e w' => ∃ vb vd ve t b done ends, Wr block base done t b ends ∧ done.length ≤ 40 ∧ e = .returned (.tuple #[vb, vd, ve, .bool true]) ∧ WSt w w' vb vd ve t b done ends := by
  have hu := Try.underlying29
  have hu5 := Try.underlying46
  have HR := Aside0.mk hr
  have HL := Aside0.mk hl
  have HSZ := Aside0.mk hsz
  have HF := Aside0.mk hf
  have HK := Aside0.mk hk
  have hkk := hk
  clear hr hl hsz hf hk
  go_enter Try.func13, Try.ntmps13
  go_wp2_with fail
  go_loopg [10, 11, 12, 14] l.length (fun kq v10 v11 v12 v14 w' => ∃ (i : Nat) (t : Tl) (b : List Int) (done : List S46) (ends : List Int), v14 = .int .i64 (i : Int) ∧ i ≤ l.length ∧ l.length - i ≤ kq ∧ done.length ≤ i ∧ Aside0 (Wr block base done t b ends) ∧ Aside0 (WSt w w' v10 v11 v12 t b done ends))
  case atStart =>
    refine ⟨0, Tl0, [], [], [], rfl, by omega, by omega, by simp, ⟨.nil⟩, ⟨⟨_, _, _, _, _, _, _, _, blk_new w _, zero_of4⟩, brow_nil _ _, Kd.R_nil _ _ _ _ _, Kd.R_nil _ _ _ _ _, below_alloc (Below.refl _ _) _, by simp⟩⟩
  case round =>
    obtain ⟨i, t, b, done, ends, rfl, hi, hkq, hdi, HWR, HWS⟩ := hrel
    by_cases hil : i < l.length
    rotate_left
    · obtain rfl : i = l.length := by omega
      have e1 : decide ((l.length : Int) < (l.length : Int)) = false := decide_eq_false (by omega)
      go_wp2_with fail
      refine bodyPost_ret (results_tttt (fn := Try.f13) rfl _ _) rfl ?_
      exact ⟨_, _, _, t, b, done, ends, HWR.out, by have := HL.out; omega, rfl, HWS.out⟩
    · cases gk with
      | zero => omega
      | succ g1 =>
        have d1 : decide ((i : Int) < (l.length : Int)) = true := decide_eq_true (by omega)
        have q0 : (0 : Int) ≤ (i : Int) := by omega
        have q1 : (i : Int) < (l.length : Int) := by omega
        have hl40 := HL.out
        have wi : wrap64 ((i : Int) + 1) = (i : Int) + 1 := w64 (by omega) (by omega)
        obtain ⟨ad, hA, hc0, hc1, hc2⟩ := at_T46 (Kd.C_below HR.out HWS.out.below) (i : Int) q0 q1
        obtain ⟨AD, hAD⟩ : ∃ AD, ad.add (i * 3) = AD := ⟨_, rfl⟩
        rw [Int.toNat_natCast, hAD] at hc0 hc1 hc2
        obtain ⟨x, hx⟩ : ∃ x, rd_T46 l (i : Int) = x := ⟨_, rfl⟩
        rw [hx] at hc0 hc1 hc2
        have hxm : x ∈ l := by
          rw [← hx]
          unfold rd_T46
          rw [Int.toNat_natCast, List.getD_eq_getElem?_getD, List.getElem?_eq_getElem hil]
          exact List.getElem_mem hil
        obtain ⟨hap, hsm⟩ := wr_app hkk HWR.out (by omega) x (HSZ.out x hxm)
        obtain ⟨a0, b0, a1, b1, a2, b2, a3, b3, htl, hof⟩ := HWS.out.tail
        have HAP := Aside0.mk (fun W => app_any block base t x a0 b0 a1 b1 a2 b2 a3 b3 W hof hap HF.out HK.out)
        have HSM := Aside0.mk hsm
        have HTL := Aside0.mk htl
        have HKI := Aside0.mk (And.intro hil (And.intro hkq hdi))
        unfold AppR at HAP
        subst hA
        have HX := Aside0.mk hx
        clear hx hxm hap hsm htl hof hi hkq hdi
        go_upto_region 8 with (fail)
        go_cut [15, 16, 17, 18] (fun v15 v16 v17 v18 wx => Aside0 (∃ (gx : Nat) (vp er : Int) (cl : List Int) (tn : Tl), v15 = .int .i64 vp ∧ v17 = .pointer (some ⟨gx, 0, none⟩) ∧ v18 = .int .i64 er ∧ er = appErr block base t x ∧ NSt wx u10 v16 gx cl tn ∧ (er = 0 → vp = placeOf block t ((recOf base t x).1.length : Int) ∧ cl = (recOf base t x).1 ∧ tn = appTl block base t x) ∧ WSt w wx u10 u11 u12 t b done ends))
        case first =>
          refine start_ (n := 18) (S := (fun w' => w'.heap[w.heap.size]? = some (.cells #[.int .i64 t.a, .int .i64 t.q, .int .i64 t.b, .complex .f64 a0 b0, .complex .f64 a1 b1, .complex .f64 a2 b2, .complex .f64 a3 b3] 29 (0, 0)) ∧ w'.cell? AD = some (.int .i64 x.f0) ∧ w'.cell? ⟨AD.block, AD.off + 1, none⟩ = some (.int .i64 x.f1) ∧ w'.cell? ⟨AD.block, AD.off + 2, none⟩ = some (.string x.f2))) (ds := []) #[false, false, false, false, false, false, false, false, false, false, false, false, false, false, false, false, false, false] (by kernel_rfl) rfl rfl ⟨blk_drew HTL.out, hc0, hc1, hc2⟩ (fun hHeld => ?_); refine with_tabW written.tab8 written.bits8 (fun HT_ HW_ => ?_)
          have H1 := Aside0.mk (HWS.out.later (below_drew (Below.refl wr.heap.size wr)))
          clear HTL HWS hc0 hc1 hc2
          generalize wr.drew = wd at H1 hHeld ⊢
          refine pure_ (i := 1) (N := (some 28)) (v := ?_) (a' := ?_) #[false, true, false, false, false, false, false, false, false, false, false, false, false, false, false, false, false, false] rfl rfl (any_of HT_.out (by kernel_rfl)) (fun _ _ _ h => h) (Or.inl ⟨by rfl, ?_⟩) ?_ ?_
          rotate_left
          · intro w'
            go_simp
            with_reducible rfl
          rotate_left
          · simp only [Act.put, List.setIfInBounds_toArray, List.set_cons_zero, List.set_cons_succ, i64_w, i32_w]
            rfl
          refine pure_ (i := 2) (N := (some 29)) (v := ?_) (a' := ?_) #[false, true, true, false, false, false, false, false, false, false, false, false, false, false, false, false, false, false] rfl rfl (any_of HT_.out (by kernel_rfl)) (fun _ _ _ h => h) (Or.inl ⟨by rfl, ?_⟩) ?_ ?_
          rotate_left
          · intro w'
            go_simp
            with_reducible rfl
          rotate_left
          · simp only [Act.put, List.setIfInBounds_toArray, List.set_cons_zero, List.set_cons_succ, i64_w, i32_w]
            rfl
          refine pure_ (i := 3) (N := (some 30)) (v := ?_) (a' := ?_) #[false, true, true, true, false, false, false, false, false, false, false, false, false, false, false, false, false, false] rfl rfl (any_of HT_.out (by kernel_rfl)) (fun _ _ _ h => h) (Or.inl ⟨by rfl, ?_⟩) ?_ ?_
          rotate_left
          · intro w'
            go_simp
            with_reducible rfl
          rotate_left
          · simp only [Act.put, List.setIfInBounds_toArray, List.set_cons_zero, List.set_cons_succ, i64_w, i32_w]
            rfl
          refine pure_ (i := 4) (N := (some 31)) (v := ?_) (a' := ?_) #[false, true, true, true, true, false, false, false, false, false, false, false, false, false, false, false, false, false] rfl rfl (any_of HT_.out (by kernel_rfl)) (fun _ _ _ h => h) (Or.inl ⟨by rfl, ?_⟩) ?_ ?_
          rotate_left
          · intro w'
            go_simp
            with_reducible rfl
          rotate_left
          · simp only [Act.put, List.setIfInBounds_toArray, List.set_cons_zero, List.set_cons_succ, i64_w, i32_w]
            rfl
          refine pure_ (i := 5) (N := (some 32)) (v := ?_) (a' := ?_) #[false, true, true, true, true, true, false, false, false, false, false, false, false, false, false, false, false, false] rfl rfl (any_of HT_.out (by kernel_rfl)) (fun _ _ _ h => h) (Or.inl ⟨by rfl, ?_⟩) ?_ ?_
          rotate_left
          · intro w'
            go_simp
            with_reducible rfl
          rotate_left
          · simp only [Act.put, List.setIfInBounds_toArray, List.set_cons_zero, List.set_cons_succ, i64_w, i32_w]
            rfl
          refine take_ (i := 0) (N := (some 27)) (v := ?_) (a' := ?_) #[true, true, true, true, true, true, false, false, false, false, false, false, false, false, false, false, false, false] rfl rfl (take_ofW HT_.out HW_.out (by kernel_rfl)) (fun _ _ _ h => h) (Or.inl ⟨by rfl, ?_⟩) hHeld ?_ ?_
          rotate_left
          · rintro w' ⟨hk1, hk2, hk3, hk4⟩
            have k0 : w'.cell? ⟨w.heap.size, 0, none⟩ = some (.int .i64 t.a) := (blk_cell hk1 0).trans rfl
            have k1 : w'.cell? ⟨w.heap.size, 1, none⟩ = some (.int .i64 t.q) := (blk_cell hk1 1).trans rfl
            have k2 : w'.cell? ⟨w.heap.size, 2, none⟩ = some (.int .i64 t.b) := (blk_cell hk1 2).trans rfl
            have k3 : w'.cell? ⟨w.heap.size, 3, none⟩ = some (.complex .f64 a0 b0) := (blk_cell hk1 3).trans rfl
            have k4 : w'.cell? ⟨w.heap.size, 4, none⟩ = some (.complex .f64 a1 b1) := (blk_cell hk1 4).trans rfl
            have k5 : w'.cell? ⟨w.heap.size, 5, none⟩ = some (.complex .f64 a2 b2) := (blk_cell hk1 5).trans rfl
            have k6 : w'.cell? ⟨w.heap.size, 6, none⟩ = some (.complex .f64 a3 b3) := (blk_cell hk1 6).trans rfl
            clear hk1
            go_simp
            with_reducible rfl
          rotate_left
          · simp only [Act.put, List.setIfInBounds_toArray, List.set_cons_zero, List.set_cons_succ, i64_w, i32_w]
            rfl
          refine take_ (i := 6) (N := (some 33)) (v := ?_) (a' := ?_) #[true, true, true, true, true, true, true, false, false, false, false, false, false, false, false, false, false, false] rfl rfl (take_ofW HT_.out HW_.out (by kernel_rfl)) (fun _ _ _ h => h) (Or.inl ⟨by rfl, ?_⟩) hHeld ?_ ?_
          rotate_left
          · rintro w' ⟨hk1, hk2, hk3, hk4⟩
            clear hk1
            go_simp
            with_reducible rfl
          rotate_left
          · simp only [Act.put, List.setIfInBounds_toArray, List.set_cons_zero, List.set_cons_succ, i64_w, i32_w]
            rfl
          refine two_ (i := 7) (j := 13) (Ni := (some 34)) (Nj := (some 17)) #[true, true, true, true, true, true, true, true, false, false, false, false, false, false, false, false, false, false] #[true, true, true, true, true, true, true, false, false, false, false, false, false, true, false, false, false, false] rfl rfl rfl rfl (two_of HT_.out (by kernel_rfl)) (by decide) (by decide) (fun K hK => ?_) (fun K hK => ?_)
          ·
            refine goes_ Try.func14 (by kernel_rfl) rfl #[.agg #[.int .i64 t.a, .int .i64 t.q, .int .i64 t.b, .complex .f64 a0 b0, .complex .f64 a1 b1, .complex .f64 a2 b2, .complex .f64 a3 b3], .int .i64 block, .int .i64 base, .agg #[.int .i64 x.f0, .int .i64 x.f1, .string x.f2]] (by rfl) rfl rfl (by simp [Act.eval]) ?_
            refine (HAP.out wd).mono ?_
            rintro e w2 ⟨vp, er, vv, cl, tn, c0, d0, c1, d1, c2, d2, c3, d3, rfl, her, hoc, hrc, hb, hap⟩
            refine ⟨_, rfl, ?_⟩
            have HAP2 := Aside0.mk (And.intro her (And.intro hoc hap))
            have HVR := Aside0.mk (R_low flat_u8 hrc (Nat.zero_le _))
            have HVA : Aside0 (∀ k, vv.ownBlock = some k → u10.ownBlock ≠ some k) := ⟨fun k hk q => by have h1 := (R_blk hrc k hk).1; have h2 := (R_blk H1.out.rb k q).2.1; omega⟩
            clear her hoc hap hrc
            have H2 := Aside0.mk (H1.out.later hb)
            have hh : _ ∧ _ ∧ _ ∧ _ := ⟨blk_below hHeld.1 hb, (hb.cell (World.block_lt_of_cell? _ _ hHeld.2.1)).trans hHeld.2.1, (hb.cell (World.block_lt_of_cell? _ _ hHeld.2.2.1)).trans hHeld.2.2.1, (hb.cell (World.block_lt_of_cell? _ _ hHeld.2.2.2)).trans hHeld.2.2.2⟩
            clear hb hHeld H1
            refine hK.out _ _ hh (fun hHeld => ?_)
            clear hK K hh
            refine norm_ (a' := ?_) ?_ ?_
            rotate_left
            · show Act.put _ (some 34) _ = _
              simp only [Act.put, List.setIfInBounds_toArray, List.set_cons_zero, List.set_cons_succ, i64_w, i32_w]
              rfl
            refine pure_ (i := 8) (N := (some 26)) (v := ?_) (a' := ?_) #[true, true, true, true, true, true, true, true, true, false, false, false, false, false, false, false, false, false] rfl rfl (any_of HT_.out (by kernel_rfl)) (fun _ _ _ h => h) (Or.inl ⟨by rfl, ?_⟩) ?_ ?_
            rotate_left
            · intro w'
              go_simp
              with_reducible rfl
            rotate_left
            · simp only [Act.put, List.setIfInBounds_toArray, List.set_cons_zero, List.set_cons_succ, i64_w, i32_w]
              rfl
            refine pure_ (i := 9) (N := (some 35)) (v := ?_) (a' := ?_) #[true, true, true, true, true, true, true, true, true, true, false, false, false, false, false, false, false, false] rfl rfl (any_of HT_.out (by kernel_rfl)) (fun _ _ _ h => h) (Or.inl ⟨by rfl, ?_⟩) ?_ ?_
            rotate_left
            · intro w'
              go_simp
              with_reducible rfl
            rotate_left
            · simp only [Act.put, List.setIfInBounds_toArray, List.set_cons_zero, List.set_cons_succ, i64_w, i32_w]
              rfl
            refine pure_ (i := 10) (N := (some 36)) (v := ?_) (a' := ?_) #[true, true, true, true, true, true, true, true, true, true, true, false, false, false, false, false, false, false] rfl rfl (any_of HT_.out (by kernel_rfl)) (fun _ _ _ h => h) (Or.inl ⟨by rfl, ?_⟩) ?_ ?_
            rotate_left
            · intro w'
              go_simp
              with_reducible rfl
            rotate_left
            · simp only [Act.put, List.setIfInBounds_toArray, List.set_cons_zero, List.set_cons_succ, i64_w, i32_w]
              rfl
            refine pure_ (i := 11) (N := (some 37)) (v := ?_) (a' := ?_) #[true, true, true, true, true, true, true, true, true, true, true, true, false, false, false, false, false, false] rfl rfl (any_of HT_.out (by kernel_rfl)) (fun _ _ _ h => h) (Or.inl ⟨by rfl, ?_⟩) ?_ ?_
            rotate_left
            · intro w'
              go_simp
              with_reducible rfl
            rotate_left
            · simp only [Act.put, List.setIfInBounds_toArray, List.set_cons_zero, List.set_cons_succ, i64_w, i32_w]
              rfl
            refine pure_ (i := 12) (N := (some 38)) (v := ?_) (a' := ?_) #[true, true, true, true, true, true, true, true, true, true, true, true, true, false, false, false, false, false] rfl rfl (any_of HT_.out (by kernel_rfl)) (fun _ _ _ h => h) (Or.inl ⟨by rfl, ?_⟩) ?_ ?_
            rotate_left
            · intro w'
              go_simp
              with_reducible rfl
            rotate_left
            · simp only [Act.put, List.setIfInBounds_toArray, List.set_cons_zero, List.set_cons_succ, i64_w, i32_w]
              rfl
            refine one_ (i := 13) (N := (some 17)) #[true, true, true, true, true, true, true, true, true, true, true, true, true, true, false, false, false, false] rfl rfl (one_of HT_.out (by kernel_rfl)) (by decide) (fun K hK => ?_)
            refine value_ (w1 := w2.alloc (.cells #[.int .i64 0, .int .i64 0, .int .i64 0, .complex .f64 0 0, .complex .f64 0 0, .complex .f64 0 0, .complex .f64 0 0] 29)) (v := .pointer (some ⟨w2.heap.size, 0, none⟩)) (by rfl) rfl (by go_simp) ?_
            have HNX := Aside0.mk (blk_new w2 (.cells #[.int .i64 0, .int .i64 0, .int .i64 0, .complex .f64 0 0, .complex .f64 0 0, .complex .f64 0 0, .complex .f64 0 0] 29))
            have hb : Below w2.heap.size w2 (w2.alloc (.cells #[.int .i64 0, .int .i64 0, .int .i64 0, .complex .f64 0 0, .complex .f64 0 0, .complex .f64 0 0, .complex .f64 0 0] 29)) := below_alloc (Below.refl _ _) _
            have H3 := Aside0.mk (H2.out.later hb)
            have hh : _ ∧ _ ∧ _ ∧ _ := ⟨blk_below hHeld.1 hb, (hb.cell (World.block_lt_of_cell? _ _ hHeld.2.1)).trans hHeld.2.1, (hb.cell (World.block_lt_of_cell? _ _ hHeld.2.2.1)).trans hHeld.2.2.1, (hb.cell (World.block_lt_of_cell? _ _ hHeld.2.2.2)).trans hHeld.2.2.2⟩
            have HGX : Aside0 (w.heap.size + 1 ≤ w2.heap.size) := ⟨H2.out.size⟩
            have HGL : Aside0 (AD.block < w2.heap.size) := ⟨World.block_lt_of_cell? _ _ hHeld.2.1⟩
            replace HVR := Aside0.mk (R_keep flat_u8 HVR.out (fun k hk => hb.block k (R_blk HVR.out k hk).2.1))
            generalize w2.alloc (.cells #[.int .i64 0, .int .i64 0, .int .i64 0, .complex .f64 0 0, .complex .f64 0 0, .complex .f64 0 0, .complex .f64 0 0] 29) = w3 at HNX H3 hh HVR ⊢
            generalize w2.heap.size = gx at HNX HGX HGL ⊢
            clear hb hHeld H2
            refine hK.out _ _ hh (fun hHeld => ?_)
            clear hK K hh
            refine norm_ (a' := ?_) ?_ ?_
            rotate_left
            · show Act.put _ (some 17) _ = _
              simp only [Act.put, List.setIfInBounds_toArray, List.set_cons_zero, List.set_cons_succ, i64_w, i32_w]
              rfl
            refine pure_ (i := 14) (N := (some 15)) (v := ?_) (a' := ?_) #[true, true, true, true, true, true, true, true, true, true, true, true, true, true, true, false, false, false] rfl rfl (any_of HT_.out (by kernel_rfl)) (fun _ _ _ h => h) (Or.inl ⟨by rfl, ?_⟩) ?_ ?_
            rotate_left
            · intro w'
              go_simp
              with_reducible rfl
            rotate_left
            · simp only [Act.put, List.setIfInBounds_toArray, List.set_cons_zero, List.set_cons_succ, i64_w, i32_w]
              rfl
            refine pure_ (i := 15) (N := (some 16)) (v := ?_) (a' := ?_) #[true, true, true, true, true, true, true, true, true, true, true, true, true, true, true, true, false, false] rfl rfl (any_of HT_.out (by kernel_rfl)) (fun _ _ _ h => h) (Or.inl ⟨by rfl, ?_⟩) ?_ ?_
            rotate_left
            · intro w'
              go_simp
              with_reducible rfl
            rotate_left
            · simp only [Act.put, List.setIfInBounds_toArray, List.set_cons_zero, List.set_cons_succ, i64_w, i32_w]
              rfl
            refine one_ (i := 16) (N := none) #[true, true, true, true, true, true, true, true, true, true, true, true, true, true, true, true, true, false] rfl rfl (one_of HT_.out (by kernel_rfl)) (by decide) (fun K hK => ?_)
            rw [if_pos (by rfl)]
            refine wp_store_row 29 (.tmp 17) (.tmp 37) (by rfl) gx #[.int .i64 tn.a, .int .i64 tn.q, .int .i64 tn.b, .complex .f64 c0 d0, .complex .f64 c1 d1, .complex .f64 c2 d2, .complex .f64 c3 d3] (by rfl) (by rfl) 29 #[.int .i64 0, .int .i64 0, .int .i64 0, .complex .f64 0 0, .complex .f64 0 0, .complex .f64 0 0, .complex .f64 0 0] HNX.out info7 (by rfl) (by simp [Value.oneCell']) ?_
            have X1 := Aside0.mk (setRow_heap w3 gx #[.int .i64 0, .int .i64 0, .int .i64 0, .complex .f64 0 0, .complex .f64 0 0, .complex .f64 0 0, .complex .f64 0 0] #[.int .i64 tn.a, .int .i64 tn.q, .int .i64 tn.b, .complex .f64 c0 d0, .complex .f64 c1 d1, .complex .f64 c2 d2, .complex .f64 c3 d3] 29 (0, 0) HNX.out)
            have hg : ∀ k, k ≠ gx → (w3.setRow gx #[.int .i64 tn.a, .int .i64 tn.q, .int .i64 tn.b, .complex .f64 c0 d0, .complex .f64 c1 d1, .complex .f64 c2 d2, .complex .f64 c3 d3]).heap[k]? = w3.heap[k]? := fun k hk => setRow_other w3 gx k _ hk
            have HBs := below_setRow (g := gx) (Below.refl gx w3) (Nat.le_refl _) #[.int .i64 tn.a, .int .i64 tn.q, .int .i64 tn.b, .complex .f64 c0 d0, .complex .f64 c1 d1, .complex .f64 c2 d2, .complex .f64 c3 d3]
            have HW9 := Aside0.mk (H3.out.setN HNX.out HGX.out hg HBs)
            have HRV := Aside0.mk (R_keep (W' := w3.setRow gx #[.int .i64 tn.a, .int .i64 tn.q, .int .i64 tn.b, .complex .f64 c0 d0, .complex .f64 c1 d1, .complex .f64 c2 d2, .complex .f64 c3 d3]) flat_u8 HVR.out (fun k hk => hg k (type_ne HNX.out HVR.out (by decide) k hk)))
            have hh : _ ∧ _ ∧ _ ∧ _ := ⟨(hg _ (by have := HGX.out; omega)).trans hHeld.1, (World.cell?_of_block (w := w3) (hg AD.block (by have := HGL.out; have := HGX.out; omega))).trans hHeld.2.1, (World.cell?_of_block (w := w3) (a := ⟨AD.block, AD.off + 1, none⟩) (hg AD.block (by have := HGL.out; have := HGX.out; omega))).trans hHeld.2.2.1, (World.cell?_of_block (w := w3) (a := ⟨AD.block, AD.off + 2, none⟩) (hg AD.block (by have := HGL.out; have := HGX.out; omega))).trans hHeld.2.2.2⟩
            generalize w3.setRow gx #[.int .i64 tn.a, .int .i64 tn.q, .int .i64 tn.b, .complex .f64 c0 d0, .complex .f64 c1 d1, .complex .f64 c2 d2, .complex .f64 c3 d3] = w9 at X1 HW9 HRV hh ⊢
            clear hHeld hg HBs H3 HNX HVR
            refine hK.out _ _ hh (fun hHeld => ?_)
            clear hK K hh
            refine norm_ (a' := ?_) ?_ ?_
            rotate_left
            · show Act.put _ none _ = _
              simp only [Act.put, List.setIfInBounds_toArray, List.set_cons_zero, List.set_cons_succ, i64_w, i32_w]
              rfl
            refine pure_ (i := 17) (N := (some 18)) (v := ?_) (a' := ?_) #[true, true, true, true, true, true, true, true, true, true, true, true, true, true, true, true, true, true] rfl rfl (any_of HT_.out (by kernel_rfl)) (fun _ _ _ h => h) (Or.inl ⟨by rfl, ?_⟩) ?_ ?_
            rotate_left
            · intro w'
              go_simp
              with_reducible rfl
            rotate_left
            · simp only [Act.put, List.setIfInBounds_toArray, List.set_cons_zero, List.set_cons_succ, i64_w, i32_w]
              rfl
            refine done_ (done_of HT_.out (by kernel_rfl)) ?_
            go_wp2_with fail
            go_meet
            case rel => exact ⟨⟨gx, vp, er, cl, tn, rfl, rfl, rfl, HAP2.out.1, ⟨⟨_, _, _, _, _, _, _, _, X1.out, HAP2.out.2.1⟩, HRV.out, HVA.out⟩, HAP2.out.2.2, HW9.out⟩⟩
          ·
            refine value_ (w1 := wd.alloc (.cells #[.int .i64 0, .int .i64 0, .int .i64 0, .complex .f64 0 0, .complex .f64 0 0, .complex .f64 0 0, .complex .f64 0 0] 29)) (v := .pointer (some ⟨wd.heap.size, 0, none⟩)) (by rfl) rfl (by go_simp) ?_
            have HNX := Aside0.mk (blk_new wd (.cells #[.int .i64 0, .int .i64 0, .int .i64 0, .complex .f64 0 0, .complex .f64 0 0, .complex .f64 0 0, .complex .f64 0 0] 29))
            have hb : Below wd.heap.size wd (wd.alloc (.cells #[.int .i64 0, .int .i64 0, .int .i64 0, .complex .f64 0 0, .complex .f64 0 0, .complex .f64 0 0, .complex .f64 0 0] 29)) := below_alloc (Below.refl _ _) _
            have H2 := Aside0.mk (H1.out.later hb)
            have hh : _ ∧ _ ∧ _ ∧ _ := ⟨blk_below hHeld.1 hb, (hb.cell (World.block_lt_of_cell? _ _ hHeld.2.1)).trans hHeld.2.1, (hb.cell (World.block_lt_of_cell? _ _ hHeld.2.2.1)).trans hHeld.2.2.1, (hb.cell (World.block_lt_of_cell? _ _ hHeld.2.2.2)).trans hHeld.2.2.2⟩
            have HGX : Aside0 (w.heap.size + 1 ≤ wd.heap.size) := ⟨H1.out.size⟩
            have HGL : Aside0 (AD.block < wd.heap.size) := ⟨World.block_lt_of_cell? _ _ hHeld.2.1⟩
            
            generalize wd.alloc (.cells #[.int .i64 0, .int .i64 0, .int .i64 0, .complex .f64 0 0, .complex .f64 0 0, .complex .f64 0 0, .complex .f64 0 0] 29) = w2 at HNX H2 hh ⊢
            generalize wd.heap.size = gx at HNX HGX HGL ⊢
            clear hb hHeld H1
            refine hK.out _ _ hh (fun hHeld => ?_)
            clear hK K hh
            refine norm_ (a' := ?_) ?_ ?_
            rotate_left
            · show Act.put _ (some 17) _ = _
              simp only [Act.put, List.setIfInBounds_toArray, List.set_cons_zero, List.set_cons_succ, i64_w, i32_w]
              rfl
            refine one_ (i := 7) (N := (some 34)) #[true, true, true, true, true, true, true, true, false, false, false, false, false, true, false, false, false, false] rfl rfl (one_of HT_.out (by kernel_rfl)) (by decide) (fun K hK => ?_)
            refine goes_ Try.func14 (by kernel_rfl) rfl #[.agg #[.int .i64 t.a, .int .i64 t.q, .int .i64 t.b, .complex .f64 a0 b0, .complex .f64 a1 b1, .complex .f64 a2 b2, .complex .f64 a3 b3], .int .i64 block, .int .i64 base, .agg #[.int .i64 x.f0, .int .i64 x.f1, .string x.f2]] (by rfl) rfl rfl (by simp [Act.eval]) ?_
            refine (HAP.out w2).mono ?_
            rintro e w3 ⟨vp, er, vv, cl, tn, c0, d0, c1, d1, c2, d2, c3, d3, rfl, her, hoc, hrc, hb, hap⟩
            refine ⟨_, rfl, ?_⟩
            have HAP2 := Aside0.mk (And.intro her (And.intro hoc hap))
            have HVR := Aside0.mk (R_low flat_u8 hrc (Nat.zero_le _))
            have HVA : Aside0 (∀ k, vv.ownBlock = some k → u10.ownBlock ≠ some k) := ⟨fun k hk q => by have h1 := (R_blk hrc k hk).1; have h2 := (R_blk H2.out.rb k q).2.1; omega⟩
            clear her hoc hap hrc
            have H3 := Aside0.mk (H2.out.later hb)
            have hh : _ ∧ _ ∧ _ ∧ _ := ⟨blk_below hHeld.1 hb, (hb.cell (World.block_lt_of_cell? _ _ hHeld.2.1)).trans hHeld.2.1, (hb.cell (World.block_lt_of_cell? _ _ hHeld.2.2.1)).trans hHeld.2.2.1, (hb.cell (World.block_lt_of_cell? _ _ hHeld.2.2.2)).trans hHeld.2.2.2⟩
            replace HNX := Aside0.mk (blk_below HNX.out hb)
            clear hb hHeld H2
            refine hK.out _ _ hh (fun hHeld => ?_)
            clear hK K hh
            refine norm_ (a' := ?_) ?_ ?_
            rotate_left
            · show Act.put _ (some 34) _ = _
              simp only [Act.put, List.setIfInBounds_toArray, List.set_cons_zero, List.set_cons_succ, i64_w, i32_w]
              rfl
            refine pure_ (i := 8) (N := (some 26)) (v := ?_) (a' := ?_) #[true, true, true, true, true, true, true, true, true, false, false, false, false, true, false, false, false, false] rfl rfl (any_of HT_.out (by kernel_rfl)) (fun _ _ _ h => h) (Or.inl ⟨by rfl, ?_⟩) ?_ ?_
            rotate_left
            · intro w'
              go_simp
              with_reducible rfl
            rotate_left
            · simp only [Act.put, List.setIfInBounds_toArray, List.set_cons_zero, List.set_cons_succ, i64_w, i32_w]
              rfl
            refine pure_ (i := 9) (N := (some 35)) (v := ?_) (a' := ?_) #[true, true, true, true, true, true, true, true, true, true, false, false, false, true, false, false, false, false] rfl rfl (any_of HT_.out (by kernel_rfl)) (fun _ _ _ h => h) (Or.inl ⟨by rfl, ?_⟩) ?_ ?_
            rotate_left
            · intro w'
              go_simp
              with_reducible rfl
            rotate_left
            · simp only [Act.put, List.setIfInBounds_toArray, List.set_cons_zero, List.set_cons_succ, i64_w, i32_w]
              rfl
            refine pure_ (i := 10) (N := (some 36)) (v := ?_) (a' := ?_) #[true, true, true, true, true, true, true, true, true, true, true, false, false, true, false, false, false, false] rfl rfl (any_of HT_.out (by kernel_rfl)) (fun _ _ _ h => h) (Or.inl ⟨by rfl, ?_⟩) ?_ ?_
            rotate_left
            · intro w'
              go_simp
              with_reducible rfl
            rotate_left
            · simp only [Act.put, List.setIfInBounds_toArray, List.set_cons_zero, List.set_cons_succ, i64_w, i32_w]
              rfl
            refine pure_ (i := 11) (N := (some 37)) (v := ?_) (a' := ?_) #[true, true, true, true, true, true, true, true, true, true, true, true, false, true, false, false, false, false] rfl rfl (any_of HT_.out (by kernel_rfl)) (fun _ _ _ h => h) (Or.inl ⟨by rfl, ?_⟩) ?_ ?_
            rotate_left
            · intro w'
              go_simp
              with_reducible rfl
            rotate_left
            · simp only [Act.put, List.setIfInBounds_toArray, List.set_cons_zero, List.set_cons_succ, i64_w, i32_w]
              rfl
            refine pure_ (i := 12) (N := (some 38)) (v := ?_) (a' := ?_) #[true, true, true, true, true, true, true, true, true, true, true, true, true, true, false, false, false, false] rfl rfl (any_of HT_.out (by kernel_rfl)) (fun _ _ _ h => h) (Or.inl ⟨by rfl, ?_⟩) ?_ ?_
            rotate_left
            · intro w'
              go_simp
              with_reducible rfl
            rotate_left
            · simp only [Act.put, List.setIfInBounds_toArray, List.set_cons_zero, List.set_cons_succ, i64_w, i32_w]
              rfl
            refine pure_ (i := 14) (N := (some 15)) (v := ?_) (a' := ?_) #[true, true, true, true, true, true, true, true, true, true, true, true, true, true, true, false, false, false] rfl rfl (any_of HT_.out (by kernel_rfl)) (fun _ _ _ h => h) (Or.inl ⟨by rfl, ?_⟩) ?_ ?_
            rotate_left
            · intro w'
              go_simp
              with_reducible rfl
            rotate_left
            · simp only [Act.put, List.setIfInBounds_toArray, List.set_cons_zero, List.set_cons_succ, i64_w, i32_w]
              rfl
            refine pure_ (i := 15) (N := (some 16)) (v := ?_) (a' := ?_) #[true, true, true, true, true, true, true, true, true, true, true, true, true, true, true, true, false, false] rfl rfl (any_of HT_.out (by kernel_rfl)) (fun _ _ _ h => h) (Or.inl ⟨by rfl, ?_⟩) ?_ ?_
            rotate_left
            · intro w'
              go_simp
              with_reducible rfl
            rotate_left
            · simp only [Act.put, List.setIfInBounds_toArray, List.set_cons_zero, List.set_cons_succ, i64_w, i32_w]
              rfl
            refine one_ (i := 16) (N := none) #[true, true, true, true, true, true, true, true, true, true, true, true, true, true, true, true, true, false] rfl rfl (one_of HT_.out (by kernel_rfl)) (by decide) (fun K hK => ?_)
            rw [if_pos (by rfl)]
            refine wp_store_row 29 (.tmp 17) (.tmp 37) (by rfl) gx #[.int .i64 tn.a, .int .i64 tn.q, .int .i64 tn.b, .complex .f64 c0 d0, .complex .f64 c1 d1, .complex .f64 c2 d2, .complex .f64 c3 d3] (by rfl) (by rfl) 29 #[.int .i64 0, .int .i64 0, .int .i64 0, .complex .f64 0 0, .complex .f64 0 0, .complex .f64 0 0, .complex .f64 0 0] HNX.out info7 (by rfl) (by simp [Value.oneCell']) ?_
            have X1 := Aside0.mk (setRow_heap w3 gx #[.int .i64 0, .int .i64 0, .int .i64 0, .complex .f64 0 0, .complex .f64 0 0, .complex .f64 0 0, .complex .f64 0 0] #[.int .i64 tn.a, .int .i64 tn.q, .int .i64 tn.b, .complex .f64 c0 d0, .complex .f64 c1 d1, .complex .f64 c2 d2, .complex .f64 c3 d3] 29 (0, 0) HNX.out)
            have hg : ∀ k, k ≠ gx → (w3.setRow gx #[.int .i64 tn.a, .int .i64 tn.q, .int .i64 tn.b, .complex .f64 c0 d0, .complex .f64 c1 d1, .complex .f64 c2 d2, .complex .f64 c3 d3]).heap[k]? = w3.heap[k]? := fun k hk => setRow_other w3 gx k _ hk
            have HBs := below_setRow (g := gx) (Below.refl gx w3) (Nat.le_refl _) #[.int .i64 tn.a, .int .i64 tn.q, .int .i64 tn.b, .complex .f64 c0 d0, .complex .f64 c1 d1, .complex .f64 c2 d2, .complex .f64 c3 d3]
            have HW9 := Aside0.mk (H3.out.setN HNX.out HGX.out hg HBs)
            have HRV := Aside0.mk (R_keep (W' := w3.setRow gx #[.int .i64 tn.a, .int .i64 tn.q, .int .i64 tn.b, .complex .f64 c0 d0, .complex .f64 c1 d1, .complex .f64 c2 d2, .complex .f64 c3 d3]) flat_u8 HVR.out (fun k hk => hg k (type_ne HNX.out HVR.out (by decide) k hk)))
            have hh : _ ∧ _ ∧ _ ∧ _ := ⟨(hg _ (by have := HGX.out; omega)).trans hHeld.1, (World.cell?_of_block (w := w3) (hg AD.block (by have := HGL.out; have := HGX.out; omega))).trans hHeld.2.1, (World.cell?_of_block (w := w3) (a := ⟨AD.block, AD.off + 1, none⟩) (hg AD.block (by have := HGL.out; have := HGX.out; omega))).trans hHeld.2.2.1, (World.cell?_of_block (w := w3) (a := ⟨AD.block, AD.off + 2, none⟩) (hg AD.block (by have := HGL.out; have := HGX.out; omega))).trans hHeld.2.2.2⟩
            generalize w3.setRow gx #[.int .i64 tn.a, .int .i64 tn.q, .int .i64 tn.b, .complex .f64 c0 d0, .complex .f64 c1 d1, .complex .f64 c2 d2, .complex .f64 c3 d3] = w9 at X1 HW9 HRV hh ⊢
            clear hHeld hg HBs H3 HNX HVR
            refine hK.out _ _ hh (fun hHeld => ?_)
            clear hK K hh
            refine norm_ (a' := ?_) ?_ ?_
            rotate_left
            · show Act.put _ none _ = _
              simp only [Act.put, List.setIfInBounds_toArray, List.set_cons_zero, List.set_cons_succ, i64_w, i32_w]
              rfl
            refine pure_ (i := 17) (N := (some 18)) (v := ?_) (a' := ?_) #[true, true, true, true, true, true, true, true, true, true, true, true, true, true, true, true, true, true] rfl rfl (any_of HT_.out (by kernel_rfl)) (fun _ _ _ h => h) (Or.inl ⟨by rfl, ?_⟩) ?_ ?_
            rotate_left
            · intro w'
              go_simp
              with_reducible rfl
            rotate_left
            · simp only [Act.put, List.setIfInBounds_toArray, List.set_cons_zero, List.set_cons_succ, i64_w, i32_w]
              rfl
            refine done_ (done_of HT_.out (by kernel_rfl)) ?_
            go_wp2_with fail
            go_meet
            case rel => exact ⟨⟨gx, vp, er, cl, tn, rfl, rfl, rfl, HAP2.out.1, ⟨⟨_, _, _, _, _, _, _, _, X1.out, HAP2.out.2.1⟩, HRV.out, HVA.out⟩, HAP2.out.2.2, HW9.out⟩⟩
        case rest =>
          obtain ⟨gx, vp, er, cl, tn, rfl, rfl, rfl, her, hn, hok, hws⟩ := hcut.out
          obtain ⟨hil, hkq, hdi⟩ := HKI.out
          clear hcut hc0 hc1 hc2 HAP HTL HWS
          have HWS := Aside0.mk hws
          rcases appErr_cases block base t x with he0 | he35
          rotate_left
          · rcases he35 with h3 | h3
            all_goals
              rw [h3] at her
              subst her
              clear hn hok hws h3
              go_wp2_with fail
              go_roundg g1
              case measure => omega
              case rel => exact ⟨i + 1, t, b, done, ends, by go_num, by omega, by omega, by omega, HWR, HWS⟩
          · rw [he0] at her
            subst her
            obtain ⟨hvp, hcl, htn⟩ := hok rfl
            have hwo := wr_ok hkk HWR.out
            obtain ⟨P, hc, hPb, hPl, hxs, hq, -, -, -, -, -, e5⟩ := app_rec hwo.ok.S.1 he0
            have hn30 : (cl.length : Int) = 30 + (x.f2.size : Int) := by rw [hcl, hc, frm_length]; omega
            have HNew := Aside0.mk (Wr.snoc x HWR.out he0 HSM.out)
            have hab : appBytes block base t x b = b ++ zer (vp - t.a) ++ cl := by unfold appBytes; rw [hvp, hcl]
            have hap : (appTl block base t x).a = vp + (cl.length : Int) := by unfold appTl; rw [hvp, hcl]
            have haq : (appTl block base t x).q = t.q + 1 := rfl
            rw [hab, ← htn] at HNew
            rw [← htn] at hap haq
            rw [← hcl] at hvp
            obtain ⟨p1, p2, p3, p4⟩ := place_ok hkk hwo.ok.a0 (n := (cl.length : Int)) (by omega) (by omega)
            rw [← hvp] at p1 p2 p3 p4
            have hta := hwo.a
            have htq := hwo.q
            have hm2 : (done.length : Int) * (2 * block) ≤ 40 * 8192 := Int.mul_le_mul (by omega) (by omega) (by omega) (by decide)
            have hmost := hwo.most
            have hquo := same_block hkk (by omega) (by omega) p2
            have HP := Aside0.mk (And.intro p1 (And.intro hta (And.intro htq (And.intro hap (And.intro haq hquo)))))
            have hbig : vp + (cl.length : Int) ≤ 1000000 := by omega
            have hbl : (b.length : Int) ≤ vp := by omega
            have hb2 : vp ≤ (b.length : Int) + block := by omega
            have hcb : (cl.length : Int) ≤ block := by omega
            clear hab hap haq hvp hcl htn hwo hc hPb hPl hxs hq e5 p1 p2 p3 p4 hta htq hm2 hmost hquo he0 hok hws
            obtain ⟨A0, c0, rfl, _, _⟩ := brow_reads HWS.out.rb
            obtain ⟨A16, c16, rfl, _, _⟩ := brow_reads hn.rc
            have HN := Aside0.mk hn
            clear hn
            have d1 : decide (vp < (b.length : Int)) = false := decide_eq_false (by omega)
            have wb : wrap64 ((b.length : Int) + block) = (b.length : Int) + block := w64 (by omega) (by omega)
            have d2 : decide ((b.length : Int) + block < vp) = false := decide_eq_false (by omega)
            have d3 : decide (block < (cl.length : Int)) = false := decide_eq_false (by omega)
            go_wp2_with fail
            go_loopg [10] (vp - (b.length : Int)).toNat (fun kp v10 w2 => ∃ k : Nat, k + kp = (vp - (b.length : Int)).toNat ∧ Aside0 (WSt w w2 v10 u11 u12 t (b ++ List.replicate k 0) done ends) ∧ Aside0 (NSt w2 v10 (.slice A16 cl.length c16) gx cl tn))
            case atStart => exact ⟨0, by omega, ⟨by simpa using HWS.out⟩, HN⟩
            case round =>
              obtain ⟨k, hkv, HW1, HN1⟩ := hrel
              obtain ⟨A1, c1, hv, _, _⟩ := brow_reads HW1.out.rb
              have hlen : (b ++ List.replicate k (0 : Int)).length = b.length + k := by simp
              rw [hlen] at hv
              subst hv
              have hal := below_alloc (Below.refl wr.heap.size wr) (.cells #[.int .u8 0] 5)
              by_cases hkp : k < (vp - (b.length : Int)).toNat
              · obtain ⟨g2, rfl⟩ : ∃ g2, gk = g2 + 1 := ⟨gk - 1, by omega⟩
                have e1 : decide (((b.length + k : Nat) : Int) < vp) = true := decide_eq_true (by omega)
                have e1' : decide ((b.length : Int) + (k : Int) < vp) = true := decide_eq_true (by omega)
                have HA := Aside0.mk hal
                clear hal
                go_wp2_with (at_builtin; refine Kd.R_append_rows (Kd.int .u8) (w0 := _) (w.heap.size + 1) rfl (.tmp 71) (.tmp 72) 22 5 (.int .u8 0) 1 rfl Try.underlying22 info5b rfl (by decide) (by omega) (.slice A1 (b.length + k) c1) (b ++ List.replicate k 0) [0] (some ⟨wr.heap.size, 0, none⟩) 1 1 (fun _ => True) (fun _ => False) (by rfl) (by rfl) (HW1.out.later HA.out).rb (lit_b wr 0) (fun _ _ h => h) (fun _ h => h.elim) (fun _ _ => trivial) (Below.refl _ _) (HW1.out.later HA.out).size (by simp; omega) ?_; intro v2 w2 ho hb hg hat; have HW2 := Aside0.mk ((HW1.out.later HA.out).pushB ho hg hb); have HN2 := Aside0.mk ((HN1.out.later HA.out).pushB (HW1.out.later HA.out) hg hat); clear ho hb hg hat)
                go_roundg g2
                case measure => omega
                case rel =>
                  have hz : b ++ List.replicate (k + 1) (0 : Int) = b ++ List.replicate k 0 ++ [0] := by rw [List.replicate_succ', List.append_assoc]
                  rw [← hz] at HW2
                  exact ⟨k + 1, by omega, HW2, HN2⟩
              · have e1 : decide (((b.length + k : Nat) : Int) < vp) = false := decide_eq_false (by omega)
                have e1' : decide ((b.length : Int) + (k : Int) < vp) = false := decide_eq_false (by omega)
                clear hal
                obtain ⟨p1, hta, htq, hap, haq, hquo⟩ := HP.out
                have hzk : List.replicate k (0 : Int) = zer (vp - t.a) := by unfold zer; rw [show k = (vp - t.a).toNat by omega]
                rw [hzk] at HW1
                have hbl4 : (((b ++ zer (vp - t.a) ++ cl).length : Nat) : Int) = vp + (cl.length : Int) := by
                  have := zer_length (vp - t.a) (by omega)
                  rw [List.length_append, List.length_append]
                  omega
                obtain ⟨b4, hb4⟩ : ∃ b4, b ++ zer (vp - t.a) ++ cl = b4 := ⟨_, rfl⟩
                have HCAP : Aside0 (((b ++ zer (vp - t.a)).length + cl.length) * 1 ≤ 140737488355328) := ⟨by rw [List.length_append] at hbl4; omega⟩
                rw [hb4] at hbl4 HNew
                have HBL4 := Aside0.mk hbl4
                have HN30 := Aside0.mk hn30
                clear p1 hta htq hap haq hquo hbl4 hn30
                go_upto_region 15 with (at_builtin; refine Kd.R_append_rows (Kd.int .u8) (w0 := _) (w.heap.size + 1) rfl (.tmp 74) (.tmp 75) 22 5 (.int .u8 0) 1 rfl Try.underlying22 info5b rfl (by decide) (by omega) (.slice A1 (b.length + k) c1) (b ++ zer (vp - t.a)) cl A16 cl.length c16 (fun _ => True) (fun _ => False) (by rfl) (by rfl) HW1.out.rb (Kd.R_reads' HN1.out.rc).2.2 (fun _ _ h => h) (fun _ h => h.elim) (fun _ _ => trivial) (Below.refl _ _) HW1.out.size HCAP.out ?_; rw [hb4]; intro v4 w4 ho hb hg hat; have HW4 := Aside0.mk (HW1.out.pushB ho hg hb); have HN4 := Aside0.mk (HN1.out.pushB HW1.out hg hat); clear ho hb hg hat)
                obtain ⟨A4, c4, rfl, _, _⟩ := brow_reads HW4.out.rb
                obtain ⟨ad2, hA2, x0, x1, x2⟩ := at_T46 (Kd.C_below HR.out HW4.out.below) (i : Int) q0 q1
                obtain rfl := Option.some.inj hA2
                rw [Int.toNat_natCast, hAD] at x0 x1 x2
                rw [HX.out] at x0 x1 x2
                clear hA2
                have HA := Aside0.mk (below_alloc (Below.refl w4.heap.size w4) (.cells #[.int .i64 x.f0, .int .i64 x.f1, .string x.f2] 46))
                have HDL : Aside0 ((done.length + 1) * 32 ≤ 140737488355328) := ⟨by omega⟩
                go_upto_region 16 with (at_builtin; refine Kd.R_append_rows k46 (w0 := _) (w.heap.size + 1) rfl (.tmp 77) (.tmp 82) 24 46 (.agg #[.int .i64 0, .int .i64 0, .string ⟨#[]⟩]) 32 rfl Try.underlying24 infoE rfl (by decide) (by omega) u11 done [x] (some ⟨w4.heap.size, 0, none⟩) 1 1 (fun _ => True) (fun _ => False) (by rfl) (by rfl) (HW4.out.later HA.out).rd (lit_E w4 x) (fun x cs h => by obtain rfl := k46_open h; exact k46_mkM _ _ _ _) (fun _ h => h.elim) (fun _ _ => trivial) (Below.refl _ _) (HW4.out.later HA.out).size HDL.out ?_; intro v5 w5 ho hb hg hat; have HW5 := Aside0.mk ((HW4.out.later HA.out).pushD ho hg hb); have HN5 := Aside0.mk ((HN4.out.later HA.out).other (HW4.out.later HA.out).rd (by decide) (by decide) hg); clear ho hb hg hat)
                clear x0 x1 x2 HA
                have HA := Aside0.mk (below_alloc (Below.refl w5.heap.size w5) (.cells #[.int .i64 (b4.length : Int)] 3))
                have HEL : Aside0 ((ends.length + 1) * 8 ≤ 140737488355328) := ⟨by have := (wr_ok hkk HWR.out).ends; omega⟩
                go_upto_region 17 with (at_builtin; refine Kd.R_append_rows (Kd.int .i64) (w0 := _) (w.heap.size + 1) rfl (.tmp 84) (.tmp 87) 41 3 (.int .i64 0) 8 rfl Try.underlying41 info3i rfl (by decide) (by omega) u12 ends [(b4.length : Int)] (some ⟨w5.heap.size, 0, none⟩) 1 1 (fun _ => True) (fun _ => False) (by rfl) (by rfl) (HW5.out.later HA.out).re (lit_i w5 _) (fun _ _ h => h) (fun _ h => h.elim) (fun _ _ => trivial) (Below.refl _ _) (HW5.out.later HA.out).size HEL.out ?_; intro v6 w6 ho hb hg hat; have HW6 := Aside0.mk ((HW5.out.later HA.out).pushE ho hg hb); have HN6 := Aside0.mk ((HN5.out.later HA.out).other (HW5.out.later HA.out).re (by decide) (by decide) hg); clear ho hb hg hat)
                clear HA HW5 HN5 HW4 HN4 HW1 HN1 HN HWS HDL HEL HCAP
                obtain ⟨p1, hta, htq, hap, haq, hquo⟩ := HP.out
                have hbl4 := HBL4.out
                have hn30 := HN30.out
                have r1 : (tn.a != (b4.length : Int)) = false := by rw [bne_eq_false_iff_eq]; omega
                have r2 : (tn.q != (done.length : Int) + 1) = false := by rw [bne_eq_false_iff_eq]; omega
                have r2' : (tn.q != ((done.length + 1 : Nat) : Int)) = false := by rw [bne_eq_false_iff_eq]; omega
                have wbn : IntKind.i64.wrap ((b4.length : Int) - 1) = (b4.length : Int) - 1 := by rw [IntKind.wrap_i64]; omega
                have r3 : (IntKind.i64.wrap (vp.tdiv block) != IntKind.i64.wrap ((IntKind.i64.wrap ((b4.length : Int) - 1)).tdiv block)) = false := by rw [bne_eq_false_iff_eq, wbn, hbl4, hquo]
                clear wbn
                have wb1 : wrap64 ((b4.length : Int) - 1) = (b4.length : Int) - 1 := w64 (by omega) (by omega)
                obtain ⟨e0, f0, e1_, f1, e2, f2, e3, f3, hnx, hof⟩ := HN6.out.nx
                obtain ⟨A6, c6, hv6, _, _⟩ := Kd.R_reads HW6.out.rd
                rw [show (done ++ [x]).length = done.length + 1 from by rw [List.length_append]; rfl] at hv6
                subst hv6
                have HNX := Aside0.mk hnx
                have HOF := Aside0.mk hof
                have y0 : (w6.drew).cell? ⟨gx, 0, none⟩ = some (.int .i64 tn.a) := (blk_cell (blk_drew hnx) 0).trans rfl
                have y1 : (w6.drew).cell? ⟨gx, 1, none⟩ = some (.int .i64 tn.q) := (blk_cell (blk_drew hnx) 1).trans rfl
                have q2 : vp.tdiv block < 9223372036854775807 := by rw [Int.tdiv_eq_ediv_of_nonneg (by omega)]; have := Int.ediv_le_self block (show 0 ≤ vp by omega); omega
                have hbne : ¬ block = 0 := by omega
                clear hnx hof p1 hta htq hap haq hquo hbl4 hn30
                refine wp_region_still_lit (by kernel_rfl) (by kernel_rfl) ?_
                change wpStill _ _ w6.drew _ _ _
                repeat (first | still_step | (refine wpStill_step (fun K hK => ?_); rw [if_pos (by rfl)]; go_simp; refine hK _ ?_; clear hK K))
                refine wpStill_nil ?_
                change Exit.then _ _ _ _ w6.drew
                have HW7 := Aside0.mk (HW6.out.later (below_drew (Below.refl w6.heap.size w6)))
                have HX7 : Aside0 (w6.drew.heap[gx]? = some (.cells #[.int .i64 tn.a, .int .i64 tn.q, .int .i64 tn.b, .complex .f64 e0 f0, .complex .f64 e1_ f1, .complex .f64 e2 f2, .complex .f64 e3 f3] 29 (0, 0))) := ⟨blk_drew HNX.out⟩
                obtain ⟨g0, h0, g1_, h1, g2, h2, g3, h3, htl, _⟩ := HW7.out.tail
                have HT7 := Aside0.mk htl
                clear htl y0 y1 HN6 HW6 HNX
                generalize w6.drew = w7 at HW7 HX7 HT7 ⊢
                have y0 : w7.cell? ⟨gx, 0, none⟩ = some (.int .i64 tn.a) := (blk_cell HX7.out 0).trans rfl
                have y1 : w7.cell? ⟨gx, 1, none⟩ = some (.int .i64 tn.q) := (blk_cell HX7.out 1).trans rfl
                have y2 : w7.cell? ⟨gx, 2, none⟩ = some (.int .i64 tn.b) := (blk_cell HX7.out 2).trans rfl
                have y3 : w7.cell? ⟨gx, 3, none⟩ = some (.complex .f64 e0 f0) := (blk_cell HX7.out 3).trans rfl
                have y4 : w7.cell? ⟨gx, 4, none⟩ = some (.complex .f64 e1_ f1) := (blk_cell HX7.out 4).trans rfl
                have y5 : w7.cell? ⟨gx, 5, none⟩ = some (.complex .f64 e2 f2) := (blk_cell HX7.out 5).trans rfl
                have y6 : w7.cell? ⟨gx, 6, none⟩ = some (.complex .f64 e3 f3) := (blk_cell HX7.out 6).trans rfl
                have x0 : w7.cell? ⟨w.heap.size, 0, none⟩ = some (.int .i64 t.a) := (blk_cell HT7.out 0).trans rfl
                have x1 : w7.cell? ⟨w.heap.size, 1, none⟩ = some (.int .i64 t.q) := (blk_cell HT7.out 1).trans rfl
                have x2 : w7.cell? ⟨w.heap.size, 2, none⟩ = some (.int .i64 t.b) := (blk_cell HT7.out 2).trans rfl
                have x3 : w7.cell? ⟨w.heap.size, 3, none⟩ = some (.complex .f64 g0 h0) := (blk_cell HT7.out 3).trans rfl
                have x4 : w7.cell? ⟨w.heap.size, 4, none⟩ = some (.complex .f64 g1_ h1) := (blk_cell HT7.out 4).trans rfl
                have x5 : w7.cell? ⟨w.heap.size, 5, none⟩ = some (.complex .f64 g2 h2) := (blk_cell HT7.out 5).trans rfl
                have x6 : w7.cell? ⟨w.heap.size, 6, none⟩ = some (.complex .f64 g3 h3) := (blk_cell HT7.out 6).trans rfl
                have z0 := blk_frozen HT7.out 0
                have z1 := blk_frozen HT7.out 1
                have z2 := blk_frozen HT7.out 2
                have z3 := blk_frozen HT7.out 3
                have z4 := blk_frozen HT7.out 4
                have z5 := blk_frozen HT7.out 5
                have z6 := blk_frozen HT7.out 6
                go_wp2_with fail
                go_roundg g1
                case measure => omega
                case rel => exact ⟨i + 1, tn, b4, done ++ [x], ends ++ [(b4.length : Int)], by go_num, by omega, by omega, by rw [List.length_append]; show done.length + 1 ≤ i + 1; omega, ⟨by have h := HNew.out; rw [show tn.a = (b4.length : Int) from by rw [HBL4.out]; exact HP.out.2.2.2.1] at h; exact h⟩, ⟨HW7.out.setT _ _ _ _ _ _ _ _ HOF.out⟩⟩
end Go.Proofs.Ytacecaacpagokaa.Swap
