/- A writer of numbers: contracts. -/
import Derived.Test.YtacecaacpagokaaPureSwapGoes
import Derived.Test.YtacecaacpagokaaWWords
import Derived.Test.YtacecaacpagokaaWLast
import Derived.Test.YtacecaacpagokaaWMore
import Derived.Test.YtacecaacpagokaaWTab
import Derived.WalkKit
import Derived.WalkSpells
import Derived.LoopTactic
import Derived.OwnWalk
namespace Go.Proofs.Ytacecaacpagokaa.Codec
open Go.RowKit Go.Proofs.Ytacecaacpagokaa.PSwapGoes Go.Proofs.Ytacecaacpagokaa.Plain Go.Proofs.Ytacecaacpagokaa.Pure Go.Proofs.YtacecaacpagokaaW.PrintWords Go.Proofs.YtacecaacpagokaaW.PrintLast Go.Proofs.YtacecaacpagokaaW.PrintMore
set_option linter.unusedVariables false
set_option linter.unusedSimpArgs false
theorem info5 : (Try.prog.info? 5).map (fun i => (i.zero, i.size, i.bytes)) = some (some (.int .u8 0), 1, 1) := by kernel_rfl
/-- A writer: its block, its bytes, its error. -/
structure Writer (w : World) (base WP : Nat) (v : Value) (s : List Int × Int) : Prop where
  blk : w.heap[WP]? = some (.cells #[v, .int .i64 s.2] 94 (0, 0))
  row : Kd.R (Kd.int .u8) 5 w base (fun _ => True) v s.1
  ne : v.ownBlock ≠ some WP
  lo : base ≤ WP
/-- What a writer's call leaves as it was. -/
structure Wrote (w w' : World) (WP : Nat) (v v' : Value) : Prop where
  os : w'.os = w.os
  tape : w'.tape = w.tape
  output : w'.output = w.output
  size : w.heap.size ≤ w'.heap.size
  block : ∀ g, g < w.heap.size → g ≠ WP → v.ownBlock ≠ some g → w'.heap[g]? = w.heap[g]?
  own : v'.ownBlock = v.ownBlock ∨ ∃ k, v'.ownBlock = some k ∧ w.heap.size ≤ k
theorem Wrote.refl (w : World) (WP : Nat) (v : Value) : Wrote w w WP v v := ⟨rfl, rfl, rfl, Nat.le_refl _, fun _ _ _ _ => rfl, .inl rfl⟩
theorem Wrote.trans {w w1 w2 : World} {WP : Nat} {v v1 v2 : Value} (h : Wrote w w1 WP v v1) (k : Wrote w1 w2 WP v1 v2) : Wrote w w2 WP v v2 := by
  refine ⟨k.os.trans h.os, k.tape.trans h.tape, k.output.trans h.output, Nat.le_trans h.size k.size, fun g hg hw hv => ?_, ?_⟩
  · refine (k.block g (Nat.lt_of_lt_of_le hg h.size) hw ?_).trans (h.block g hg hw hv)
    rcases h.own with e | ⟨q, e, hq⟩
    · rw [e]; exact hv
    · rw [e]; intro e2; cases e2; omega
  · rcases k.own with e | ⟨q, e, hq⟩
    · rw [e]; exact h.own
    · exact .inr ⟨q, e, Nat.le_trans h.size hq⟩
theorem Wrote.below {w w' : World} {WP base : Nat} {v v' : Value} (h : Wrote w w' WP v v') (hw : base ≤ WP) (hv : ∀ k, v.ownBlock = some k → base ≤ k) {w0 : World} (h0 : Below base w0 w) (hb : base ≤ w.heap.size) : Below base w0 w' := by
  refine h0.trans ⟨h.os, h.tape, h.output, h.size, fun i hi => h.block i (Nat.lt_of_lt_of_le hi hb) (by omega) fun e => ?_⟩
  have := hv i e
  omega
theorem brow_reads {e base : Nat} {ok : Nat → Prop} {w : World} {v : Value} {xs : List Int} (h : (Kd.int .u8).R e w base ok v xs) : ∃ A c, v = .slice A xs.length c ∧ xs.length ≤ c ∧ (Kd.int .u8).C w A xs.length xs := Kd.R_reads h
theorem brow_made (w0 W : World) (m : Nat) (hb : w0.heap.size ≤ W.heap.size) (hm : m ≤ 9223372036854775807) : (Kd.int .u8).R 5 (W.alloc (.cells (madeCells #[.int .u8 0] m) 5)) w0.heap.size (fun _ => True) (.slice (some ⟨W.heap.size, 0, none⟩) m m) (List.replicate m 0) := by
  refine Kd.R_of_own (enc := Value.int .u8) (h1 := fun _ => rfl) ?_ (fun _ _ => trivial)
  rw [List.length_replicate]
  exact own_made W w0.heap.size 5 .u8 m hb hm
theorem brow_own {base : Nat} {ok : Nat → Prop} {w : World} {v : Value} {xs : List Int} (h : (Kd.int .u8).R 5 w base ok v xs) : w.ownsRow base 5 1 v xs.length (nums .u8 xs) := Kd.own_of_R (enc := Value.int .u8) (h1 := fun _ => rfl) h
theorem brow_lt {base : Nat} {ok : Nat → Prop} {w : World} {v : Value} {xs : List Int} (h : (Kd.int .u8).R 5 w base ok v xs) : ∀ k, v.ownBlock = some k → base ≤ k ∧ k < w.heap.size := (brow_own h).lt
theorem brow_keep {base : Nat} {w W : World} {v : Value} {xs : List Int} (h : (Kd.int .u8).R 5 w base (fun _ => True) v xs) (hk : ∀ g, v.ownBlock = some g → W.heap[g]? = w.heap[g]?) : (Kd.int .u8).R 5 W base (fun _ => True) v xs := by
  have h2 := brow_own h
  refine Kd.R_of_own (enc := Value.int .u8) (h1 := fun _ => rfl) ⟨h2.1, ?_⟩ (fun _ _ => trivial)
  rcases h2.2 with hn | ⟨g, cap, cur, rfl, hb, hgg, rest⟩
  · exact .inl hn
  · exact .inr ⟨g, cap, cur, rfl, hb, (hk g rfl).trans hgg, rest⟩
/-- A writer as it is, where its blocks are as they were. -/
theorem Writer.keep {w W : World} {base WP : Nat} {v : Value} {s : List Int × Int} (H : Writer w base WP v s) (h1 : W.heap[WP]? = w.heap[WP]?) (h2 : ∀ g, v.ownBlock = some g → W.heap[g]? = w.heap[g]?) : Writer W base WP v s :=
  ⟨h1.trans H.blk, brow_keep H.row h2, H.ne, H.lo⟩
theorem Writer.later {w W : World} {base WP : Nat} {v : Value} {s : List Int × Int} (H : Writer w base WP v s) (hb : Below w.heap.size w W) : Writer W base WP v s :=
  H.keep (hb.block WP (blk_lt H.blk)) fun g e => hb.block g (brow_lt H.row g e).2
theorem Wrote.of_below {w W : World} (WP : Nat) (v : Value) (hb : Below w.heap.size w W) : Wrote w W WP v v := ⟨hb.os, hb.tape, hb.output, hb.size, fun g hg _ _ => hb.block g hg, .inl rfl⟩
/-- The error is set. -/
theorem Writer.setE {w : World} {base WP : Nat} {v : Value} {bs : List Int} {e : Int} (H : Writer w base WP v (bs, e)) (e' : Int) : Writer (w.setCell ⟨WP, 1, none⟩ (.int .i64 e')) base WP v (bs, e') := by
  refine ⟨?_, brow_keep H.row fun g hg => Below.heap_setCell w ⟨WP, 1, none⟩ _ g ?_, H.ne, H.lo⟩
  · exact blk_put H.blk 1 _ rfl
  · show g ≠ WP
    rintro rfl
    exact H.ne hg
theorem Wrote.setE {w : World} (WP : Nat) (i : Nat) (u v : Value) : Wrote w (w.setCell ⟨WP, i, none⟩ u) WP v v := by
  refine ⟨rfl, rfl, rfl, by simp [World.setCell], fun g _ hw _ => Below.heap_setCell w ⟨WP, i, none⟩ _ g hw, .inl rfl⟩
/-- Bytes are appended, and the writer holds them. -/
theorem Writer.more {w w1 : World} {base WP : Nat} {v v1 : Value} {bs ys : List Int} {e : Int} (H : Writer w base WP v (bs, e)) (hr : Kd.R (Kd.int .u8) 5 w1 base (fun _ => True) v1 (bs ++ ys)) (hg : w.grownBy w1 v.ownBlock) (hat : v1.ownBlock = v.ownBlock ∨ ∃ b, v1.ownBlock = some b ∧ w.heap.size ≤ b) :
    Writer (w1.setCell ⟨WP, 0, none⟩ v1) base WP v1 (bs ++ ys, e) ∧ Wrote w (w1.setCell ⟨WP, 0, none⟩ v1) WP v v1 ∧ w1.heap[WP]? = some (.cells #[v, .int .i64 e] 94 (0, 0)) := by
  have hlt := blk_lt H.blk
  have hb := blk_grown H.blk hg (fun e => H.ne e.symm)
  have hne : v1.ownBlock ≠ some WP := by
    rcases hat with e | ⟨b, e, h⟩
    · rw [e]; exact H.ne
    · rw [e]; intro e2; cases e2; omega
  refine ⟨⟨blk_put hb 0 _ rfl, brow_keep hr fun g hg => Below.heap_setCell w1 ⟨WP, 0, none⟩ _ g ?_, hne, H.lo⟩, ⟨hg.os, hg.tape, hg.output, ?_, fun g hgl hw hv => (Below.heap_setCell w1 ⟨WP, 0, none⟩ _ g hw).trans (hg.block g hgl fun e => hv e.symm), hat⟩, hb⟩
  · show g ≠ WP
    rintro rfl
    exact hne hg
  · have := hg.size
    simpa [World.setCell] using this
set_option maxHeartbeats 4000000 in
set_option maxRecDepth 100000 in
theorem number_calls (n : Nat) (hn : n = 1 ∨ n = 2 ∨ n = 4) (x : Int) {w : World} {base WP : Nat} {v : Value} {s : List Int × Int} (H : Writer w base WP v s) (hbase : base ≤ w.heap.size) (hl : s.1.length ≤ 70368744177664) :
    Calls Try.prog 52 #[.pointer (some ⟨WP, 0, none⟩), .int .i64 n, .int .i64 x] w fun e w' => e = .returned (.tuple #[]) ∧ ∃ v', Writer w' base WP v' (wnum n s x) ∧ Wrote w w' WP v v' := by
  have hmk := print_make (P := Try.prog) 22 5 .u8 1 Try.underlying22 info5 (by decide) n (by omega)
  have hput : ∀ (W : World) (A : Option Addr), Kd.C (Kd.int .u8) W A (List.replicate n (0 : Int)).length (List.replicate n (0 : Int)) → Calls Try.prog 53 #[.slice A n n, .int .i64 0, .int .i64 n, .int .i64 x] W fun e w' => ∃ v0 : Value, e = .returned (.tuple #[v0, .int .i64 (Put n x).2]) ∧ Kd.R (Kd.int .u8) 5 w' W.heap.size (fun _ => True) v0 (Put n x).1 ∧ Below W.heap.size W w' := by
    intro W A hC
    have h := field_Put.calls A n (List.replicate n 0) 0 n x (Put n x).1 (Put n x).2 W hC (by rw [List.length_replicate]; exact Nat.le_refl _) (put_is hn x)
    rw [List.length_replicate] at h
    exact h
  have HPut := Aside0.mk hput
  have HN := Aside0.mk hn
  have HH := Aside0.mk H
  have HL := Aside0.mk hl
  have HBS := Aside0.mk hbase
  have HPL := Aside0.mk (Put_length n x)
  have hcs := Put_cases n x
  have hn4 : n ≤ 4 := by omega
  obtain ⟨bs, e0⟩ := s
  have HW0 : Aside0 (wnum n (bs, e0) x = (bs ++ (Put n x).1, if e0 = 0 then (Put n x).2 else e0)) := ⟨rfl⟩
  obtain ⟨⟨ps, er⟩, hp⟩ : ∃ p, Put n x = p := ⟨_, rfl⟩
  rw [hp] at HPut HPL HW0 hcs
  rw [HW0.out]
  obtain ⟨e', he'⟩ : ∃ e', (if e0 = 0 then er else e0) = e' := ⟨_, rfl⟩
  rw [he']
  have HE := Aside0.mk he'
  clear hn H hl hbase hput hp HW0 he'
  go_enter Try.func52, Try.ntmps52
  go_wp2_with fail
  have OM := Aside0.mk (brow_made w w n (Nat.le_refl _) (by omega))
  have HB1 := Aside0.mk (below_alloc (Below.refl w.heap.size w) (.cells (madeCells #[.int .u8 0] n) 5))
  have hC : Kd.C (Kd.int .u8) (w.alloc (.cells (madeCells #[.int .u8 0] n) 5)) (some ⟨w.heap.size, 0, none⟩) (List.replicate n (0 : Int)).length (List.replicate n (0 : Int)) := by
    obtain ⟨A, c, e, _, h⟩ := brow_reads OM.out
    obtain ⟨rfl, _, _⟩ := Value.slice.inj e
    exact h
  ((with_reducible refine (HPut.out _ _ hC).mono ?_); rintro e w2 ⟨v0, rfl, hr0, hb⟩)
  have HB2 := Aside0.mk (below_then HB1.out HB1.out.size hb)
  have HW2 := Aside0.mk (HH.out.later HB2.out)
  have HBS2 : Aside0 (base ≤ w2.heap.size) := ⟨Nat.le_trans HBS.out HB2.out.size⟩
  obtain ⟨A0, k0, rfl, _, hp0⟩ := brow_reads hr0
  clear hmk hC OM HB1 hr0 hb HPut
  have c20 : w2.cell? ⟨WP, 0, none⟩ = some v := (blk_cell HW2.out.blk 0).trans rfl
  have c21 : w2.cell? ⟨WP, 1, none⟩ = some (.int .i64 e0) := (blk_cell HW2.out.blk 1).trans rfl
  have f21 := blk_frozen HW2.out.blk 1
  have HLT : Aside0 (WP < w2.heap.size) := ⟨blk_lt HW2.out.blk⟩
  have HP0 := Aside0.mk hp0
  clear hp0
  rcases hcs with ⟨_, hc⟩ | ⟨_, hc⟩
  · obtain rfl : er = 0 := (Prod.mk.inj hc).2
    clear hc
    go_wp2_with (at_builtin; refine Kd.R_append_rows (Kd.int .u8) (w0 := w2) base rfl (.tmp 33) (.tmp 34) 22 5 (.int .u8 0) 1 rfl Try.underlying22 info5 rfl (by decide) (by omega) v bs ps _ _ _ (fun _ => True) (fun _ => False) rfl rfl HW2.out.row HP0.out (fun _ _ h => h) (fun _ h => h.elim) (fun _ _ => trivial) (Below.refl _ _) HBS2.out (by have := HL.out; have := HPL.out; simp; omega) ?_; intro v2 w4 ho hb hg hat; obtain ⟨A2, k2, rfl, _, _⟩ := brow_reads ho; have hw := HW2.out.more ho hg hat; rw [List.length_append] at hw; have HW := Aside0.mk hw; clear hw; have c40 : w4.cell? ⟨WP, 0, none⟩ = some v := (blk_cell HW.out.2.2 0).trans rfl; have f40 := blk_frozen HW.out.2.2 0; clear ho hb hg hat)
    go_end0
    refine ⟨rfl, _, ?_, (Wrote.of_below WP v HB2.out).trans HW.out.2.1⟩
    have he : e' = e0 := by rw [← HE.out]; by_cases c : e0 = 0 <;> simp [c]
    rw [he]
    exact HW.out.1
  · obtain rfl : er = 3 := (Prod.mk.inj hc).2
    have HPS := Aside0.mk (Prod.mk.inj hc).1
    clear hc
    by_cases c : e0 = 0
    · subst c
      have HW3 := Aside0.mk (HW2.out.setE 3)
      have HQ3 := Aside0.mk ((Wrote.of_below WP v HB2.out).trans (Wrote.setE (w := w2) WP 1 (.int .i64 3) v))
      have HP3 : Aside0 (Kd.C (Kd.int .u8) (w2.setCell ⟨WP, 1, none⟩ (.int .i64 3)) A0 ps.length ps) := ⟨by rw [HPS.out]; exact Kd.C_of_reads (d := (0 : Int)) (h1 := fun _ => rfl) (readsInt_of.1 ⟨rfl, by decide, fun h => absurd h (by decide)⟩)⟩
      have HBS3 : Aside0 (base ≤ (w2.setCell ⟨WP, 1, none⟩ (.int .i64 3)).heap.size) := ⟨by simpa [World.setCell] using HBS2.out⟩
      clear HP0
      have HP0 := HP3
      clear HP3 HBS2
      have HBS2 := HBS3
      clear HBS3
      go_wp2_with (at_builtin; refine Kd.R_append_rows (Kd.int .u8) (w0 := _) base rfl (.tmp 33) (.tmp 34) 22 5 (.int .u8 0) 1 rfl Try.underlying22 info5 rfl (by decide) (by omega) v bs ps _ _ _ (fun _ => True) (fun _ => False) rfl rfl HW3.out.row HP0.out (fun _ _ h => h) (fun _ h => h.elim) (fun _ _ => trivial) (Below.refl _ _) HBS2.out (by have := HL.out; have := HPL.out; simp; omega) ?_; intro v2 w4 ho hb hg hat; obtain ⟨A2, k2, rfl, _, _⟩ := brow_reads ho; have hw := HW3.out.more ho hg hat; rw [List.length_append] at hw; have HW := Aside0.mk hw; clear hw; have c40 : w4.cell? ⟨WP, 0, none⟩ = some v := (blk_cell HW.out.2.2 0).trans rfl; have f40 := blk_frozen HW.out.2.2 0; clear ho hb hg hat)
      go_end0
      refine ⟨rfl, _, ?_, HQ3.out.trans HW.out.2.1⟩
      have he : e' = 3 := by rw [← HE.out]; rfl
      rw [he]
      exact HW.out.1
    · have d2 : (e0 == 0) = false := beq_eq_false_iff_ne.2 c
      have HC := Aside0.mk c
      clear c
      go_wp2_with (at_builtin; refine Kd.R_append_rows (Kd.int .u8) (w0 := w2) base rfl (.tmp 33) (.tmp 34) 22 5 (.int .u8 0) 1 rfl Try.underlying22 info5 rfl (by decide) (by omega) v bs ps _ _ _ (fun _ => True) (fun _ => False) rfl rfl HW2.out.row HP0.out (fun _ _ h => h) (fun _ h => h.elim) (fun _ _ => trivial) (Below.refl _ _) HBS2.out (by have := HL.out; have := HPL.out; simp; omega) ?_; intro v2 w4 ho hb hg hat; obtain ⟨A2, k2, rfl, _, _⟩ := brow_reads ho; have hw := HW2.out.more ho hg hat; rw [List.length_append] at hw; have HW := Aside0.mk hw; clear hw; have c40 : w4.cell? ⟨WP, 0, none⟩ = some v := (blk_cell HW.out.2.2 0).trans rfl; have f40 := blk_frozen HW.out.2.2 0; clear ho hb hg hat)
      go_end0
      refine ⟨rfl, _, ?_, (Wrote.of_below WP v HB2.out).trans HW.out.2.1⟩
      have he : e' = e0 := by rw [← HE.out, if_neg HC.out]
      rw [he]
      exact HW.out.1
end Go.Proofs.Ytacecaacpagokaa.Codec
