/- A writer whose bytes began as a constant text: contracts. -/
import Derived.Test.YtbplffdmggbcdaaDoorKKBox
import Derived.Lib.SlBytesConst
namespace Go.Proofs.YtbplffdmggbcdaaDoor.Codec
open Go.RowKit Go.Proofs.YtbplffdmggbcdaaDoor.PCodecKeeps Go.Proofs.YtbplffdmggbcdaaDoor.Plain Go.Proofs.YtbplffdmggbcdaaDoor.Pure Go.Proofs.YtbplffdmggbcdaaDoorW.PrintWords Go.Proofs.YtbplffdmggbcdaaDoorW.PrintLast Go.Proofs.YtbplffdmggbcdaaDoorW.PrintMore
set_option linter.unusedVariables false
set_option linter.unusedSimpArgs false
/-- A row of bytes of the call's own, or the row of a constant text of four bytes, marked. -/
def RowM (w : World) (base : Nat) (v : Value) (l : List Int) : Prop := Kd.R (Kd.int .u8) 5 w base (fun _ => True) v l ∨ (l.length = 4 ∧ ∃ g, v = .slice (some ⟨g, 0, none⟩) 4 4 ∧ base ≤ g ∧ w.heap[g]? = some (.cells (nums .u8 l).toArray 5 (4, 5)))
theorem rowm_cell {w : World} {g : Nat} {l : List Int} (h : w.heap[g]? = some (.cells (nums .u8 l).toArray 5 (4, 5))) (j : Nat) (hj : j < l.length) : w.cell? ⟨g, j, none⟩ = some (.int .u8 (l.getD j 0)) := by
  simp [World.cell?, h, nums, List.getElem?_eq_getElem hj, List.getD]
theorem rowm_reads {base : Nat} {w : World} {v : Value} {l : List Int} (h : RowM w base v l) : ∃ A c, v = .slice A l.length c ∧ l.length ≤ c ∧ (Kd.int .u8).C w A l.length l := by
  rcases h with h | ⟨hl, g, rfl, _, hg⟩
  · exact brow_reads h
  · refine ⟨some ⟨g, 0, none⟩, 4, by rw [hl], by omega, brow_ofC ⟨rfl, by omega, fun _ => ⟨_, rfl, fun j hj => ?_⟩⟩⟩
    rw [add_plain]
    exact rowm_cell hg j hj
theorem rowm_lt {base : Nat} {w : World} {v : Value} {l : List Int} (h : RowM w base v l) : ∀ k, v.ownBlock = some k → base ≤ k ∧ k < w.heap.size := by
  rcases h with h | ⟨_, g, rfl, hb, hg⟩
  · exact brow_lt h
  · intro k e
    obtain rfl : g = k := by simpa [Value.ownBlock] using e
    exact ⟨hb, blk_lt hg⟩
theorem rowm_keep {base : Nat} {w W : World} {v : Value} {l : List Int} (h : RowM w base v l) (hk : ∀ g, v.ownBlock = some g → W.heap[g]? = w.heap[g]?) : RowM W base v l := by
  rcases h with h | ⟨hl, g, rfl, hb, hg⟩
  · exact .inl (brow_keep h hk)
  · exact .inr ⟨hl, g, rfl, hb, (hk g (by simp [Value.ownBlock])).trans hg⟩
/-- Behind a number more the row is the call's own. -/
theorem rowm_own {base : Nat} {w : World} {v : Value} {l : List Int} (h : RowM w base v l) (hl : l.length ≠ 4) : Kd.R (Kd.int .u8) 5 w base (fun _ => True) v l := h.elim id fun q => absurd q.1 hl
theorem mk_run {W : World} (base : Nat) (ty : TypeId) (g : Nat) (xs ys : List Int) (A : Option Addr) (m c : Nat) (h4 : xs.length = 4) (hb : base ≤ g) (hg : W.heap[g]? = some (.cells (nums .u8 xs).toArray 5 (4, 5))) (hy : Kd.C (Kd.int .u8) W A m ys) (hbase : base ≤ W.heap.size) (hl : xs.length + m ≤ 70368744177664) :
    ∃ v' w', (Builtin.append_ #[27, 27] ty #[.slice (some ⟨g, 0, none⟩) 4 4, .slice A m c]).run Tryd.prog W = .ok v' w' ∧ RowM w' base v' (xs ++ ys) ∧ W.grownBy w' (some g) ∧ (v'.ownBlock = some g ∨ ∃ b, v'.ownBlock = some b ∧ W.heap.size ≤ b) := by
  obtain ⟨i5, hi5⟩ := Option.map_eq_some_iff.1 info5
  simp only [Prod.mk.injEq] at hi5
  obtain ⟨hi5, hz5, hs5, hb5⟩ := hi5
  have hys : ys.length = m := hy.1
  by_cases hm : m = 0
  · subst hm
    have hnil : ys = [] := List.eq_nil_of_length_eq_zero hys
    subst hnil
    refine ⟨.slice (some ⟨g, 0, none⟩) 4 4, W, ?_, ?_, World.grownBy.refl _ _, .inl (by simp [Value.ownBlock])⟩
    · cases A with
      | none => simp [Builtin.append_, run_underlying Tryd.underlying27, sizeOf, typeInfo, hi5, Builtin.lenOf, Builtin.firstCells, storeCells]
      | some q =>
        have hf := run_firstCells_some (P := Tryd.prog) W i5.size 0 q 0 c [] (by simp) (by simp)
        simp [Builtin.append_, run_underlying Tryd.underlying27, sizeOf, typeInfo, hi5, Builtin.lenOf, hf, storeCells]
    · rw [List.append_nil]; exact .inr ⟨h4, g, rfl, hb, hg⟩
  · have hyr := brow_C hy
    obtain ⟨ad, rfl, hc⟩ := hyr.2.2 (by omega)
    have hrun := run_append_grow (P := Tryd.prog) (w := W) 27 ty 5 i5 (.int .u8 0) Tryd.underlying27 hi5 hz5 ⟨g, 0, none⟩ 4 4 (nums .u8 xs) (by simp [nums, hs5, h4]) (by
      intro j u hj
      rw [add_plain]
      have : j < xs.length := by
        have := (List.getElem?_eq_some_iff.1 hj).1
        simpa [nums] using this
      rw [rowm_cell hg j this]
      simpa [nums, List.getElem?_eq_getElem this, List.getD] using hj) ad m c (nums .u8 ys) (by simp [nums, hs5, hys]) (by
      intro j u hj
      have : j < ys.length := by
        have := (List.getElem?_eq_some_iff.1 hj).1
        simpa [nums] using this
      rw [hc j (by omega)]
      simpa [nums, List.getElem?_eq_getElem this, List.getD] using hj) (by omega) (by omega) (by rw [hb5]; exact growslice_fits (by omega) (by omega))
    refine ⟨_, _, hrun, .inl ?_, ?_, ?_⟩
    · refine Kd.R_of_own (enc := Value.int .u8) (h1 := fun _ => rfl) ⟨by simp [encs], .inr ⟨W.heap.size, _, _, by rw [List.length_append, h4, hys], hbase, blk_new W.drew _, ?_, ?_, ?_, ?_⟩⟩ (fun _ _ => trivial)
      · rw [List.length_append, h4, hys]; exact grownCap_ge _ _ _ _
      · exact grownCap_le_maxLen _ _ _ _ (by unfold maxLen; omega)
      · have := grownCap_ge W (4 + m) 4 5
        simp [nums, Builtin.zeroCells, h4, hys, Value.cells]
        omega
      · have e : encs (Value.int .u8) (xs ++ ys) = nums .u8 xs ++ nums .u8 ys := by simp [encs, nums]
        rw [e, Array.toList_append, Array.toList_append, Nat.mul_one, List.take_append_of_le_length (by simp [nums]), List.take_of_length_le (by simp [nums])]
    · have h := World.grownBy_alloc W.drew (.cells ((nums .u8 xs).toArray ++ (nums .u8 ys).toArray ++ Builtin.zeroCells (Value.int .u8 0).cells (grownCap W (4 + m) 4 5 - (4 + m))) 5) (some g)
      exact ⟨h.os, h.tape, h.output, h.size, h.block⟩
    · exact .inr ⟨W.heap.size, by simp [Value.ownBlock], Nat.le_refl _⟩
theorem wpList_rowm {ops : Array Oper} {rest : List Oper} {o : Oper} {a : Act} {W : World} {Q : Exit → Act → World → Prop} (hgd : o.guard = none) (s x : Operand)
    (ho : o.op = .call { callee := .builtin .append, args := #[s, x], argTypes := #[27, 27] }) (base : Nat) (v : Value) (xs ys : List Int) (A : Option Addr) (m c : Nat) (hs : a.eval s = v) (hx : a.eval x = .slice A m c) (hr : RowM W base v xs) (hy : Kd.C (Kd.int .u8) W A m ys) (hbase : base ≤ W.heap.size) (hl : xs.length + m ≤ 70368744177664)
    (h : ∀ v1 w1, RowM w1 base v1 (xs ++ ys) → W.grownBy w1 v.ownBlock → (v1.ownBlock = v.ownBlock ∨ ∃ b, v1.ownBlock = some b ∧ W.heap.size ≤ b) → wpList Tryd.prog ops Q rest (a.put o.dst v1) w1) : wpList Tryd.prog ops Q (o :: rest) a W := by
  rcases hr with hr | ⟨h4, g, rfl, hb, hg⟩
  · exact Kd.R_append_rows (Kd.int .u8) (w0 := W) base hgd s x 27 5 (.int .u8 0) 1 ho Tryd.underlying27 info5 rfl (by decide) (by omega) v xs ys A m c (fun _ => True) (fun _ => False) hs hx hr hy (fun _ _ h => h) (fun _ h => h.elim) (fun _ _ => trivial) (Below.refl _ _) hbase (by omega) (fun v1 w1 h1 _ h2 h3 => h v1 w1 (.inl h1) h2 h3)
  · obtain ⟨v', w', hr1, h1, h2, h3⟩ := mk_run base o.type g xs ys A m c h4 hb hg hy hbase hl
    refine wpList_plain hgd fun K hK => ?_
    unfold Oper.wp execOp
    simp only [ho, resolve, invoke, builtin, Sem.run_bind, Sem.run_pure, Result.andThen_ok, List.map_toArray, List.map_cons, List.map_nil, hs, hx, hr1]
    exact hK _ _ (h v' w' h1 h2 h3)
/-- A writer whose bytes may be a constant text's. -/
structure WriterM (w : World) (base WP : Nat) (v : Value) (s : List Int × Int) : Prop where
  blk : w.heap[WP]? = some (.cells #[v, .int .i64 s.2] 72 (0, 0))
  row : RowM w base v s.1
  ne : v.ownBlock ≠ some WP
  lo : base ≤ WP
theorem WriterM.keep {w W : World} {base WP : Nat} {v : Value} {s : List Int × Int} (H : WriterM w base WP v s) (h1 : W.heap[WP]? = w.heap[WP]?) (h2 : ∀ g, v.ownBlock = some g → W.heap[g]? = w.heap[g]?) : WriterM W base WP v s :=
  ⟨h1.trans H.blk, rowm_keep H.row h2, H.ne, H.lo⟩
theorem WriterM.later {w W : World} {base WP : Nat} {v : Value} {s : List Int × Int} (H : WriterM w base WP v s) (hb : Below w.heap.size w W) : WriterM W base WP v s :=
  H.keep (hb.block WP (blk_lt H.blk)) fun g e => hb.block g (rowm_lt H.row g e).2
theorem WriterM.setE {w : World} {base WP : Nat} {v : Value} {bs : List Int} {e : Int} (H : WriterM w base WP v (bs, e)) (e' : Int) : WriterM (w.setCell ⟨WP, 1, none⟩ (.int .i64 e')) base WP v (bs, e') := by
  refine ⟨?_, rowm_keep H.row fun g hg => Below.heap_setCell w ⟨WP, 1, none⟩ _ g ?_, H.ne, H.lo⟩
  · exact blk_put H.blk 1 _ rfl
  · show g ≠ WP
    rintro rfl
    exact H.ne hg
theorem WriterM.more {w w1 : World} {base WP : Nat} {v v1 : Value} {bs ys : List Int} {e : Int} (H : WriterM w base WP v (bs, e)) (hr : RowM w1 base v1 (bs ++ ys)) (hg : w.grownBy w1 v.ownBlock) (hat : v1.ownBlock = v.ownBlock ∨ ∃ b, v1.ownBlock = some b ∧ w.heap.size ≤ b) :
    WriterM (w1.setCell ⟨WP, 0, none⟩ v1) base WP v1 (bs ++ ys, e) ∧ Wrote w (w1.setCell ⟨WP, 0, none⟩ v1) WP v v1 ∧ w1.heap[WP]? = some (.cells #[v, .int .i64 e] 72 (0, 0)) := by
  have hlt := blk_lt H.blk
  have hb := blk_grown H.blk hg (fun e => H.ne e.symm)
  have hne : v1.ownBlock ≠ some WP := by
    rcases hat with e | ⟨b, e, h⟩
    · rw [e]; exact H.ne
    · rw [e]; intro e2; cases e2; omega
  refine ⟨⟨blk_put hb 0 _ rfl, rowm_keep hr fun g hg => Below.heap_setCell w1 ⟨WP, 0, none⟩ _ g ?_, hne, H.lo⟩, ⟨hg.os, hg.tape, hg.output, ?_, fun g hgl hw hv => (Below.heap_setCell w1 ⟨WP, 0, none⟩ _ g hw).trans (hg.block g hgl fun e => hv e.symm), hat⟩, hb⟩
  · show g ≠ WP
    rintro rfl
    exact hne hg
  · have := hg.size
    simpa [World.setCell] using this
set_option maxHeartbeats 4000000 in
set_option maxRecDepth 100000 in
theorem numberm_calls (n : Nat) (hn : n = 1 ∨ n = 2 ∨ n = 4) (x : Int) {w : World} {base WP : Nat} {v : Value} {s : List Int × Int} (H : WriterM w base WP v s) (hbase : base ≤ w.heap.size) (hl : s.1.length ≤ 70368744000000) :
    Calls Tryd.prog 32 #[.pointer (some ⟨WP, 0, none⟩), .int .i64 n, .int .i64 x] w fun e w' => e = .returned (.tuple #[]) ∧ ∃ v', WriterM w' base WP v' (wnum n s x) ∧ Wrote w w' WP v v' := by
  have hmk := print_make (P := Tryd.prog) 27 5 .u8 1 Tryd.underlying27 info5 (by decide) n (by omega)
  have hput : ∀ (W : World) (A : Option Addr), Kd.C (Kd.int .u8) W A (List.replicate n (0 : Int)).length (List.replicate n (0 : Int)) → Calls Tryd.prog 57 #[.slice A n n, .int .i64 0, .int .i64 n, .int .i64 x] W fun e w' => ∃ v0 : Value, e = .returned (.tuple #[v0, .int .i64 (Put n x).2]) ∧ Kd.R (Kd.int .u8) 5 w' W.heap.size (fun _ => True) v0 (Put n x).1 ∧ Below W.heap.size W w' := by
    intro W A hC
    have h := field_Put.calls A n (List.replicate n 0) 0 n x (Put n x).1 (Put n x).2 W hC (by rw [List.length_replicate]; exact Nat.le_refl _) (put_is hn x)
    rw [List.length_replicate] at h
    exact h
  have HPut := Aside0.mk hput
  have HN := Aside0.mk hn
  have HH := Aside0.mk H
  have HL := Aside0.mk hl
  have HBS := Aside0.mk hbase
  have HPL := Aside0.mk (Put_length n x)
  have hcs := Put_cases n x
  have hn4 : n ≤ 4 := by omega
  obtain ⟨bs, e0⟩ := s
  have HW0 : Aside0 (wnum n (bs, e0) x = (bs ++ (Put n x).1, if e0 = 0 then (Put n x).2 else e0)) := ⟨rfl⟩
  obtain ⟨⟨ps, er⟩, hp⟩ : ∃ p, Put n x = p := ⟨_, rfl⟩
  rw [hp] at HPut HPL HW0 hcs
  rw [HW0.out]
  obtain ⟨e', he'⟩ : ∃ e', (if e0 = 0 then er else e0) = e' := ⟨_, rfl⟩
  rw [he']
  have HE := Aside0.mk he'
  clear hn H hl hbase hput hp HW0 he'
  go_enter Tryd.func32, Tryd.ntmps32
  go_wp2_with fail
  have OM := Aside0.mk (brow_made w w n (Nat.le_refl _) (by omega))
  have HB1 := Aside0.mk (below_alloc (Below.refl w.heap.size w) (.cells (madeCells #[.int .u8 0] n) 5))
  have hC : Kd.C (Kd.int .u8) (w.alloc (.cells (madeCells #[.int .u8 0] n) 5)) (some ⟨w.heap.size, 0, none⟩) (List.replicate n (0 : Int)).length (List.replicate n (0 : Int)) := by
    obtain ⟨A, c, e, _, h⟩ := brow_reads OM.out
    obtain ⟨rfl, _, _⟩ := Value.slice.inj e
    exact h
  ((with_reducible refine (HPut.out _ _ hC).mono ?_); rintro e w2 ⟨v0, rfl, hr0, hb⟩)
  have HB2 := Aside0.mk (below_then HB1.out HB1.out.size hb)
  have HW2 := Aside0.mk (HH.out.later HB2.out)
  have HBS2 : Aside0 (base ≤ w2.heap.size) := ⟨Nat.le_trans HBS.out HB2.out.size⟩
  obtain ⟨A0, k0, rfl, _, hp0⟩ := brow_reads hr0
  clear hmk hC OM HB1 hr0 hb HPut
  have c20 : w2.cell? ⟨WP, 0, none⟩ = some v := (blk_cell HW2.out.blk 0).trans rfl
  have c21 : w2.cell? ⟨WP, 1, none⟩ = some (.int .i64 e0) := (blk_cell HW2.out.blk 1).trans rfl
  have f21 := blk_frozen HW2.out.blk 1
  have HLT : Aside0 (WP < w2.heap.size) := ⟨blk_lt HW2.out.blk⟩
  have HP0 := Aside0.mk hp0
  clear hp0
  rcases hcs with ⟨_, hc⟩ | ⟨_, hc⟩
  · obtain rfl : er = 0 := (Prod.mk.inj hc).2
    clear hc
    go_wp2_with (at_builtin; refine wpList_rowm rfl (.tmp 33) (.tmp 34) rfl base v bs ps _ _ _ rfl rfl HW2.out.row HP0.out HBS2.out (by have := HL.out; have := HPL.out; simp at *; omega) ?_; intro v2 w4 ho hg hat; obtain ⟨A2, k2, rfl, _, _⟩ := rowm_reads ho; have hw := HW2.out.more ho hg hat; rw [List.length_append] at hw; have HW := Aside0.mk hw; clear hw; have c40 : w4.cell? ⟨WP, 0, none⟩ = some v := (blk_cell HW.out.2.2 0).trans rfl; have f40 := blk_frozen HW.out.2.2 0; clear ho hg hat)
    go_end0
    refine ⟨rfl, _, ?_, (Wrote.of_below WP v HB2.out).trans HW.out.2.1⟩
    have he : e' = e0 := by rw [← HE.out]; by_cases c : e0 = 0 <;> simp [c]
    rw [he]
    exact HW.out.1
  · obtain rfl : er = 3 := (Prod.mk.inj hc).2
    have HPS := Aside0.mk (Prod.mk.inj hc).1
    clear hc
    by_cases c : e0 = 0
    · subst c
      have HW3 := Aside0.mk (HW2.out.setE 3)
      have HQ3 := Aside0.mk ((Wrote.of_below WP v HB2.out).trans (Wrote.setE (w := w2) WP 1 (.int .i64 3) v))
      have HP3 : Aside0 (Kd.C (Kd.int .u8) (w2.setCell ⟨WP, 1, none⟩ (.int .i64 3)) A0 ps.length ps) := ⟨by rw [HPS.out]; exact Kd.C_of_reads (d := (0 : Int)) (h1 := fun _ => rfl) (readsInt_of.1 ⟨rfl, by decide, fun h => absurd h (by decide)⟩)⟩
      have HBS3 : Aside0 (base ≤ (w2.setCell ⟨WP, 1, none⟩ (.int .i64 3)).heap.size) := ⟨by simpa [World.setCell] using HBS2.out⟩
      clear HP0
      have HP0 := HP3
      clear HP3 HBS2
      have HBS2 := HBS3
      clear HBS3
      go_wp2_with (at_builtin; refine wpList_rowm rfl (.tmp 33) (.tmp 34) rfl base v bs ps _ _ _ rfl rfl HW3.out.row HP0.out HBS2.out (by have := HL.out; have := HPL.out; simp at *; omega) ?_; intro v2 w4 ho hg hat; obtain ⟨A2, k2, rfl, _, _⟩ := rowm_reads ho; have hw := HW3.out.more ho hg hat; rw [List.length_append] at hw; have HW := Aside0.mk hw; clear hw; have c40 : w4.cell? ⟨WP, 0, none⟩ = some v := (blk_cell HW.out.2.2 0).trans rfl; have f40 := blk_frozen HW.out.2.2 0; clear ho hg hat)
      go_end0
      refine ⟨rfl, _, ?_, HQ3.out.trans HW.out.2.1⟩
      have he : e' = 3 := by rw [← HE.out]; rfl
      rw [he]
      exact HW.out.1
    · have d2 : (e0 == 0) = false := beq_eq_false_iff_ne.2 c
      have HC := Aside0.mk c
      clear c
      go_wp2_with (at_builtin; refine wpList_rowm rfl (.tmp 33) (.tmp 34) rfl base v bs ps _ _ _ rfl rfl HW2.out.row HP0.out HBS2.out (by have := HL.out; have := HPL.out; simp at *; omega) ?_; intro v2 w4 ho hg hat; obtain ⟨A2, k2, rfl, _, _⟩ := rowm_reads ho; have hw := HW2.out.more ho hg hat; rw [List.length_append] at hw; have HW := Aside0.mk hw; clear hw; have c40 : w4.cell? ⟨WP, 0, none⟩ = some v := (blk_cell HW.out.2.2 0).trans rfl; have f40 := blk_frozen HW.out.2.2 0; clear ho hg hat)
      go_end0
      refine ⟨rfl, _, ?_, (Wrote.of_below WP v HB2.out).trans HW.out.2.1⟩
      have he : e' = e0 := by rw [← HE.out, if_neg HC.out]
      rw [he]
      exact HW.out.1
set_option maxHeartbeats 4000000 in
set_option maxRecDepth 100000 in
theorem numbersm_calls (n : Nat) (hn : n = 1 ∨ n = 2 ∨ n = 4) (A : Option Addr) (c : Nat) (l : List Int) {w : World} {base WP : Nat} {v : Value} {s : List Int × Int} (H : WriterM w base WP v s) (hbase : base ≤ w.heap.size) (hl : s.1.length + n * l.length ≤ 70368744000000)
    (hr : ReadsInt w .i64 A l.length l) (ha : ApartW A l.length WP v) :
    Calls Tryd.prog 31 #[.pointer (some ⟨WP, 0, none⟩), .int .i64 n, .slice A l.length c] w fun e w' => e = .returned (.tuple #[]) ∧ ∃ v', WriterM w' base WP v' (wnums n s l) ∧ Wrote w w' WP v v' := by
  have HH := Aside0.mk H
  have HN := Aside0.mk hn
  have HL := Aside0.mk hl
  have HBS := Aside0.mk hbase
  have HR := Aside0.mk hr
  have HA := Aside0.mk ha
  have hll : l.length ≤ 9223372036854775807 := hr.2.1
  clear H hn hl hbase hr ha
  go_enter Tryd.func31, Tryd.ntmps31
  go_wp2_with fail
  go_loopg [10] l.length (fun kq v10 w' => ∃ (i : Nat) (v' : Value), v10 = .int .i64 (i : Int) ∧ i ≤ l.length ∧ l.length - i ≤ kq ∧ Aside0 (WriterM w' base WP v' (wnums n s (l.take i)) ∧ Wrote w w' WP v v'))
  case atStart => exact ⟨0, v, rfl, by omega, by omega, ⟨HH.out, Wrote.refl w WP v⟩⟩
  case round =>
    obtain ⟨i, v1, rfl, hi, hk, HS⟩ := hrel
    by_cases hlt : i < l.length
    · cases gk with
      | zero => omega
      | succ k1 =>
        obtain ⟨ad, rfl, hcell⟩ := load_int (reads_wrote HR.out HS.out.2 HA.out) i hlt
        obtain ⟨z, hz⟩ : ∃ z, l.getD i 0 = z := ⟨_, rfl⟩
        rw [hz] at hcell
        have HZ := Aside0.mk hz
        have hlen : (wnums n s (l.take i)).1.length ≤ 70368744000000 := by
          have h1 := wnums_length n (l.take i) s
          have h2 := HL.out
          have h3 : n * (l.take i).length ≤ n * l.length := Nat.mul_le_mul_left _ (by rw [List.length_take]; omega)
          omega
        have hb2 : base ≤ wr.heap.size := Nat.le_trans HBS.out HS.out.2.size
        have HC := Aside0.mk (numberm_calls n HN.out z HS.out.1 hb2 hlen)
        clear hz hlen hb2
        have d0 : decide ((i : Int) < (l.length : Int)) = true := decide_eq_true (by omega)
        have p0' : (0 : Int) ≤ (i : Int) := by omega
        have p1' : (i : Int) < (l.length : Int) := by omega
        go_wp2_with fail
        ((with_reducible refine HC.out.mono ?_); rintro e w2 ⟨rfl, v2, hw2, hq2⟩)
        have HS2 := Aside0.mk (And.intro hw2 (HS.out.2.trans hq2))
        clear hw2 hq2 hcell HC
        go_wp2_with fail
        go_roundg k1
        case measure => omega
        case rel =>
          refine ⟨i + 1, v2, by go_num, by omega, by omega, ⟨?_⟩⟩
          have h := HS2.out
          rw [wnums_take n s l i hlt, HZ.out]
          exact h
    · obtain rfl : i = l.length := by omega
      have d0 : decide ((l.length : Int) < (l.length : Int)) = false := decide_eq_false (by omega)
      go_wp2
      go_end0
      refine ⟨rfl, v1, ?_⟩
      have h := HS.out
      rwa [List.take_length] at h
end Go.Proofs.YtbplffdmggbcdaaDoor.Codec
