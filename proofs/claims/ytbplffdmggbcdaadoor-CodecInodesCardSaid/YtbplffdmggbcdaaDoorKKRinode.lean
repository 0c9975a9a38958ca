/- The reference writes an inode: a contract. -/
import Derived.Test.YtbplffdmggbcdaaDoorKKPutI
namespace Go.Proofs.YtbplffdmggbcdaaDoor.Codec
open Go.RowKit Go.Proofs.YtbplffdmggbcdaaDoor.PCodecInodes Go.Proofs.YtbplffdmggbcdaaDoor.Plain Go.Proofs.YtbplffdmggbcdaaDoor.Pure Go.Proofs.YtbplffdmggbcdaaDoorW.PrintWords Go.Proofs.YtbplffdmggbcdaaDoorW.PrintLast Go.Proofs.YtbplffdmggbcdaaDoorW.PrintMore
set_option linter.unusedVariables false
set_option linter.unusedSimpArgs false

set_option maxHeartbeats 4000000 in
set_option maxRecDepth 100000 in
theorem rinode_odd (p0 p1 p2 p3 p4 p5 p6 p7 p8 p9 p10 p11 p12 : Int) (h : inoOdd p0 p1 p2 p3 p4 p5 p6 p7 p8 p9 p10 p11 p12) (w : World) :
    Calls Tryd.prog 8 #[.agg #[.int .i64 p0, .int .i64 p1, .int .i64 p2, .int .i64 p3, .int .i64 p4, .int .i64 p5, .int .i64 p6, .int .i64 p7, .int .i64 p8, .int .i64 p9, .int .i64 p10, .int .i64 p11, .int .i64 p12]] w fun e w' => e = .returned (.tuple #[.slice none 0 0, .int .i64 4]) ∧ Below w.heap.size w w' := by
  have hu := Tryd.underlying24
  have u22 := Tryd.underlying22
  have hneq := ino_neq p0 p1 p2 p3 p4 p5 p6 p7 p8 p9 p10 p11 p12
  rcases h with h | h | ⟨h, hz⟩
  · have d1 : decide (p0 < 0) = true := decide_eq_true h
    clear h hneq
    go_enter Tryd.func8, Tryd.ntmps8
    go_wp2_with ((with_reducible refine gate_dst (N := 1) rfl ?_); refine box_event ?hg (N := 1) ?hd (cs := #[.int .i64 p0, .int .i64 p1, .int .i64 p2, .int .i64 p3, .int .i64 p4, .int .i64 p5, .int .i64 p6, .int .i64 p7, .int .i64 p8, .int .i64 p9, .int .i64 p10, .int .i64 p11, .int .i64 p12]) (t := 24) ?hr ?_; (case hd => rfl); (case hg => rfl); (case hr => first | (go_simp; done) | (go_simp; rfl)); intro gb hggb w1 hbox hb; have BKgb := Aside0.mk hbox; have BHgb := Aside0.mk hb; have GEgb := Aside0.mk hggb; clear hb hbox hggb; have x0 : w1.cell? ⟨gb, 0, none⟩ = some (.int .i64 p0) := (blk_cell BKgb.out 0).trans rfl; have x1 : w1.cell? ⟨gb, 1, none⟩ = some (.int .i64 p1) := (blk_cell BKgb.out 1).trans rfl; have x2 : w1.cell? ⟨gb, 2, none⟩ = some (.int .i64 p2) := (blk_cell BKgb.out 2).trans rfl; have x3 : w1.cell? ⟨gb, 3, none⟩ = some (.int .i64 p3) := (blk_cell BKgb.out 3).trans rfl; have x4 : w1.cell? ⟨gb, 4, none⟩ = some (.int .i64 p4) := (blk_cell BKgb.out 4).trans rfl; have x5 : w1.cell? ⟨gb, 5, none⟩ = some (.int .i64 p5) := (blk_cell BKgb.out 5).trans rfl; have x6 : w1.cell? ⟨gb, 6, none⟩ = some (.int .i64 p6) := (blk_cell BKgb.out 6).trans rfl; have x7 : w1.cell? ⟨gb, 7, none⟩ = some (.int .i64 p7) := (blk_cell BKgb.out 7).trans rfl; have x8 : w1.cell? ⟨gb, 8, none⟩ = some (.int .i64 p8) := (blk_cell BKgb.out 8).trans rfl; have x9 : w1.cell? ⟨gb, 9, none⟩ = some (.int .i64 p9) := (blk_cell BKgb.out 9).trans rfl; have x10 : w1.cell? ⟨gb, 10, none⟩ = some (.int .i64 p10) := (blk_cell BKgb.out 10).trans rfl; have x11 : w1.cell? ⟨gb, 11, none⟩ = some (.int .i64 p11) := (blk_cell BKgb.out 11).trans rfl; have x12 : w1.cell? ⟨gb, 12, none⟩ = some (.int .i64 p12) := (blk_cell BKgb.out 12).trans rfl)
    go_ret2
    exact ⟨rfl, BHgb.out⟩
  · have d1 : decide (p0 < 0) = false := decide_eq_false (by omega)
    have d2 : decide (2 < p0) = true := decide_eq_true h
    clear h hneq
    go_enter Tryd.func8, Tryd.ntmps8
    go_wp2_with ((with_reducible refine gate_dst (N := 1) rfl ?_); refine box_event ?hg (N := 1) ?hd (cs := #[.int .i64 p0, .int .i64 p1, .int .i64 p2, .int .i64 p3, .int .i64 p4, .int .i64 p5, .int .i64 p6, .int .i64 p7, .int .i64 p8, .int .i64 p9, .int .i64 p10, .int .i64 p11, .int .i64 p12]) (t := 24) ?hr ?_; (case hd => rfl); (case hg => rfl); (case hr => first | (go_simp; done) | (go_simp; rfl)); intro gb hggb w1 hbox hb; have BKgb := Aside0.mk hbox; have BHgb := Aside0.mk hb; have GEgb := Aside0.mk hggb; clear hb hbox hggb; have x0 : w1.cell? ⟨gb, 0, none⟩ = some (.int .i64 p0) := (blk_cell BKgb.out 0).trans rfl; have x1 : w1.cell? ⟨gb, 1, none⟩ = some (.int .i64 p1) := (blk_cell BKgb.out 1).trans rfl; have x2 : w1.cell? ⟨gb, 2, none⟩ = some (.int .i64 p2) := (blk_cell BKgb.out 2).trans rfl; have x3 : w1.cell? ⟨gb, 3, none⟩ = some (.int .i64 p3) := (blk_cell BKgb.out 3).trans rfl; have x4 : w1.cell? ⟨gb, 4, none⟩ = some (.int .i64 p4) := (blk_cell BKgb.out 4).trans rfl; have x5 : w1.cell? ⟨gb, 5, none⟩ = some (.int .i64 p5) := (blk_cell BKgb.out 5).trans rfl; have x6 : w1.cell? ⟨gb, 6, none⟩ = some (.int .i64 p6) := (blk_cell BKgb.out 6).trans rfl; have x7 : w1.cell? ⟨gb, 7, none⟩ = some (.int .i64 p7) := (blk_cell BKgb.out 7).trans rfl; have x8 : w1.cell? ⟨gb, 8, none⟩ = some (.int .i64 p8) := (blk_cell BKgb.out 8).trans rfl; have x9 : w1.cell? ⟨gb, 9, none⟩ = some (.int .i64 p9) := (blk_cell BKgb.out 9).trans rfl; have x10 : w1.cell? ⟨gb, 10, none⟩ = some (.int .i64 p10) := (blk_cell BKgb.out 10).trans rfl; have x11 : w1.cell? ⟨gb, 11, none⟩ = some (.int .i64 p11) := (blk_cell BKgb.out 11).trans rfl; have x12 : w1.cell? ⟨gb, 12, none⟩ = some (.int .i64 p12) := (blk_cell BKgb.out 12).trans rfl)
    go_ret2
    exact ⟨rfl, BHgb.out⟩
  · have d1 : decide (p0 < 0) = false := decide_eq_false (by omega)
    have d2 : decide (2 < p0) = false := decide_eq_false (by omega)
    have d3 : (p0 == 0) = true := beq_iff_eq.2 h
    rw [hz] at hneq
    simp only [Bool.not_false] at hneq
    clear h hz
    go_enter Tryd.func8, Tryd.ntmps8
    go_wp2_with ((with_reducible refine gate_dst (N := 1) rfl ?_); refine box_event ?hg (N := 1) ?hd (cs := #[.int .i64 p0, .int .i64 p1, .int .i64 p2, .int .i64 p3, .int .i64 p4, .int .i64 p5, .int .i64 p6, .int .i64 p7, .int .i64 p8, .int .i64 p9, .int .i64 p10, .int .i64 p11, .int .i64 p12]) (t := 24) ?hr ?_; (case hd => rfl); (case hg => rfl); (case hr => first | (go_simp; done) | (go_simp; rfl)); intro gb hggb w1 hbox hb; have BKgb := Aside0.mk hbox; have BHgb := Aside0.mk hb; have GEgb := Aside0.mk hggb; clear hb hbox hggb; have x0 : w1.cell? ⟨gb, 0, none⟩ = some (.int .i64 p0) := (blk_cell BKgb.out 0).trans rfl; have x1 : w1.cell? ⟨gb, 1, none⟩ = some (.int .i64 p1) := (blk_cell BKgb.out 1).trans rfl; have x2 : w1.cell? ⟨gb, 2, none⟩ = some (.int .i64 p2) := (blk_cell BKgb.out 2).trans rfl; have x3 : w1.cell? ⟨gb, 3, none⟩ = some (.int .i64 p3) := (blk_cell BKgb.out 3).trans rfl; have x4 : w1.cell? ⟨gb, 4, none⟩ = some (.int .i64 p4) := (blk_cell BKgb.out 4).trans rfl; have x5 : w1.cell? ⟨gb, 5, none⟩ = some (.int .i64 p5) := (blk_cell BKgb.out 5).trans rfl; have x6 : w1.cell? ⟨gb, 6, none⟩ = some (.int .i64 p6) := (blk_cell BKgb.out 6).trans rfl; have x7 : w1.cell? ⟨gb, 7, none⟩ = some (.int .i64 p7) := (blk_cell BKgb.out 7).trans rfl; have x8 : w1.cell? ⟨gb, 8, none⟩ = some (.int .i64 p8) := (blk_cell BKgb.out 8).trans rfl; have x9 : w1.cell? ⟨gb, 9, none⟩ = some (.int .i64 p9) := (blk_cell BKgb.out 9).trans rfl; have x10 : w1.cell? ⟨gb, 10, none⟩ = some (.int .i64 p10) := (blk_cell BKgb.out 10).trans rfl; have x11 : w1.cell? ⟨gb, 11, none⟩ = some (.int .i64 p11) := (blk_cell BKgb.out 11).trans rfl; have x12 : w1.cell? ⟨gb, 12, none⟩ = some (.int .i64 p12) := (blk_cell BKgb.out 12).trans rfl)
    go_ret2
    exact ⟨rfl, BHgb.out⟩
theorem take_snoc_ {l : List Int} {i : Nat} (h : i < l.length) : l.take (i + 1) = l.take i ++ [l.getD i 0] := by
  rw [List.take_succ_eq_append_getElem h]
  simp [List.getD, List.getElem?_eq_getElem h]
theorem fitAll_snoc (l : List Int) (x : Int) : fitAll (l ++ [x]) = (fitAll l && decide (Fits 2 x)) := by unfold fitAll; simp
theorem fitAll_get {l : List Int} (h : fitAll l = true) {i : Nat} (hi : i < l.length) : Fits 2 (l.getD i 0) := by
  have h2 := List.all_eq_true.1 h (l.getD i 0) (by rw [List.getD, List.getElem?_eq_getElem hi]; exact List.getElem_mem hi)
  exact of_decide_eq_true h2
set_option maxHeartbeats 4000000 in
set_option maxRecDepth 100000 in
theorem rinode_calls (p0 p1 p2 p3 p4 p5 p6 p7 p8 p9 p10 p11 p12 : Int) (w : World) :
    Calls Tryd.prog 8 #[.agg #[.int .i64 p0, .int .i64 p1, .int .i64 p2, .int .i64 p3, .int .i64 p4, .int .i64 p5, .int .i64 p6, .int .i64 p7, .int .i64 p8, .int .i64 p9, .int .i64 p10, .int .i64 p11, .int .i64 p12]] w fun e w' => ∃ v, e = .returned (.tuple #[v, .int .i64 (inoOut p0 p1 p2 p3 p4 p5 p6 p7 p8 p9 p10 p11 p12).2]) ∧ Kd.R (Kd.int .u8) 5 w' w.heap.size (fun _ => True) v (inoOut p0 p1 p2 p3 p4 p5 p6 p7 p8 p9 p10 p11 p12).1 ∧ Below w.heap.size w w' := by
  by_cases hodd : inoOdd p0 p1 p2 p3 p4 p5 p6 p7 p8 p9 p10 p11 p12
  · have e : inoOut p0 p1 p2 p3 p4 p5 p6 p7 p8 p9 p10 p11 p12 = ([], 4) := by unfold inoOut; rw [if_pos hodd]
    rw [e]
    refine (rinode_odd p0 p1 p2 p3 p4 p5 p6 p7 p8 p9 p10 p11 p12 hodd w).mono ?_
    rintro e w' ⟨rfl, hb⟩
    exact ⟨_, rfl, brow_nil _ _, hb⟩
  have hu := Tryd.underlying24
  have u22 := Tryd.underlying22
  have hneq := ino_neq p0 p1 p2 p3 p4 p5 p6 p7 p8 p9 p10 p11 p12
  have hK0 : Fits 1 p0 := by
    have h1 : ¬ p0 < 0 := fun h => hodd (.inl h)
    have h2 : ¬ 2 < p0 := fun h => hodd (.inr (.inl h))
    unfold Fits
    omega
  have HK0 := Aside0.mk hK0
  have HBAD := Aside0.mk (fun h => inoOut_bad (p0 := p0) hodd (h : inoFits p1 p2 [p3, p4, p5, p6, p7, p8, p9, p10] p11 p12 = false))
  have HGOOD := Aside0.mk (fun h => inoOut_good (p0 := p0) hodd (h : inoFits p1 p2 [p3, p4, p5, p6, p7, p8, p9, p10] p11 p12 = true))
  obtain ⟨ro, hro⟩ : ∃ ro, inoOut p0 p1 p2 p3 p4 p5 p6 p7 p8 p9 p10 p11 p12 = ro := ⟨_, rfl⟩
  rw [hro] at HBAD HGOOD ⊢
  have HF0 : Aside0 (∀ W, Calls Tryd.prog 34 #[.int .i64 p1, .int .i64 2] W (fun e w' => e = .returned (.bool (decide (Fits 2 p1))) ∧ Below W.heap.size W w')) := ⟨fun W => fits_calls 2 (by decide) p1 W⟩
  have HF1 : Aside0 (∀ W, Calls Tryd.prog 34 #[.int .i64 p2, .int .i64 4] W (fun e w' => e = .returned (.bool (decide (Fits 4 p2))) ∧ Below W.heap.size W w')) := ⟨fun W => fits_calls 4 (by decide) p2 W⟩
  have HF2 : Aside0 (∀ W, Calls Tryd.prog 34 #[.int .i64 p11, .int .i64 2] W (fun e w' => e = .returned (.bool (decide (Fits 2 p11))) ∧ Below W.heap.size W w')) := ⟨fun W => fits_calls 2 (by decide) p11 W⟩
  have HF3 : Aside0 (∀ W, Calls Tryd.prog 34 #[.int .i64 p12, .int .i64 2] W (fun e w' => e = .returned (.bool (decide (Fits 2 p12))) ∧ Below W.heap.size W w')) := ⟨fun W => fits_calls 2 (by decide) p12 W⟩
  obtain ⟨t0, h0⟩ : ∃ t, decide (Fits 2 p1) = t := ⟨_, rfl⟩
  rw [h0] at HF0
  obtain ⟨t1, h1⟩ : ∃ t, decide (Fits 4 p2) = t := ⟨_, rfl⟩
  rw [h1] at HF1
  obtain ⟨t2, h2⟩ : ∃ t, decide (Fits 2 p11) = t := ⟨_, rfl⟩
  rw [h2] at HF2
  obtain ⟨t3, h3⟩ : ∃ t, decide (Fits 2 p12) = t := ⟨_, rfl⟩
  rw [h3] at HF3
  have HD := Aside0.mk (And.intro h0 (And.intro h1 (And.intro h2 h3)))
  have d1 : decide (p0 < 0) = false := decide_eq_false (fun h => hodd (.inl h))
  have d2 : decide (2 < p0) = false := decide_eq_false (fun h => hodd (.inr (.inl h)))
  have hreg : (p0 == 0) = false ∨ ((p0 == 0) = true ∧ ∀ w, (binOp .neq 24 (.agg #[.int .i64 p0, .int .i64 p1, .int .i64 p2, .int .i64 p3, .int .i64 p4, .int .i64 p5, .int .i64 p6, .int .i64 p7, .int .i64 p8, .int .i64 p9, .int .i64 p10, .int .i64 p11, .int .i64 p12]) (.agg #[.int .i64 0, .int .i64 0, .int .i64 0, .int .i64 0, .int .i64 0, .int .i64 0, .int .i64 0, .int .i64 0, .int .i64 0, .int .i64 0, .int .i64 0, .int .i64 0, .int .i64 0])).run Tryd.prog w = .ok (.bool false) w) := by
    by_cases h : p0 = 0
    · right
      refine ⟨beq_iff_eq.2 h, fun w => ?_⟩
      cases hz : allZ [p0, p1, p2, p3, p4, p5, p6, p7, p8, p9, p10, p11, p12] with
      | true => rw [hneq w, hz]; rfl
      | false => exact absurd (.inr (.inr ⟨h, hz⟩)) hodd
    · exact .inl (beq_eq_false_iff_ne.2 h)
  clear hro hodd hneq hK0 h0 h1 h2 h3
  rcases hreg with d3 | ⟨d3, hneq⟩
  all_goals
    go_enter Tryd.func8, Tryd.ntmps8
    go_upto_region 3 with (((with_reducible refine gate_dst (N := 1) rfl ?_); refine box_event ?hg (N := 1) ?hd (cs := #[.int .i64 p0, .int .i64 p1, .int .i64 p2, .int .i64 p3, .int .i64 p4, .int .i64 p5, .int .i64 p6, .int .i64 p7, .int .i64 p8, .int .i64 p9, .int .i64 p10, .int .i64 p11, .int .i64 p12]) (t := 24) ?hr ?_; (case hd => rfl); (case hg => rfl); (case hr => first | (go_simp; done) | (go_simp; rfl)); intro gb hggb w0 hbox hb; have BKgb := Aside0.mk hbox; have BHgb := Aside0.mk hb; have GEgb := Aside0.mk hggb; clear hb hbox hggb; have x0 : w0.cell? ⟨gb, 0, none⟩ = some (.int .i64 p0) := (blk_cell BKgb.out 0).trans rfl; have x1 : w0.cell? ⟨gb, 1, none⟩ = some (.int .i64 p1) := (blk_cell BKgb.out 1).trans rfl; have x2 : w0.cell? ⟨gb, 2, none⟩ = some (.int .i64 p2) := (blk_cell BKgb.out 2).trans rfl; have x3 : w0.cell? ⟨gb, 3, none⟩ = some (.int .i64 p3) := (blk_cell BKgb.out 3).trans rfl; have x4 : w0.cell? ⟨gb, 4, none⟩ = some (.int .i64 p4) := (blk_cell BKgb.out 4).trans rfl; have x5 : w0.cell? ⟨gb, 5, none⟩ = some (.int .i64 p5) := (blk_cell BKgb.out 5).trans rfl; have x6 : w0.cell? ⟨gb, 6, none⟩ = some (.int .i64 p6) := (blk_cell BKgb.out 6).trans rfl; have x7 : w0.cell? ⟨gb, 7, none⟩ = some (.int .i64 p7) := (blk_cell BKgb.out 7).trans rfl; have x8 : w0.cell? ⟨gb, 8, none⟩ = some (.int .i64 p8) := (blk_cell BKgb.out 8).trans rfl; have x9 : w0.cell? ⟨gb, 9, none⟩ = some (.int .i64 p9) := (blk_cell BKgb.out 9).trans rfl; have x10 : w0.cell? ⟨gb, 10, none⟩ = some (.int .i64 p10) := (blk_cell BKgb.out 10).trans rfl; have x11 : w0.cell? ⟨gb, 11, none⟩ = some (.int .i64 p11) := (blk_cell BKgb.out 11).trans rfl; have x12 : w0.cell? ⟨gb, 12, none⟩ = some (.int .i64 p12) := (blk_cell BKgb.out 12).trans rfl))
    have HX0 := Aside0.mk BKgb.out
    have HB0 := Aside0.mk BHgb.out
    clear BKgb BHgb GEgb x0 x1 x2 x3 x4 x5 x6 x7 x8 x9 x10 x11 x12
    try clear hneq
    go_cut [4] (fun v4 wc => ∃ ok : Bool, v4 = .bool ok ∧ ok = (t0 && t1 && t2 && t3) ∧ Aside0 (wc.heap[gb]? = some (.cells #[.int .i64 p0, .int .i64 p1, .int .i64 p2, .int .i64 p3, .int .i64 p4, .int .i64 p5, .int .i64 p6, .int .i64 p7, .int .i64 p8, .int .i64 p9, .int .i64 p10, .int .i64 p11, .int .i64 p12] 24 (0, 0))) ∧ Aside0 (Below w.heap.size w wc))
    case first =>
      have y0 : w0.cell? ⟨gb, 1, none⟩ = some (.int .i64 p1) := (blk_cell HX0.out 1).trans rfl
      go_wp2_with fail
      ((with_reducible refine (HF0.out w0).mono ?_); rintro e w1 ⟨rfl, hb⟩)
      have HX1 := Aside0.mk (blk_below HX0.out hb); have HB1 := Aside0.mk (below_then HB0.out HB0.out.size hb); clear hb y0
      cases t0
      · go_wp2_with fail
        go_meet
        case rel => exact ⟨_, rfl, rfl, HX1, HB1⟩
      · have y1 : w1.cell? ⟨gb, 2, none⟩ = some (.int .i64 p2) := (blk_cell HX1.out 2).trans rfl
        go_wp2_with fail
        ((with_reducible refine (HF1.out w1).mono ?_); rintro e w2 ⟨rfl, hb⟩)
        have HX2 := Aside0.mk (blk_below HX1.out hb); have HB2 := Aside0.mk (below_then HB1.out HB1.out.size hb); clear hb y1
        cases t1
        · go_wp2_with fail
          go_meet
          case rel => exact ⟨_, rfl, rfl, HX2, HB2⟩
        · have y2 : w2.cell? ⟨gb, 11, none⟩ = some (.int .i64 p11) := (blk_cell HX2.out 11).trans rfl
          go_wp2_with fail
          ((with_reducible refine (HF2.out w2).mono ?_); rintro e w3 ⟨rfl, hb⟩)
          have HX3 := Aside0.mk (blk_below HX2.out hb); have HB3 := Aside0.mk (below_then HB2.out HB2.out.size hb); clear hb y2
          cases t2
          · go_wp2_with fail
            go_meet
            case rel => exact ⟨_, rfl, rfl, HX3, HB3⟩
          · have y3 : w3.cell? ⟨gb, 12, none⟩ = some (.int .i64 p12) := (blk_cell HX3.out 12).trans rfl
            go_wp2_with fail
            ((with_reducible refine (HF3.out w3).mono ?_); rintro e w4 ⟨rfl, hb⟩)
            have HX4 := Aside0.mk (blk_below HX3.out hb); have HB4 := Aside0.mk (below_then HB3.out HB3.out.size hb); clear hb y3
            cases t3
            · go_wp2_with fail
              go_meet
              case rel => exact ⟨_, rfl, rfl, HX4, HB4⟩
            · go_wp2_with fail
              go_meet
              case rel => exact ⟨_, rfl, rfl, HX4, HB4⟩
    case rest =>
      clear HF0 HF1 HF2 HF3 HX0 HB0
      obtain ⟨ok, rfl, hok, HX, HB⟩ := hcut
      obtain ⟨o0, ho0⟩ : ∃ o, (t0 && t1 && t2 && t3) = o := ⟨_, rfl⟩
      rw [ho0] at hok
      subst hok
      have HD0 := Aside0.mk ho0
      clear ho0
      obtain ⟨w1, hw1⟩ : ∃ w1, w1 = wc := ⟨_, rfl⟩
      subst hw1
      have HXw := Aside0.mk HX.out
      have HBw := Aside0.mk HB.out
      have HCELL : Aside0 (∀ (W : World), W.heap[gb]? = some (.cells #[.int .i64 p0, .int .i64 p1, .int .i64 p2, .int .i64 p3, .int .i64 p4, .int .i64 p5, .int .i64 p6, .int .i64 p7, .int .i64 p8, .int .i64 p9, .int .i64 p10, .int .i64 p11, .int .i64 p12] 24 (0, 0)) → ∀ i, i < 8 → W.cell? ⟨gb, 3 + i, none⟩ = some (.int .i64 ([p3, p4, p5, p6, p7, p8, p9, p10].getD i 0))) := ⟨fun W hW i hi => by
        rw [blk_cell hW]
        obtain rfl | rfl | rfl | rfl | rfl | rfl | rfl | rfl : i = 0 ∨ i = 1 ∨ i = 2 ∨ i = 3 ∨ i = 4 ∨ i = 5 ∨ i = 6 ∨ i = 7 := (by omega)
        all_goals rfl⟩
      have HB0 := Aside0.mk (Below.refl w1.heap.size w1)
      have HR0 := Aside0.mk (brow_nil w1 w1.heap.size)
      have HLN0 : Aside0 (([] : List Int).length ≤ 0) := ⟨Nat.le_refl _⟩
      clear HX HB
      have hC : Calls Tryd.prog 35 #[(.slice none 0 0), .int .i64 1, .int .i64 p0] w1 (fun e w' => ∃ v', e = .returned v' ∧ Kd.R (Kd.int .u8) 5 w' w1.heap.size (fun _ => True) v' (([] : List Int) ++ leB 1 p0) ∧ Below w1.heap.size w1 w') := rput_calls 1 (by decide) p0 HK0.out (w1 := w1) (W := w1) (v := (.slice none 0 0)) (l := ([] : List Int)) HB0.out HR0.out (by have := HLN0.out; omega)
      have HC := Aside0.mk hC
      clear hC
      have y : w1.cell? ⟨gb, 0, none⟩ = some (.int .i64 p0) := (blk_cell (blk_below HXw.out HB0.out) 0).trans rfl
      go_wp2_with fail
      ((with_reducible refine HC.out.mono ?_); rintro e z1w ⟨z1, rfl, hr, hb⟩)
      obtain ⟨L1, e1⟩ : ∃ L, ([] : List Int) ++ leB 1 p0 = L := ⟨_, rfl⟩
      rw [e1] at hr
      have HLN1 : Aside0 (L1.length ≤ 1) := ⟨by rw [← e1, List.length_append, leB_length]; have := HLN0.out; omega⟩
      have HE1 := Aside0.mk e1
      have HR1 := Aside0.mk hr
      have HB1 := Aside0.mk hb
      clear hr hb HC HB0 HR0 e1 y
      have hC : Calls Tryd.prog 35 #[z1, .int .i64 1, .int .i64 0] z1w (fun e w' => ∃ v', e = .returned v' ∧ Kd.R (Kd.int .u8) 5 w' w1.heap.size (fun _ => True) v' (L1 ++ leB 1 0) ∧ Below w1.heap.size w1 w') := rput_calls 1 (by decide) 0 (by decide) (w1 := w1) (W := z1w) (v := z1) (l := L1) HB1.out HR1.out (by have := HLN1.out; omega)
      have HC := Aside0.mk hC
      clear hC
      go_wp2_with fail
      ((with_reducible refine HC.out.mono ?_); rintro e z2w ⟨z2, rfl, hr, hb⟩)
      obtain ⟨L2, e2⟩ : ∃ L, L1 ++ leB 1 0 = L := ⟨_, rfl⟩
      rw [e2] at hr
      have HLN2 : Aside0 (L2.length ≤ 2) := ⟨by rw [← e2, List.length_append, leB_length]; have := HLN1.out; omega⟩
      have HE2 := Aside0.mk e2
      have HR2 := Aside0.mk hr
      have HB2 := Aside0.mk hb
      clear hr hb HC HB1 HR1 e2
      have HG : Aside0 (∀ x W, Calls Tryd.prog 34 #[.int .i64 x, .int .i64 2] W (fun e w' => e = .returned (.bool (decide (Fits 2 x))) ∧ Below W.heap.size W w')) := ⟨fun x W => fits_calls 2 (by decide) x W⟩
      obtain ⟨Dl, hDl⟩ : ∃ Dl : List Int, [p3, p4, p5, p6, p7, p8, p9, p10] = Dl := ⟨_, rfl⟩
      rw [hDl] at HCELL HBAD HGOOD
      have HDL : Aside0 (Dl.length = 8) := ⟨by rw [← hDl]; rfl⟩
      clear hDl
      go_wp2_with fail
      go_loopg [4, 6] 8 (fun kq v4 v6 w' => ∃ (i : Nat) (o : Bool), v4 = .bool o ∧ v6 = .int .i64 (i : Int) ∧ i ≤ 8 ∧ 8 - i ≤ kq ∧ Aside0 (o = (ok && fitAll (Dl.take i))) ∧ Aside0 (Below z2w.heap.size z2w w'))
      case atStart => exact ⟨0, ok, rfl, rfl, by omega, by omega, ⟨by simp [fitAll]⟩, ⟨Below.refl _ _⟩⟩
      case round =>
        obtain ⟨i, o, rfl, rfl, hi, hk, HO, HS⟩ := hrel
        by_cases hlt : i < 8
        · cases gk with
          | zero => omega
          | succ k1 =>
            have hsn : fitAll (Dl.take (i + 1)) = (fitAll (Dl.take i) && decide (Fits 2 (Dl.getD i 0))) := by rw [take_snoc_ (by rw [HDL.out]; exact hlt), fitAll_snoc]
            have HSN := Aside0.mk hsn
            clear hsn
            have d0 : decide ((i : Int) < 8) = true := decide_eq_true (by omega)
            cases o
            · go_wp2_with fail
              go_roundg k1
              case measure => omega
              case rel =>
                refine ⟨i + 1, false, rfl, by go_num, by omega, by omega, ⟨?_⟩, HS⟩
                rw [HSN.out, ← Bool.and_assoc, ← HO.out]
                rfl
            · have y := HCELL.out wr (blk_below (blk_below HXw.out HB2.out) HS.out) i hlt
              obtain ⟨z, hz⟩ : ∃ z, Dl.getD i 0 = z := ⟨_, rfl⟩
              rw [hz] at y HSN
              have p0' : (0 : Int) ≤ (i : Int) := by omega
              have p1' : (i : Int) < 8 := by omega
              clear hz
              go_wp2_with fail
              ((with_reducible refine (HG.out z wr).mono ?_); rintro e w7 ⟨rfl, hb7⟩)
              have HB7 := Aside0.mk (below_then HS.out HS.out.size hb7)
              clear hb7 y
              go_wp2_with fail
              go_roundg k1
              case measure => omega
              case rel =>
                refine ⟨i + 1, _, rfl, by go_num, by omega, by omega, ⟨?_⟩, HB7⟩
                rw [HSN.out, ← Bool.and_assoc, ← HO.out]
                rfl
        · obtain rfl : i = 8 := by omega
          have ho : o = (ok && fitAll Dl) := by
            have h := HO.out
            rwa [List.take_of_length_le (by rw [HDL.out]; exact Nat.le_refl _)] at h
          have hfit : inoFits p1 p2 Dl p11 p12 = o := by
            unfold inoFits
            rw [HD.out.1, HD.out.2.1, HD.out.2.2.1, HD.out.2.2.2, HD0.out, ← ho]
          cases o
          · have hro := HBAD.out hfit
            have HO2 := Aside0.mk hro
            have HBE := Aside0.mk (below_then HBw.out HBw.out.size (below_then HB2.out HB2.out.size HS.out))
            clear hro hfit ho HO
            go_wp2
            go_ret2
            rw [HO2.out]
            exact ⟨_, rfl, brow_nil _ _, HBE.out⟩
          have hro := HGOOD.out hfit
          have HO2 := Aside0.mk hro
          have hft : Fits 2 p1 ∧ Fits 4 p2 ∧ Fits 2 p11 ∧ Fits 2 p12 ∧ fitAll Dl = true := by
            unfold inoFits at hfit
            simp only [Bool.and_eq_true, decide_eq_true_eq] at hfit
            exact ⟨hfit.1.1.1.1, hfit.1.1.1.2, hfit.1.1.2, hfit.1.2, hfit.2⟩
          have HFT := Aside0.mk hft
          have hr2 := Kd.R_below HR2.out HS.out
          have hb2 := below_then HB2.out HB2.out.size HS.out
          clear hro hfit ho HO HBAD HGOOD hft HR2 HB2 HS HD HD0 HG
          have HR2 := Aside0.mk hr2
          have HB2 := Aside0.mk hb2
          clear hr2 hb2
          have hC : Calls Tryd.prog 35 #[z2, .int .i64 2, .int .i64 p1] wr (fun e w' => ∃ v', e = .returned v' ∧ Kd.R (Kd.int .u8) 5 w' w1.heap.size (fun _ => True) v' (L2 ++ leB 2 p1) ∧ Below w1.heap.size w1 w') := rput_calls 2 (by decide) p1 HFT.out.1 (w1 := w1) (W := wr) (v := z2) (l := L2) HB2.out HR2.out (by have := HLN2.out; omega)
          have HC := Aside0.mk hC
          clear hC
          have y : wr.cell? ⟨gb, 1, none⟩ = some (.int .i64 p1) := (blk_cell (blk_below HXw.out HB2.out) 1).trans rfl
          go_wp2_with fail
          ((with_reducible refine HC.out.mono ?_); rintro e z3w ⟨z3, rfl, hr, hb⟩)
          obtain ⟨L3, e3⟩ : ∃ L, L2 ++ leB 2 p1 = L := ⟨_, rfl⟩
          rw [e3] at hr
          have HLN3 : Aside0 (L3.length ≤ 4) := ⟨by rw [← e3, List.length_append, leB_length]; have := HLN2.out; omega⟩
          have HE3 := Aside0.mk e3
          have HR3 := Aside0.mk hr
          have HB3 := Aside0.mk hb
          clear hr hb HC HB2 HR2 e3 y
          have hC : Calls Tryd.prog 35 #[z3, .int .i64 4, .int .i64 p2] z3w (fun e w' => ∃ v', e = .returned v' ∧ Kd.R (Kd.int .u8) 5 w' w1.heap.size (fun _ => True) v' (L3 ++ leB 4 p2) ∧ Below w1.heap.size w1 w') := rput_calls 4 (by decide) p2 HFT.out.2.1 (w1 := w1) (W := z3w) (v := z3) (l := L3) HB3.out HR3.out (by have := HLN3.out; omega)
          have HC := Aside0.mk hC
          clear hC
          have y : z3w.cell? ⟨gb, 2, none⟩ = some (.int .i64 p2) := (blk_cell (blk_below HXw.out HB3.out) 2).trans rfl
          go_wp2_with fail
          ((with_reducible refine HC.out.mono ?_); rintro e z4w ⟨z4, rfl, hr, hb⟩)
          obtain ⟨L4, e4⟩ : ∃ L, L3 ++ leB 4 p2 = L := ⟨_, rfl⟩
          rw [e4] at hr
          have HLN4 : Aside0 (L4.length ≤ 8) := ⟨by rw [← e4, List.length_append, leB_length]; have := HLN3.out; omega⟩
          have HE4 := Aside0.mk e4
          have HR4 := Aside0.mk hr
          have HB4 := Aside0.mk hb
          clear hr hb HC HB3 HR3 e4 y
          go_wp2_with fail
          go_loopg [5, 7] 8 (fun kq v5 v7 w' => ∃ (i : Nat), v7 = .int .i64 (i : Int) ∧ i ≤ 8 ∧ 8 - i ≤ kq ∧ Aside0 (Kd.R (Kd.int .u8) 5 w' w1.heap.size (fun _ => True) v5 (L4 ++ two (Dl.take i)) ∧ Below w1.heap.size w1 w'))
          case atStart => exact ⟨0, rfl, by omega, by omega, ⟨by rw [List.take_zero, show two [] = [] from rfl, List.append_nil]; exact HR4.out, HB4.out⟩⟩
          case round =>
            obtain ⟨i, rfl, hi, hk, HS⟩ := hrel
            by_cases hlt : i < 8
            · cases gk with
              | zero => omega
              | succ k1 =>
                have hsn : two (Dl.take (i + 1)) = two (Dl.take i) ++ leB 2 (Dl.getD i 0) := by rw [take_snoc_ (by rw [HDL.out]; exact hlt), two_snoc]
                have HSN := Aside0.mk hsn
                have hfz := fitAll_get HFT.out.2.2.2.2 (i := i) (by rw [HDL.out]; exact hlt)
                have y := HCELL.out wr (blk_below HXw.out HS.out.2) i hlt
                obtain ⟨z, hz⟩ : ∃ z, Dl.getD i 0 = z := ⟨_, rfl⟩
                rw [hz] at y HSN hfz
                have hC : Calls Tryd.prog 35 #[u5, .int .i64 2, .int .i64 z] wr (fun e w' => ∃ v', e = .returned v' ∧ Kd.R (Kd.int .u8) 5 w' w1.heap.size (fun _ => True) v' ((L4 ++ two (Dl.take i)) ++ leB 2 z) ∧ Below w1.heap.size w1 w') := rput_calls 2 (by decide) z hfz (w1 := w1) (W := wr) (v := u5) (l := L4 ++ two (Dl.take i)) HS.out.2 HS.out.1 (by rw [List.length_append, two_length, List.length_take]; have := HLN4.out; omega)
                have HC := Aside0.mk hC
                have d0 : decide ((i : Int) < 8) = true := decide_eq_true (by omega)
                have p0' : (0 : Int) ≤ (i : Int) := by omega
                have p1' : (i : Int) < 8 := by omega
                clear hz hsn hfz hC
                go_wp2_with fail
                ((with_reducible refine HC.out.mono ?_); rintro e w7 ⟨v7, rfl, hr, hb⟩)
                have HR7 := Aside0.mk hr
                have HB7 := Aside0.mk hb
                clear hr hb HC y HS
                go_wp2_with fail
                go_roundg k1
                case measure => omega
                case rel => exact ⟨i + 1, by go_num, by omega, by omega, ⟨by rw [HSN.out, ← List.append_assoc]; exact HR7.out, HB7.out⟩⟩
            · obtain rfl : i = 8 := by omega
              have d0 : decide ((8 : Int) < 8) = false := by decide
              have hr5 := HS.out.1
              have hb5 := HS.out.2
              rw [List.take_of_length_le (by rw [HDL.out]; exact Nat.le_refl _)] at hr5
              obtain ⟨L5, e5⟩ : ∃ L, L4 ++ two Dl = L := ⟨_, rfl⟩
              rw [e5] at hr5
              have HLN5 : Aside0 (L5.length ≤ 24) := ⟨by rw [← e5, List.length_append, two_length, HDL.out]; have := HLN4.out; omega⟩
              have HE5 := Aside0.mk e5
              have HR5 := Aside0.mk hr5
              have HB5 := Aside0.mk hb5
              clear hr5 hb5 HS HR4 HB4 e5
              have hC : Calls Tryd.prog 35 #[u5, .int .i64 2, .int .i64 p11] wr (fun e w' => ∃ v', e = .returned v' ∧ Kd.R (Kd.int .u8) 5 w' w1.heap.size (fun _ => True) v' (L5 ++ leB 2 p11) ∧ Below w1.heap.size w1 w') := rput_calls 2 (by decide) p11 HFT.out.2.2.1 (w1 := w1) (W := wr) (v := u5) (l := L5) HB5.out HR5.out (by have := HLN5.out; omega)
              have HC := Aside0.mk hC
              clear hC
              have y : wr.cell? ⟨gb, 11, none⟩ = some (.int .i64 p11) := (blk_cell (blk_below HXw.out HB5.out) 11).trans rfl
              go_wp2_with fail
              ((with_reducible refine HC.out.mono ?_); rintro e z6w ⟨z6, rfl, hr, hb⟩)
              obtain ⟨L6, e6⟩ : ∃ L, L5 ++ leB 2 p11 = L := ⟨_, rfl⟩
              rw [e6] at hr
              have HLN6 : Aside0 (L6.length ≤ 26) := ⟨by rw [← e6, List.length_append, leB_length]; have := HLN5.out; omega⟩
              have HE6 := Aside0.mk e6
              have HR6 := Aside0.mk hr
              have HB6 := Aside0.mk hb
              clear hr hb HC HB5 HR5 e6 y
              have hC : Calls Tryd.prog 35 #[z6, .int .i64 2, .int .i64 p12] z6w (fun e w' => ∃ v', e = .returned v' ∧ Kd.R (Kd.int .u8) 5 w' w1.heap.size (fun _ => True) v' (L6 ++ leB 2 p12) ∧ Below w1.heap.size w1 w') := rput_calls 2 (by decide) p12 HFT.out.2.2.2.1 (w1 := w1) (W := z6w) (v := z6) (l := L6) HB6.out HR6.out (by have := HLN6.out; omega)
              have HC := Aside0.mk hC
              clear hC
              have y : z6w.cell? ⟨gb, 12, none⟩ = some (.int .i64 p12) := (blk_cell (blk_below HXw.out HB6.out) 12).trans rfl
              go_wp2_with fail
              ((with_reducible refine HC.out.mono ?_); rintro e z7w ⟨z7, rfl, hr, hb⟩)
              obtain ⟨L7, e7⟩ : ∃ L, L6 ++ leB 2 p12 = L := ⟨_, rfl⟩
              rw [e7] at hr
              have HLN7 : Aside0 (L7.length ≤ 28) := ⟨by rw [← e7, List.length_append, leB_length]; have := HLN6.out; omega⟩
              have HE7 := Aside0.mk e7
              have HR7 := Aside0.mk hr
              have HB7 := Aside0.mk hb
              clear hr hb HC HB6 HR6 e7 y
              have hC : Calls Tryd.prog 35 #[z7, .int .i64 4, .int .i64 0] z7w (fun e w' => ∃ v', e = .returned v' ∧ Kd.R (Kd.int .u8) 5 w' w1.heap.size (fun _ => True) v' (L7 ++ leB 4 0) ∧ Below w1.heap.size w1 w') := rput_calls 4 (by decide) 0 (by decide) (w1 := w1) (W := z7w) (v := z7) (l := L7) HB7.out HR7.out (by have := HLN7.out; omega)
              have HC := Aside0.mk hC
              clear hC
              go_wp2_with fail
              ((with_reducible refine HC.out.mono ?_); rintro e z8w ⟨z8, rfl, hr, hb⟩)
              obtain ⟨L8, e8⟩ : ∃ L, L7 ++ leB 4 0 = L := ⟨_, rfl⟩
              rw [e8] at hr
              have HLN8 : Aside0 (L8.length ≤ 32) := ⟨by rw [← e8, List.length_append, leB_length]; have := HLN7.out; omega⟩
              have HE8 := Aside0.mk e8
              have HR8 := Aside0.mk hr
              have HB8 := Aside0.mk hb
              clear hr hb HC HB7 HR7 e8
              have hfin : ro = (L8, 0) := by
                rw [HO2.out, ← HE8.out, ← HE7.out, ← HE6.out, ← HE5.out, ← HE4.out, ← HE3.out, ← HE2.out, ← HE1.out]
                unfold inoBytes inoHead
                simp [List.append_assoc]
              have HFIN := Aside0.mk hfin
              clear hfin
              go_wp2
              go_ret2
              rw [HFIN.out]
              exact ⟨_, rfl, brow_less HR8.out HBw.out.size, below_then HBw.out HBw.out.size HB8.out⟩
end Go.Proofs.YtbplffdmggbcdaaDoor.Codec
