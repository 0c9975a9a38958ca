-- Written by this session's own tool (prn.py) over the kit's printer; its templates are the session's own. Lean checks it.
import Derived.Test.YtobkdcokickodaaPPlanPlacesx0
import Derived.Test.YtobkdcokickodaaPPlanPlacesx3
namespace Go.Proofs.Ytobkdcokickodaa.PPlanPlaces
open Go.RowKit Go.Proofs.YtobkdcokickodaaW.PrintWords Go.Proofs.YtobkdcokickodaaW.PrintLast Go.Proofs.YtobkdcokickodaaW.PrintMore
attribute [local go_sem] max2_int min2_int max_two min_two max_three min_three max_four min_four   -- for this text's walks alone
set_option linter.unusedVariables false
set_option linter.unusedSimpArgs false

/-! ### skerryref05_Region: function 14 -/
mutual
def skerryref05_Region.j0 : Nat → Int → Bool → Int → Int → Int → Int → Int → Int → Int → Int → Int → Int → Int → Int → Option (Int × Int)
  | 0, _, _, _, _, _, _, _, _, _, _, _, _, _, _ => none
  | k + 1, x1, x19, x159000, x159001, x159002, x159003, x159004, x159005, x159006, x159007, x159008, x159009, x159010, x159011 => if x19 = true then (some (0, 2)) else (skerryref05_Region.l0 k x1 (([0, 1, x159004, x159005, x159007, x159009, x159011] : List Int)) 0 0)
def skerryref05_Region.l0 : Nat → Int → List Int → Int → Int → Option (Int × Int)
  | 0, _, _, _, _ => none
  | k + 1, x1, x6, x7, x8 => if x8 < (x6.length : Int) then (if 0 ≤ x8 then (if x1 ≥ (rd x6 x8) then (skerryref05_Region.l0 k x1 x6 x8 (wrap64 (x8 + 1))) else (skerryref05_Region.l0 k x1 x6 x7 (wrap64 (x8 + 1)))) else (none)) else (some (x7, 0))
end
def skerryref05_Region.f (k : Nat) (a0_0 : Int) (a0_1 : Int) (a0_2 : Int) (a0_3 : Int) (a0_4 : Int) (a0_5 : Int) (a0_6 : Int) (a0_7 : Int) (a0_8 : Int) (a0_9 : Int) (a0_10 : Int) (a0_11 : Int) (a1 : Int) : Option (Int × Int) := (skerryref05_Check.f k a0_0 a0_1 a0_2 a0_3 a0_4 a0_5 a0_6 a0_7 a0_8 a0_9 a0_10 a0_11).bind fun t159 => (if t159 = 0 then (if a1 < 0 then (skerryref05_Region.j0 k a1 true a0_0 a0_1 a0_2 a0_3 a0_4 a0_5 a0_6 a0_7 a0_8 a0_9 a0_10 a0_11) else (skerryref05_Region.j0 k a1 (decide (a1 ≥ a0_1)) a0_0 a0_1 a0_2 a0_3 a0_4 a0_5 a0_6 a0_7 a0_8 a0_9 a0_10 a0_11)) else (some (0, 4)))
theorem skerryref05_Region.mono_l : ∀ k, (∀ y0 y1 y2 y3 y4 y5 y6 y7 y8 y9 y10 y11 y12 y13, LeO (skerryref05_Region.j0 k y0 y1 y2 y3 y4 y5 y6 y7 y8 y9 y10 y11 y12 y13) (skerryref05_Region.j0 (k + 1) y0 y1 y2 y3 y4 y5 y6 y7 y8 y9 y10 y11 y12 y13)) ∧ (∀ y0 y1 y2 y3, LeO (skerryref05_Region.l0 k y0 y1 y2 y3) (skerryref05_Region.l0 (k + 1) y0 y1 y2 y3))
  | 0 => ⟨fun _ _ _ _ _ _ _ _ _ _ _ _ _ _ r h => by simp [skerryref05_Region.j0] at h, fun _ _ _ _ r h => by simp [skerryref05_Region.l0] at h⟩
  | k + 1 => by
    obtain ⟨ih0, ih1⟩ := skerryref05_Region.mono_l k
    refine ⟨?_, ?_⟩
    · intro y0 y1 y2 y3 y4 y5 y6 y7 y8 y9 y10 y11 y12 y13
      unfold skerryref05_Region.j0
      repeat' first
      | (with_reducible exact ih0 _ _ _ _ _ _ _ _ _ _ _ _ _ _)
      | (with_reducible exact ih1 _ _ _ _)
      | (with_reducible exact skerryref05_Check.mono _ _ _ _ _ _ _ _ _ _ _ _ _)
      | (with_reducible exact LeO.refl _)
      | (with_reducible exact LeO.none _)
      | (with_reducible refine LeO.ite ?_ ?_)
      | (with_reducible refine LeO.bind ?_ (fun _ => ?_))
      | exact ih0 _ _ _ _ _ _ _ _ _ _ _ _ _ _
      | exact ih1 _ _ _ _
      | exact skerryref05_Check.mono _ _ _ _ _ _ _ _ _ _ _ _ _
      | exact LeO.none _
      | refine LeO.ite ?_ ?_
      | refine LeO.bind ?_ (fun _ => ?_)
    · intro y0 y1 y2 y3
      unfold skerryref05_Region.l0
      repeat' first
      | (with_reducible exact ih0 _ _ _ _ _ _ _ _ _ _ _ _ _ _)
      | (with_reducible exact ih1 _ _ _ _)
      | (with_reducible exact skerryref05_Check.mono _ _ _ _ _ _ _ _ _ _ _ _ _)
      | (with_reducible exact LeO.refl _)
      | (with_reducible exact LeO.none _)
      | (with_reducible refine LeO.ite ?_ ?_)
      | (with_reducible refine LeO.bind ?_ (fun _ => ?_))
      | exact ih0 _ _ _ _ _ _ _ _ _ _ _ _ _ _
      | exact ih1 _ _ _ _
      | exact skerryref05_Check.mono _ _ _ _ _ _ _ _ _ _ _ _ _
      | exact LeO.none _
      | refine LeO.ite ?_ ?_
      | refine LeO.bind ?_ (fun _ => ?_)
theorem skerryref05_Region.mono : ∀ a0 a1 a2 a3 a4 a5 a6 a7 a8 a9 a10 a11 a12 k, LeO (skerryref05_Region.f k a0 a1 a2 a3 a4 a5 a6 a7 a8 a9 a10 a11 a12) (skerryref05_Region.f (k + 1) a0 a1 a2 a3 a4 a5 a6 a7 a8 a9 a10 a11 a12) := by
  intro a0 a1 a2 a3 a4 a5 a6 a7 a8 a9 a10 a11 a12 k
  obtain ⟨ih0, ih1⟩ := skerryref05_Region.mono_l k
  unfold skerryref05_Region.f
  repeat' first
      | (with_reducible exact ih0 _ _ _ _ _ _ _ _ _ _ _ _ _ _)
      | (with_reducible exact ih1 _ _ _ _)
      | (with_reducible exact skerryref05_Check.mono _ _ _ _ _ _ _ _ _ _ _ _ _)
      | (with_reducible exact LeO.refl _)
      | (with_reducible exact LeO.none _)
      | (with_reducible refine LeO.ite ?_ ?_)
      | (with_reducible refine LeO.bind ?_ (fun _ => ?_))
      | exact ih0 _ _ _ _ _ _ _ _ _ _ _ _ _ _
      | exact ih1 _ _ _ _
      | exact skerryref05_Check.mono _ _ _ _ _ _ _ _ _ _ _ _ _
      | exact LeO.none _
      | refine LeO.ite ?_ ?_
      | refine LeO.bind ?_ (fun _ => ?_)
set_option maxHeartbeats 8000000 in
set_option maxRecDepth 100000 in
theorem skerryref05_Region.calls (k : Nat) (a0_0 : Int) (a0_1 : Int) (a0_2 : Int) (a0_3 : Int) (a0_4 : Int) (a0_5 : Int) (a0_6 : Int) (a0_7 : Int) (a0_8 : Int) (a0_9 : Int) (a0_10 : Int) (a0_11 : Int) (a1 : Int) (r1 : Int) (r2 : Int) (w : World) (h : skerryref05_Region.f k a0_0 a0_1 a0_2 a0_3 a0_4 a0_5 a0_6 a0_7 a0_8 a0_9 a0_10 a0_11 a1 = some (r1, r2)) :
    Calls Try.prog 14 #[.agg #[.int .i64 a0_0, .int .i64 a0_1, .int .i64 a0_2, .int .i64 a0_3, .int .i64 a0_4, .int .i64 a0_5, .int .i64 a0_6, .int .i64 a0_7, .int .i64 a0_8, .int .i64 a0_9, .int .i64 a0_10, .int .i64 a0_11], .int .i64 a1] w fun e w' => e = .returned (.tuple #[.int .i64 r1, .int .i64 r2]) ∧ Below w.heap.size w w' := by
  have hu24 := Try.underlying24
  have HB := Aside0.mk (Below.refl w.heap.size w)
  have H : ((skerryref05_Check.f k a0_0 a0_1 a0_2 a0_3 a0_4 a0_5 a0_6 a0_7 a0_8 a0_9 a0_10 a0_11).bind fun t159 => (if t159 = 0 then (if a1 < 0 then (skerryref05_Region.j0 k a1 true a0_0 a0_1 a0_2 a0_3 a0_4 a0_5 a0_6 a0_7 a0_8 a0_9 a0_10 a0_11) else (skerryref05_Region.j0 k a1 (decide (a1 ≥ a0_1)) a0_0 a0_1 a0_2 a0_3 a0_4 a0_5 a0_6 a0_7 a0_8 a0_9 a0_10 a0_11)) else (some (0, 4)))) = some (r1, r2) := h
  clear h
  replace H := Option.bind_eq_some_iff.mp H
  obtain ⟨t159, A30, H⟩ := H
  replace H : (if t159 = 0 then (if a1 < 0 then (skerryref05_Region.j0 k a1 true a0_0 a0_1 a0_2 a0_3 a0_4 a0_5 a0_6 a0_7 a0_8 a0_9 a0_10 a0_11) else (skerryref05_Region.j0 k a1 (decide (a1 ≥ a0_1)) a0_0 a0_1 a0_2 a0_3 a0_4 a0_5 a0_6 a0_7 a0_8 a0_9 a0_10 a0_11)) else (some (0, 4))) = some (r1, r2) := H
  have A3 := Aside0.mk A30
  clear A30
  by_cases c4 : t159 = 0
  · rw [if_pos c4] at H
    have c4b0 : (t159 == 0) = true := beq_iff_eq.mpr c4
    have c4b1 : (t159 != 0) = false := bne_eq_false_iff_eq.mpr c4
    clear c4
    have HC5 := Aside0.mk H
    clear H
    go_enter Try.func14, Try.ntmps14
    go_upto_region 3 with (first | ((with_reducible refine gate_dst (N := 2) rfl ?_); refine box_event ?hg (N := 2) ?hd (cs := #[.int .i64 a0_0, .int .i64 a0_1, .int .i64 a0_2, .int .i64 a0_3, .int .i64 a0_4, .int .i64 a0_5, .int .i64 a0_6, .int .i64 a0_7, .int .i64 a0_8, .int .i64 a0_9, .int .i64 a0_10, .int .i64 a0_11]) (t := 24) ?hr ?_; (case hd => rfl); (case hg => rfl); (case hr => first | (go_simp; done) | (go_simp; rfl)); intro gb158 hg w6 hbox hb; have n0_ := Aside0.mk (below_step (by repeat (first | (with_reducible first | exact HB.out | apply below_alloc | apply pw_below_drewN | apply below_drew1) | with_reducible_and_instances exact HB.out)) hb); have n1_ := Aside0.mk (hbox); have n2_ := Aside0.mk ((by rw [hg]; exact (below_size (by repeat (first | (with_reducible first | exact HB.out | apply below_alloc | apply pw_below_drewN | apply below_drew1) | with_reducible_and_instances exact HB.out))) : w.heap.size ≤ gb158)); have n3_ := Aside0.mk ((by rw [hg]; exact (below_size (by repeat (first | (with_reducible first | exact HB.out | apply below_alloc | apply pw_below_drewN | apply below_drew1) | with_reducible_and_instances exact HB.out))) : w.heap.size ≤ gb158)); clear HB; have HB := n0_; have BK158 := n1_; have GW158 := n2_; have GE158 := n3_; clear n0_ n1_ n2_ n3_; clear hb hbox hg; have hcz7_0 : w6.cell? ⟨gb158, 0, none⟩ = some (.int .i64 a0_0) := (blk_cell BK158.out 0).trans rfl; have hcz7_1 : w6.cell? ⟨gb158, 1, none⟩ = some (.int .i64 a0_1) := (blk_cell BK158.out 1).trans rfl; have hcz7_2 : w6.cell? ⟨gb158, 2, none⟩ = some (.int .i64 a0_2) := (blk_cell BK158.out 2).trans rfl; have hcz7_3 : w6.cell? ⟨gb158, 3, none⟩ = some (.int .i64 a0_3) := (blk_cell BK158.out 3).trans rfl; have hcz7_4 : w6.cell? ⟨gb158, 4, none⟩ = some (.int .i64 a0_4) := (blk_cell BK158.out 4).trans rfl; have hcz7_5 : w6.cell? ⟨gb158, 5, none⟩ = some (.int .i64 a0_5) := (blk_cell BK158.out 5).trans rfl; have hcz7_6 : w6.cell? ⟨gb158, 6, none⟩ = some (.int .i64 a0_6) := (blk_cell BK158.out 6).trans rfl; have hcz7_7 : w6.cell? ⟨gb158, 7, none⟩ = some (.int .i64 a0_7) := (blk_cell BK158.out 7).trans rfl; have hcz7_8 : w6.cell? ⟨gb158, 8, none⟩ = some (.int .i64 a0_8) := (blk_cell BK158.out 8).trans rfl; have hcz7_9 : w6.cell? ⟨gb158, 9, none⟩ = some (.int .i64 a0_9) := (blk_cell BK158.out 9).trans rfl; have hcz7_10 : w6.cell? ⟨gb158, 10, none⟩ = some (.int .i64 a0_10) := (blk_cell BK158.out 10).trans rfl; have hcz7_11 : w6.cell? ⟨gb158, 11, none⟩ = some (.int .i64 a0_11) := (blk_cell BK158.out 11).trans rfl; have hfz7_0 := blk_frozen BK158.out 0; have hfz7_1 := blk_frozen BK158.out 1; have hfz7_2 := blk_frozen BK158.out 2; have hfz7_3 := blk_frozen BK158.out 3; have hfz7_4 := blk_frozen BK158.out 4; have hfz7_5 := blk_frozen BK158.out 5; have hfz7_6 := blk_frozen BK158.out 6; have hfz7_7 := blk_frozen BK158.out 7; have hfz7_8 := blk_frozen BK158.out 8; have hfz7_9 := blk_frozen BK158.out 9; have hfz7_10 := blk_frozen BK158.out 10; have hfz7_11 := blk_frozen BK158.out 11) | ((with_reducible refine gate_callee (f := 16) rfl ?_); refine goesL_ (some 10) rfl rfl Try.func16 (by kernel_rfl) rfl #[.agg #[.int .i64 a0_0, .int .i64 a0_1, .int .i64 a0_2, .int .i64 a0_3, .int .i64 a0_4, .int .i64 a0_5, .int .i64 a0_6, .int .i64 a0_7, .int .i64 a0_8, .int .i64 a0_9, .int .i64 a0_10, .int .i64 a0_11]] rfl (by (try simp only [List.map_toArray, List.map_cons, List.map_nil]); first | done | rfl | (simp only [List.length_drop, List.length_take]; rfl) | (simp only [Int.toNat_natCast, Nat.sub_self, List.length_drop, List.length_take]; rfl)) ?_; (with_reducible refine (skerryref05_Check.calls k a0_0 a0_1 a0_2 a0_3 a0_4 a0_5 a0_6 a0_7 a0_8 a0_9 a0_10 a0_11 t159 _ A3.out).mono ?_); rintro e w8 ⟨rfl, hb⟩; refine ⟨_, rfl, ?_⟩; have n0_ := Aside0.mk (blk_below (g := gb158) (o := .cells #[.int .i64 a0_0, .int .i64 a0_1, .int .i64 a0_2, .int .i64 a0_3, .int .i64 a0_4, .int .i64 a0_5, .int .i64 a0_6, .int .i64 a0_7, .int .i64 a0_8, .int .i64 a0_9, .int .i64 a0_10, .int .i64 a0_11] 24 (0, 0)) (by (with_reducible repeat (first | refine blk_drewN ?_ _ | refine blk_drew ?_ | refine blk_alloc ?_ _)); exact BK158.out) hb); have n1_ := Aside0.mk (below_step (by repeat (first | (with_reducible first | exact HB.out | apply below_alloc | apply pw_below_drewN | apply below_drew1 | refine below_set ?_ GE158.out) | with_reducible_and_instances exact HB.out)) hb); clear BK158; clear HB; have BK158 := n0_; have HB := n1_; clear n0_ n1_; (try clear hb); (try clear hb2); (try clear hk); (try clear hi)))
    (try simp only [Act.put, List.setIfInBounds_toArray, List.set_cons_zero, List.set_cons_succ])
    go_cut [19] (fun v19 wc => ∃ (kq : Nat) (x19_4 : Bool), v19 = .bool x19_4 ∧ Aside0 (skerryref05_Region.j0 kq a1 x19_4 a0_0 a0_1 a0_2 a0_3 a0_4 a0_5 a0_6 a0_7 a0_8 a0_9 a0_10 a0_11 = some (r1, r2)) ∧ Aside0 (kq ≤ k) ∧ Aside0 (wc.heap[gb158]? = some (.cells #[.int .i64 a0_0, .int .i64 a0_1, .int .i64 a0_2, .int .i64 a0_3, .int .i64 a0_4, .int .i64 a0_5, .int .i64 a0_6, .int .i64 a0_7, .int .i64 a0_8, .int .i64 a0_9, .int .i64 a0_10, .int .i64 a0_11] 24 (0, 0))) ∧ Aside0 (Below w.heap.size w wc))
    case first =>
      have H := HC5.out
      clear HC5
      by_cases c9 : a1 < 0
      · rw [if_pos c9] at H
        have c9b0 : decide (a1 < 0) = true := decide_eq_true c9
        clear c9
        (first | rw [c9b0] | (simp only [i64_w, i32_w]; rw [c9b0]) | rw [c9b1] | skip)
        have H' := Aside0.mk H
        clear H
        go_wp2
        go_meet
        case rel => exact ⟨_, (true), (by first | rfl | (simp; done) | (simp [*]; done)), H', ⟨by first | omega | exact Nat.le_refl _⟩, ⟨by (with_reducible repeat (first | refine blk_drewN ?_ _ | refine blk_drew ?_ | refine blk_alloc ?_ _)); exact BK158.out⟩, ⟨by repeat (first | (with_reducible first | exact HB.out | apply below_alloc | apply pw_below_drewN | apply below_drew1 | refine below_set ?_ GE158.out) | with_reducible_and_instances exact HB.out)⟩⟩
      · rw [if_neg c9] at H
        have c9b0 : decide (a1 < 0) = false := decide_eq_false c9
        clear c9
        (first | rw [c9b0] | (simp only [i64_w, i32_w]; rw [c9b0]) | rw [c9b1] | skip)
        have H' := Aside0.mk H
        clear H
        have hcz10_0 : w8.cell? ⟨gb158, 0, none⟩ = some (.int .i64 a0_0) := (blk_cell BK158.out 0).trans rfl
        have hcz10_1 : w8.cell? ⟨gb158, 1, none⟩ = some (.int .i64 a0_1) := (blk_cell BK158.out 1).trans rfl
        have hcz10_2 : w8.cell? ⟨gb158, 2, none⟩ = some (.int .i64 a0_2) := (blk_cell BK158.out 2).trans rfl
        have hcz10_3 : w8.cell? ⟨gb158, 3, none⟩ = some (.int .i64 a0_3) := (blk_cell BK158.out 3).trans rfl
        have hcz10_4 : w8.cell? ⟨gb158, 4, none⟩ = some (.int .i64 a0_4) := (blk_cell BK158.out 4).trans rfl
        have hcz10_5 : w8.cell? ⟨gb158, 5, none⟩ = some (.int .i64 a0_5) := (blk_cell BK158.out 5).trans rfl
        have hcz10_6 : w8.cell? ⟨gb158, 6, none⟩ = some (.int .i64 a0_6) := (blk_cell BK158.out 6).trans rfl
        have hcz10_7 : w8.cell? ⟨gb158, 7, none⟩ = some (.int .i64 a0_7) := (blk_cell BK158.out 7).trans rfl
        have hcz10_8 : w8.cell? ⟨gb158, 8, none⟩ = some (.int .i64 a0_8) := (blk_cell BK158.out 8).trans rfl
        have hcz10_9 : w8.cell? ⟨gb158, 9, none⟩ = some (.int .i64 a0_9) := (blk_cell BK158.out 9).trans rfl
        have hcz10_10 : w8.cell? ⟨gb158, 10, none⟩ = some (.int .i64 a0_10) := (blk_cell BK158.out 10).trans rfl
        have hcz10_11 : w8.cell? ⟨gb158, 11, none⟩ = some (.int .i64 a0_11) := (blk_cell BK158.out 11).trans rfl
        have hfz10_0 := blk_frozen BK158.out 0
        have hfz10_1 := blk_frozen BK158.out 1
        have hfz10_2 := blk_frozen BK158.out 2
        have hfz10_3 := blk_frozen BK158.out 3
        have hfz10_4 := blk_frozen BK158.out 4
        have hfz10_5 := blk_frozen BK158.out 5
        have hfz10_6 := blk_frozen BK158.out 6
        have hfz10_7 := blk_frozen BK158.out 7
        have hfz10_8 := blk_frozen BK158.out 8
        have hfz10_9 := blk_frozen BK158.out 9
        have hfz10_10 := blk_frozen BK158.out 10
        have hfz10_11 := blk_frozen BK158.out 11
        go_wp2
        go_meet
        case rel => exact ⟨_, (decide (a1 ≥ a0_1)), (by first | rfl | (simp; done) | (simp [*]; done)), H', ⟨by first | omega | exact Nat.le_refl _⟩, ⟨by (with_reducible repeat (first | refine blk_drewN ?_ _ | refine blk_drew ?_ | refine blk_alloc ?_ _)); exact BK158.out⟩, ⟨by repeat (first | (with_reducible first | exact HB.out | apply below_alloc | apply pw_below_drewN | apply below_drew1 | refine below_set ?_ GE158.out) | with_reducible_and_instances exact HB.out)⟩⟩
    case rest =>
      clear HC5
      try clear c1
      try clear p2
      try clear c4
      try clear c4b0
      try clear c4b1
      try clear c9
      try clear c9b0
      try clear c9b1
      try clear hcz10_0
      try clear hcz10_1
      try clear hcz10_10
      try clear hcz10_11
      try clear hcz10_2
      try clear hcz10_3
      try clear hcz10_4
      try clear hcz10_5
      try clear hcz10_6
      try clear hcz10_7
      try clear hcz10_8
      try clear hcz10_9
      try clear hcz7_0
      try clear hcz7_1
      try clear hcz7_10
      try clear hcz7_11
      try clear hcz7_2
      try clear hcz7_3
      try clear hcz7_4
      try clear hcz7_5
      try clear hcz7_6
      try clear hcz7_7
      try clear hcz7_8
      try clear hcz7_9
      try clear hfz10_0
      try clear hfz10_1
      try clear hfz10_10
      try clear hfz10_11
      try clear hfz10_2
      try clear hfz10_3
      try clear hfz10_4
      try clear hfz10_5
      try clear hfz10_6
      try clear hfz10_7
      try clear hfz10_8
      try clear hfz10_9
      try clear hfz7_0
      try clear hfz7_1
      try clear hfz7_10
      try clear hfz7_11
      try clear hfz7_2
      try clear hfz7_3
      try clear hfz7_4
      try clear hfz7_5
      try clear hfz7_6
      try clear hfz7_7
      try clear hfz7_8
      try clear hfz7_9
      obtain ⟨kq, x19_4, rfl, HA, HJ4, BK158, HB⟩ := hcut
      cases kq with
      | zero => exact absurd HA.out (by simp [skerryref05_Region.j0])
      | succ kj4 =>
        have H := HA.out
        clear HA
        simp only [skerryref05_Region.j0] at H
        by_cases c11 : x19_4 = true
        · subst c11
          have H1 : (some (0, 2)) = some (r1, r2) := by rw [if_pos rfl] at H; exact H
          clear H
          have H := H1
          clear H1
          simp only [Option.some.injEq, Prod.mk.injEq] at H
          obtain ⟨rfl, rfl⟩ := H
          go_wp2
          go_ret2
          exact ⟨by first | rfl | (simp [errW_none, errW_some] <;> rfl) | (simp [*, errW_none, errW_some] <;> rfl), by repeat (first | (with_reducible first | exact HB.out | apply below_alloc | apply pw_below_drewN | apply below_drew1 | refine below_set ?_ GE158.out) | with_reducible_and_instances exact HB.out)⟩
        · replace c11 := Bool.eq_false_iff.mpr c11
          subst c11
          have H1 : (skerryref05_Region.l0 kj4 a1 (([0, 1, a0_4, a0_5, a0_7, a0_9, a0_11] : List Int)) 0 0) = some (r1, r2) := by rw [if_neg (show ¬ (false = true) by decide)] at H; exact H
          clear H
          have H := H1
          clear H1
          obtain ⟨y160, hy160⟩ : ∃ y_ : List Int, y_ = (([0, 1, a0_4, a0_5, a0_7, a0_9, a0_11] : List Int)) := ⟨_, rfl⟩
          replace H : (skerryref05_Region.l0 kj4 a1 y160 0 0) = some (r1, r2) := by first | (rw [hy160]; with_reducible exact H) | (have H2_ := (Option.bind_some _ _).symm.trans H; rw [hy160]; with_reducible exact H2_) | (have H2_ := (Option.bind_some _ _).symm.trans H; with_reducible exact H2_) | with_reducible exact H | (rw [hy160]; exact H) | exact H
          have Ny160 := Aside0.mk hy160
          clear hy160
          have H' := Aside0.mk H
          clear H
          have hcz12_0 : wc.cell? ⟨gb158, 0, none⟩ = some (.int .i64 a0_0) := (blk_cell BK158.out 0).trans rfl
          have hcz12_1 : wc.cell? ⟨gb158, 1, none⟩ = some (.int .i64 a0_1) := (blk_cell BK158.out 1).trans rfl
          have hcz12_2 : wc.cell? ⟨gb158, 2, none⟩ = some (.int .i64 a0_2) := (blk_cell BK158.out 2).trans rfl
          have hcz12_3 : wc.cell? ⟨gb158, 3, none⟩ = some (.int .i64 a0_3) := (blk_cell BK158.out 3).trans rfl
          have hcz12_4 : wc.cell? ⟨gb158, 4, none⟩ = some (.int .i64 a0_4) := (blk_cell BK158.out 4).trans rfl
          have hcz12_5 : wc.cell? ⟨gb158, 5, none⟩ = some (.int .i64 a0_5) := (blk_cell BK158.out 5).trans rfl
          have hcz12_6 : wc.cell? ⟨gb158, 6, none⟩ = some (.int .i64 a0_6) := (blk_cell BK158.out 6).trans rfl
          have hcz12_7 : wc.cell? ⟨gb158, 7, none⟩ = some (.int .i64 a0_7) := (blk_cell BK158.out 7).trans rfl
          have hcz12_8 : wc.cell? ⟨gb158, 8, none⟩ = some (.int .i64 a0_8) := (blk_cell BK158.out 8).trans rfl
          have hcz12_9 : wc.cell? ⟨gb158, 9, none⟩ = some (.int .i64 a0_9) := (blk_cell BK158.out 9).trans rfl
          have hcz12_10 : wc.cell? ⟨gb158, 10, none⟩ = some (.int .i64 a0_10) := (blk_cell BK158.out 10).trans rfl
          have hcz12_11 : wc.cell? ⟨gb158, 11, none⟩ = some (.int .i64 a0_11) := (blk_cell BK158.out 11).trans rfl
          have hfz12_0 := blk_frozen BK158.out 0
          have hfz12_1 := blk_frozen BK158.out 1
          have hfz12_2 := blk_frozen BK158.out 2
          have hfz12_3 := blk_frozen BK158.out 3
          have hfz12_4 := blk_frozen BK158.out 4
          have hfz12_5 := blk_frozen BK158.out 5
          have hfz12_6 := blk_frozen BK158.out 6
          have hfz12_7 := blk_frozen BK158.out 7
          have hfz12_8 := blk_frozen BK158.out 8
          have hfz12_9 := blk_frozen BK158.out 9
          have hfz12_10 := blk_frozen BK158.out 10
          have hfz12_11 := blk_frozen BK158.out 11
          go_wp2_with (first | ((with_reducible refine gate_dst (N := 30) rfl ?_); refine Kd.R_lit (Kd.int .i64) _ 3 ?hg (N := 30) ?hd (xs := ([0, 1, a0_4, a0_5, a0_7, a0_9, a0_11] : List Int)) (inner := [.int .i64 0, .int .i64 1, .int .i64 a0_4, .int .i64 a0_5, .int .i64 a0_7, .int .i64 a0_9, .int .i64 a0_11]) (ok := fun _ => True) (okp := fun _ => True) ?hr ?hp (fun _ hk => hk) trivial (Below.refl _ _) (Nat.le_refl _) (by simp) ?_; (case hd => rfl); (case hg => rfl); (case hr => first | (go_simp; done) | (go_simp; rfl)); (case hp => exact (Reps.one (show Kd.M (Kd.int .i64) _ _ _ 0 [.int .i64 0] from rfl) (Reps.one (show Kd.M (Kd.int .i64) _ _ _ 1 [.int .i64 1] from rfl) (Reps.one (show Kd.M (Kd.int .i64) _ _ _ a0_4 [.int .i64 a0_4] from rfl) (Reps.one (show Kd.M (Kd.int .i64) _ _ _ a0_5 [.int .i64 a0_5] from rfl) (Reps.one (show Kd.M (Kd.int .i64) _ _ _ a0_7 [.int .i64 a0_7] from rfl) (Reps.one (show Kd.M (Kd.int .i64) _ _ _ a0_9 [.int .i64 a0_9] from rfl) (Reps.one (show Kd.M (Kd.int .i64) _ _ _ a0_11 [.int .i64 a0_11] from rfl) (Reps.none _ _))))))))); intro v161 w13 ho14 hb hg_ hnew_; clear hg_ hnew_; (first | rw [← Ny160.out] at ho14 | (simp only [Int.reduceToNat] at ho14; rw [← Ny160.out] at ho14)); have n0_ := Aside0.mk (Kd.R_lower ho14 (below_size (by repeat (first | (with_reducible first | exact HB.out | apply below_alloc | apply pw_below_drewN | apply below_drew1 | refine below_set ?_ GE158.out) | with_reducible_and_instances exact HB.out)))); have n1_ := Aside0.mk (blk_below (g := gb158) (o := .cells #[.int .i64 a0_0, .int .i64 a0_1, .int .i64 a0_2, .int .i64 a0_3, .int .i64 a0_4, .int .i64 a0_5, .int .i64 a0_6, .int .i64 a0_7, .int .i64 a0_8, .int .i64 a0_9, .int .i64 a0_10, .int .i64 a0_11] 24 (0, 0)) (by (with_reducible repeat (first | refine blk_drewN ?_ _ | refine blk_drew ?_ | refine blk_alloc ?_ _)); exact BK158.out) hb); have n2_ := Aside0.mk (below_step (by repeat (first | (with_reducible first | exact HB.out | apply below_alloc | apply pw_below_drewN | apply below_drew1 | refine below_set ?_ GE158.out) | with_reducible_and_instances exact HB.out)) hb); clear BK158; clear HB; have HO162 := n0_; have BK158 := n1_; have HB := n2_; clear n0_ n1_ n2_; clear hb ho14))
          go_loopg [7, 8] kj4 (fun kq v7 v8 w' => ∃ (x7_2 : Int) (x8_2 : Int), v7 = .int .i64 x7_2 ∧ v8 = .int .i64 x8_2 ∧ Aside0 (skerryref05_Region.l0 kq a1 y160 x7_2 x8_2 = some (r1, r2)) ∧ Aside0 (kq ≤ kj4) ∧ Aside0 (Kd.R (Kd.int .i64) 3 w' w.heap.size (fun _ => True) v161 y160) ∧ Aside0 (w'.heap[gb158]? = some (.cells #[.int .i64 a0_0, .int .i64 a0_1, .int .i64 a0_2, .int .i64 a0_3, .int .i64 a0_4, .int .i64 a0_5, .int .i64 a0_6, .int .i64 a0_7, .int .i64 a0_8, .int .i64 a0_9, .int .i64 a0_10, .int .i64 a0_11] 24 (0, 0))) ∧ Aside0 (Below w.heap.size w w'))
          case atStart => exact ⟨(0), (0), (by first | rfl | (simp; done) | (simp [*]; done)), (by first | rfl | (simp; done) | (simp [*]; done)), H', ⟨Nat.le_refl _⟩, ⟨by (with_reducible repeat (first | apply Kd.R_alloc | apply Kd.R_drewN | apply Kd.R_drew)); exact HO162.out⟩, ⟨by (with_reducible repeat (first | refine blk_drewN ?_ _ | refine blk_drew ?_ | refine blk_alloc ?_ _)); exact BK158.out⟩, ⟨by repeat (first | (with_reducible first | exact HB.out | apply below_alloc | apply pw_below_drewN | apply below_drew1 | refine below_set ?_ GE158.out) | with_reducible_and_instances exact HB.out)⟩⟩
          case round =>
            clear H'
            try clear c1
            try clear p2
            try clear c4
            try clear c4b0
            try clear c4b1
            try clear c9
            try clear c9b0
            try clear c9b1
            try clear c11
            try clear c14
            try clear hcz10_0
            try clear hcz10_1
            try clear hcz10_10
            try clear hcz10_11
            try clear hcz10_2
            try clear hcz10_3
            try clear hcz10_4
            try clear hcz10_5
            try clear hcz10_6
            try clear hcz10_7
            try clear hcz10_8
            try clear hcz10_9
            try clear hcz12_0
            try clear hcz12_1
            try clear hcz12_10
            try clear hcz12_11
            try clear hcz12_2
            try clear hcz12_3
            try clear hcz12_4
            try clear hcz12_5
            try clear hcz12_6
            try clear hcz12_7
            try clear hcz12_8
            try clear hcz12_9
            try clear hcz7_0
            try clear hcz7_1
            try clear hcz7_10
            try clear hcz7_11
            try clear hcz7_2
            try clear hcz7_3
            try clear hcz7_4
            try clear hcz7_5
            try clear hcz7_6
            try clear hcz7_7
            try clear hcz7_8
            try clear hcz7_9
            try clear hfz10_0
            try clear hfz10_1
            try clear hfz10_10
            try clear hfz10_11
            try clear hfz10_2
            try clear hfz10_3
            try clear hfz10_4
            try clear hfz10_5
            try clear hfz10_6
            try clear hfz10_7
            try clear hfz10_8
            try clear hfz10_9
            try clear hfz12_0
            try clear hfz12_1
            try clear hfz12_10
            try clear hfz12_11
            try clear hfz12_2
            try clear hfz12_3
            try clear hfz12_4
            try clear hfz12_5
            try clear hfz12_6
            try clear hfz12_7
            try clear hfz12_8
            try clear hfz12_9
            try clear hfz7_0
            try clear hfz7_1
            try clear hfz7_10
            try clear hfz7_11
            try clear hfz7_2
            try clear hfz7_3
            try clear hfz7_4
            try clear hfz7_5
            try clear hfz7_6
            try clear hfz7_7
            try clear hfz7_8
            try clear hfz7_9
            try clear p2
            obtain ⟨x7_2, x8_2, rfl, rfl, HA, HK2, HO_6, BK158, HB⟩ := hrel
            cases gk with
            | zero => exact absurd HA.out (by simp [skerryref05_Region.l0])
            | succ k2 =>
              have H := HA.out
              clear HA
              simp only [skerryref05_Region.l0] at H
              by_cases c15 : x8_2 < (y160.length : Int)
              · rw [if_pos c15] at H
                have c15b0 : decide (x8_2 < (y160.length : Int)) = true := decide_eq_true c15
                clear c15
                by_cases c16 : 0 ≤ x8_2
                · rw [if_pos c16] at H
                  have c16b0 : decide (0 ≤ x8_2) = true := decide_eq_true c16
                  clear c16
                  by_cases c17 : a1 ≥ (rd y160 x8_2)
                  · rw [if_pos c17] at H
                    have c17b0 : decide ((rd y160 x8_2) ≤ a1) = true := decide_eq_true c17
                    clear c17
                    have H' := Aside0.mk H
                    clear H
                    obtain ⟨Ao18, co18, eo18⟩ := Kd.R_slice HO_6.out
                    subst eo18
                    have p163 : 0 ≤ (x8_2 : Int) := of_decide_eq_true (by first | (with_reducible assumption) | assumption)
                    have q163 : x8_2 < (y160.length : Int) := of_decide_eq_true (by first | (with_reducible assumption) | assumption)
                    obtain ⟨ad163, e163, hx163_0⟩ := Kd.at_int (Kd.R_reads' HO_6.out).2.2 x8_2 p163 q163
                    cases e163
                    replace p163 := eq_true p163
                    replace q163 := eq_true q163
                    go_wp2
                    go_roundg k2
                    case measure => have := HJ4.out; have := HK2.out; omega
                    case rel => exact ⟨(x8_2), (wrap64 (x8_2 + 1)), (by first | rfl | (simp; done) | (simp [*]; done)), (by first | rfl | (simp; done) | (simp [*]; done)), H', ⟨by have := HJ4.out; have := HK2.out; omega⟩, ⟨by (with_reducible repeat (first | apply Kd.R_alloc | apply Kd.R_drewN | apply Kd.R_drew)); exact HO_6.out⟩, ⟨by (with_reducible repeat (first | refine blk_drewN ?_ _ | refine blk_drew ?_ | refine blk_alloc ?_ _)); exact BK158.out⟩, ⟨by repeat (first | (with_reducible first | exact HB.out | apply below_alloc | apply pw_below_drewN | apply below_drew1 | refine below_set ?_ GE158.out) | with_reducible_and_instances exact HB.out)⟩⟩
                  · rw [if_neg c17] at H
                    have c17b0 : decide ((rd y160 x8_2) ≤ a1) = false := decide_eq_false c17
                    clear c17
                    have H' := Aside0.mk H
                    clear H
                    obtain ⟨Ao19, co19, eo19⟩ := Kd.R_slice HO_6.out
                    subst eo19
                    have p163 : 0 ≤ (x8_2 : Int) := of_decide_eq_true (by first | (with_reducible assumption) | assumption)
                    have q163 : x8_2 < (y160.length : Int) := of_decide_eq_true (by first | (with_reducible assumption) | assumption)
                    obtain ⟨ad163, e163, hx163_0⟩ := Kd.at_int (Kd.R_reads' HO_6.out).2.2 x8_2 p163 q163
                    cases e163
                    replace p163 := eq_true p163
                    replace q163 := eq_true q163
                    go_wp2
                    go_roundg k2
                    case measure => have := HJ4.out; have := HK2.out; omega
                    case rel => exact ⟨(x7_2), (wrap64 (x8_2 + 1)), (by first | rfl | (simp; done) | (simp [*]; done)), (by first | rfl | (simp; done) | (simp [*]; done)), H', ⟨by have := HJ4.out; have := HK2.out; omega⟩, ⟨by (with_reducible repeat (first | apply Kd.R_alloc | apply Kd.R_drewN | apply Kd.R_drew)); exact HO_6.out⟩, ⟨by (with_reducible repeat (first | refine blk_drewN ?_ _ | refine blk_drew ?_ | refine blk_alloc ?_ _)); exact BK158.out⟩, ⟨by repeat (first | (with_reducible first | exact HB.out | apply below_alloc | apply pw_below_drewN | apply below_drew1 | refine below_set ?_ GE158.out) | with_reducible_and_instances exact HB.out)⟩⟩
                · rw [if_neg c16] at H
                  exact absurd H (by simp)
              · rw [if_neg c15] at H
                have c15b0 : decide (x8_2 < (y160.length : Int)) = false := decide_eq_false c15
                clear c15
                simp only [Option.some.injEq, Prod.mk.injEq] at H
                obtain ⟨rfl, rfl⟩ := H
                obtain ⟨Ao20, co20, eo20⟩ := Kd.R_slice HO_6.out
                subst eo20
                go_wp2
                go_ret2
                exact ⟨by first | rfl | (simp [errW_none, errW_some] <;> rfl) | (simp [*, errW_none, errW_some] <;> rfl), by repeat (first | (with_reducible first | exact HB.out | apply below_alloc | apply pw_below_drewN | apply below_drew1 | refine below_set ?_ GE158.out) | with_reducible_and_instances exact HB.out)⟩
  · rw [if_neg c4] at H
    have c4b0 : (t159 == 0) = false := beq_eq_false_iff_ne.mpr c4
    have c4b1 : (t159 != 0) = true := bne_iff_ne.mpr c4
    simp only [Option.some.injEq, Prod.mk.injEq] at H
    obtain ⟨rfl, rfl⟩ := H
    go_enter Try.func14, Try.ntmps14
    go_wp2_with (first | ((with_reducible refine gate_dst (N := 2) rfl ?_); refine box_event ?hg (N := 2) ?hd (cs := #[.int .i64 a0_0, .int .i64 a0_1, .int .i64 a0_2, .int .i64 a0_3, .int .i64 a0_4, .int .i64 a0_5, .int .i64 a0_6, .int .i64 a0_7, .int .i64 a0_8, .int .i64 a0_9, .int .i64 a0_10, .int .i64 a0_11]) (t := 24) ?hr ?_; (case hd => rfl); (case hg => rfl); (case hr => first | (go_simp; done) | (go_simp; rfl)); intro gb158 hg w21 hbox hb; have n0_ := Aside0.mk (below_step (by repeat (first | (with_reducible first | exact HB.out | apply below_alloc | apply pw_below_drewN | apply below_drew1) | with_reducible_and_instances exact HB.out)) hb); have n1_ := Aside0.mk (hbox); have n2_ := Aside0.mk ((by rw [hg]; exact (below_size (by repeat (first | (with_reducible first | exact HB.out | apply below_alloc | apply pw_below_drewN | apply below_drew1) | with_reducible_and_instances exact HB.out))) : w.heap.size ≤ gb158)); have n3_ := Aside0.mk ((by rw [hg]; exact (below_size (by repeat (first | (with_reducible first | exact HB.out | apply below_alloc | apply pw_below_drewN | apply below_drew1) | with_reducible_and_instances exact HB.out))) : w.heap.size ≤ gb158)); clear HB; have HB := n0_; have BK158 := n1_; have GW158 := n2_; have GE158 := n3_; clear n0_ n1_ n2_ n3_; clear hb hbox hg; have hcz22_0 : w21.cell? ⟨gb158, 0, none⟩ = some (.int .i64 a0_0) := (blk_cell BK158.out 0).trans rfl; have hcz22_1 : w21.cell? ⟨gb158, 1, none⟩ = some (.int .i64 a0_1) := (blk_cell BK158.out 1).trans rfl; have hcz22_2 : w21.cell? ⟨gb158, 2, none⟩ = some (.int .i64 a0_2) := (blk_cell BK158.out 2).trans rfl; have hcz22_3 : w21.cell? ⟨gb158, 3, none⟩ = some (.int .i64 a0_3) := (blk_cell BK158.out 3).trans rfl; have hcz22_4 : w21.cell? ⟨gb158, 4, none⟩ = some (.int .i64 a0_4) := (blk_cell BK158.out 4).trans rfl; have hcz22_5 : w21.cell? ⟨gb158, 5, none⟩ = some (.int .i64 a0_5) := (blk_cell BK158.out 5).trans rfl; have hcz22_6 : w21.cell? ⟨gb158, 6, none⟩ = some (.int .i64 a0_6) := (blk_cell BK158.out 6).trans rfl; have hcz22_7 : w21.cell? ⟨gb158, 7, none⟩ = some (.int .i64 a0_7) := (blk_cell BK158.out 7).trans rfl; have hcz22_8 : w21.cell? ⟨gb158, 8, none⟩ = some (.int .i64 a0_8) := (blk_cell BK158.out 8).trans rfl; have hcz22_9 : w21.cell? ⟨gb158, 9, none⟩ = some (.int .i64 a0_9) := (blk_cell BK158.out 9).trans rfl; have hcz22_10 : w21.cell? ⟨gb158, 10, none⟩ = some (.int .i64 a0_10) := (blk_cell BK158.out 10).trans rfl; have hcz22_11 : w21.cell? ⟨gb158, 11, none⟩ = some (.int .i64 a0_11) := (blk_cell BK158.out 11).trans rfl; have hfz22_0 := blk_frozen BK158.out 0; have hfz22_1 := blk_frozen BK158.out 1; have hfz22_2 := blk_frozen BK158.out 2; have hfz22_3 := blk_frozen BK158.out 3; have hfz22_4 := blk_frozen BK158.out 4; have hfz22_5 := blk_frozen BK158.out 5; have hfz22_6 := blk_frozen BK158.out 6; have hfz22_7 := blk_frozen BK158.out 7; have hfz22_8 := blk_frozen BK158.out 8; have hfz22_9 := blk_frozen BK158.out 9; have hfz22_10 := blk_frozen BK158.out 10; have hfz22_11 := blk_frozen BK158.out 11) | ((with_reducible refine gate_callee (f := 16) rfl ?_); refine goesL_ (some 10) rfl rfl Try.func16 (by kernel_rfl) rfl #[.agg #[.int .i64 a0_0, .int .i64 a0_1, .int .i64 a0_2, .int .i64 a0_3, .int .i64 a0_4, .int .i64 a0_5, .int .i64 a0_6, .int .i64 a0_7, .int .i64 a0_8, .int .i64 a0_9, .int .i64 a0_10, .int .i64 a0_11]] rfl (by (try simp only [List.map_toArray, List.map_cons, List.map_nil]); first | done | rfl | (simp only [List.length_drop, List.length_take]; rfl) | (simp only [Int.toNat_natCast, Nat.sub_self, List.length_drop, List.length_take]; rfl)) ?_; (with_reducible refine (skerryref05_Check.calls k a0_0 a0_1 a0_2 a0_3 a0_4 a0_5 a0_6 a0_7 a0_8 a0_9 a0_10 a0_11 t159 _ A3.out).mono ?_); rintro e w23 ⟨rfl, hb⟩; refine ⟨_, rfl, ?_⟩; have n0_ := Aside0.mk (blk_below (g := gb158) (o := .cells #[.int .i64 a0_0, .int .i64 a0_1, .int .i64 a0_2, .int .i64 a0_3, .int .i64 a0_4, .int .i64 a0_5, .int .i64 a0_6, .int .i64 a0_7, .int .i64 a0_8, .int .i64 a0_9, .int .i64 a0_10, .int .i64 a0_11] 24 (0, 0)) (by (with_reducible repeat (first | refine blk_drewN ?_ _ | refine blk_drew ?_ | refine blk_alloc ?_ _)); exact BK158.out) hb); have n1_ := Aside0.mk (below_step (by repeat (first | (with_reducible first | exact HB.out | apply below_alloc | apply pw_below_drewN | apply below_drew1 | refine below_set ?_ GE158.out) | with_reducible_and_instances exact HB.out)) hb); clear BK158; clear HB; have BK158 := n0_; have HB := n1_; clear n0_ n1_; (try clear hb); (try clear hb2); (try clear hk); (try clear hi)))
    go_ret2
    exact ⟨by first | rfl | (simp [errW_none, errW_some] <;> rfl) | (simp [*, errW_none, errW_some] <;> rfl), by repeat (first | (with_reducible first | exact HB.out | apply below_alloc | apply pw_below_drewN | apply below_drew1 | refine below_set ?_ GE158.out) | with_reducible_and_instances exact HB.out)⟩

end Go.Proofs.Ytobkdcokickodaa.PPlanPlaces
