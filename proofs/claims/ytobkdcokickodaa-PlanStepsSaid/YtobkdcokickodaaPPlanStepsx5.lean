-- Written by this session's own tool (prn.py) over the kit's printer; its templates are the session's own. Lean checks it.
import Derived.Test.YtobkdcokickodaaPPlanStepsx0
import Derived.Test.YtobkdcokickodaaPPlanStepsx2
import Derived.Test.YtobkdcokickodaaPPlanStepsx3
import Derived.Test.YtobkdcokickodaaPPlanStepsx4
namespace Go.Proofs.Ytobkdcokickodaa.PPlanSteps
open Go.RowKit Go.Proofs.YtobkdcokickodaaW.PrintWords Go.Proofs.YtobkdcokickodaaW.PrintLast Go.Proofs.YtobkdcokickodaaW.PrintMore
attribute [local go_sem] max2_int min2_int max_two min_two max_three min_three max_four min_four   -- for this text's walks alone
set_option linter.unusedVariables false
set_option linter.unusedSimpArgs false

/-! ### skerryref05_Steps: function 18 -/
def skerryref05_Steps.j0 : Nat → Int → Bool → Int → Int → Int → Int → Int → Int → Int → Int → Int → Int → Int → Int → Option (List Int × Int)
  | 0, _, _, _, _, _, _, _, _, _, _, _, _, _, _ => none
  | k + 1, x1, x32, x164000, x164001, x164002, x164003, x164004, x164005, x164006, x164007, x164008, x164009, x164010, x164011 => if x32 = true then (some (([] : List Int), 2)) else (if x1 < 8 then (some ((([x1] : List Int)), 0)) else (if x1 < (wrap64 (8 + (wrap64 (Int.tdiv x164000 2)))) then (some ((([8, wrap64 (x1 - 8)] : List Int)), 0)) else (if (wrap64 (Int.tdiv x164000 2)) = 0 then (none) else (some ((([9, wrap64 (Int.tdiv (wrap64 ((wrap64 (x1 - 8)) - (wrap64 (Int.tdiv x164000 2)))) (wrap64 (Int.tdiv x164000 2))), Int.tmod (wrap64 ((wrap64 (x1 - 8)) - (wrap64 (Int.tdiv x164000 2)))) (wrap64 (Int.tdiv x164000 2))] : List Int)), 0)))))
def skerryref05_Steps.f (k : Nat) (a0_0 : Int) (a0_1 : Int) (a0_2 : Int) (a0_3 : Int) (a0_4 : Int) (a0_5 : Int) (a0_6 : Int) (a0_7 : Int) (a0_8 : Int) (a0_9 : Int) (a0_10 : Int) (a0_11 : Int) (a1 : Int) : Option (List Int × Int) := (skerryref05_MaxSize.f k a0_0 a0_1 a0_2 a0_3 a0_4 a0_5 a0_6 a0_7 a0_8 a0_9 a0_10 a0_11).bind fun bt164 => (if bt164.2 = 0 then (if a1 < 0 then (skerryref05_Steps.j0 k a1 true a0_0 a0_1 a0_2 a0_3 a0_4 a0_5 a0_6 a0_7 a0_8 a0_9 a0_10 a0_11) else (if a1 ≥ bt164.1 then (skerryref05_Steps.j0 k a1 true a0_0 a0_1 a0_2 a0_3 a0_4 a0_5 a0_6 a0_7 a0_8 a0_9 a0_10 a0_11) else (skerryref05_Steps.j0 k a1 (decide ((wrap64 (a1 * a0_0)) ≥ bt164.1)) a0_0 a0_1 a0_2 a0_3 a0_4 a0_5 a0_6 a0_7 a0_8 a0_9 a0_10 a0_11))) else (some (([] : List Int), bt164.2)))
theorem skerryref05_Steps.mono_l : ∀ k, (∀ y0 y1 y2 y3 y4 y5 y6 y7 y8 y9 y10 y11 y12 y13, LeO (skerryref05_Steps.j0 k y0 y1 y2 y3 y4 y5 y6 y7 y8 y9 y10 y11 y12 y13) (skerryref05_Steps.j0 (k + 1) y0 y1 y2 y3 y4 y5 y6 y7 y8 y9 y10 y11 y12 y13))
  | 0 => fun _ _ _ _ _ _ _ _ _ _ _ _ _ _ r h => by simp [skerryref05_Steps.j0] at h
  | k + 1 => by
    have ih0 := skerryref05_Steps.mono_l k
    · intro y0 y1 y2 y3 y4 y5 y6 y7 y8 y9 y10 y11 y12 y13
      unfold skerryref05_Steps.j0
      repeat' first
      | (with_reducible exact ih0 _ _ _ _ _ _ _ _ _ _ _ _ _ _)
      | (with_reducible exact skerryref05_MaxSize.mono _ _ _ _ _ _ _ _ _ _ _ _ _)
      | (with_reducible exact LeO.refl _)
      | (with_reducible exact LeO.none _)
      | (with_reducible refine LeO.ite ?_ ?_)
      | (with_reducible refine LeO.bind ?_ (fun _ => ?_))
      | exact ih0 _ _ _ _ _ _ _ _ _ _ _ _ _ _
      | exact skerryref05_MaxSize.mono _ _ _ _ _ _ _ _ _ _ _ _ _
      | exact LeO.none _
      | refine LeO.ite ?_ ?_
      | refine LeO.bind ?_ (fun _ => ?_)
theorem skerryref05_Steps.mono : ∀ a0 a1 a2 a3 a4 a5 a6 a7 a8 a9 a10 a11 a12 k, LeO (skerryref05_Steps.f k a0 a1 a2 a3 a4 a5 a6 a7 a8 a9 a10 a11 a12) (skerryref05_Steps.f (k + 1) a0 a1 a2 a3 a4 a5 a6 a7 a8 a9 a10 a11 a12) := by
  intro a0 a1 a2 a3 a4 a5 a6 a7 a8 a9 a10 a11 a12 k
  have ih0 := skerryref05_Steps.mono_l k
  unfold skerryref05_Steps.f
  repeat' first
      | (with_reducible exact ih0 _ _ _ _ _ _ _ _ _ _ _ _ _ _)
      | (with_reducible exact skerryref05_MaxSize.mono _ _ _ _ _ _ _ _ _ _ _ _ _)
      | (with_reducible exact LeO.refl _)
      | (with_reducible exact LeO.none _)
      | (with_reducible refine LeO.ite ?_ ?_)
      | (with_reducible refine LeO.bind ?_ (fun _ => ?_))
      | exact ih0 _ _ _ _ _ _ _ _ _ _ _ _ _ _
      | exact skerryref05_MaxSize.mono _ _ _ _ _ _ _ _ _ _ _ _ _
      | exact LeO.none _
      | refine LeO.ite ?_ ?_
      | refine LeO.bind ?_ (fun _ => ?_)
def skerryref05_Steps.T12 : Bool × List (List Nat × List Nat) := (true, [([], []), ([], []), ([0, 1], [0, 1]), ([], []), ([], []), ([3, 4], [3, 4]), ([2, 5], [2, 5]), ([6, 0, 1, 2, 3, 4, 5, 6], [6]), ([7, 0, 1, 2, 3, 4, 5, 6, 7], [])])
def skerryref05_Steps.B12 : List Nat := [0, 0, 3, 0, 0, 24, 63, 127, 255]
theorem skerryref05_Steps.tab12 : rtab .any (opsOf Try.f18 12) = skerryref05_Steps.T12 := by kernel_rfl
theorem skerryref05_Steps.bits12 : waitsOk skerryref05_Steps.T12.2 skerryref05_Steps.B12 = true := by kernel_rfl
set_option maxHeartbeats 8000000 in
set_option maxRecDepth 100000 in
theorem skerryref05_Steps.calls (k : Nat) (a0_0 : Int) (a0_1 : Int) (a0_2 : Int) (a0_3 : Int) (a0_4 : Int) (a0_5 : Int) (a0_6 : Int) (a0_7 : Int) (a0_8 : Int) (a0_9 : Int) (a0_10 : Int) (a0_11 : Int) (a1 : Int) (r1 : List Int) (r2 : Int) (w : World) (h : skerryref05_Steps.f k a0_0 a0_1 a0_2 a0_3 a0_4 a0_5 a0_6 a0_7 a0_8 a0_9 a0_10 a0_11 a1 = some (r1, r2)) :
    Calls Try.prog 18 #[.agg #[.int .i64 a0_0, .int .i64 a0_1, .int .i64 a0_2, .int .i64 a0_3, .int .i64 a0_4, .int .i64 a0_5, .int .i64 a0_6, .int .i64 a0_7, .int .i64 a0_8, .int .i64 a0_9, .int .i64 a0_10, .int .i64 a0_11], .int .i64 a1] w fun e w' => ∃ v0_ : Value, e = .returned (.tuple #[v0_, .int .i64 r2]) ∧ Kd.R (Kd.int .i64) 3 w' w.heap.size (fun _ => True) v0_ r1 ∧ Below w.heap.size w w' := by
  have hu24 := Try.underlying24
  have HB := Aside0.mk (Below.refl w.heap.size w)
  have H : ((skerryref05_MaxSize.f k a0_0 a0_1 a0_2 a0_3 a0_4 a0_5 a0_6 a0_7 a0_8 a0_9 a0_10 a0_11).bind fun bt164 => (if bt164.2 = 0 then (if a1 < 0 then (skerryref05_Steps.j0 k a1 true a0_0 a0_1 a0_2 a0_3 a0_4 a0_5 a0_6 a0_7 a0_8 a0_9 a0_10 a0_11) else (if a1 ≥ bt164.1 then (skerryref05_Steps.j0 k a1 true a0_0 a0_1 a0_2 a0_3 a0_4 a0_5 a0_6 a0_7 a0_8 a0_9 a0_10 a0_11) else (skerryref05_Steps.j0 k a1 (decide ((wrap64 (a1 * a0_0)) ≥ bt164.1)) a0_0 a0_1 a0_2 a0_3 a0_4 a0_5 a0_6 a0_7 a0_8 a0_9 a0_10 a0_11))) else (some (([] : List Int), bt164.2)))) = some (r1, r2) := h
  clear h
  replace H := Option.bind_eq_some_iff.mp H
  obtain ⟨⟨t164, t165⟩, A30, H⟩ := H
  replace H : (if t165 = 0 then (if a1 < 0 then (skerryref05_Steps.j0 k a1 true a0_0 a0_1 a0_2 a0_3 a0_4 a0_5 a0_6 a0_7 a0_8 a0_9 a0_10 a0_11) else (if a1 ≥ t164 then (skerryref05_Steps.j0 k a1 true a0_0 a0_1 a0_2 a0_3 a0_4 a0_5 a0_6 a0_7 a0_8 a0_9 a0_10 a0_11) else (skerryref05_Steps.j0 k a1 (decide ((wrap64 (a1 * a0_0)) ≥ t164)) a0_0 a0_1 a0_2 a0_3 a0_4 a0_5 a0_6 a0_7 a0_8 a0_9 a0_10 a0_11))) else (some (([] : List Int), t165))) = some (r1, r2) := H
  have A3 := Aside0.mk A30
  clear A30
  by_cases c4 : t165 = 0
  · rw [if_pos c4] at H
    have c4b0 : (t165 == 0) = true := beq_iff_eq.mpr c4
    have c4b1 : (t165 != 0) = false := bne_eq_false_iff_eq.mpr c4
    clear c4
    have HC5 := Aside0.mk H
    clear H
    go_enter Try.func18, Try.ntmps18
    go_upto_region 4 with (first | ((with_reducible refine gate_dst (N := 2) rfl ?_); refine box_event ?hg (N := 2) ?hd (cs := #[.int .i64 a0_0, .int .i64 a0_1, .int .i64 a0_2, .int .i64 a0_3, .int .i64 a0_4, .int .i64 a0_5, .int .i64 a0_6, .int .i64 a0_7, .int .i64 a0_8, .int .i64 a0_9, .int .i64 a0_10, .int .i64 a0_11]) (t := 24) ?hr ?_; (case hd => rfl); (case hg => rfl); (case hr => first | (go_simp; done) | (go_simp; rfl)); intro gb163 hg w6 hbox hb; have n0_ := Aside0.mk (below_step (by repeat (first | (with_reducible first | exact HB.out | apply below_alloc | apply pw_below_drewN | apply below_drew1) | with_reducible_and_instances exact HB.out)) hb); have n1_ := Aside0.mk (hbox); have n2_ := Aside0.mk ((by rw [hg]; exact (below_size (by repeat (first | (with_reducible first | exact HB.out | apply below_alloc | apply pw_below_drewN | apply below_drew1) | with_reducible_and_instances exact HB.out))) : w.heap.size ≤ gb163)); have n3_ := Aside0.mk ((by rw [hg]; exact (below_size (by repeat (first | (with_reducible first | exact HB.out | apply below_alloc | apply pw_below_drewN | apply below_drew1) | with_reducible_and_instances exact HB.out))) : w.heap.size ≤ gb163)); clear HB; have HB := n0_; have BK163 := n1_; have GW163 := n2_; have GE163 := n3_; clear n0_ n1_ n2_ n3_; clear hb hbox hg; have hcz7_0 : w6.cell? ⟨gb163, 0, none⟩ = some (.int .i64 a0_0) := (blk_cell BK163.out 0).trans rfl; have hcz7_1 : w6.cell? ⟨gb163, 1, none⟩ = some (.int .i64 a0_1) := (blk_cell BK163.out 1).trans rfl; have hcz7_2 : w6.cell? ⟨gb163, 2, none⟩ = some (.int .i64 a0_2) := (blk_cell BK163.out 2).trans rfl; have hcz7_3 : w6.cell? ⟨gb163, 3, none⟩ = some (.int .i64 a0_3) := (blk_cell BK163.out 3).trans rfl; have hcz7_4 : w6.cell? ⟨gb163, 4, none⟩ = some (.int .i64 a0_4) := (blk_cell BK163.out 4).trans rfl; have hcz7_5 : w6.cell? ⟨gb163, 5, none⟩ = some (.int .i64 a0_5) := (blk_cell BK163.out 5).trans rfl; have hcz7_6 : w6.cell? ⟨gb163, 6, none⟩ = some (.int .i64 a0_6) := (blk_cell BK163.out 6).trans rfl; have hcz7_7 : w6.cell? ⟨gb163, 7, none⟩ = some (.int .i64 a0_7) := (blk_cell BK163.out 7).trans rfl; have hcz7_8 : w6.cell? ⟨gb163, 8, none⟩ = some (.int .i64 a0_8) := (blk_cell BK163.out 8).trans rfl; have hcz7_9 : w6.cell? ⟨gb163, 9, none⟩ = some (.int .i64 a0_9) := (blk_cell BK163.out 9).trans rfl; have hcz7_10 : w6.cell? ⟨gb163, 10, none⟩ = some (.int .i64 a0_10) := (blk_cell BK163.out 10).trans rfl; have hcz7_11 : w6.cell? ⟨gb163, 11, none⟩ = some (.int .i64 a0_11) := (blk_cell BK163.out 11).trans rfl; have hfz7_0 := blk_frozen BK163.out 0; have hfz7_1 := blk_frozen BK163.out 1; have hfz7_2 := blk_frozen BK163.out 2; have hfz7_3 := blk_frozen BK163.out 3; have hfz7_4 := blk_frozen BK163.out 4; have hfz7_5 := blk_frozen BK163.out 5; have hfz7_6 := blk_frozen BK163.out 6; have hfz7_7 := blk_frozen BK163.out 7; have hfz7_8 := blk_frozen BK163.out 8; have hfz7_9 := blk_frozen BK163.out 9; have hfz7_10 := blk_frozen BK163.out 10; have hfz7_11 := blk_frozen BK163.out 11) | ((with_reducible refine gate_callee (f := 20) rfl ?_); refine goesL_ (some 12) rfl rfl Try.func20 (by kernel_rfl) rfl #[.agg #[.int .i64 a0_0, .int .i64 a0_1, .int .i64 a0_2, .int .i64 a0_3, .int .i64 a0_4, .int .i64 a0_5, .int .i64 a0_6, .int .i64 a0_7, .int .i64 a0_8, .int .i64 a0_9, .int .i64 a0_10, .int .i64 a0_11]] rfl (by (try simp only [List.map_toArray, List.map_cons, List.map_nil]); first | done | rfl | (simp only [List.length_drop, List.length_take]; rfl) | (simp only [Int.toNat_natCast, Nat.sub_self, List.length_drop, List.length_take]; rfl)) ?_; (with_reducible refine (skerryref05_MaxSize.calls k a0_0 a0_1 a0_2 a0_3 a0_4 a0_5 a0_6 a0_7 a0_8 a0_9 a0_10 a0_11 t164 t165 _ A3.out).mono ?_); rintro e w8 ⟨rfl, hb⟩; refine ⟨_, rfl, ?_⟩; have n0_ := Aside0.mk (blk_below (g := gb163) (o := .cells #[.int .i64 a0_0, .int .i64 a0_1, .int .i64 a0_2, .int .i64 a0_3, .int .i64 a0_4, .int .i64 a0_5, .int .i64 a0_6, .int .i64 a0_7, .int .i64 a0_8, .int .i64 a0_9, .int .i64 a0_10, .int .i64 a0_11] 24 (0, 0)) (by (with_reducible repeat (first | refine blk_drewN ?_ _ | refine blk_drew ?_ | refine blk_alloc ?_ _)); exact BK163.out) hb); have n1_ := Aside0.mk (below_step (by repeat (first | (with_reducible first | exact HB.out | apply below_alloc | apply pw_below_drewN | apply below_drew1 | refine below_set ?_ GE163.out) | with_reducible_and_instances exact HB.out)) hb); clear BK163; clear HB; have BK163 := n0_; have HB := n1_; clear n0_ n1_; (try clear hb); (try clear hb2); (try clear hk); (try clear hi)))
    (try simp only [Act.put, List.setIfInBounds_toArray, List.set_cons_zero, List.set_cons_succ])
    go_cut [32] (fun v32 wc => ∃ (kq : Nat) (x32_4 : Bool), v32 = .bool x32_4 ∧ Aside0 (skerryref05_Steps.j0 kq a1 x32_4 a0_0 a0_1 a0_2 a0_3 a0_4 a0_5 a0_6 a0_7 a0_8 a0_9 a0_10 a0_11 = some (r1, r2)) ∧ Aside0 (kq ≤ k) ∧ Aside0 (wc.heap[gb163]? = some (.cells #[.int .i64 a0_0, .int .i64 a0_1, .int .i64 a0_2, .int .i64 a0_3, .int .i64 a0_4, .int .i64 a0_5, .int .i64 a0_6, .int .i64 a0_7, .int .i64 a0_8, .int .i64 a0_9, .int .i64 a0_10, .int .i64 a0_11] 24 (0, 0))) ∧ Aside0 (Below w.heap.size w wc))
    case first =>
      have H := HC5.out
      clear HC5
      by_cases c9 : a1 < 0
      · rw [if_pos c9] at H
        have c9b0 : decide (a1 < 0) = true := decide_eq_true c9
        clear c9
        (first | rw [c9b0] | (simp only [i64_w, i32_w]; rw [c9b0]) | rw [c9b1] | skip)
        have H' := Aside0.mk H
        clear H
        go_wp2
        go_meet
        case rel => exact ⟨_, (true), (by first | rfl | (simp; done) | (simp [*]; done)), H', ⟨by first | omega | exact Nat.le_refl _⟩, ⟨by (with_reducible repeat (first | refine blk_drewN ?_ _ | refine blk_drew ?_ | refine blk_alloc ?_ _)); exact BK163.out⟩, ⟨by repeat (first | (with_reducible first | exact HB.out | apply below_alloc | apply pw_below_drewN | apply below_drew1 | refine below_set ?_ GE163.out) | with_reducible_and_instances exact HB.out)⟩⟩
      · rw [if_neg c9] at H
        have c9b0 : decide (a1 < 0) = false := decide_eq_false c9
        clear c9
        (first | rw [c9b0] | (simp only [i64_w, i32_w]; rw [c9b0]) | rw [c9b1] | skip)
        by_cases c10 : a1 ≥ t164
        · rw [if_pos c10] at H
          have c10b0 : decide (t164 ≤ a1) = true := decide_eq_true c10
          clear c10
          have H' := Aside0.mk H
          clear H
          go_wp2
          go_meet
          case rel => exact ⟨_, (true), (by first | rfl | (simp; done) | (simp [*]; done)), H', ⟨by first | omega | exact Nat.le_refl _⟩, ⟨by (with_reducible repeat (first | refine blk_drewN ?_ _ | refine blk_drew ?_ | refine blk_alloc ?_ _)); exact BK163.out⟩, ⟨by repeat (first | (with_reducible first | exact HB.out | apply below_alloc | apply pw_below_drewN | apply below_drew1 | refine below_set ?_ GE163.out) | with_reducible_and_instances exact HB.out)⟩⟩
        · rw [if_neg c10] at H
          have c10b0 : decide (t164 ≤ a1) = false := decide_eq_false c10
          clear c10
          have H' := Aside0.mk H
          clear H
          have hcz11_0 : w8.cell? ⟨gb163, 0, none⟩ = some (.int .i64 a0_0) := (blk_cell BK163.out 0).trans rfl
          have hcz11_1 : w8.cell? ⟨gb163, 1, none⟩ = some (.int .i64 a0_1) := (blk_cell BK163.out 1).trans rfl
          have hcz11_2 : w8.cell? ⟨gb163, 2, none⟩ = some (.int .i64 a0_2) := (blk_cell BK163.out 2).trans rfl
          have hcz11_3 : w8.cell? ⟨gb163, 3, none⟩ = some (.int .i64 a0_3) := (blk_cell BK163.out 3).trans rfl
          have hcz11_4 : w8.cell? ⟨gb163, 4, none⟩ = some (.int .i64 a0_4) := (blk_cell BK163.out 4).trans rfl
          have hcz11_5 : w8.cell? ⟨gb163, 5, none⟩ = some (.int .i64 a0_5) := (blk_cell BK163.out 5).trans rfl
          have hcz11_6 : w8.cell? ⟨gb163, 6, none⟩ = some (.int .i64 a0_6) := (blk_cell BK163.out 6).trans rfl
          have hcz11_7 : w8.cell? ⟨gb163, 7, none⟩ = some (.int .i64 a0_7) := (blk_cell BK163.out 7).trans rfl
          have hcz11_8 : w8.cell? ⟨gb163, 8, none⟩ = some (.int .i64 a0_8) := (blk_cell BK163.out 8).trans rfl
          have hcz11_9 : w8.cell? ⟨gb163, 9, none⟩ = some (.int .i64 a0_9) := (blk_cell BK163.out 9).trans rfl
          have hcz11_10 : w8.cell? ⟨gb163, 10, none⟩ = some (.int .i64 a0_10) := (blk_cell BK163.out 10).trans rfl
          have hcz11_11 : w8.cell? ⟨gb163, 11, none⟩ = some (.int .i64 a0_11) := (blk_cell BK163.out 11).trans rfl
          have hfz11_0 := blk_frozen BK163.out 0
          have hfz11_1 := blk_frozen BK163.out 1
          have hfz11_2 := blk_frozen BK163.out 2
          have hfz11_3 := blk_frozen BK163.out 3
          have hfz11_4 := blk_frozen BK163.out 4
          have hfz11_5 := blk_frozen BK163.out 5
          have hfz11_6 := blk_frozen BK163.out 6
          have hfz11_7 := blk_frozen BK163.out 7
          have hfz11_8 := blk_frozen BK163.out 8
          have hfz11_9 := blk_frozen BK163.out 9
          have hfz11_10 := blk_frozen BK163.out 10
          have hfz11_11 := blk_frozen BK163.out 11
          go_wp2
          go_meet
          case rel => exact ⟨_, (decide ((wrap64 (a1 * a0_0)) ≥ t164)), (by first | rfl | (simp; done) | (simp [*]; done)), H', ⟨by first | omega | exact Nat.le_refl _⟩, ⟨by (with_reducible repeat (first | refine blk_drewN ?_ _ | refine blk_drew ?_ | refine blk_alloc ?_ _)); exact BK163.out⟩, ⟨by repeat (first | (with_reducible first | exact HB.out | apply below_alloc | apply pw_below_drewN | apply below_drew1 | refine below_set ?_ GE163.out) | with_reducible_and_instances exact HB.out)⟩⟩
    case rest =>
      clear HC5
      try clear c1
      try clear c2
      try clear p2
      try clear c4
      try clear c4b0
      try clear c4b1
      try clear p6
      try clear c9
      try clear c9b0
      try clear c9b1
      try clear c10
      try clear c10b0
      try clear hcz11_0
      try clear hcz11_1
      try clear hcz11_10
      try clear hcz11_11
      try clear hcz11_2
      try clear hcz11_3
      try clear hcz11_4
      try clear hcz11_5
      try clear hcz11_6
      try clear hcz11_7
      try clear hcz11_8
      try clear hcz11_9
      try clear hcz7_0
      try clear hcz7_1
      try clear hcz7_10
      try clear hcz7_11
      try clear hcz7_2
      try clear hcz7_3
      try clear hcz7_4
      try clear hcz7_5
      try clear hcz7_6
      try clear hcz7_7
      try clear hcz7_8
      try clear hcz7_9
      try clear hfz11_0
      try clear hfz11_1
      try clear hfz11_10
      try clear hfz11_11
      try clear hfz11_2
      try clear hfz11_3
      try clear hfz11_4
      try clear hfz11_5
      try clear hfz11_6
      try clear hfz11_7
      try clear hfz11_8
      try clear hfz11_9
      try clear hfz7_0
      try clear hfz7_1
      try clear hfz7_10
      try clear hfz7_11
      try clear hfz7_2
      try clear hfz7_3
      try clear hfz7_4
      try clear hfz7_5
      try clear hfz7_6
      try clear hfz7_7
      try clear hfz7_8
      try clear hfz7_9
      obtain ⟨kq, x32_4, rfl, HA, HJ4, BK163, HB⟩ := hcut
      cases kq with
      | zero => exact absurd HA.out (by simp [skerryref05_Steps.j0])
      | succ kj4 =>
        have H := HA.out
        clear HA
        simp only [skerryref05_Steps.j0] at H
        by_cases c12 : x32_4 = true
        · subst c12
          have H1 : (some (([] : List Int), 2)) = some (r1, r2) := by rw [if_pos rfl] at H; exact H
          clear H
          have H := H1
          clear H1
          simp only [Option.some.injEq, Prod.mk.injEq] at H
          obtain ⟨rfl, rfl⟩ := H
          go_wp2
          go_ret2
          exact ⟨_, by first | rfl | (simp [errW_none, errW_some] <;> rfl) | (simp [*, errW_none, errW_some] <;> rfl), by first | exact Kd.R_nil _ _ _ _ _ | exact Kd.N_nil _ _ _ _ _ | exact Kd.V_nil _ _ _ _ _ | exact Kd.Q_nil _ _ _ _ _ | exact Kd.S_nil _ _ _ _ _, by repeat (first | (with_reducible first | exact HB.out | apply below_alloc | apply pw_below_drewN | apply below_drew1 | refine below_set ?_ GE163.out) | with_reducible_and_instances exact HB.out)⟩
        · replace c12 := Bool.eq_false_iff.mpr c12
          subst c12
          have H1 : (if a1 < 8 then (some ((([a1] : List Int)), 0)) else (if a1 < (wrap64 (8 + (wrap64 (Int.tdiv a0_0 2)))) then (some ((([8, wrap64 (a1 - 8)] : List Int)), 0)) else (if (wrap64 (Int.tdiv a0_0 2)) = 0 then (none) else (some ((([9, wrap64 (Int.tdiv (wrap64 ((wrap64 (a1 - 8)) - (wrap64 (Int.tdiv a0_0 2)))) (wrap64 (Int.tdiv a0_0 2))), Int.tmod (wrap64 ((wrap64 (a1 - 8)) - (wrap64 (Int.tdiv a0_0 2)))) (wrap64 (Int.tdiv a0_0 2))] : List Int)), 0))))) = some (r1, r2) := by rw [if_neg (show ¬ (false = true) by decide)] at H; exact H
          clear H
          have H := H1
          clear H1
          by_cases c13 : a1 < 8
          · rw [if_pos c13] at H
            have c13b0 : decide (a1 < 8) = true := decide_eq_true c13
            clear c13
            obtain ⟨y166, hy166⟩ : ∃ y_ : List Int, y_ = (([a1] : List Int)) := ⟨_, rfl⟩
            replace H : (some (y166, 0)) = some (r1, r2) := by first | (rw [hy166]; with_reducible exact H) | (have H2_ := (Option.bind_some _ _).symm.trans H; rw [hy166]; with_reducible exact H2_) | (have H2_ := (Option.bind_some _ _).symm.trans H; with_reducible exact H2_) | with_reducible exact H | (rw [hy166]; exact H) | exact H
            have Ny166 := Aside0.mk hy166
            clear hy166
            simp only [Option.some.injEq, Prod.mk.injEq] at H
            obtain ⟨rfl, rfl⟩ := H
            have hcz14_0 : wc.cell? ⟨gb163, 0, none⟩ = some (.int .i64 a0_0) := (blk_cell BK163.out 0).trans rfl
            have hcz14_1 : wc.cell? ⟨gb163, 1, none⟩ = some (.int .i64 a0_1) := (blk_cell BK163.out 1).trans rfl
            have hcz14_2 : wc.cell? ⟨gb163, 2, none⟩ = some (.int .i64 a0_2) := (blk_cell BK163.out 2).trans rfl
            have hcz14_3 : wc.cell? ⟨gb163, 3, none⟩ = some (.int .i64 a0_3) := (blk_cell BK163.out 3).trans rfl
            have hcz14_4 : wc.cell? ⟨gb163, 4, none⟩ = some (.int .i64 a0_4) := (blk_cell BK163.out 4).trans rfl
            have hcz14_5 : wc.cell? ⟨gb163, 5, none⟩ = some (.int .i64 a0_5) := (blk_cell BK163.out 5).trans rfl
            have hcz14_6 : wc.cell? ⟨gb163, 6, none⟩ = some (.int .i64 a0_6) := (blk_cell BK163.out 6).trans rfl
            have hcz14_7 : wc.cell? ⟨gb163, 7, none⟩ = some (.int .i64 a0_7) := (blk_cell BK163.out 7).trans rfl
            have hcz14_8 : wc.cell? ⟨gb163, 8, none⟩ = some (.int .i64 a0_8) := (blk_cell BK163.out 8).trans rfl
            have hcz14_9 : wc.cell? ⟨gb163, 9, none⟩ = some (.int .i64 a0_9) := (blk_cell BK163.out 9).trans rfl
            have hcz14_10 : wc.cell? ⟨gb163, 10, none⟩ = some (.int .i64 a0_10) := (blk_cell BK163.out 10).trans rfl
            have hcz14_11 : wc.cell? ⟨gb163, 11, none⟩ = some (.int .i64 a0_11) := (blk_cell BK163.out 11).trans rfl
            have hfz14_0 := blk_frozen BK163.out 0
            have hfz14_1 := blk_frozen BK163.out 1
            have hfz14_2 := blk_frozen BK163.out 2
            have hfz14_3 := blk_frozen BK163.out 3
            have hfz14_4 := blk_frozen BK163.out 4
            have hfz14_5 := blk_frozen BK163.out 5
            have hfz14_6 := blk_frozen BK163.out 6
            have hfz14_7 := blk_frozen BK163.out 7
            have hfz14_8 := blk_frozen BK163.out 8
            have hfz14_9 := blk_frozen BK163.out 9
            have hfz14_10 := blk_frozen BK163.out 10
            have hfz14_11 := blk_frozen BK163.out 11
            go_wp2_with (first | ((with_reducible refine gate_dst (N := 39) rfl ?_); refine Kd.R_lit (Kd.int .i64) _ 3 ?hg (N := 39) ?hd (xs := ([a1] : List Int)) (inner := [.int .i64 a1]) (ok := fun _ => True) (okp := fun _ => True) ?hr ?hp (fun _ hk => hk) trivial (Below.refl _ _) (Nat.le_refl _) (by simp) ?_; (case hd => rfl); (case hg => rfl); (case hr => first | (go_simp; done) | (go_simp; rfl)); (case hp => exact (Reps.one (show Kd.M (Kd.int .i64) _ _ _ a1 [.int .i64 a1] from rfl) (Reps.none _ _))); intro v167 w15 ho16 hb hg_ hnew_; clear hg_ hnew_; (first | rw [← Ny166.out] at ho16 | (simp only [Int.reduceToNat] at ho16; rw [← Ny166.out] at ho16)); have n0_ := Aside0.mk (Kd.R_lower ho16 (below_size (by repeat (first | (with_reducible first | exact HB.out | apply below_alloc | apply pw_below_drewN | apply below_drew1 | refine below_set ?_ GE163.out) | with_reducible_and_instances exact HB.out)))); have n1_ := Aside0.mk (blk_below (g := gb163) (o := .cells #[.int .i64 a0_0, .int .i64 a0_1, .int .i64 a0_2, .int .i64 a0_3, .int .i64 a0_4, .int .i64 a0_5, .int .i64 a0_6, .int .i64 a0_7, .int .i64 a0_8, .int .i64 a0_9, .int .i64 a0_10, .int .i64 a0_11] 24 (0, 0)) (by (with_reducible repeat (first | refine blk_drewN ?_ _ | refine blk_drew ?_ | refine blk_alloc ?_ _)); exact BK163.out) hb); have n2_ := Aside0.mk (below_step (by repeat (first | (with_reducible first | exact HB.out | apply below_alloc | apply pw_below_drewN | apply below_drew1 | refine below_set ?_ GE163.out) | with_reducible_and_instances exact HB.out)) hb); clear BK163; clear HB; have HO168 := n0_; have BK163 := n1_; have HB := n2_; clear n0_ n1_ n2_; clear hb ho16))
            go_ret2
            exact ⟨_, by first | rfl | (simp [errW_none, errW_some] <;> rfl) | (simp [*, errW_none, errW_some] <;> rfl), by (with_reducible repeat (first | apply Kd.R_alloc | apply Kd.R_drewN | apply Kd.R_drew)); exact HO168.out, by repeat (first | (with_reducible first | exact HB.out | apply below_alloc | apply pw_below_drewN | apply below_drew1 | refine below_set ?_ GE163.out) | with_reducible_and_instances exact HB.out)⟩
          · rw [if_neg c13] at H
            have c13b0 : decide (a1 < 8) = false := decide_eq_false c13
            clear c13
            by_cases c17 : a1 < (wrap64 (8 + (wrap64 (Int.tdiv a0_0 2))))
            · rw [if_pos c17] at H
              have c17b0 : decide (a1 < (wrap64 (8 + (wrap64 (Int.tdiv a0_0 2))))) = true := decide_eq_true c17
              clear c17
              obtain ⟨y169, hy169⟩ : ∃ y_ : List Int, y_ = (([8, wrap64 (a1 - 8)] : List Int)) := ⟨_, rfl⟩
              replace H : (some (y169, 0)) = some (r1, r2) := by first | (rw [hy169]; with_reducible exact H) | (have H2_ := (Option.bind_some _ _).symm.trans H; rw [hy169]; with_reducible exact H2_) | (have H2_ := (Option.bind_some _ _).symm.trans H; with_reducible exact H2_) | with_reducible exact H | (rw [hy169]; exact H) | exact H
              have Ny169 := Aside0.mk hy169
              clear hy169
              simp only [Option.some.injEq, Prod.mk.injEq] at H
              obtain ⟨rfl, rfl⟩ := H
              have hcz18_0 : wc.cell? ⟨gb163, 0, none⟩ = some (.int .i64 a0_0) := (blk_cell BK163.out 0).trans rfl
              have hcz18_1 : wc.cell? ⟨gb163, 1, none⟩ = some (.int .i64 a0_1) := (blk_cell BK163.out 1).trans rfl
              have hcz18_2 : wc.cell? ⟨gb163, 2, none⟩ = some (.int .i64 a0_2) := (blk_cell BK163.out 2).trans rfl
              have hcz18_3 : wc.cell? ⟨gb163, 3, none⟩ = some (.int .i64 a0_3) := (blk_cell BK163.out 3).trans rfl
              have hcz18_4 : wc.cell? ⟨gb163, 4, none⟩ = some (.int .i64 a0_4) := (blk_cell BK163.out 4).trans rfl
              have hcz18_5 : wc.cell? ⟨gb163, 5, none⟩ = some (.int .i64 a0_5) := (blk_cell BK163.out 5).trans rfl
              have hcz18_6 : wc.cell? ⟨gb163, 6, none⟩ = some (.int .i64 a0_6) := (blk_cell BK163.out 6).trans rfl
              have hcz18_7 : wc.cell? ⟨gb163, 7, none⟩ = some (.int .i64 a0_7) := (blk_cell BK163.out 7).trans rfl
              have hcz18_8 : wc.cell? ⟨gb163, 8, none⟩ = some (.int .i64 a0_8) := (blk_cell BK163.out 8).trans rfl
              have hcz18_9 : wc.cell? ⟨gb163, 9, none⟩ = some (.int .i64 a0_9) := (blk_cell BK163.out 9).trans rfl
              have hcz18_10 : wc.cell? ⟨gb163, 10, none⟩ = some (.int .i64 a0_10) := (blk_cell BK163.out 10).trans rfl
              have hcz18_11 : wc.cell? ⟨gb163, 11, none⟩ = some (.int .i64 a0_11) := (blk_cell BK163.out 11).trans rfl
              have hfz18_0 := blk_frozen BK163.out 0
              have hfz18_1 := blk_frozen BK163.out 1
              have hfz18_2 := blk_frozen BK163.out 2
              have hfz18_3 := blk_frozen BK163.out 3
              have hfz18_4 := blk_frozen BK163.out 4
              have hfz18_5 := blk_frozen BK163.out 5
              have hfz18_6 := blk_frozen BK163.out 6
              have hfz18_7 := blk_frozen BK163.out 7
              have hfz18_8 := blk_frozen BK163.out 8
              have hfz18_9 := blk_frozen BK163.out 9
              have hfz18_10 := blk_frozen BK163.out 10
              have hfz18_11 := blk_frozen BK163.out 11
              go_wp2_with (first | ((with_reducible refine gate_dst (N := 46) rfl ?_); refine Kd.R_lit (Kd.int .i64) _ 3 ?hg (N := 46) ?hd (xs := ([8, wrap64 (a1 - 8)] : List Int)) (inner := [.int .i64 8, .int .i64 (wrap64 (a1 - 8))]) (ok := fun _ => True) (okp := fun _ => True) ?hr ?hp (fun _ hk => hk) trivial (Below.refl _ _) (Nat.le_refl _) (by simp) ?_; (case hd => rfl); (case hg => rfl); (case hr => first | (go_simp; done) | (go_simp; rfl)); (case hp => exact (Reps.one (show Kd.M (Kd.int .i64) _ _ _ 8 [.int .i64 8] from rfl) (Reps.one (show Kd.M (Kd.int .i64) _ _ _ (wrap64 (a1 - 8)) [.int .i64 (wrap64 (a1 - 8))] from rfl) (Reps.none _ _)))); intro v170 w19 ho20 hb hg_ hnew_; clear hg_ hnew_; (first | rw [← Ny169.out] at ho20 | (simp only [Int.reduceToNat] at ho20; rw [← Ny169.out] at ho20)); have n0_ := Aside0.mk (Kd.R_lower ho20 (below_size (by repeat (first | (with_reducible first | exact HB.out | apply below_alloc | apply pw_below_drewN | apply below_drew1 | refine below_set ?_ GE163.out) | with_reducible_and_instances exact HB.out)))); have n1_ := Aside0.mk (blk_below (g := gb163) (o := .cells #[.int .i64 a0_0, .int .i64 a0_1, .int .i64 a0_2, .int .i64 a0_3, .int .i64 a0_4, .int .i64 a0_5, .int .i64 a0_6, .int .i64 a0_7, .int .i64 a0_8, .int .i64 a0_9, .int .i64 a0_10, .int .i64 a0_11] 24 (0, 0)) (by (with_reducible repeat (first | refine blk_drewN ?_ _ | refine blk_drew ?_ | refine blk_alloc ?_ _)); exact BK163.out) hb); have n2_ := Aside0.mk (below_step (by repeat (first | (with_reducible first | exact HB.out | apply below_alloc | apply pw_below_drewN | apply below_drew1 | refine below_set ?_ GE163.out) | with_reducible_and_instances exact HB.out)) hb); clear BK163; clear HB; have HO171 := n0_; have BK163 := n1_; have HB := n2_; clear n0_ n1_ n2_; clear hb ho20))
              go_ret2
              exact ⟨_, by first | rfl | (simp [errW_none, errW_some] <;> rfl) | (simp [*, errW_none, errW_some] <;> rfl), by (with_reducible repeat (first | apply Kd.R_alloc | apply Kd.R_drewN | apply Kd.R_drew)); exact HO171.out, by repeat (first | (with_reducible first | exact HB.out | apply below_alloc | apply pw_below_drewN | apply below_drew1 | refine below_set ?_ GE163.out) | with_reducible_and_instances exact HB.out)⟩
            · rw [if_neg c17] at H
              have c17b0 : decide (a1 < (wrap64 (8 + (wrap64 (Int.tdiv a0_0 2))))) = false := decide_eq_false c17
              clear c17
              by_cases c21 : (wrap64 (Int.tdiv a0_0 2)) = 0
              · rw [if_pos c21] at H
                exact absurd H (by simp)
              · rw [if_neg c21] at H
                have c21b0 : ((wrap64 (Int.tdiv a0_0 2)) == 0) = false := beq_eq_false_iff_ne.mpr c21
                have c21b1 : ((wrap64 (Int.tdiv a0_0 2)) != 0) = true := bne_iff_ne.mpr c21
                obtain ⟨y172, hy172⟩ : ∃ y_ : List Int, y_ = (([9, wrap64 (Int.tdiv (wrap64 ((wrap64 (a1 - 8)) - (wrap64 (Int.tdiv a0_0 2)))) (wrap64 (Int.tdiv a0_0 2))), Int.tmod (wrap64 ((wrap64 (a1 - 8)) - (wrap64 (Int.tdiv a0_0 2)))) (wrap64 (Int.tdiv a0_0 2))] : List Int)) := ⟨_, rfl⟩
                replace H : (some (y172, 0)) = some (r1, r2) := by first | (rw [hy172]; with_reducible exact H) | (have H2_ := (Option.bind_some _ _).symm.trans H; rw [hy172]; with_reducible exact H2_) | (have H2_ := (Option.bind_some _ _).symm.trans H; with_reducible exact H2_) | with_reducible exact H | (rw [hy172]; exact H) | exact H
                have Ny172 := Aside0.mk hy172
                clear hy172
                simp only [Option.some.injEq, Prod.mk.injEq] at H
                obtain ⟨rfl, rfl⟩ := H
                have hcz22_0 : wc.cell? ⟨gb163, 0, none⟩ = some (.int .i64 a0_0) := (blk_cell BK163.out 0).trans rfl
                have hcz22_1 : wc.cell? ⟨gb163, 1, none⟩ = some (.int .i64 a0_1) := (blk_cell BK163.out 1).trans rfl
                have hcz22_2 : wc.cell? ⟨gb163, 2, none⟩ = some (.int .i64 a0_2) := (blk_cell BK163.out 2).trans rfl
                have hcz22_3 : wc.cell? ⟨gb163, 3, none⟩ = some (.int .i64 a0_3) := (blk_cell BK163.out 3).trans rfl
                have hcz22_4 : wc.cell? ⟨gb163, 4, none⟩ = some (.int .i64 a0_4) := (blk_cell BK163.out 4).trans rfl
                have hcz22_5 : wc.cell? ⟨gb163, 5, none⟩ = some (.int .i64 a0_5) := (blk_cell BK163.out 5).trans rfl
                have hcz22_6 : wc.cell? ⟨gb163, 6, none⟩ = some (.int .i64 a0_6) := (blk_cell BK163.out 6).trans rfl
                have hcz22_7 : wc.cell? ⟨gb163, 7, none⟩ = some (.int .i64 a0_7) := (blk_cell BK163.out 7).trans rfl
                have hcz22_8 : wc.cell? ⟨gb163, 8, none⟩ = some (.int .i64 a0_8) := (blk_cell BK163.out 8).trans rfl
                have hcz22_9 : wc.cell? ⟨gb163, 9, none⟩ = some (.int .i64 a0_9) := (blk_cell BK163.out 9).trans rfl
                have hcz22_10 : wc.cell? ⟨gb163, 10, none⟩ = some (.int .i64 a0_10) := (blk_cell BK163.out 10).trans rfl
                have hcz22_11 : wc.cell? ⟨gb163, 11, none⟩ = some (.int .i64 a0_11) := (blk_cell BK163.out 11).trans rfl
                have hfz22_0 := blk_frozen BK163.out 0
                have hfz22_1 := blk_frozen BK163.out 1
                have hfz22_2 := blk_frozen BK163.out 2
                have hfz22_3 := blk_frozen BK163.out 3
                have hfz22_4 := blk_frozen BK163.out 4
                have hfz22_5 := blk_frozen BK163.out 5
                have hfz22_6 := blk_frozen BK163.out 6
                have hfz22_7 := blk_frozen BK163.out 7
                have hfz22_8 := blk_frozen BK163.out 8
                have hfz22_9 := blk_frozen BK163.out 9
                have hfz22_10 := blk_frozen BK163.out 10
                have hfz22_11 := blk_frozen BK163.out 11
                try go_wp2
                have n0_ := Aside0.mk (blk_drew BK163.out)
                have n1_ := Aside0.mk (below_drew1 HB.out)
                clear BK163
                clear HB
                have BK163 := n0_
                have HB := n1_
                clear n0_ n1_
                refine start_ (n := 9) (S := fun w' => True) (ds := []) #[false, false, false, false, false, false, false, false, false] (by kernel_rfl) rfl rfl trivial (fun hHeld => ?_); refine with_tabW skerryref05_Steps.tab12 skerryref05_Steps.bits12 (fun HT_ HW_ => ?_)
                generalize wc.drew = w23 at BK163 HB hHeld ⊢
                refine pure_ (i := 0) (N := some 51) (v := ?_) (a' := ?_) #[true, false, false, false, false, false, false, false, false] rfl rfl (any_of HT_.out (by kernel_rfl)) (fun _ _ _ h => h) (Or.inl ⟨by rfl, ?_⟩) ?_ ?_
                rotate_left
                · intro w'
                  go_simp
                  with_reducible rfl
                rotate_left
                · simp only [Act.put, List.setIfInBounds_toArray, List.set_cons_zero, List.set_cons_succ, i64_w, i32_w]
                  rfl
                refine pure_ (i := 1) (N := some 52) (v := ?_) (a' := ?_) #[true, true, false, false, false, false, false, false, false] rfl rfl (any_of HT_.out (by kernel_rfl)) (fun _ _ _ h => h) (Or.inl ⟨by rfl, ?_⟩) ?_ ?_
                rotate_left
                · intro w'
                  go_simp
                  with_reducible rfl
                rotate_left
                · simp only [Act.put, List.setIfInBounds_toArray, List.set_cons_zero, List.set_cons_succ, i64_w, i32_w]
                  rfl
                refine pure_ (i := 2) (N := some 53) (v := ?_) (a' := ?_) #[true, true, true, false, false, false, false, false, false] rfl rfl (any_of HT_.out (by kernel_rfl)) (fun _ _ _ h => h) (Or.inl ⟨by rfl, ?_⟩) ?_ ?_
                rotate_left
                · intro w'
                  go_simp
                  with_reducible rfl
                rotate_left
                · simp only [Act.put, List.setIfInBounds_toArray, List.set_cons_zero, List.set_cons_succ, i64_w, i32_w]
                  rfl
                refine pure_ (i := 3) (N := some 54) (v := ?_) (a' := ?_) #[true, true, true, true, false, false, false, false, false] rfl rfl (any_of HT_.out (by kernel_rfl)) (fun _ _ _ h => h) (Or.inl ⟨by rfl, ?_⟩) ?_ ?_
                rotate_left
                · intro w'
                  go_simp
                  with_reducible rfl
                rotate_left
                · simp only [Act.put, List.setIfInBounds_toArray, List.set_cons_zero, List.set_cons_succ, i64_w, i32_w]
                  rfl
                refine pure_ (i := 4) (N := some 55) (v := ?_) (a' := ?_) #[true, true, true, true, true, false, false, false, false] rfl rfl (any_of HT_.out (by kernel_rfl)) (fun _ _ _ h => h) (Or.inl ⟨by rfl, ?_⟩) ?_ ?_
                rotate_left
                · intro w'
                  go_simp
                  with_reducible rfl
                rotate_left
                · simp only [Act.put, List.setIfInBounds_toArray, List.set_cons_zero, List.set_cons_succ, i64_w, i32_w]
                  rfl
                refine pure_ (i := 5) (N := some 56) (v := ?_) (a' := ?_) #[true, true, true, true, true, true, false, false, false] rfl rfl (any_of HT_.out (by kernel_rfl)) (fun _ _ _ h => h) (Or.inl ⟨by rfl, ?_⟩) ?_ ?_
                rotate_left
                · intro w'
                  go_simp
                  with_reducible rfl
                rotate_left
                · simp only [Act.put, List.setIfInBounds_toArray, List.set_cons_zero, List.set_cons_succ, i64_w, i32_w]
                  rfl
                refine one_ (i := 6) (N := some 57) #[true, true, true, true, true, true, true, false, false] rfl rfl (one_of HT_.out (by kernel_rfl)) (by decide) (fun K hK => ?_)
                refine Kd.R_lit_step (Kd.int .i64) _ 3 ?hg (N := 57) ?hd (xs := ([9, wrap64 (Int.tdiv (wrap64 ((wrap64 (a1 - 8)) - (wrap64 (Int.tdiv a0_0 2)))) (wrap64 (Int.tdiv a0_0 2))), Int.tmod (wrap64 ((wrap64 (a1 - 8)) - (wrap64 (Int.tdiv a0_0 2)))) (wrap64 (Int.tdiv a0_0 2))] : List Int)) (inner := [.int .i64 9, .int .i64 (wrap64 (Int.tdiv (wrap64 ((wrap64 (a1 - 8)) - (wrap64 (Int.tdiv a0_0 2)))) (wrap64 (Int.tdiv a0_0 2)))), .int .i64 (Int.tmod (wrap64 ((wrap64 (a1 - 8)) - (wrap64 (Int.tdiv a0_0 2)))) (wrap64 (Int.tdiv a0_0 2)))]) (ok := fun _ => True) (okp := fun _ => True) ?hr ?hp (fun _ hk => hk) trivial (Below.refl _ _) (Nat.le_refl _) (by simp) ?_; (case hd => rfl); (case hg => rfl); (case hr => first | (go_simp; done) | (go_simp; rfl)); (case hp => exact (Reps.one (show Kd.M (Kd.int .i64) _ _ _ 9 [.int .i64 9] from rfl) (Reps.one (show Kd.M (Kd.int .i64) _ _ _ (wrap64 (Int.tdiv (wrap64 ((wrap64 (a1 - 8)) - (wrap64 (Int.tdiv a0_0 2)))) (wrap64 (Int.tdiv a0_0 2)))) [.int .i64 (wrap64 (Int.tdiv (wrap64 ((wrap64 (a1 - 8)) - (wrap64 (Int.tdiv a0_0 2)))) (wrap64 (Int.tdiv a0_0 2))))] from rfl) (Reps.one (show Kd.M (Kd.int .i64) _ _ _ (Int.tmod (wrap64 ((wrap64 (a1 - 8)) - (wrap64 (Int.tdiv a0_0 2)))) (wrap64 (Int.tdiv a0_0 2))) [.int .i64 (Int.tmod (wrap64 ((wrap64 (a1 - 8)) - (wrap64 (Int.tdiv a0_0 2)))) (wrap64 (Int.tdiv a0_0 2)))] from rfl) (Reps.none _ _)))))
                intro v173 w24 ho25 hb hg_ hnew_
                clear hg_ hnew_
                (first | rw [← Ny172.out] at ho25 | (simp only [Int.reduceToNat] at ho25; rw [← Ny172.out] at ho25))
                have n0_ := Aside0.mk (Kd.R_lower ho25 (below_size (by repeat (first | (with_reducible first | exact HB.out | apply below_alloc | apply pw_below_drewN | apply below_drew1 | refine below_set ?_ GE163.out) | with_reducible_and_instances exact HB.out))))
                have n1_ := Aside0.mk (blk_below (g := gb163) (o := .cells #[.int .i64 a0_0, .int .i64 a0_1, .int .i64 a0_2, .int .i64 a0_3, .int .i64 a0_4, .int .i64 a0_5, .int .i64 a0_6, .int .i64 a0_7, .int .i64 a0_8, .int .i64 a0_9, .int .i64 a0_10, .int .i64 a0_11] 24 (0, 0)) (by (with_reducible repeat (first | refine blk_drewN ?_ _ | refine blk_drew ?_ | refine blk_alloc ?_ _)); exact BK163.out) hb)
                have n2_ := Aside0.mk (below_step (by repeat (first | (with_reducible first | exact HB.out | apply below_alloc | apply pw_below_drewN | apply below_drew1 | refine below_set ?_ GE163.out) | with_reducible_and_instances exact HB.out)) hb)
                clear BK163
                clear HB
                have HO174 := n0_
                have BK163 := n1_
                have HB := n2_
                clear n0_ n1_ n2_
                clear hb ho25
                refine hK.out _ _ trivial (fun hHeld => ?_)
                clear hK K
                refine norm_ (a' := ?_) ?_ ?_
                rotate_left
                · show Act.put _ (some 57) _ = _
                  simp only [Act.put, List.setIfInBounds_toArray, List.set_cons_zero, List.set_cons_succ, i64_w, i32_w]
                  rfl
                refine pure_ (i := 7) (N := some 4) (v := ?_) (a' := ?_) #[true, true, true, true, true, true, true, true, false] rfl rfl (any_of HT_.out (by kernel_rfl)) (fun _ _ _ h => h) (Or.inl ⟨by rfl, ?_⟩) ?_ ?_
                rotate_left
                · intro w'
                  go_simp
                  with_reducible rfl
                rotate_left
                · simp only [Act.put, List.setIfInBounds_toArray, List.set_cons_zero, List.set_cons_succ, i64_w, i32_w]
                  rfl
                refine pure_ (i := 8) (N := some 5) (v := ?_) (a' := ?_) #[true, true, true, true, true, true, true, true, true] rfl rfl (any_of HT_.out (by kernel_rfl)) (fun _ _ _ h => h) (Or.inl ⟨by rfl, ?_⟩) ?_ ?_
                rotate_left
                · intro w'
                  go_simp
                  with_reducible rfl
                rotate_left
                · simp only [Act.put, List.setIfInBounds_toArray, List.set_cons_zero, List.set_cons_succ, i64_w, i32_w]
                  rfl
                refine done_ (done_of HT_.out (by kernel_rfl)) ?_
                try go_wp2
                go_ret2
                exact ⟨_, by first | rfl | (simp [errW_none, errW_some] <;> rfl) | (simp [*, errW_none, errW_some] <;> rfl), by (with_reducible repeat (first | apply Kd.R_alloc | apply Kd.R_drewN | apply Kd.R_drew)); exact HO174.out, by repeat (first | (with_reducible first | exact HB.out | apply below_alloc | apply pw_below_drewN | apply below_drew1 | refine below_set ?_ GE163.out) | with_reducible_and_instances exact HB.out)⟩
  · rw [if_neg c4] at H
    have c4b0 : (t165 == 0) = false := beq_eq_false_iff_ne.mpr c4
    have c4b1 : (t165 != 0) = true := bne_iff_ne.mpr c4
    simp only [Option.some.injEq, Prod.mk.injEq] at H
    obtain ⟨rfl, rfl⟩ := H
    go_enter Try.func18, Try.ntmps18
    go_wp2_with (first | ((with_reducible refine gate_dst (N := 2) rfl ?_); refine box_event ?hg (N := 2) ?hd (cs := #[.int .i64 a0_0, .int .i64 a0_1, .int .i64 a0_2, .int .i64 a0_3, .int .i64 a0_4, .int .i64 a0_5, .int .i64 a0_6, .int .i64 a0_7, .int .i64 a0_8, .int .i64 a0_9, .int .i64 a0_10, .int .i64 a0_11]) (t := 24) ?hr ?_; (case hd => rfl); (case hg => rfl); (case hr => first | (go_simp; done) | (go_simp; rfl)); intro gb163 hg w26 hbox hb; have n0_ := Aside0.mk (below_step (by repeat (first | (with_reducible first | exact HB.out | apply below_alloc | apply pw_below_drewN | apply below_drew1) | with_reducible_and_instances exact HB.out)) hb); have n1_ := Aside0.mk (hbox); have n2_ := Aside0.mk ((by rw [hg]; exact (below_size (by repeat (first | (with_reducible first | exact HB.out | apply below_alloc | apply pw_below_drewN | apply below_drew1) | with_reducible_and_instances exact HB.out))) : w.heap.size ≤ gb163)); have n3_ := Aside0.mk ((by rw [hg]; exact (below_size (by repeat (first | (with_reducible first | exact HB.out | apply below_alloc | apply pw_below_drewN | apply below_drew1) | with_reducible_and_instances exact HB.out))) : w.heap.size ≤ gb163)); clear HB; have HB := n0_; have BK163 := n1_; have GW163 := n2_; have GE163 := n3_; clear n0_ n1_ n2_ n3_; clear hb hbox hg; have hcz27_0 : w26.cell? ⟨gb163, 0, none⟩ = some (.int .i64 a0_0) := (blk_cell BK163.out 0).trans rfl; have hcz27_1 : w26.cell? ⟨gb163, 1, none⟩ = some (.int .i64 a0_1) := (blk_cell BK163.out 1).trans rfl; have hcz27_2 : w26.cell? ⟨gb163, 2, none⟩ = some (.int .i64 a0_2) := (blk_cell BK163.out 2).trans rfl; have hcz27_3 : w26.cell? ⟨gb163, 3, none⟩ = some (.int .i64 a0_3) := (blk_cell BK163.out 3).trans rfl; have hcz27_4 : w26.cell? ⟨gb163, 4, none⟩ = some (.int .i64 a0_4) := (blk_cell BK163.out 4).trans rfl; have hcz27_5 : w26.cell? ⟨gb163, 5, none⟩ = some (.int .i64 a0_5) := (blk_cell BK163.out 5).trans rfl; have hcz27_6 : w26.cell? ⟨gb163, 6, none⟩ = some (.int .i64 a0_6) := (blk_cell BK163.out 6).trans rfl; have hcz27_7 : w26.cell? ⟨gb163, 7, none⟩ = some (.int .i64 a0_7) := (blk_cell BK163.out 7).trans rfl; have hcz27_8 : w26.cell? ⟨gb163, 8, none⟩ = some (.int .i64 a0_8) := (blk_cell BK163.out 8).trans rfl; have hcz27_9 : w26.cell? ⟨gb163, 9, none⟩ = some (.int .i64 a0_9) := (blk_cell BK163.out 9).trans rfl; have hcz27_10 : w26.cell? ⟨gb163, 10, none⟩ = some (.int .i64 a0_10) := (blk_cell BK163.out 10).trans rfl; have hcz27_11 : w26.cell? ⟨gb163, 11, none⟩ = some (.int .i64 a0_11) := (blk_cell BK163.out 11).trans rfl; have hfz27_0 := blk_frozen BK163.out 0; have hfz27_1 := blk_frozen BK163.out 1; have hfz27_2 := blk_frozen BK163.out 2; have hfz27_3 := blk_frozen BK163.out 3; have hfz27_4 := blk_frozen BK163.out 4; have hfz27_5 := blk_frozen BK163.out 5; have hfz27_6 := blk_frozen BK163.out 6; have hfz27_7 := blk_frozen BK163.out 7; have hfz27_8 := blk_frozen BK163.out 8; have hfz27_9 := blk_frozen BK163.out 9; have hfz27_10 := blk_frozen BK163.out 10; have hfz27_11 := blk_frozen BK163.out 11) | ((with_reducible refine gate_callee (f := 20) rfl ?_); refine goesL_ (some 12) rfl rfl Try.func20 (by kernel_rfl) rfl #[.agg #[.int .i64 a0_0, .int .i64 a0_1, .int .i64 a0_2, .int .i64 a0_3, .int .i64 a0_4, .int .i64 a0_5, .int .i64 a0_6, .int .i64 a0_7, .int .i64 a0_8, .int .i64 a0_9, .int .i64 a0_10, .int .i64 a0_11]] rfl (by (try simp only [List.map_toArray, List.map_cons, List.map_nil]); first | done | rfl | (simp only [List.length_drop, List.length_take]; rfl) | (simp only [Int.toNat_natCast, Nat.sub_self, List.length_drop, List.length_take]; rfl)) ?_; (with_reducible refine (skerryref05_MaxSize.calls k a0_0 a0_1 a0_2 a0_3 a0_4 a0_5 a0_6 a0_7 a0_8 a0_9 a0_10 a0_11 t164 t165 _ A3.out).mono ?_); rintro e w28 ⟨rfl, hb⟩; refine ⟨_, rfl, ?_⟩; have n0_ := Aside0.mk (blk_below (g := gb163) (o := .cells #[.int .i64 a0_0, .int .i64 a0_1, .int .i64 a0_2, .int .i64 a0_3, .int .i64 a0_4, .int .i64 a0_5, .int .i64 a0_6, .int .i64 a0_7, .int .i64 a0_8, .int .i64 a0_9, .int .i64 a0_10, .int .i64 a0_11] 24 (0, 0)) (by (with_reducible repeat (first | refine blk_drewN ?_ _ | refine blk_drew ?_ | refine blk_alloc ?_ _)); exact BK163.out) hb); have n1_ := Aside0.mk (below_step (by repeat (first | (with_reducible first | exact HB.out | apply below_alloc | apply pw_below_drewN | apply below_drew1 | refine below_set ?_ GE163.out) | with_reducible_and_instances exact HB.out)) hb); clear BK163; clear HB; have BK163 := n0_; have HB := n1_; clear n0_ n1_; (try clear hb); (try clear hb2); (try clear hk); (try clear hi)))
    go_ret2
    exact ⟨_, by first | rfl | (simp [errW_none, errW_some] <;> rfl) | (simp [*, errW_none, errW_some] <;> rfl), by first | exact Kd.R_nil _ _ _ _ _ | exact Kd.N_nil _ _ _ _ _ | exact Kd.V_nil _ _ _ _ _ | exact Kd.Q_nil _ _ _ _ _ | exact Kd.S_nil _ _ _ _ _, by repeat (first | (with_reducible first | exact HB.out | apply below_alloc | apply pw_below_drewN | apply below_drew1 | refine below_set ?_ GE163.out) | with_reducible_and_instances exact HB.out)⟩

/-! ### plan_Whole: function 21 -/
def plan_Whole.f (a0_0 : Int) (a0_1 : Int) (a0_2 : Int) (a0_3 : Int) (a0_4 : Int) (a0_5 : Int) (a0_6 : Int) (a0_7 : Int) (a0_8 : Int) (a0_9 : Int) (a0_10 : Int) (a0_11 : Int) (a1 : Int) : Option (Int × Int × Int) := (plan_MaxSize.f a0_0 a0_1 a0_2 a0_3 a0_4 a0_5 a0_6 a0_7 a0_8 a0_9 a0_10 a0_11).bind fun bt176 => (if bt176.2 = 0 then ((plan_within.f a1 0 bt176.1).bind fun t178 => (if t178 = true then ((plan_share.f a1 a0_0).bind fun t179 => (if t179 > 8 then (if (wrap64 ((wrap64 (t179 - 8)) - (wrap64 (Int.tdiv a0_0 2)))) > 0 then ((plan_share.f (wrap64 ((wrap64 (t179 - 8)) - (wrap64 (Int.tdiv a0_0 2)))) (wrap64 (Int.tdiv a0_0 2))).bind fun t180 => (some (t179, wrap64 ((0 + 1) + (wrap64 (1 + t180))), 0))) else (some (t179, 0 + 1, 0))) else (if (wrap64 ((wrap64 (t179 - 8)) - (wrap64 (Int.tdiv a0_0 2)))) > 0 then ((plan_share.f (wrap64 ((wrap64 (t179 - 8)) - (wrap64 (Int.tdiv a0_0 2)))) (wrap64 (Int.tdiv a0_0 2))).bind fun t181 => (some (t179, wrap64 (0 + (wrap64 (1 + t181))), 0))) else (some (t179, 0, 0))))) else (some (0, 0, 2)))) else (some (0, 0, bt176.2)))
set_option maxHeartbeats 8000000 in
set_option maxRecDepth 100000 in
theorem plan_Whole.calls (a0_0 : Int) (a0_1 : Int) (a0_2 : Int) (a0_3 : Int) (a0_4 : Int) (a0_5 : Int) (a0_6 : Int) (a0_7 : Int) (a0_8 : Int) (a0_9 : Int) (a0_10 : Int) (a0_11 : Int) (a1 : Int) (r1 : Int) (r2 : Int) (r3 : Int) (w : World) (h : plan_Whole.f a0_0 a0_1 a0_2 a0_3 a0_4 a0_5 a0_6 a0_7 a0_8 a0_9 a0_10 a0_11 a1 = some (r1, r2, r3)) :
    Calls Try.prog 21 #[.agg #[.int .i64 a0_0, .int .i64 a0_1, .int .i64 a0_2, .int .i64 a0_3, .int .i64 a0_4, .int .i64 a0_5, .int .i64 a0_6, .int .i64 a0_7, .int .i64 a0_8, .int .i64 a0_9, .int .i64 a0_10, .int .i64 a0_11], .int .i64 a1] w fun e w' => e = .returned (.tuple #[.int .i64 r1, .int .i64 r2, .int .i64 r3]) ∧ Below w.heap.size w w' := by
  have hu24 := Try.underlying24
  have HB := Aside0.mk (Below.refl w.heap.size w)
  have H : ((plan_MaxSize.f a0_0 a0_1 a0_2 a0_3 a0_4 a0_5 a0_6 a0_7 a0_8 a0_9 a0_10 a0_11).bind fun bt176 => (if bt176.2 = 0 then ((plan_within.f a1 0 bt176.1).bind fun t178 => (if t178 = true then ((plan_share.f a1 a0_0).bind fun t179 => (if t179 > 8 then (if (wrap64 ((wrap64 (t179 - 8)) - (wrap64 (Int.tdiv a0_0 2)))) > 0 then ((plan_share.f (wrap64 ((wrap64 (t179 - 8)) - (wrap64 (Int.tdiv a0_0 2)))) (wrap64 (Int.tdiv a0_0 2))).bind fun t180 => (some (t179, wrap64 ((0 + 1) + (wrap64 (1 + t180))), 0))) else (some (t179, 0 + 1, 0))) else (if (wrap64 ((wrap64 (t179 - 8)) - (wrap64 (Int.tdiv a0_0 2)))) > 0 then ((plan_share.f (wrap64 ((wrap64 (t179 - 8)) - (wrap64 (Int.tdiv a0_0 2)))) (wrap64 (Int.tdiv a0_0 2))).bind fun t181 => (some (t179, wrap64 (0 + (wrap64 (1 + t181))), 0))) else (some (t179, 0, 0))))) else (some (0, 0, 2)))) else (some (0, 0, bt176.2)))) = some (r1, r2, r3) := h
  clear h
  replace H := Option.bind_eq_some_iff.mp H
  obtain ⟨⟨t176, t177⟩, A30, H⟩ := H
  replace H : (if t177 = 0 then ((plan_within.f a1 0 t176).bind fun t178 => (if t178 = true then ((plan_share.f a1 a0_0).bind fun t179 => (if t179 > 8 then (if (wrap64 ((wrap64 (t179 - 8)) - (wrap64 (Int.tdiv a0_0 2)))) > 0 then ((plan_share.f (wrap64 ((wrap64 (t179 - 8)) - (wrap64 (Int.tdiv a0_0 2)))) (wrap64 (Int.tdiv a0_0 2))).bind fun t180 => (some (t179, wrap64 ((0 + 1) + (wrap64 (1 + t180))), 0))) else (some (t179, 0 + 1, 0))) else (if (wrap64 ((wrap64 (t179 - 8)) - (wrap64 (Int.tdiv a0_0 2)))) > 0 then ((plan_share.f (wrap64 ((wrap64 (t179 - 8)) - (wrap64 (Int.tdiv a0_0 2)))) (wrap64 (Int.tdiv a0_0 2))).bind fun t181 => (some (t179, wrap64 (0 + (wrap64 (1 + t181))), 0))) else (some (t179, 0, 0))))) else (some (0, 0, 2)))) else (some (0, 0, t177))) = some (r1, r2, r3) := H
  have A3 := Aside0.mk A30
  clear A30
  by_cases c4 : t177 = 0
  · rw [if_pos c4] at H
    have c4b0 : (t177 == 0) = true := beq_iff_eq.mpr c4
    have c4b1 : (t177 != 0) = false := bne_eq_false_iff_eq.mpr c4
    clear c4
    replace H := Option.bind_eq_some_iff.mp H
    obtain ⟨t178, A50, H⟩ := H
    replace H : (if t178 = true then ((plan_share.f a1 a0_0).bind fun t179 => (if t179 > 8 then (if (wrap64 ((wrap64 (t179 - 8)) - (wrap64 (Int.tdiv a0_0 2)))) > 0 then ((plan_share.f (wrap64 ((wrap64 (t179 - 8)) - (wrap64 (Int.tdiv a0_0 2)))) (wrap64 (Int.tdiv a0_0 2))).bind fun t180 => (some (t179, wrap64 ((0 + 1) + (wrap64 (1 + t180))), 0))) else (some (t179, 0 + 1, 0))) else (if (wrap64 ((wrap64 (t179 - 8)) - (wrap64 (Int.tdiv a0_0 2)))) > 0 then ((plan_share.f (wrap64 ((wrap64 (t179 - 8)) - (wrap64 (Int.tdiv a0_0 2)))) (wrap64 (Int.tdiv a0_0 2))).bind fun t181 => (some (t179, wrap64 (0 + (wrap64 (1 + t181))), 0))) else (some (t179, 0, 0))))) else (some (0, 0, 2))) = some (r1, r2, r3) := H
    have A5 := Aside0.mk A50
    clear A50
    by_cases c6 : t178 = true
    · subst c6
      have H1 : ((plan_share.f a1 a0_0).bind fun t179 => (if t179 > 8 then (if (wrap64 ((wrap64 (t179 - 8)) - (wrap64 (Int.tdiv a0_0 2)))) > 0 then ((plan_share.f (wrap64 ((wrap64 (t179 - 8)) - (wrap64 (Int.tdiv a0_0 2)))) (wrap64 (Int.tdiv a0_0 2))).bind fun t180 => (some (t179, wrap64 ((0 + 1) + (wrap64 (1 + t180))), 0))) else (some (t179, 0 + 1, 0))) else (if (wrap64 ((wrap64 (t179 - 8)) - (wrap64 (Int.tdiv a0_0 2)))) > 0 then ((plan_share.f (wrap64 ((wrap64 (t179 - 8)) - (wrap64 (Int.tdiv a0_0 2)))) (wrap64 (Int.tdiv a0_0 2))).bind fun t181 => (some (t179, wrap64 (0 + (wrap64 (1 + t181))), 0))) else (some (t179, 0, 0))))) = some (r1, r2, r3) := by rw [if_pos rfl] at H; exact H
      clear H
      have H := H1
      clear H1
      replace H := Option.bind_eq_some_iff.mp H
      obtain ⟨t179, A70, H⟩ := H
      replace H : (if t179 > 8 then (if (wrap64 ((wrap64 (t179 - 8)) - (wrap64 (Int.tdiv a0_0 2)))) > 0 then ((plan_share.f (wrap64 ((wrap64 (t179 - 8)) - (wrap64 (Int.tdiv a0_0 2)))) (wrap64 (Int.tdiv a0_0 2))).bind fun t180 => (some (t179, wrap64 ((0 + 1) + (wrap64 (1 + t180))), 0))) else (some (t179, 0 + 1, 0))) else (if (wrap64 ((wrap64 (t179 - 8)) - (wrap64 (Int.tdiv a0_0 2)))) > 0 then ((plan_share.f (wrap64 ((wrap64 (t179 - 8)) - (wrap64 (Int.tdiv a0_0 2)))) (wrap64 (Int.tdiv a0_0 2))).bind fun t181 => (some (t179, wrap64 (0 + (wrap64 (1 + t181))), 0))) else (some (t179, 0, 0)))) = some (r1, r2, r3) := H
      have A7 := Aside0.mk A70
      clear A70
      by_cases c8 : t179 > 8
      · rw [if_pos c8] at H
        have c8b0 : decide (8 < t179) = true := decide_eq_true c8
        clear c8
        by_cases c9 : (wrap64 ((wrap64 (t179 - 8)) - (wrap64 (Int.tdiv a0_0 2)))) > 0
        · rw [if_pos c9] at H
          have c9b0 : decide (0 < (wrap64 ((wrap64 (t179 - 8)) - (wrap64 (Int.tdiv a0_0 2))))) = true := decide_eq_true c9
          clear c9
          replace H := Option.bind_eq_some_iff.mp H
          obtain ⟨t180, A100, H⟩ := H
          replace H : (some (t179, wrap64 ((0 + 1) + (wrap64 (1 + t180))), 0)) = some (r1, r2, r3) := H
          have A10 := Aside0.mk A100
          clear A100
          simp only [Option.some.injEq, Prod.mk.injEq] at H
          obtain ⟨rfl, rfl, rfl⟩ := H
          go_enter Try.func21, Try.ntmps21
          go_wp2_with (first | ((with_reducible refine gate_dst (N := 2) rfl ?_); refine box_event ?hg (N := 2) ?hd (cs := #[.int .i64 a0_0, .int .i64 a0_1, .int .i64 a0_2, .int .i64 a0_3, .int .i64 a0_4, .int .i64 a0_5, .int .i64 a0_6, .int .i64 a0_7, .int .i64 a0_8, .int .i64 a0_9, .int .i64 a0_10, .int .i64 a0_11]) (t := 24) ?hr ?_; (case hd => rfl); (case hg => rfl); (case hr => first | (go_simp; done) | (go_simp; rfl)); intro gb175 hg w11 hbox hb; have n0_ := Aside0.mk (below_step (by repeat (first | (with_reducible first | exact HB.out | apply below_alloc | apply pw_below_drewN | apply below_drew1) | with_reducible_and_instances exact HB.out)) hb); have n1_ := Aside0.mk (hbox); have n2_ := Aside0.mk ((by rw [hg]; exact (below_size (by repeat (first | (with_reducible first | exact HB.out | apply below_alloc | apply pw_below_drewN | apply below_drew1) | with_reducible_and_instances exact HB.out))) : w.heap.size ≤ gb175)); have n3_ := Aside0.mk ((by rw [hg]; exact (below_size (by repeat (first | (with_reducible first | exact HB.out | apply below_alloc | apply pw_below_drewN | apply below_drew1) | with_reducible_and_instances exact HB.out))) : w.heap.size ≤ gb175)); clear HB; have HB := n0_; have BK175 := n1_; have GW175 := n2_; have GE175 := n3_; clear n0_ n1_ n2_ n3_; clear hb hbox hg; have hcz12_0 : w11.cell? ⟨gb175, 0, none⟩ = some (.int .i64 a0_0) := (blk_cell BK175.out 0).trans rfl; have hcz12_1 : w11.cell? ⟨gb175, 1, none⟩ = some (.int .i64 a0_1) := (blk_cell BK175.out 1).trans rfl; have hcz12_2 : w11.cell? ⟨gb175, 2, none⟩ = some (.int .i64 a0_2) := (blk_cell BK175.out 2).trans rfl; have hcz12_3 : w11.cell? ⟨gb175, 3, none⟩ = some (.int .i64 a0_3) := (blk_cell BK175.out 3).trans rfl; have hcz12_4 : w11.cell? ⟨gb175, 4, none⟩ = some (.int .i64 a0_4) := (blk_cell BK175.out 4).trans rfl; have hcz12_5 : w11.cell? ⟨gb175, 5, none⟩ = some (.int .i64 a0_5) := (blk_cell BK175.out 5).trans rfl; have hcz12_6 : w11.cell? ⟨gb175, 6, none⟩ = some (.int .i64 a0_6) := (blk_cell BK175.out 6).trans rfl; have hcz12_7 : w11.cell? ⟨gb175, 7, none⟩ = some (.int .i64 a0_7) := (blk_cell BK175.out 7).trans rfl; have hcz12_8 : w11.cell? ⟨gb175, 8, none⟩ = some (.int .i64 a0_8) := (blk_cell BK175.out 8).trans rfl; have hcz12_9 : w11.cell? ⟨gb175, 9, none⟩ = some (.int .i64 a0_9) := (blk_cell BK175.out 9).trans rfl; have hcz12_10 : w11.cell? ⟨gb175, 10, none⟩ = some (.int .i64 a0_10) := (blk_cell BK175.out 10).trans rfl; have hcz12_11 : w11.cell? ⟨gb175, 11, none⟩ = some (.int .i64 a0_11) := (blk_cell BK175.out 11).trans rfl; have hfz12_0 := blk_frozen BK175.out 0; have hfz12_1 := blk_frozen BK175.out 1; have hfz12_2 := blk_frozen BK175.out 2; have hfz12_3 := blk_frozen BK175.out 3; have hfz12_4 := blk_frozen BK175.out 4; have hfz12_5 := blk_frozen BK175.out 5; have hfz12_6 := blk_frozen BK175.out 6; have hfz12_7 := blk_frozen BK175.out 7; have hfz12_8 := blk_frozen BK175.out 8; have hfz12_9 := blk_frozen BK175.out 9; have hfz12_10 := blk_frozen BK175.out 10; have hfz12_11 := blk_frozen BK175.out 11) | ((with_reducible refine gate_callee (f := 19) rfl ?_); refine goesL_ (some 12) rfl rfl Try.func19 (by kernel_rfl) rfl #[.agg #[.int .i64 a0_0, .int .i64 a0_1, .int .i64 a0_2, .int .i64 a0_3, .int .i64 a0_4, .int .i64 a0_5, .int .i64 a0_6, .int .i64 a0_7, .int .i64 a0_8, .int .i64 a0_9, .int .i64 a0_10, .int .i64 a0_11]] rfl (by (try simp only [List.map_toArray, List.map_cons, List.map_nil]); first | done | rfl | (simp only [List.length_drop, List.length_take]; rfl) | (simp only [Int.toNat_natCast, Nat.sub_self, List.length_drop, List.length_take]; rfl)) ?_; (with_reducible refine (plan_MaxSize.calls a0_0 a0_1 a0_2 a0_3 a0_4 a0_5 a0_6 a0_7 a0_8 a0_9 a0_10 a0_11 t176 t177 _ A3.out).mono ?_); rintro e w13 ⟨rfl, hb⟩; refine ⟨_, rfl, ?_⟩; have n0_ := Aside0.mk (blk_below (g := gb175) (o := .cells #[.int .i64 a0_0, .int .i64 a0_1, .int .i64 a0_2, .int .i64 a0_3, .int .i64 a0_4, .int .i64 a0_5, .int .i64 a0_6, .int .i64 a0_7, .int .i64 a0_8, .int .i64 a0_9, .int .i64 a0_10, .int .i64 a0_11] 24 (0, 0)) (by (with_reducible repeat (first | refine blk_drewN ?_ _ | refine blk_drew ?_ | refine blk_alloc ?_ _)); exact BK175.out) hb); have n1_ := Aside0.mk (below_step (by repeat (first | (with_reducible first | exact HB.out | apply below_alloc | apply pw_below_drewN | apply below_drew1 | refine below_set ?_ GE175.out) | with_reducible_and_instances exact HB.out)) hb); clear BK175; clear HB; have BK175 := n0_; have HB := n1_; clear n0_ n1_; (try clear hb); (try clear hb2); (try clear hk); (try clear hi)) | ((with_reducible refine gate_callee (f := 24) rfl ?_); refine goesL_ (some 20) rfl rfl Try.func24 (by kernel_rfl) rfl #[.int .i64 a1, .int .i64 0, .int .i64 t176] rfl (by (try simp only [List.map_toArray, List.map_cons, List.map_nil]); first | done | rfl | (simp only [List.length_drop, List.length_take]; rfl) | (simp only [Int.toNat_natCast, Nat.sub_self, List.length_drop, List.length_take]; rfl)) ?_; (with_reducible refine (plan_within.calls a1 0 t176 true _ A5.out).mono ?_); rintro e w' ⟨rfl, ⟨nd, rfl⟩⟩; refine ⟨_, rfl, ?_⟩; have hcz14_0 : w13.cell? ⟨gb175, 0, none⟩ = some (.int .i64 a0_0) := (blk_cell BK175.out 0).trans rfl; have hcz14_1 : w13.cell? ⟨gb175, 1, none⟩ = some (.int .i64 a0_1) := (blk_cell BK175.out 1).trans rfl; have hcz14_2 : w13.cell? ⟨gb175, 2, none⟩ = some (.int .i64 a0_2) := (blk_cell BK175.out 2).trans rfl; have hcz14_3 : w13.cell? ⟨gb175, 3, none⟩ = some (.int .i64 a0_3) := (blk_cell BK175.out 3).trans rfl; have hcz14_4 : w13.cell? ⟨gb175, 4, none⟩ = some (.int .i64 a0_4) := (blk_cell BK175.out 4).trans rfl; have hcz14_5 : w13.cell? ⟨gb175, 5, none⟩ = some (.int .i64 a0_5) := (blk_cell BK175.out 5).trans rfl; have hcz14_6 : w13.cell? ⟨gb175, 6, none⟩ = some (.int .i64 a0_6) := (blk_cell BK175.out 6).trans rfl; have hcz14_7 : w13.cell? ⟨gb175, 7, none⟩ = some (.int .i64 a0_7) := (blk_cell BK175.out 7).trans rfl; have hcz14_8 : w13.cell? ⟨gb175, 8, none⟩ = some (.int .i64 a0_8) := (blk_cell BK175.out 8).trans rfl; have hcz14_9 : w13.cell? ⟨gb175, 9, none⟩ = some (.int .i64 a0_9) := (blk_cell BK175.out 9).trans rfl; have hcz14_10 : w13.cell? ⟨gb175, 10, none⟩ = some (.int .i64 a0_10) := (blk_cell BK175.out 10).trans rfl; have hcz14_11 : w13.cell? ⟨gb175, 11, none⟩ = some (.int .i64 a0_11) := (blk_cell BK175.out 11).trans rfl; have hfz14_0 := blk_frozen BK175.out 0; have hfz14_1 := blk_frozen BK175.out 1; have hfz14_2 := blk_frozen BK175.out 2; have hfz14_3 := blk_frozen BK175.out 3; have hfz14_4 := blk_frozen BK175.out 4; have hfz14_5 := blk_frozen BK175.out 5; have hfz14_6 := blk_frozen BK175.out 6; have hfz14_7 := blk_frozen BK175.out 7; have hfz14_8 := blk_frozen BK175.out 8; have hfz14_9 := blk_frozen BK175.out 9; have hfz14_10 := blk_frozen BK175.out 10; have hfz14_11 := blk_frozen BK175.out 11) | ((with_reducible refine gate_callee (f := 27) rfl ?_); refine goesL_ (some 28) rfl rfl Try.func27 (by kernel_rfl) rfl #[.int .i64 a1, .int .i64 a0_0] rfl (by (try simp only [List.map_toArray, List.map_cons, List.map_nil]); first | done | rfl | (simp only [List.length_drop, List.length_take]; rfl) | (simp only [Int.toNat_natCast, Nat.sub_self, List.length_drop, List.length_take]; rfl)) ?_; (with_reducible refine (plan_share.calls a1 a0_0 t179 _ A7.out).mono ?_); rintro e w' ⟨rfl, ⟨nd, rfl⟩⟩; refine ⟨_, rfl, ?_⟩) | ((with_reducible refine gate_callee (f := 27) rfl ?_); refine goesL_ (some 42) rfl rfl Try.func27 (by kernel_rfl) rfl #[.int .i64 (wrap64 ((wrap64 (t179 - 8)) - (wrap64 (Int.tdiv a0_0 2)))), .int .i64 (wrap64 (Int.tdiv a0_0 2))] rfl (by (try simp only [List.map_toArray, List.map_cons, List.map_nil]); first | done | rfl | (simp only [List.length_drop, List.length_take]; rfl) | (simp only [Int.toNat_natCast, Nat.sub_self, List.length_drop, List.length_take]; rfl)) ?_; (with_reducible refine (plan_share.calls (wrap64 ((wrap64 (t179 - 8)) - (wrap64 (Int.tdiv a0_0 2)))) (wrap64 (Int.tdiv a0_0 2)) t180 _ A10.out).mono ?_); rintro e w' ⟨rfl, ⟨nd, rfl⟩⟩; refine ⟨_, rfl, ?_⟩))
          go_ret3
          exact ⟨by first | rfl | (simp [errW_none, errW_some] <;> rfl) | (simp [*, errW_none, errW_some] <;> rfl), by repeat (first | (with_reducible first | exact HB.out | apply below_alloc | apply pw_below_drewN | apply below_drew1 | refine below_set ?_ GE175.out) | with_reducible_and_instances exact HB.out)⟩
        · rw [if_neg c9] at H
          have c9b0 : decide (0 < (wrap64 ((wrap64 (t179 - 8)) - (wrap64 (Int.tdiv a0_0 2))))) = false := decide_eq_false c9
          clear c9
          simp only [Option.some.injEq, Prod.mk.injEq] at H
          obtain ⟨rfl, rfl, rfl⟩ := H
          go_enter Try.func21, Try.ntmps21
          go_wp2_with (first | ((with_reducible refine gate_dst (N := 2) rfl ?_); refine box_event ?hg (N := 2) ?hd (cs := #[.int .i64 a0_0, .int .i64 a0_1, .int .i64 a0_2, .int .i64 a0_3, .int .i64 a0_4, .int .i64 a0_5, .int .i64 a0_6, .int .i64 a0_7, .int .i64 a0_8, .int .i64 a0_9, .int .i64 a0_10, .int .i64 a0_11]) (t := 24) ?hr ?_; (case hd => rfl); (case hg => rfl); (case hr => first | (go_simp; done) | (go_simp; rfl)); intro gb175 hg w15 hbox hb; have n0_ := Aside0.mk (below_step (by repeat (first | (with_reducible first | exact HB.out | apply below_alloc | apply pw_below_drewN | apply below_drew1) | with_reducible_and_instances exact HB.out)) hb); have n1_ := Aside0.mk (hbox); have n2_ := Aside0.mk ((by rw [hg]; exact (below_size (by repeat (first | (with_reducible first | exact HB.out | apply below_alloc | apply pw_below_drewN | apply below_drew1) | with_reducible_and_instances exact HB.out))) : w.heap.size ≤ gb175)); have n3_ := Aside0.mk ((by rw [hg]; exact (below_size (by repeat (first | (with_reducible first | exact HB.out | apply below_alloc | apply pw_below_drewN | apply below_drew1) | with_reducible_and_instances exact HB.out))) : w.heap.size ≤ gb175)); clear HB; have HB := n0_; have BK175 := n1_; have GW175 := n2_; have GE175 := n3_; clear n0_ n1_ n2_ n3_; clear hb hbox hg; have hcz16_0 : w15.cell? ⟨gb175, 0, none⟩ = some (.int .i64 a0_0) := (blk_cell BK175.out 0).trans rfl; have hcz16_1 : w15.cell? ⟨gb175, 1, none⟩ = some (.int .i64 a0_1) := (blk_cell BK175.out 1).trans rfl; have hcz16_2 : w15.cell? ⟨gb175, 2, none⟩ = some (.int .i64 a0_2) := (blk_cell BK175.out 2).trans rfl; have hcz16_3 : w15.cell? ⟨gb175, 3, none⟩ = some (.int .i64 a0_3) := (blk_cell BK175.out 3).trans rfl; have hcz16_4 : w15.cell? ⟨gb175, 4, none⟩ = some (.int .i64 a0_4) := (blk_cell BK175.out 4).trans rfl; have hcz16_5 : w15.cell? ⟨gb175, 5, none⟩ = some (.int .i64 a0_5) := (blk_cell BK175.out 5).trans rfl; have hcz16_6 : w15.cell? ⟨gb175, 6, none⟩ = some (.int .i64 a0_6) := (blk_cell BK175.out 6).trans rfl; have hcz16_7 : w15.cell? ⟨gb175, 7, none⟩ = some (.int .i64 a0_7) := (blk_cell BK175.out 7).trans rfl; have hcz16_8 : w15.cell? ⟨gb175, 8, none⟩ = some (.int .i64 a0_8) := (blk_cell BK175.out 8).trans rfl; have hcz16_9 : w15.cell? ⟨gb175, 9, none⟩ = some (.int .i64 a0_9) := (blk_cell BK175.out 9).trans rfl; have hcz16_10 : w15.cell? ⟨gb175, 10, none⟩ = some (.int .i64 a0_10) := (blk_cell BK175.out 10).trans rfl; have hcz16_11 : w15.cell? ⟨gb175, 11, none⟩ = some (.int .i64 a0_11) := (blk_cell BK175.out 11).trans rfl; have hfz16_0 := blk_frozen BK175.out 0; have hfz16_1 := blk_frozen BK175.out 1; have hfz16_2 := blk_frozen BK175.out 2; have hfz16_3 := blk_frozen BK175.out 3; have hfz16_4 := blk_frozen BK175.out 4; have hfz16_5 := blk_frozen BK175.out 5; have hfz16_6 := blk_frozen BK175.out 6; have hfz16_7 := blk_frozen BK175.out 7; have hfz16_8 := blk_frozen BK175.out 8; have hfz16_9 := blk_frozen BK175.out 9; have hfz16_10 := blk_frozen BK175.out 10; have hfz16_11 := blk_frozen BK175.out 11) | ((with_reducible refine gate_callee (f := 19) rfl ?_); refine goesL_ (some 12) rfl rfl Try.func19 (by kernel_rfl) rfl #[.agg #[.int .i64 a0_0, .int .i64 a0_1, .int .i64 a0_2, .int .i64 a0_3, .int .i64 a0_4, .int .i64 a0_5, .int .i64 a0_6, .int .i64 a0_7, .int .i64 a0_8, .int .i64 a0_9, .int .i64 a0_10, .int .i64 a0_11]] rfl (by (try simp only [List.map_toArray, List.map_cons, List.map_nil]); first | done | rfl | (simp only [List.length_drop, List.length_take]; rfl) | (simp only [Int.toNat_natCast, Nat.sub_self, List.length_drop, List.length_take]; rfl)) ?_; (with_reducible refine (plan_MaxSize.calls a0_0 a0_1 a0_2 a0_3 a0_4 a0_5 a0_6 a0_7 a0_8 a0_9 a0_10 a0_11 t176 t177 _ A3.out).mono ?_); rintro e w17 ⟨rfl, hb⟩; refine ⟨_, rfl, ?_⟩; have n0_ := Aside0.mk (blk_below (g := gb175) (o := .cells #[.int .i64 a0_0, .int .i64 a0_1, .int .i64 a0_2, .int .i64 a0_3, .int .i64 a0_4, .int .i64 a0_5, .int .i64 a0_6, .int .i64 a0_7, .int .i64 a0_8, .int .i64 a0_9, .int .i64 a0_10, .int .i64 a0_11] 24 (0, 0)) (by (with_reducible repeat (first | refine blk_drewN ?_ _ | refine blk_drew ?_ | refine blk_alloc ?_ _)); exact BK175.out) hb); have n1_ := Aside0.mk (below_step (by repeat (first | (with_reducible first | exact HB.out | apply below_alloc | apply pw_below_drewN | apply below_drew1 | refine below_set ?_ GE175.out) | with_reducible_and_instances exact HB.out)) hb); clear BK175; clear HB; have BK175 := n0_; have HB := n1_; clear n0_ n1_; (try clear hb); (try clear hb2); (try clear hk); (try clear hi)) | ((with_reducible refine gate_callee (f := 24) rfl ?_); refine goesL_ (some 20) rfl rfl Try.func24 (by kernel_rfl) rfl #[.int .i64 a1, .int .i64 0, .int .i64 t176] rfl (by (try simp only [List.map_toArray, List.map_cons, List.map_nil]); first | done | rfl | (simp only [List.length_drop, List.length_take]; rfl) | (simp only [Int.toNat_natCast, Nat.sub_self, List.length_drop, List.length_take]; rfl)) ?_; (with_reducible refine (plan_within.calls a1 0 t176 true _ A5.out).mono ?_); rintro e w' ⟨rfl, ⟨nd, rfl⟩⟩; refine ⟨_, rfl, ?_⟩; have hcz18_0 : w17.cell? ⟨gb175, 0, none⟩ = some (.int .i64 a0_0) := (blk_cell BK175.out 0).trans rfl; have hcz18_1 : w17.cell? ⟨gb175, 1, none⟩ = some (.int .i64 a0_1) := (blk_cell BK175.out 1).trans rfl; have hcz18_2 : w17.cell? ⟨gb175, 2, none⟩ = some (.int .i64 a0_2) := (blk_cell BK175.out 2).trans rfl; have hcz18_3 : w17.cell? ⟨gb175, 3, none⟩ = some (.int .i64 a0_3) := (blk_cell BK175.out 3).trans rfl; have hcz18_4 : w17.cell? ⟨gb175, 4, none⟩ = some (.int .i64 a0_4) := (blk_cell BK175.out 4).trans rfl; have hcz18_5 : w17.cell? ⟨gb175, 5, none⟩ = some (.int .i64 a0_5) := (blk_cell BK175.out 5).trans rfl; have hcz18_6 : w17.cell? ⟨gb175, 6, none⟩ = some (.int .i64 a0_6) := (blk_cell BK175.out 6).trans rfl; have hcz18_7 : w17.cell? ⟨gb175, 7, none⟩ = some (.int .i64 a0_7) := (blk_cell BK175.out 7).trans rfl; have hcz18_8 : w17.cell? ⟨gb175, 8, none⟩ = some (.int .i64 a0_8) := (blk_cell BK175.out 8).trans rfl; have hcz18_9 : w17.cell? ⟨gb175, 9, none⟩ = some (.int .i64 a0_9) := (blk_cell BK175.out 9).trans rfl; have hcz18_10 : w17.cell? ⟨gb175, 10, none⟩ = some (.int .i64 a0_10) := (blk_cell BK175.out 10).trans rfl; have hcz18_11 : w17.cell? ⟨gb175, 11, none⟩ = some (.int .i64 a0_11) := (blk_cell BK175.out 11).trans rfl; have hfz18_0 := blk_frozen BK175.out 0; have hfz18_1 := blk_frozen BK175.out 1; have hfz18_2 := blk_frozen BK175.out 2; have hfz18_3 := blk_frozen BK175.out 3; have hfz18_4 := blk_frozen BK175.out 4; have hfz18_5 := blk_frozen BK175.out 5; have hfz18_6 := blk_frozen BK175.out 6; have hfz18_7 := blk_frozen BK175.out 7; have hfz18_8 := blk_frozen BK175.out 8; have hfz18_9 := blk_frozen BK175.out 9; have hfz18_10 := blk_frozen BK175.out 10; have hfz18_11 := blk_frozen BK175.out 11) | ((with_reducible refine gate_callee (f := 27) rfl ?_); refine goesL_ (some 28) rfl rfl Try.func27 (by kernel_rfl) rfl #[.int .i64 a1, .int .i64 a0_0] rfl (by (try simp only [List.map_toArray, List.map_cons, List.map_nil]); first | done | rfl | (simp only [List.length_drop, List.length_take]; rfl) | (simp only [Int.toNat_natCast, Nat.sub_self, List.length_drop, List.length_take]; rfl)) ?_; (with_reducible refine (plan_share.calls a1 a0_0 t179 _ A7.out).mono ?_); rintro e w' ⟨rfl, ⟨nd, rfl⟩⟩; refine ⟨_, rfl, ?_⟩))
          go_ret3
          exact ⟨by first | rfl | (simp [errW_none, errW_some] <;> rfl) | (simp [*, errW_none, errW_some] <;> rfl), by repeat (first | (with_reducible first | exact HB.out | apply below_alloc | apply pw_below_drewN | apply below_drew1 | refine below_set ?_ GE175.out) | with_reducible_and_instances exact HB.out)⟩
      · rw [if_neg c8] at H
        have c8b0 : decide (8 < t179) = false := decide_eq_false c8
        clear c8
        by_cases c19 : (wrap64 ((wrap64 (t179 - 8)) - (wrap64 (Int.tdiv a0_0 2)))) > 0
        · rw [if_pos c19] at H
          have c19b0 : decide (0 < (wrap64 ((wrap64 (t179 - 8)) - (wrap64 (Int.tdiv a0_0 2))))) = true := decide_eq_true c19
          clear c19
          replace H := Option.bind_eq_some_iff.mp H
          obtain ⟨t181, A200, H⟩ := H
          replace H : (some (t179, wrap64 (0 + (wrap64 (1 + t181))), 0)) = some (r1, r2, r3) := H
          have A20 := Aside0.mk A200
          clear A200
          simp only [Option.some.injEq, Prod.mk.injEq] at H
          obtain ⟨rfl, rfl, rfl⟩ := H
          go_enter Try.func21, Try.ntmps21
          go_wp2_with (first | ((with_reducible refine gate_dst (N := 2) rfl ?_); refine box_event ?hg (N := 2) ?hd (cs := #[.int .i64 a0_0, .int .i64 a0_1, .int .i64 a0_2, .int .i64 a0_3, .int .i64 a0_4, .int .i64 a0_5, .int .i64 a0_6, .int .i64 a0_7, .int .i64 a0_8, .int .i64 a0_9, .int .i64 a0_10, .int .i64 a0_11]) (t := 24) ?hr ?_; (case hd => rfl); (case hg => rfl); (case hr => first | (go_simp; done) | (go_simp; rfl)); intro gb175 hg w21 hbox hb; have n0_ := Aside0.mk (below_step (by repeat (first | (with_reducible first | exact HB.out | apply below_alloc | apply pw_below_drewN | apply below_drew1) | with_reducible_and_instances exact HB.out)) hb); have n1_ := Aside0.mk (hbox); have n2_ := Aside0.mk ((by rw [hg]; exact (below_size (by repeat (first | (with_reducible first | exact HB.out | apply below_alloc | apply pw_below_drewN | apply below_drew1) | with_reducible_and_instances exact HB.out))) : w.heap.size ≤ gb175)); have n3_ := Aside0.mk ((by rw [hg]; exact (below_size (by repeat (first | (with_reducible first | exact HB.out | apply below_alloc | apply pw_below_drewN | apply below_drew1) | with_reducible_and_instances exact HB.out))) : w.heap.size ≤ gb175)); clear HB; have HB := n0_; have BK175 := n1_; have GW175 := n2_; have GE175 := n3_; clear n0_ n1_ n2_ n3_; clear hb hbox hg; have hcz22_0 : w21.cell? ⟨gb175, 0, none⟩ = some (.int .i64 a0_0) := (blk_cell BK175.out 0).trans rfl; have hcz22_1 : w21.cell? ⟨gb175, 1, none⟩ = some (.int .i64 a0_1) := (blk_cell BK175.out 1).trans rfl; have hcz22_2 : w21.cell? ⟨gb175, 2, none⟩ = some (.int .i64 a0_2) := (blk_cell BK175.out 2).trans rfl; have hcz22_3 : w21.cell? ⟨gb175, 3, none⟩ = some (.int .i64 a0_3) := (blk_cell BK175.out 3).trans rfl; have hcz22_4 : w21.cell? ⟨gb175, 4, none⟩ = some (.int .i64 a0_4) := (blk_cell BK175.out 4).trans rfl; have hcz22_5 : w21.cell? ⟨gb175, 5, none⟩ = some (.int .i64 a0_5) := (blk_cell BK175.out 5).trans rfl; have hcz22_6 : w21.cell? ⟨gb175, 6, none⟩ = some (.int .i64 a0_6) := (blk_cell BK175.out 6).trans rfl; have hcz22_7 : w21.cell? ⟨gb175, 7, none⟩ = some (.int .i64 a0_7) := (blk_cell BK175.out 7).trans rfl; have hcz22_8 : w21.cell? ⟨gb175, 8, none⟩ = some (.int .i64 a0_8) := (blk_cell BK175.out 8).trans rfl; have hcz22_9 : w21.cell? ⟨gb175, 9, none⟩ = some (.int .i64 a0_9) := (blk_cell BK175.out 9).trans rfl; have hcz22_10 : w21.cell? ⟨gb175, 10, none⟩ = some (.int .i64 a0_10) := (blk_cell BK175.out 10).trans rfl; have hcz22_11 : w21.cell? ⟨gb175, 11, none⟩ = some (.int .i64 a0_11) := (blk_cell BK175.out 11).trans rfl; have hfz22_0 := blk_frozen BK175.out 0; have hfz22_1 := blk_frozen BK175.out 1; have hfz22_2 := blk_frozen BK175.out 2; have hfz22_3 := blk_frozen BK175.out 3; have hfz22_4 := blk_frozen BK175.out 4; have hfz22_5 := blk_frozen BK175.out 5; have hfz22_6 := blk_frozen BK175.out 6; have hfz22_7 := blk_frozen BK175.out 7; have hfz22_8 := blk_frozen BK175.out 8; have hfz22_9 := blk_frozen BK175.out 9; have hfz22_10 := blk_frozen BK175.out 10; have hfz22_11 := blk_frozen BK175.out 11) | ((with_reducible refine gate_callee (f := 19) rfl ?_); refine goesL_ (some 12) rfl rfl Try.func19 (by kernel_rfl) rfl #[.agg #[.int .i64 a0_0, .int .i64 a0_1, .int .i64 a0_2, .int .i64 a0_3, .int .i64 a0_4, .int .i64 a0_5, .int .i64 a0_6, .int .i64 a0_7, .int .i64 a0_8, .int .i64 a0_9, .int .i64 a0_10, .int .i64 a0_11]] rfl (by (try simp only [List.map_toArray, List.map_cons, List.map_nil]); first | done | rfl | (simp only [List.length_drop, List.length_take]; rfl) | (simp only [Int.toNat_natCast, Nat.sub_self, List.length_drop, List.length_take]; rfl)) ?_; (with_reducible refine (plan_MaxSize.calls a0_0 a0_1 a0_2 a0_3 a0_4 a0_5 a0_6 a0_7 a0_8 a0_9 a0_10 a0_11 t176 t177 _ A3.out).mono ?_); rintro e w23 ⟨rfl, hb⟩; refine ⟨_, rfl, ?_⟩; have n0_ := Aside0.mk (blk_below (g := gb175) (o := .cells #[.int .i64 a0_0, .int .i64 a0_1, .int .i64 a0_2, .int .i64 a0_3, .int .i64 a0_4, .int .i64 a0_5, .int .i64 a0_6, .int .i64 a0_7, .int .i64 a0_8, .int .i64 a0_9, .int .i64 a0_10, .int .i64 a0_11] 24 (0, 0)) (by (with_reducible repeat (first | refine blk_drewN ?_ _ | refine blk_drew ?_ | refine blk_alloc ?_ _)); exact BK175.out) hb); have n1_ := Aside0.mk (below_step (by repeat (first | (with_reducible first | exact HB.out | apply below_alloc | apply pw_below_drewN | apply below_drew1 | refine below_set ?_ GE175.out) | with_reducible_and_instances exact HB.out)) hb); clear BK175; clear HB; have BK175 := n0_; have HB := n1_; clear n0_ n1_; (try clear hb); (try clear hb2); (try clear hk); (try clear hi)) | ((with_reducible refine gate_callee (f := 24) rfl ?_); refine goesL_ (some 20) rfl rfl Try.func24 (by kernel_rfl) rfl #[.int .i64 a1, .int .i64 0, .int .i64 t176] rfl (by (try simp only [List.map_toArray, List.map_cons, List.map_nil]); first | done | rfl | (simp only [List.length_drop, List.length_take]; rfl) | (simp only [Int.toNat_natCast, Nat.sub_self, List.length_drop, List.length_take]; rfl)) ?_; (with_reducible refine (plan_within.calls a1 0 t176 true _ A5.out).mono ?_); rintro e w' ⟨rfl, ⟨nd, rfl⟩⟩; refine ⟨_, rfl, ?_⟩; have hcz24_0 : w23.cell? ⟨gb175, 0, none⟩ = some (.int .i64 a0_0) := (blk_cell BK175.out 0).trans rfl; have hcz24_1 : w23.cell? ⟨gb175, 1, none⟩ = some (.int .i64 a0_1) := (blk_cell BK175.out 1).trans rfl; have hcz24_2 : w23.cell? ⟨gb175, 2, none⟩ = some (.int .i64 a0_2) := (blk_cell BK175.out 2).trans rfl; have hcz24_3 : w23.cell? ⟨gb175, 3, none⟩ = some (.int .i64 a0_3) := (blk_cell BK175.out 3).trans rfl; have hcz24_4 : w23.cell? ⟨gb175, 4, none⟩ = some (.int .i64 a0_4) := (blk_cell BK175.out 4).trans rfl; have hcz24_5 : w23.cell? ⟨gb175, 5, none⟩ = some (.int .i64 a0_5) := (blk_cell BK175.out 5).trans rfl; have hcz24_6 : w23.cell? ⟨gb175, 6, none⟩ = some (.int .i64 a0_6) := (blk_cell BK175.out 6).trans rfl; have hcz24_7 : w23.cell? ⟨gb175, 7, none⟩ = some (.int .i64 a0_7) := (blk_cell BK175.out 7).trans rfl; have hcz24_8 : w23.cell? ⟨gb175, 8, none⟩ = some (.int .i64 a0_8) := (blk_cell BK175.out 8).trans rfl; have hcz24_9 : w23.cell? ⟨gb175, 9, none⟩ = some (.int .i64 a0_9) := (blk_cell BK175.out 9).trans rfl; have hcz24_10 : w23.cell? ⟨gb175, 10, none⟩ = some (.int .i64 a0_10) := (blk_cell BK175.out 10).trans rfl; have hcz24_11 : w23.cell? ⟨gb175, 11, none⟩ = some (.int .i64 a0_11) := (blk_cell BK175.out 11).trans rfl; have hfz24_0 := blk_frozen BK175.out 0; have hfz24_1 := blk_frozen BK175.out 1; have hfz24_2 := blk_frozen BK175.out 2; have hfz24_3 := blk_frozen BK175.out 3; have hfz24_4 := blk_frozen BK175.out 4; have hfz24_5 := blk_frozen BK175.out 5; have hfz24_6 := blk_frozen BK175.out 6; have hfz24_7 := blk_frozen BK175.out 7; have hfz24_8 := blk_frozen BK175.out 8; have hfz24_9 := blk_frozen BK175.out 9; have hfz24_10 := blk_frozen BK175.out 10; have hfz24_11 := blk_frozen BK175.out 11) | ((with_reducible refine gate_callee (f := 27) rfl ?_); refine goesL_ (some 28) rfl rfl Try.func27 (by kernel_rfl) rfl #[.int .i64 a1, .int .i64 a0_0] rfl (by (try simp only [List.map_toArray, List.map_cons, List.map_nil]); first | done | rfl | (simp only [List.length_drop, List.length_take]; rfl) | (simp only [Int.toNat_natCast, Nat.sub_self, List.length_drop, List.length_take]; rfl)) ?_; (with_reducible refine (plan_share.calls a1 a0_0 t179 _ A7.out).mono ?_); rintro e w' ⟨rfl, ⟨nd, rfl⟩⟩; refine ⟨_, rfl, ?_⟩) | ((with_reducible refine gate_callee (f := 27) rfl ?_); refine goesL_ (some 42) rfl rfl Try.func27 (by kernel_rfl) rfl #[.int .i64 (wrap64 ((wrap64 (t179 - 8)) - (wrap64 (Int.tdiv a0_0 2)))), .int .i64 (wrap64 (Int.tdiv a0_0 2))] rfl (by (try simp only [List.map_toArray, List.map_cons, List.map_nil]); first | done | rfl | (simp only [List.length_drop, List.length_take]; rfl) | (simp only [Int.toNat_natCast, Nat.sub_self, List.length_drop, List.length_take]; rfl)) ?_; (with_reducible refine (plan_share.calls (wrap64 ((wrap64 (t179 - 8)) - (wrap64 (Int.tdiv a0_0 2)))) (wrap64 (Int.tdiv a0_0 2)) t181 _ A20.out).mono ?_); rintro e w' ⟨rfl, ⟨nd, rfl⟩⟩; refine ⟨_, rfl, ?_⟩))
          go_ret3
          exact ⟨by first | rfl | (simp [errW_none, errW_some] <;> rfl) | (simp [*, errW_none, errW_some] <;> rfl), by repeat (first | (with_reducible first | exact HB.out | apply below_alloc | apply pw_below_drewN | apply below_drew1 | refine below_set ?_ GE175.out) | with_reducible_and_instances exact HB.out)⟩
        · rw [if_neg c19] at H
          have c19b0 : decide (0 < (wrap64 ((wrap64 (t179 - 8)) - (wrap64 (Int.tdiv a0_0 2))))) = false := decide_eq_false c19
          clear c19
          simp only [Option.some.injEq, Prod.mk.injEq] at H
          obtain ⟨rfl, rfl, rfl⟩ := H
          go_enter Try.func21, Try.ntmps21
          go_wp2_with (first | ((with_reducible refine gate_dst (N := 2) rfl ?_); refine box_event ?hg (N := 2) ?hd (cs := #[.int .i64 a0_0, .int .i64 a0_1, .int .i64 a0_2, .int .i64 a0_3, .int .i64 a0_4, .int .i64 a0_5, .int .i64 a0_6, .int .i64 a0_7, .int .i64 a0_8, .int .i64 a0_9, .int .i64 a0_10, .int .i64 a0_11]) (t := 24) ?hr ?_; (case hd => rfl); (case hg => rfl); (case hr => first | (go_simp; done) | (go_simp; rfl)); intro gb175 hg w25 hbox hb; have n0_ := Aside0.mk (below_step (by repeat (first | (with_reducible first | exact HB.out | apply below_alloc | apply pw_below_drewN | apply below_drew1) | with_reducible_and_instances exact HB.out)) hb); have n1_ := Aside0.mk (hbox); have n2_ := Aside0.mk ((by rw [hg]; exact (below_size (by repeat (first | (with_reducible first | exact HB.out | apply below_alloc | apply pw_below_drewN | apply below_drew1) | with_reducible_and_instances exact HB.out))) : w.heap.size ≤ gb175)); have n3_ := Aside0.mk ((by rw [hg]; exact (below_size (by repeat (first | (with_reducible first | exact HB.out | apply below_alloc | apply pw_below_drewN | apply below_drew1) | with_reducible_and_instances exact HB.out))) : w.heap.size ≤ gb175)); clear HB; have HB := n0_; have BK175 := n1_; have GW175 := n2_; have GE175 := n3_; clear n0_ n1_ n2_ n3_; clear hb hbox hg; have hcz26_0 : w25.cell? ⟨gb175, 0, none⟩ = some (.int .i64 a0_0) := (blk_cell BK175.out 0).trans rfl; have hcz26_1 : w25.cell? ⟨gb175, 1, none⟩ = some (.int .i64 a0_1) := (blk_cell BK175.out 1).trans rfl; have hcz26_2 : w25.cell? ⟨gb175, 2, none⟩ = some (.int .i64 a0_2) := (blk_cell BK175.out 2).trans rfl; have hcz26_3 : w25.cell? ⟨gb175, 3, none⟩ = some (.int .i64 a0_3) := (blk_cell BK175.out 3).trans rfl; have hcz26_4 : w25.cell? ⟨gb175, 4, none⟩ = some (.int .i64 a0_4) := (blk_cell BK175.out 4).trans rfl; have hcz26_5 : w25.cell? ⟨gb175, 5, none⟩ = some (.int .i64 a0_5) := (blk_cell BK175.out 5).trans rfl; have hcz26_6 : w25.cell? ⟨gb175, 6, none⟩ = some (.int .i64 a0_6) := (blk_cell BK175.out 6).trans rfl; have hcz26_7 : w25.cell? ⟨gb175, 7, none⟩ = some (.int .i64 a0_7) := (blk_cell BK175.out 7).trans rfl; have hcz26_8 : w25.cell? ⟨gb175, 8, none⟩ = some (.int .i64 a0_8) := (blk_cell BK175.out 8).trans rfl; have hcz26_9 : w25.cell? ⟨gb175, 9, none⟩ = some (.int .i64 a0_9) := (blk_cell BK175.out 9).trans rfl; have hcz26_10 : w25.cell? ⟨gb175, 10, none⟩ = some (.int .i64 a0_10) := (blk_cell BK175.out 10).trans rfl; have hcz26_11 : w25.cell? ⟨gb175, 11, none⟩ = some (.int .i64 a0_11) := (blk_cell BK175.out 11).trans rfl; have hfz26_0 := blk_frozen BK175.out 0; have hfz26_1 := blk_frozen BK175.out 1; have hfz26_2 := blk_frozen BK175.out 2; have hfz26_3 := blk_frozen BK175.out 3; have hfz26_4 := blk_frozen BK175.out 4; have hfz26_5 := blk_frozen BK175.out 5; have hfz26_6 := blk_frozen BK175.out 6; have hfz26_7 := blk_frozen BK175.out 7; have hfz26_8 := blk_frozen BK175.out 8; have hfz26_9 := blk_frozen BK175.out 9; have hfz26_10 := blk_frozen BK175.out 10; have hfz26_11 := blk_frozen BK175.out 11) | ((with_reducible refine gate_callee (f := 19) rfl ?_); refine goesL_ (some 12) rfl rfl Try.func19 (by kernel_rfl) rfl #[.agg #[.int .i64 a0_0, .int .i64 a0_1, .int .i64 a0_2, .int .i64 a0_3, .int .i64 a0_4, .int .i64 a0_5, .int .i64 a0_6, .int .i64 a0_7, .int .i64 a0_8, .int .i64 a0_9, .int .i64 a0_10, .int .i64 a0_11]] rfl (by (try simp only [List.map_toArray, List.map_cons, List.map_nil]); first | done | rfl | (simp only [List.length_drop, List.length_take]; rfl) | (simp only [Int.toNat_natCast, Nat.sub_self, List.length_drop, List.length_take]; rfl)) ?_; (with_reducible refine (plan_MaxSize.calls a0_0 a0_1 a0_2 a0_3 a0_4 a0_5 a0_6 a0_7 a0_8 a0_9 a0_10 a0_11 t176 t177 _ A3.out).mono ?_); rintro e w27 ⟨rfl, hb⟩; refine ⟨_, rfl, ?_⟩; have n0_ := Aside0.mk (blk_below (g := gb175) (o := .cells #[.int .i64 a0_0, .int .i64 a0_1, .int .i64 a0_2, .int .i64 a0_3, .int .i64 a0_4, .int .i64 a0_5, .int .i64 a0_6, .int .i64 a0_7, .int .i64 a0_8, .int .i64 a0_9, .int .i64 a0_10, .int .i64 a0_11] 24 (0, 0)) (by (with_reducible repeat (first | refine blk_drewN ?_ _ | refine blk_drew ?_ | refine blk_alloc ?_ _)); exact BK175.out) hb); have n1_ := Aside0.mk (below_step (by repeat (first | (with_reducible first | exact HB.out | apply below_alloc | apply pw_below_drewN | apply below_drew1 | refine below_set ?_ GE175.out) | with_reducible_and_instances exact HB.out)) hb); clear BK175; clear HB; have BK175 := n0_; have HB := n1_; clear n0_ n1_; (try clear hb); (try clear hb2); (try clear hk); (try clear hi)) | ((with_reducible refine gate_callee (f := 24) rfl ?_); refine goesL_ (some 20) rfl rfl Try.func24 (by kernel_rfl) rfl #[.int .i64 a1, .int .i64 0, .int .i64 t176] rfl (by (try simp only [List.map_toArray, List.map_cons, List.map_nil]); first | done | rfl | (simp only [List.length_drop, List.length_take]; rfl) | (simp only [Int.toNat_natCast, Nat.sub_self, List.length_drop, List.length_take]; rfl)) ?_; (with_reducible refine (plan_within.calls a1 0 t176 true _ A5.out).mono ?_); rintro e w' ⟨rfl, ⟨nd, rfl⟩⟩; refine ⟨_, rfl, ?_⟩; have hcz28_0 : w27.cell? ⟨gb175, 0, none⟩ = some (.int .i64 a0_0) := (blk_cell BK175.out 0).trans rfl; have hcz28_1 : w27.cell? ⟨gb175, 1, none⟩ = some (.int .i64 a0_1) := (blk_cell BK175.out 1).trans rfl; have hcz28_2 : w27.cell? ⟨gb175, 2, none⟩ = some (.int .i64 a0_2) := (blk_cell BK175.out 2).trans rfl; have hcz28_3 : w27.cell? ⟨gb175, 3, none⟩ = some (.int .i64 a0_3) := (blk_cell BK175.out 3).trans rfl; have hcz28_4 : w27.cell? ⟨gb175, 4, none⟩ = some (.int .i64 a0_4) := (blk_cell BK175.out 4).trans rfl; have hcz28_5 : w27.cell? ⟨gb175, 5, none⟩ = some (.int .i64 a0_5) := (blk_cell BK175.out 5).trans rfl; have hcz28_6 : w27.cell? ⟨gb175, 6, none⟩ = some (.int .i64 a0_6) := (blk_cell BK175.out 6).trans rfl; have hcz28_7 : w27.cell? ⟨gb175, 7, none⟩ = some (.int .i64 a0_7) := (blk_cell BK175.out 7).trans rfl; have hcz28_8 : w27.cell? ⟨gb175, 8, none⟩ = some (.int .i64 a0_8) := (blk_cell BK175.out 8).trans rfl; have hcz28_9 : w27.cell? ⟨gb175, 9, none⟩ = some (.int .i64 a0_9) := (blk_cell BK175.out 9).trans rfl; have hcz28_10 : w27.cell? ⟨gb175, 10, none⟩ = some (.int .i64 a0_10) := (blk_cell BK175.out 10).trans rfl; have hcz28_11 : w27.cell? ⟨gb175, 11, none⟩ = some (.int .i64 a0_11) := (blk_cell BK175.out 11).trans rfl; have hfz28_0 := blk_frozen BK175.out 0; have hfz28_1 := blk_frozen BK175.out 1; have hfz28_2 := blk_frozen BK175.out 2; have hfz28_3 := blk_frozen BK175.out 3; have hfz28_4 := blk_frozen BK175.out 4; have hfz28_5 := blk_frozen BK175.out 5; have hfz28_6 := blk_frozen BK175.out 6; have hfz28_7 := blk_frozen BK175.out 7; have hfz28_8 := blk_frozen BK175.out 8; have hfz28_9 := blk_frozen BK175.out 9; have hfz28_10 := blk_frozen BK175.out 10; have hfz28_11 := blk_frozen BK175.out 11) | ((with_reducible refine gate_callee (f := 27) rfl ?_); refine goesL_ (some 28) rfl rfl Try.func27 (by kernel_rfl) rfl #[.int .i64 a1, .int .i64 a0_0] rfl (by (try simp only [List.map_toArray, List.map_cons, List.map_nil]); first | done | rfl | (simp only [List.length_drop, List.length_take]; rfl) | (simp only [Int.toNat_natCast, Nat.sub_self, List.length_drop, List.length_take]; rfl)) ?_; (with_reducible refine (plan_share.calls a1 a0_0 t179 _ A7.out).mono ?_); rintro e w' ⟨rfl, ⟨nd, rfl⟩⟩; refine ⟨_, rfl, ?_⟩))
          go_ret3
          exact ⟨by first | rfl | (simp [errW_none, errW_some] <;> rfl) | (simp [*, errW_none, errW_some] <;> rfl), by repeat (first | (with_reducible first | exact HB.out | apply below_alloc | apply pw_below_drewN | apply below_drew1 | refine below_set ?_ GE175.out) | with_reducible_and_instances exact HB.out)⟩
    · replace c6 := Bool.eq_false_iff.mpr c6
      subst c6
      have H1 : (some (0, 0, 2)) = some (r1, r2, r3) := by rw [if_neg (show ¬ (false = true) by decide)] at H; exact H
      clear H
      have H := H1
      clear H1
      simp only [Option.some.injEq, Prod.mk.injEq] at H
      obtain ⟨rfl, rfl, rfl⟩ := H
      go_enter Try.func21, Try.ntmps21
      go_wp2_with (first | ((with_reducible refine gate_dst (N := 2) rfl ?_); refine box_event ?hg (N := 2) ?hd (cs := #[.int .i64 a0_0, .int .i64 a0_1, .int .i64 a0_2, .int .i64 a0_3, .int .i64 a0_4, .int .i64 a0_5, .int .i64 a0_6, .int .i64 a0_7, .int .i64 a0_8, .int .i64 a0_9, .int .i64 a0_10, .int .i64 a0_11]) (t := 24) ?hr ?_; (case hd => rfl); (case hg => rfl); (case hr => first | (go_simp; done) | (go_simp; rfl)); intro gb175 hg w29 hbox hb; have n0_ := Aside0.mk (below_step (by repeat (first | (with_reducible first | exact HB.out | apply below_alloc | apply pw_below_drewN | apply below_drew1) | with_reducible_and_instances exact HB.out)) hb); have n1_ := Aside0.mk (hbox); have n2_ := Aside0.mk ((by rw [hg]; exact (below_size (by repeat (first | (with_reducible first | exact HB.out | apply below_alloc | apply pw_below_drewN | apply below_drew1) | with_reducible_and_instances exact HB.out))) : w.heap.size ≤ gb175)); have n3_ := Aside0.mk ((by rw [hg]; exact (below_size (by repeat (first | (with_reducible first | exact HB.out | apply below_alloc | apply pw_below_drewN | apply below_drew1) | with_reducible_and_instances exact HB.out))) : w.heap.size ≤ gb175)); clear HB; have HB := n0_; have BK175 := n1_; have GW175 := n2_; have GE175 := n3_; clear n0_ n1_ n2_ n3_; clear hb hbox hg; have hcz30_0 : w29.cell? ⟨gb175, 0, none⟩ = some (.int .i64 a0_0) := (blk_cell BK175.out 0).trans rfl; have hcz30_1 : w29.cell? ⟨gb175, 1, none⟩ = some (.int .i64 a0_1) := (blk_cell BK175.out 1).trans rfl; have hcz30_2 : w29.cell? ⟨gb175, 2, none⟩ = some (.int .i64 a0_2) := (blk_cell BK175.out 2).trans rfl; have hcz30_3 : w29.cell? ⟨gb175, 3, none⟩ = some (.int .i64 a0_3) := (blk_cell BK175.out 3).trans rfl; have hcz30_4 : w29.cell? ⟨gb175, 4, none⟩ = some (.int .i64 a0_4) := (blk_cell BK175.out 4).trans rfl; have hcz30_5 : w29.cell? ⟨gb175, 5, none⟩ = some (.int .i64 a0_5) := (blk_cell BK175.out 5).trans rfl; have hcz30_6 : w29.cell? ⟨gb175, 6, none⟩ = some (.int .i64 a0_6) := (blk_cell BK175.out 6).trans rfl; have hcz30_7 : w29.cell? ⟨gb175, 7, none⟩ = some (.int .i64 a0_7) := (blk_cell BK175.out 7).trans rfl; have hcz30_8 : w29.cell? ⟨gb175, 8, none⟩ = some (.int .i64 a0_8) := (blk_cell BK175.out 8).trans rfl; have hcz30_9 : w29.cell? ⟨gb175, 9, none⟩ = some (.int .i64 a0_9) := (blk_cell BK175.out 9).trans rfl; have hcz30_10 : w29.cell? ⟨gb175, 10, none⟩ = some (.int .i64 a0_10) := (blk_cell BK175.out 10).trans rfl; have hcz30_11 : w29.cell? ⟨gb175, 11, none⟩ = some (.int .i64 a0_11) := (blk_cell BK175.out 11).trans rfl; have hfz30_0 := blk_frozen BK175.out 0; have hfz30_1 := blk_frozen BK175.out 1; have hfz30_2 := blk_frozen BK175.out 2; have hfz30_3 := blk_frozen BK175.out 3; have hfz30_4 := blk_frozen BK175.out 4; have hfz30_5 := blk_frozen BK175.out 5; have hfz30_6 := blk_frozen BK175.out 6; have hfz30_7 := blk_frozen BK175.out 7; have hfz30_8 := blk_frozen BK175.out 8; have hfz30_9 := blk_frozen BK175.out 9; have hfz30_10 := blk_frozen BK175.out 10; have hfz30_11 := blk_frozen BK175.out 11) | ((with_reducible refine gate_callee (f := 19) rfl ?_); refine goesL_ (some 12) rfl rfl Try.func19 (by kernel_rfl) rfl #[.agg #[.int .i64 a0_0, .int .i64 a0_1, .int .i64 a0_2, .int .i64 a0_3, .int .i64 a0_4, .int .i64 a0_5, .int .i64 a0_6, .int .i64 a0_7, .int .i64 a0_8, .int .i64 a0_9, .int .i64 a0_10, .int .i64 a0_11]] rfl (by (try simp only [List.map_toArray, List.map_cons, List.map_nil]); first | done | rfl | (simp only [List.length_drop, List.length_take]; rfl) | (simp only [Int.toNat_natCast, Nat.sub_self, List.length_drop, List.length_take]; rfl)) ?_; (with_reducible refine (plan_MaxSize.calls a0_0 a0_1 a0_2 a0_3 a0_4 a0_5 a0_6 a0_7 a0_8 a0_9 a0_10 a0_11 t176 t177 _ A3.out).mono ?_); rintro e w31 ⟨rfl, hb⟩; refine ⟨_, rfl, ?_⟩; have n0_ := Aside0.mk (blk_below (g := gb175) (o := .cells #[.int .i64 a0_0, .int .i64 a0_1, .int .i64 a0_2, .int .i64 a0_3, .int .i64 a0_4, .int .i64 a0_5, .int .i64 a0_6, .int .i64 a0_7, .int .i64 a0_8, .int .i64 a0_9, .int .i64 a0_10, .int .i64 a0_11] 24 (0, 0)) (by (with_reducible repeat (first | refine blk_drewN ?_ _ | refine blk_drew ?_ | refine blk_alloc ?_ _)); exact BK175.out) hb); have n1_ := Aside0.mk (below_step (by repeat (first | (with_reducible first | exact HB.out | apply below_alloc | apply pw_below_drewN | apply below_drew1 | refine below_set ?_ GE175.out) | with_reducible_and_instances exact HB.out)) hb); clear BK175; clear HB; have BK175 := n0_; have HB := n1_; clear n0_ n1_; (try clear hb); (try clear hb2); (try clear hk); (try clear hi)) | ((with_reducible refine gate_callee (f := 24) rfl ?_); refine goesL_ (some 20) rfl rfl Try.func24 (by kernel_rfl) rfl #[.int .i64 a1, .int .i64 0, .int .i64 t176] rfl (by (try simp only [List.map_toArray, List.map_cons, List.map_nil]); first | done | rfl | (simp only [List.length_drop, List.length_take]; rfl) | (simp only [Int.toNat_natCast, Nat.sub_self, List.length_drop, List.length_take]; rfl)) ?_; (with_reducible refine (plan_within.calls a1 0 t176 false _ A5.out).mono ?_); rintro e w' ⟨rfl, ⟨nd, rfl⟩⟩; refine ⟨_, rfl, ?_⟩))
      go_ret3
      exact ⟨by first | rfl | (simp [errW_none, errW_some] <;> rfl) | (simp [*, errW_none, errW_some] <;> rfl), by repeat (first | (with_reducible first | exact HB.out | apply below_alloc | apply pw_below_drewN | apply below_drew1 | refine below_set ?_ GE175.out) | with_reducible_and_instances exact HB.out)⟩
  · rw [if_neg c4] at H
    have c4b0 : (t177 == 0) = false := beq_eq_false_iff_ne.mpr c4
    have c4b1 : (t177 != 0) = true := bne_iff_ne.mpr c4
    simp only [Option.some.injEq, Prod.mk.injEq] at H
    obtain ⟨rfl, rfl, rfl⟩ := H
    go_enter Try.func21, Try.ntmps21
    go_wp2_with (first | ((with_reducible refine gate_dst (N := 2) rfl ?_); refine box_event ?hg (N := 2) ?hd (cs := #[.int .i64 a0_0, .int .i64 a0_1, .int .i64 a0_2, .int .i64 a0_3, .int .i64 a0_4, .int .i64 a0_5, .int .i64 a0_6, .int .i64 a0_7, .int .i64 a0_8, .int .i64 a0_9, .int .i64 a0_10, .int .i64 a0_11]) (t := 24) ?hr ?_; (case hd => rfl); (case hg => rfl); (case hr => first | (go_simp; done) | (go_simp; rfl)); intro gb175 hg w32 hbox hb; have n0_ := Aside0.mk (below_step (by repeat (first | (with_reducible first | exact HB.out | apply below_alloc | apply pw_below_drewN | apply below_drew1) | with_reducible_and_instances exact HB.out)) hb); have n1_ := Aside0.mk (hbox); have n2_ := Aside0.mk ((by rw [hg]; exact (below_size (by repeat (first | (with_reducible first | exact HB.out | apply below_alloc | apply pw_below_drewN | apply below_drew1) | with_reducible_and_instances exact HB.out))) : w.heap.size ≤ gb175)); have n3_ := Aside0.mk ((by rw [hg]; exact (below_size (by repeat (first | (with_reducible first | exact HB.out | apply below_alloc | apply pw_below_drewN | apply below_drew1) | with_reducible_and_instances exact HB.out))) : w.heap.size ≤ gb175)); clear HB; have HB := n0_; have BK175 := n1_; have GW175 := n2_; have GE175 := n3_; clear n0_ n1_ n2_ n3_; clear hb hbox hg; have hcz33_0 : w32.cell? ⟨gb175, 0, none⟩ = some (.int .i64 a0_0) := (blk_cell BK175.out 0).trans rfl; have hcz33_1 : w32.cell? ⟨gb175, 1, none⟩ = some (.int .i64 a0_1) := (blk_cell BK175.out 1).trans rfl; have hcz33_2 : w32.cell? ⟨gb175, 2, none⟩ = some (.int .i64 a0_2) := (blk_cell BK175.out 2).trans rfl; have hcz33_3 : w32.cell? ⟨gb175, 3, none⟩ = some (.int .i64 a0_3) := (blk_cell BK175.out 3).trans rfl; have hcz33_4 : w32.cell? ⟨gb175, 4, none⟩ = some (.int .i64 a0_4) := (blk_cell BK175.out 4).trans rfl; have hcz33_5 : w32.cell? ⟨gb175, 5, none⟩ = some (.int .i64 a0_5) := (blk_cell BK175.out 5).trans rfl; have hcz33_6 : w32.cell? ⟨gb175, 6, none⟩ = some (.int .i64 a0_6) := (blk_cell BK175.out 6).trans rfl; have hcz33_7 : w32.cell? ⟨gb175, 7, none⟩ = some (.int .i64 a0_7) := (blk_cell BK175.out 7).trans rfl; have hcz33_8 : w32.cell? ⟨gb175, 8, none⟩ = some (.int .i64 a0_8) := (blk_cell BK175.out 8).trans rfl; have hcz33_9 : w32.cell? ⟨gb175, 9, none⟩ = some (.int .i64 a0_9) := (blk_cell BK175.out 9).trans rfl; have hcz33_10 : w32.cell? ⟨gb175, 10, none⟩ = some (.int .i64 a0_10) := (blk_cell BK175.out 10).trans rfl; have hcz33_11 : w32.cell? ⟨gb175, 11, none⟩ = some (.int .i64 a0_11) := (blk_cell BK175.out 11).trans rfl; have hfz33_0 := blk_frozen BK175.out 0; have hfz33_1 := blk_frozen BK175.out 1; have hfz33_2 := blk_frozen BK175.out 2; have hfz33_3 := blk_frozen BK175.out 3; have hfz33_4 := blk_frozen BK175.out 4; have hfz33_5 := blk_frozen BK175.out 5; have hfz33_6 := blk_frozen BK175.out 6; have hfz33_7 := blk_frozen BK175.out 7; have hfz33_8 := blk_frozen BK175.out 8; have hfz33_9 := blk_frozen BK175.out 9; have hfz33_10 := blk_frozen BK175.out 10; have hfz33_11 := blk_frozen BK175.out 11) | ((with_reducible refine gate_callee (f := 19) rfl ?_); refine goesL_ (some 12) rfl rfl Try.func19 (by kernel_rfl) rfl #[.agg #[.int .i64 a0_0, .int .i64 a0_1, .int .i64 a0_2, .int .i64 a0_3, .int .i64 a0_4, .int .i64 a0_5, .int .i64 a0_6, .int .i64 a0_7, .int .i64 a0_8, .int .i64 a0_9, .int .i64 a0_10, .int .i64 a0_11]] rfl (by (try simp only [List.map_toArray, List.map_cons, List.map_nil]); first | done | rfl | (simp only [List.length_drop, List.length_take]; rfl) | (simp only [Int.toNat_natCast, Nat.sub_self, List.length_drop, List.length_take]; rfl)) ?_; (with_reducible refine (plan_MaxSize.calls a0_0 a0_1 a0_2 a0_3 a0_4 a0_5 a0_6 a0_7 a0_8 a0_9 a0_10 a0_11 t176 t177 _ A3.out).mono ?_); rintro e w34 ⟨rfl, hb⟩; refine ⟨_, rfl, ?_⟩; have n0_ := Aside0.mk (blk_below (g := gb175) (o := .cells #[.int .i64 a0_0, .int .i64 a0_1, .int .i64 a0_2, .int .i64 a0_3, .int .i64 a0_4, .int .i64 a0_5, .int .i64 a0_6, .int .i64 a0_7, .int .i64 a0_8, .int .i64 a0_9, .int .i64 a0_10, .int .i64 a0_11] 24 (0, 0)) (by (with_reducible repeat (first | refine blk_drewN ?_ _ | refine blk_drew ?_ | refine blk_alloc ?_ _)); exact BK175.out) hb); have n1_ := Aside0.mk (below_step (by repeat (first | (with_reducible first | exact HB.out | apply below_alloc | apply pw_below_drewN | apply below_drew1 | refine below_set ?_ GE175.out) | with_reducible_and_instances exact HB.out)) hb); clear BK175; clear HB; have BK175 := n0_; have HB := n1_; clear n0_ n1_; (try clear hb); (try clear hb2); (try clear hk); (try clear hi)))
    go_ret3
    exact ⟨by first | rfl | (simp [errW_none, errW_some] <;> rfl) | (simp [*, errW_none, errW_some] <;> rfl), by repeat (first | (with_reducible first | exact HB.out | apply below_alloc | apply pw_below_drewN | apply below_drew1 | refine below_set ?_ GE175.out) | with_reducible_and_instances exact HB.out)⟩

/-! ### skerryref05_Whole: function 22 -/
def skerryref05_Whole.j0 : Nat → Int → Bool → Int → Int → Int → Int → Int → Int → Int → Int → Int → Int → Int → Int → Option (Int × Int × Int)
  | 0, _, _, _, _, _, _, _, _, _, _, _, _, _, _ => none
  | k + 1, x1, x26, x183000, x183001, x183002, x183003, x183004, x183005, x183006, x183007, x183008, x183009, x183010, x183011 => if x26 = true then (some (0, 0, 2)) else ((skerryref05_blocksFor.f k x1 x183000).bind fun t185 => (if t185 > 8 then (if t185 > (wrap64 (8 + (wrap64 (Int.tdiv x183000 2)))) then ((skerryref05_blocksFor.f k (wrap64 ((wrap64 (t185 - 8)) - (wrap64 (Int.tdiv x183000 2)))) (wrap64 (Int.tdiv x183000 2))).bind fun t186 => (some (t185, wrap64 (2 + t186), 0))) else (some (t185, 1, 0))) else (if t185 > (wrap64 (8 + (wrap64 (Int.tdiv x183000 2)))) then ((skerryref05_blocksFor.f k (wrap64 ((wrap64 (t185 - 8)) - (wrap64 (Int.tdiv x183000 2)))) (wrap64 (Int.tdiv x183000 2))).bind fun t187 => (some (t185, wrap64 (2 + t187), 0))) else (some (t185, 0, 0)))))
def skerryref05_Whole.f (k : Nat) (a0_0 : Int) (a0_1 : Int) (a0_2 : Int) (a0_3 : Int) (a0_4 : Int) (a0_5 : Int) (a0_6 : Int) (a0_7 : Int) (a0_8 : Int) (a0_9 : Int) (a0_10 : Int) (a0_11 : Int) (a1 : Int) : Option (Int × Int × Int) := (skerryref05_MaxSize.f k a0_0 a0_1 a0_2 a0_3 a0_4 a0_5 a0_6 a0_7 a0_8 a0_9 a0_10 a0_11).bind fun bt183 => (if bt183.2 = 0 then (if a1 < 0 then (skerryref05_Whole.j0 k a1 true a0_0 a0_1 a0_2 a0_3 a0_4 a0_5 a0_6 a0_7 a0_8 a0_9 a0_10 a0_11) else (skerryref05_Whole.j0 k a1 (decide (a1 > bt183.1)) a0_0 a0_1 a0_2 a0_3 a0_4 a0_5 a0_6 a0_7 a0_8 a0_9 a0_10 a0_11)) else (some (0, 0, bt183.2)))
theorem skerryref05_Whole.mono_l : ∀ k, (∀ y0 y1 y2 y3 y4 y5 y6 y7 y8 y9 y10 y11 y12 y13, LeO (skerryref05_Whole.j0 k y0 y1 y2 y3 y4 y5 y6 y7 y8 y9 y10 y11 y12 y13) (skerryref05_Whole.j0 (k + 1) y0 y1 y2 y3 y4 y5 y6 y7 y8 y9 y10 y11 y12 y13))
  | 0 => fun _ _ _ _ _ _ _ _ _ _ _ _ _ _ r h => by simp [skerryref05_Whole.j0] at h
  | k + 1 => by
    have ih0 := skerryref05_Whole.mono_l k
    · intro y0 y1 y2 y3 y4 y5 y6 y7 y8 y9 y10 y11 y12 y13
      unfold skerryref05_Whole.j0
      repeat' first
      | (with_reducible exact ih0 _ _ _ _ _ _ _ _ _ _ _ _ _ _)
      | (with_reducible exact skerryref05_MaxSize.mono _ _ _ _ _ _ _ _ _ _ _ _ _)
      | (with_reducible exact skerryref05_blocksFor.mono _ _ _)
      | (with_reducible exact LeO.refl _)
      | (with_reducible exact LeO.none _)
      | (with_reducible refine LeO.ite ?_ ?_)
      | (with_reducible refine LeO.bind ?_ (fun _ => ?_))
      | exact ih0 _ _ _ _ _ _ _ _ _ _ _ _ _ _
      | exact skerryref05_MaxSize.mono _ _ _ _ _ _ _ _ _ _ _ _ _
      | exact skerryref05_blocksFor.mono _ _ _
      | exact LeO.none _
      | refine LeO.ite ?_ ?_
      | refine LeO.bind ?_ (fun _ => ?_)
theorem skerryref05_Whole.mono : ∀ a0 a1 a2 a3 a4 a5 a6 a7 a8 a9 a10 a11 a12 k, LeO (skerryref05_Whole.f k a0 a1 a2 a3 a4 a5 a6 a7 a8 a9 a10 a11 a12) (skerryref05_Whole.f (k + 1) a0 a1 a2 a3 a4 a5 a6 a7 a8 a9 a10 a11 a12) := by
  intro a0 a1 a2 a3 a4 a5 a6 a7 a8 a9 a10 a11 a12 k
  have ih0 := skerryref05_Whole.mono_l k
  unfold skerryref05_Whole.f
  repeat' first
      | (with_reducible exact ih0 _ _ _ _ _ _ _ _ _ _ _ _ _ _)
      | (with_reducible exact skerryref05_MaxSize.mono _ _ _ _ _ _ _ _ _ _ _ _ _)
      | (with_reducible exact skerryref05_blocksFor.mono _ _ _)
      | (with_reducible exact LeO.refl _)
      | (with_reducible exact LeO.none _)
      | (with_reducible refine LeO.ite ?_ ?_)
      | (with_reducible refine LeO.bind ?_ (fun _ => ?_))
      | exact ih0 _ _ _ _ _ _ _ _ _ _ _ _ _ _
      | exact skerryref05_MaxSize.mono _ _ _ _ _ _ _ _ _ _ _ _ _
      | exact skerryref05_blocksFor.mono _ _ _
      | exact LeO.none _
      | refine LeO.ite ?_ ?_
      | refine LeO.bind ?_ (fun _ => ?_)
set_option maxHeartbeats 8000000 in
set_option maxRecDepth 100000 in
theorem skerryref05_Whole.calls (k : Nat) (a0_0 : Int) (a0_1 : Int) (a0_2 : Int) (a0_3 : Int) (a0_4 : Int) (a0_5 : Int) (a0_6 : Int) (a0_7 : Int) (a0_8 : Int) (a0_9 : Int) (a0_10 : Int) (a0_11 : Int) (a1 : Int) (r1 : Int) (r2 : Int) (r3 : Int) (w : World) (h : skerryref05_Whole.f k a0_0 a0_1 a0_2 a0_3 a0_4 a0_5 a0_6 a0_7 a0_8 a0_9 a0_10 a0_11 a1 = some (r1, r2, r3)) :
    Calls Try.prog 22 #[.agg #[.int .i64 a0_0, .int .i64 a0_1, .int .i64 a0_2, .int .i64 a0_3, .int .i64 a0_4, .int .i64 a0_5, .int .i64 a0_6, .int .i64 a0_7, .int .i64 a0_8, .int .i64 a0_9, .int .i64 a0_10, .int .i64 a0_11], .int .i64 a1] w fun e w' => e = .returned (.tuple #[.int .i64 r1, .int .i64 r2, .int .i64 r3]) ∧ Below w.heap.size w w' := by
  have hu24 := Try.underlying24
  have HB := Aside0.mk (Below.refl w.heap.size w)
  have H : ((skerryref05_MaxSize.f k a0_0 a0_1 a0_2 a0_3 a0_4 a0_5 a0_6 a0_7 a0_8 a0_9 a0_10 a0_11).bind fun bt183 => (if bt183.2 = 0 then (if a1 < 0 then (skerryref05_Whole.j0 k a1 true a0_0 a0_1 a0_2 a0_3 a0_4 a0_5 a0_6 a0_7 a0_8 a0_9 a0_10 a0_11) else (skerryref05_Whole.j0 k a1 (decide (a1 > bt183.1)) a0_0 a0_1 a0_2 a0_3 a0_4 a0_5 a0_6 a0_7 a0_8 a0_9 a0_10 a0_11)) else (some (0, 0, bt183.2)))) = some (r1, r2, r3) := h
  clear h
  replace H := Option.bind_eq_some_iff.mp H
  obtain ⟨⟨t183, t184⟩, A30, H⟩ := H
  replace H : (if t184 = 0 then (if a1 < 0 then (skerryref05_Whole.j0 k a1 true a0_0 a0_1 a0_2 a0_3 a0_4 a0_5 a0_6 a0_7 a0_8 a0_9 a0_10 a0_11) else (skerryref05_Whole.j0 k a1 (decide (a1 > t183)) a0_0 a0_1 a0_2 a0_3 a0_4 a0_5 a0_6 a0_7 a0_8 a0_9 a0_10 a0_11)) else (some (0, 0, t184))) = some (r1, r2, r3) := H
  have A3 := Aside0.mk A30
  clear A30
  by_cases c4 : t184 = 0
  · rw [if_pos c4] at H
    have c4b0 : (t184 == 0) = true := beq_iff_eq.mpr c4
    have c4b1 : (t184 != 0) = false := bne_eq_false_iff_eq.mpr c4
    clear c4
    have HC5 := Aside0.mk H
    clear H
    go_enter Try.func22, Try.ntmps22
    go_upto_region 4 with (first | ((with_reducible refine gate_dst (N := 2) rfl ?_); refine box_event ?hg (N := 2) ?hd (cs := #[.int .i64 a0_0, .int .i64 a0_1, .int .i64 a0_2, .int .i64 a0_3, .int .i64 a0_4, .int .i64 a0_5, .int .i64 a0_6, .int .i64 a0_7, .int .i64 a0_8, .int .i64 a0_9, .int .i64 a0_10, .int .i64 a0_11]) (t := 24) ?hr ?_; (case hd => rfl); (case hg => rfl); (case hr => first | (go_simp; done) | (go_simp; rfl)); intro gb182 hg w6 hbox hb; have n0_ := Aside0.mk (below_step (by repeat (first | (with_reducible first | exact HB.out | apply below_alloc | apply pw_below_drewN | apply below_drew1) | with_reducible_and_instances exact HB.out)) hb); have n1_ := Aside0.mk (hbox); have n2_ := Aside0.mk ((by rw [hg]; exact (below_size (by repeat (first | (with_reducible first | exact HB.out | apply below_alloc | apply pw_below_drewN | apply below_drew1) | with_reducible_and_instances exact HB.out))) : w.heap.size ≤ gb182)); have n3_ := Aside0.mk ((by rw [hg]; exact (below_size (by repeat (first | (with_reducible first | exact HB.out | apply below_alloc | apply pw_below_drewN | apply below_drew1) | with_reducible_and_instances exact HB.out))) : w.heap.size ≤ gb182)); clear HB; have HB := n0_; have BK182 := n1_; have GW182 := n2_; have GE182 := n3_; clear n0_ n1_ n2_ n3_; clear hb hbox hg; have hcz7_0 : w6.cell? ⟨gb182, 0, none⟩ = some (.int .i64 a0_0) := (blk_cell BK182.out 0).trans rfl; have hcz7_1 : w6.cell? ⟨gb182, 1, none⟩ = some (.int .i64 a0_1) := (blk_cell BK182.out 1).trans rfl; have hcz7_2 : w6.cell? ⟨gb182, 2, none⟩ = some (.int .i64 a0_2) := (blk_cell BK182.out 2).trans rfl; have hcz7_3 : w6.cell? ⟨gb182, 3, none⟩ = some (.int .i64 a0_3) := (blk_cell BK182.out 3).trans rfl; have hcz7_4 : w6.cell? ⟨gb182, 4, none⟩ = some (.int .i64 a0_4) := (blk_cell BK182.out 4).trans rfl; have hcz7_5 : w6.cell? ⟨gb182, 5, none⟩ = some (.int .i64 a0_5) := (blk_cell BK182.out 5).trans rfl; have hcz7_6 : w6.cell? ⟨gb182, 6, none⟩ = some (.int .i64 a0_6) := (blk_cell BK182.out 6).trans rfl; have hcz7_7 : w6.cell? ⟨gb182, 7, none⟩ = some (.int .i64 a0_7) := (blk_cell BK182.out 7).trans rfl; have hcz7_8 : w6.cell? ⟨gb182, 8, none⟩ = some (.int .i64 a0_8) := (blk_cell BK182.out 8).trans rfl; have hcz7_9 : w6.cell? ⟨gb182, 9, none⟩ = some (.int .i64 a0_9) := (blk_cell BK182.out 9).trans rfl; have hcz7_10 : w6.cell? ⟨gb182, 10, none⟩ = some (.int .i64 a0_10) := (blk_cell BK182.out 10).trans rfl; have hcz7_11 : w6.cell? ⟨gb182, 11, none⟩ = some (.int .i64 a0_11) := (blk_cell BK182.out 11).trans rfl; have hfz7_0 := blk_frozen BK182.out 0; have hfz7_1 := blk_frozen BK182.out 1; have hfz7_2 := blk_frozen BK182.out 2; have hfz7_3 := blk_frozen BK182.out 3; have hfz7_4 := blk_frozen BK182.out 4; have hfz7_5 := blk_frozen BK182.out 5; have hfz7_6 := blk_frozen BK182.out 6; have hfz7_7 := blk_frozen BK182.out 7; have hfz7_8 := blk_frozen BK182.out 8; have hfz7_9 := blk_frozen BK182.out 9; have hfz7_10 := blk_frozen BK182.out 10; have hfz7_11 := blk_frozen BK182.out 11) | ((with_reducible refine gate_callee (f := 20) rfl ?_); refine goesL_ (some 14) rfl rfl Try.func20 (by kernel_rfl) rfl #[.agg #[.int .i64 a0_0, .int .i64 a0_1, .int .i64 a0_2, .int .i64 a0_3, .int .i64 a0_4, .int .i64 a0_5, .int .i64 a0_6, .int .i64 a0_7, .int .i64 a0_8, .int .i64 a0_9, .int .i64 a0_10, .int .i64 a0_11]] rfl (by (try simp only [List.map_toArray, List.map_cons, List.map_nil]); first | done | rfl | (simp only [List.length_drop, List.length_take]; rfl) | (simp only [Int.toNat_natCast, Nat.sub_self, List.length_drop, List.length_take]; rfl)) ?_; (with_reducible refine (skerryref05_MaxSize.calls k a0_0 a0_1 a0_2 a0_3 a0_4 a0_5 a0_6 a0_7 a0_8 a0_9 a0_10 a0_11 t183 t184 _ A3.out).mono ?_); rintro e w8 ⟨rfl, hb⟩; refine ⟨_, rfl, ?_⟩; have n0_ := Aside0.mk (blk_below (g := gb182) (o := .cells #[.int .i64 a0_0, .int .i64 a0_1, .int .i64 a0_2, .int .i64 a0_3, .int .i64 a0_4, .int .i64 a0_5, .int .i64 a0_6, .int .i64 a0_7, .int .i64 a0_8, .int .i64 a0_9, .int .i64 a0_10, .int .i64 a0_11] 24 (0, 0)) (by (with_reducible repeat (first | refine blk_drewN ?_ _ | refine blk_drew ?_ | refine blk_alloc ?_ _)); exact BK182.out) hb); have n1_ := Aside0.mk (below_step (by repeat (first | (with_reducible first | exact HB.out | apply below_alloc | apply pw_below_drewN | apply below_drew1 | refine below_set ?_ GE182.out) | with_reducible_and_instances exact HB.out)) hb); clear BK182; clear HB; have BK182 := n0_; have HB := n1_; clear n0_ n1_; (try clear hb); (try clear hb2); (try clear hk); (try clear hi)))
    (try simp only [Act.put, List.setIfInBounds_toArray, List.set_cons_zero, List.set_cons_succ])
    go_cut [26] (fun v26 wc => ∃ (kq : Nat) (x26_4 : Bool), v26 = .bool x26_4 ∧ Aside0 (skerryref05_Whole.j0 kq a1 x26_4 a0_0 a0_1 a0_2 a0_3 a0_4 a0_5 a0_6 a0_7 a0_8 a0_9 a0_10 a0_11 = some (r1, r2, r3)) ∧ Aside0 (kq ≤ k) ∧ Aside0 (wc.heap[gb182]? = some (.cells #[.int .i64 a0_0, .int .i64 a0_1, .int .i64 a0_2, .int .i64 a0_3, .int .i64 a0_4, .int .i64 a0_5, .int .i64 a0_6, .int .i64 a0_7, .int .i64 a0_8, .int .i64 a0_9, .int .i64 a0_10, .int .i64 a0_11] 24 (0, 0))) ∧ Aside0 (Below w.heap.size w wc))
    case first =>
      have H := HC5.out
      clear HC5
      by_cases c9 : a1 < 0
      · rw [if_pos c9] at H
        have c9b0 : decide (a1 < 0) = true := decide_eq_true c9
        clear c9
        (first | rw [c9b0] | (simp only [i64_w, i32_w]; rw [c9b0]) | rw [c9b1] | skip)
        have H' := Aside0.mk H
        clear H
        go_wp2
        go_meet
        case rel => exact ⟨_, (true), (by first | rfl | (simp; done) | (simp [*]; done)), H', ⟨by first | omega | exact Nat.le_refl _⟩, ⟨by (with_reducible repeat (first | refine blk_drewN ?_ _ | refine blk_drew ?_ | refine blk_alloc ?_ _)); exact BK182.out⟩, ⟨by repeat (first | (with_reducible first | exact HB.out | apply below_alloc | apply pw_below_drewN | apply below_drew1 | refine below_set ?_ GE182.out) | with_reducible_and_instances exact HB.out)⟩⟩
      · rw [if_neg c9] at H
        have c9b0 : decide (a1 < 0) = false := decide_eq_false c9
        clear c9
        (first | rw [c9b0] | (simp only [i64_w, i32_w]; rw [c9b0]) | rw [c9b1] | skip)
        have H' := Aside0.mk H
        clear H
        go_wp2
        go_meet
        case rel => exact ⟨_, (decide (a1 > t183)), (by first | rfl | (simp; done) | (simp [*]; done)), H', ⟨by first | omega | exact Nat.le_refl _⟩, ⟨by (with_reducible repeat (first | refine blk_drewN ?_ _ | refine blk_drew ?_ | refine blk_alloc ?_ _)); exact BK182.out⟩, ⟨by repeat (first | (with_reducible first | exact HB.out | apply below_alloc | apply pw_below_drewN | apply below_drew1 | refine below_set ?_ GE182.out) | with_reducible_and_instances exact HB.out)⟩⟩
    case rest =>
      clear HC5
      try clear c2
      try clear p2
      try clear c4
      try clear c4b0
      try clear c4b1
      try clear c9
      try clear c9b0
      try clear c9b1
      try clear hcz7_0
      try clear hcz7_1
      try clear hcz7_10
      try clear hcz7_11
      try clear hcz7_2
      try clear hcz7_3
      try clear hcz7_4
      try clear hcz7_5
      try clear hcz7_6
      try clear hcz7_7
      try clear hcz7_8
      try clear hcz7_9
      try clear hfz7_0
      try clear hfz7_1
      try clear hfz7_10
      try clear hfz7_11
      try clear hfz7_2
      try clear hfz7_3
      try clear hfz7_4
      try clear hfz7_5
      try clear hfz7_6
      try clear hfz7_7
      try clear hfz7_8
      try clear hfz7_9
      obtain ⟨kq, x26_4, rfl, HA, HJ4, BK182, HB⟩ := hcut
      cases kq with
      | zero => exact absurd HA.out (by simp [skerryref05_Whole.j0])
      | succ kj4 =>
        have H := HA.out
        clear HA
        simp only [skerryref05_Whole.j0] at H
        by_cases c10 : x26_4 = true
        · subst c10
          have H1 : (some (0, 0, 2)) = some (r1, r2, r3) := by rw [if_pos rfl] at H; exact H
          clear H
          have H := H1
          clear H1
          simp only [Option.some.injEq, Prod.mk.injEq] at H
          obtain ⟨rfl, rfl, rfl⟩ := H
          go_wp2
          go_ret3
          exact ⟨by first | rfl | (simp [errW_none, errW_some] <;> rfl) | (simp [*, errW_none, errW_some] <;> rfl), by repeat (first | (with_reducible first | exact HB.out | apply below_alloc | apply pw_below_drewN | apply below_drew1 | refine below_set ?_ GE182.out) | with_reducible_and_instances exact HB.out)⟩
        · replace c10 := Bool.eq_false_iff.mpr c10
          subst c10
          have H1 : ((skerryref05_blocksFor.f kj4 a1 a0_0).bind fun t185 => (if t185 > 8 then (if t185 > (wrap64 (8 + (wrap64 (Int.tdiv a0_0 2)))) then ((skerryref05_blocksFor.f kj4 (wrap64 ((wrap64 (t185 - 8)) - (wrap64 (Int.tdiv a0_0 2)))) (wrap64 (Int.tdiv a0_0 2))).bind fun t186 => (some (t185, wrap64 (2 + t186), 0))) else (some (t185, 1, 0))) else (if t185 > (wrap64 (8 + (wrap64 (Int.tdiv a0_0 2)))) then ((skerryref05_blocksFor.f kj4 (wrap64 ((wrap64 (t185 - 8)) - (wrap64 (Int.tdiv a0_0 2)))) (wrap64 (Int.tdiv a0_0 2))).bind fun t187 => (some (t185, wrap64 (2 + t187), 0))) else (some (t185, 0, 0))))) = some (r1, r2, r3) := by rw [if_neg (show ¬ (false = true) by decide)] at H; exact H
          clear H
          have H := H1
          clear H1
          replace H := Option.bind_eq_some_iff.mp H
          obtain ⟨t185, A110, H⟩ := H
          replace H : (if t185 > 8 then (if t185 > (wrap64 (8 + (wrap64 (Int.tdiv a0_0 2)))) then ((skerryref05_blocksFor.f kj4 (wrap64 ((wrap64 (t185 - 8)) - (wrap64 (Int.tdiv a0_0 2)))) (wrap64 (Int.tdiv a0_0 2))).bind fun t186 => (some (t185, wrap64 (2 + t186), 0))) else (some (t185, 1, 0))) else (if t185 > (wrap64 (8 + (wrap64 (Int.tdiv a0_0 2)))) then ((skerryref05_blocksFor.f kj4 (wrap64 ((wrap64 (t185 - 8)) - (wrap64 (Int.tdiv a0_0 2)))) (wrap64 (Int.tdiv a0_0 2))).bind fun t187 => (some (t185, wrap64 (2 + t187), 0))) else (some (t185, 0, 0)))) = some (r1, r2, r3) := H
          have A11 := Aside0.mk A110
          clear A110
          by_cases c12 : t185 > 8
          · rw [if_pos c12] at H
            have c12b0 : decide (8 < t185) = true := decide_eq_true c12
            clear c12
            by_cases c13 : t185 > (wrap64 (8 + (wrap64 (Int.tdiv a0_0 2))))
            · rw [if_pos c13] at H
              have c13b0 : decide ((wrap64 (8 + (wrap64 (Int.tdiv a0_0 2)))) < t185) = true := decide_eq_true c13
              clear c13
              replace H := Option.bind_eq_some_iff.mp H
              obtain ⟨t186, A140, H⟩ := H
              replace H : (some (t185, wrap64 (2 + t186), 0)) = some (r1, r2, r3) := H
              have A14 := Aside0.mk A140
              clear A140
              simp only [Option.some.injEq, Prod.mk.injEq] at H
              obtain ⟨rfl, rfl, rfl⟩ := H
              have hcz15_0 : wc.cell? ⟨gb182, 0, none⟩ = some (.int .i64 a0_0) := (blk_cell BK182.out 0).trans rfl
              have hcz15_1 : wc.cell? ⟨gb182, 1, none⟩ = some (.int .i64 a0_1) := (blk_cell BK182.out 1).trans rfl
              have hcz15_2 : wc.cell? ⟨gb182, 2, none⟩ = some (.int .i64 a0_2) := (blk_cell BK182.out 2).trans rfl
              have hcz15_3 : wc.cell? ⟨gb182, 3, none⟩ = some (.int .i64 a0_3) := (blk_cell BK182.out 3).trans rfl
              have hcz15_4 : wc.cell? ⟨gb182, 4, none⟩ = some (.int .i64 a0_4) := (blk_cell BK182.out 4).trans rfl
              have hcz15_5 : wc.cell? ⟨gb182, 5, none⟩ = some (.int .i64 a0_5) := (blk_cell BK182.out 5).trans rfl
              have hcz15_6 : wc.cell? ⟨gb182, 6, none⟩ = some (.int .i64 a0_6) := (blk_cell BK182.out 6).trans rfl
              have hcz15_7 : wc.cell? ⟨gb182, 7, none⟩ = some (.int .i64 a0_7) := (blk_cell BK182.out 7).trans rfl
              have hcz15_8 : wc.cell? ⟨gb182, 8, none⟩ = some (.int .i64 a0_8) := (blk_cell BK182.out 8).trans rfl
              have hcz15_9 : wc.cell? ⟨gb182, 9, none⟩ = some (.int .i64 a0_9) := (blk_cell BK182.out 9).trans rfl
              have hcz15_10 : wc.cell? ⟨gb182, 10, none⟩ = some (.int .i64 a0_10) := (blk_cell BK182.out 10).trans rfl
              have hcz15_11 : wc.cell? ⟨gb182, 11, none⟩ = some (.int .i64 a0_11) := (blk_cell BK182.out 11).trans rfl
              have hfz15_0 := blk_frozen BK182.out 0
              have hfz15_1 := blk_frozen BK182.out 1
              have hfz15_2 := blk_frozen BK182.out 2
              have hfz15_3 := blk_frozen BK182.out 3
              have hfz15_4 := blk_frozen BK182.out 4
              have hfz15_5 := blk_frozen BK182.out 5
              have hfz15_6 := blk_frozen BK182.out 6
              have hfz15_7 := blk_frozen BK182.out 7
              have hfz15_8 := blk_frozen BK182.out 8
              have hfz15_9 := blk_frozen BK182.out 9
              have hfz15_10 := blk_frozen BK182.out 10
              have hfz15_11 := blk_frozen BK182.out 11
              go_wp2_with (first | ((with_reducible refine gate_callee (f := 29) rfl ?_); refine goesL_ (some 30) rfl rfl Try.func29 (by kernel_rfl) rfl #[.int .i64 a1, .int .i64 a0_0] rfl (by (try simp only [List.map_toArray, List.map_cons, List.map_nil]); first | done | rfl | (simp only [List.length_drop, List.length_take]; rfl) | (simp only [Int.toNat_natCast, Nat.sub_self, List.length_drop, List.length_take]; rfl)) ?_; (with_reducible refine (skerryref05_blocksFor.calls kj4 a1 a0_0 t185 _ A11.out).mono ?_); rintro e w' ⟨rfl, ⟨nd, rfl⟩⟩; refine ⟨_, rfl, ?_⟩) | ((with_reducible refine gate_callee (f := 29) rfl ?_); refine goesL_ (some 45) rfl rfl Try.func29 (by kernel_rfl) rfl #[.int .i64 (wrap64 ((wrap64 (t185 - 8)) - (wrap64 (Int.tdiv a0_0 2)))), .int .i64 (wrap64 (Int.tdiv a0_0 2))] rfl (by (try simp only [List.map_toArray, List.map_cons, List.map_nil]); first | done | rfl | (simp only [List.length_drop, List.length_take]; rfl) | (simp only [Int.toNat_natCast, Nat.sub_self, List.length_drop, List.length_take]; rfl)) ?_; (with_reducible refine (skerryref05_blocksFor.calls kj4 (wrap64 ((wrap64 (t185 - 8)) - (wrap64 (Int.tdiv a0_0 2)))) (wrap64 (Int.tdiv a0_0 2)) t186 _ A14.out).mono ?_); rintro e w' ⟨rfl, ⟨nd, rfl⟩⟩; refine ⟨_, rfl, ?_⟩))
              go_ret3
              exact ⟨by first | rfl | (simp [errW_none, errW_some] <;> rfl) | (simp [*, errW_none, errW_some] <;> rfl), by repeat (first | (with_reducible first | exact HB.out | apply below_alloc | apply pw_below_drewN | apply below_drew1 | refine below_set ?_ GE182.out) | with_reducible_and_instances exact HB.out)⟩
            · rw [if_neg c13] at H
              have c13b0 : decide ((wrap64 (8 + (wrap64 (Int.tdiv a0_0 2)))) < t185) = false := decide_eq_false c13
              clear c13
              simp only [Option.some.injEq, Prod.mk.injEq] at H
              obtain ⟨rfl, rfl, rfl⟩ := H
              have hcz16_0 : wc.cell? ⟨gb182, 0, none⟩ = some (.int .i64 a0_0) := (blk_cell BK182.out 0).trans rfl
              have hcz16_1 : wc.cell? ⟨gb182, 1, none⟩ = some (.int .i64 a0_1) := (blk_cell BK182.out 1).trans rfl
              have hcz16_2 : wc.cell? ⟨gb182, 2, none⟩ = some (.int .i64 a0_2) := (blk_cell BK182.out 2).trans rfl
              have hcz16_3 : wc.cell? ⟨gb182, 3, none⟩ = some (.int .i64 a0_3) := (blk_cell BK182.out 3).trans rfl
              have hcz16_4 : wc.cell? ⟨gb182, 4, none⟩ = some (.int .i64 a0_4) := (blk_cell BK182.out 4).trans rfl
              have hcz16_5 : wc.cell? ⟨gb182, 5, none⟩ = some (.int .i64 a0_5) := (blk_cell BK182.out 5).trans rfl
              have hcz16_6 : wc.cell? ⟨gb182, 6, none⟩ = some (.int .i64 a0_6) := (blk_cell BK182.out 6).trans rfl
              have hcz16_7 : wc.cell? ⟨gb182, 7, none⟩ = some (.int .i64 a0_7) := (blk_cell BK182.out 7).trans rfl
              have hcz16_8 : wc.cell? ⟨gb182, 8, none⟩ = some (.int .i64 a0_8) := (blk_cell BK182.out 8).trans rfl
              have hcz16_9 : wc.cell? ⟨gb182, 9, none⟩ = some (.int .i64 a0_9) := (blk_cell BK182.out 9).trans rfl
              have hcz16_10 : wc.cell? ⟨gb182, 10, none⟩ = some (.int .i64 a0_10) := (blk_cell BK182.out 10).trans rfl
              have hcz16_11 : wc.cell? ⟨gb182, 11, none⟩ = some (.int .i64 a0_11) := (blk_cell BK182.out 11).trans rfl
              have hfz16_0 := blk_frozen BK182.out 0
              have hfz16_1 := blk_frozen BK182.out 1
              have hfz16_2 := blk_frozen BK182.out 2
              have hfz16_3 := blk_frozen BK182.out 3
              have hfz16_4 := blk_frozen BK182.out 4
              have hfz16_5 := blk_frozen BK182.out 5
              have hfz16_6 := blk_frozen BK182.out 6
              have hfz16_7 := blk_frozen BK182.out 7
              have hfz16_8 := blk_frozen BK182.out 8
              have hfz16_9 := blk_frozen BK182.out 9
              have hfz16_10 := blk_frozen BK182.out 10
              have hfz16_11 := blk_frozen BK182.out 11
              go_wp2_with (first | ((with_reducible refine gate_callee (f := 29) rfl ?_); refine goesL_ (some 30) rfl rfl Try.func29 (by kernel_rfl) rfl #[.int .i64 a1, .int .i64 a0_0] rfl (by (try simp only [List.map_toArray, List.map_cons, List.map_nil]); first | done | rfl | (simp only [List.length_drop, List.length_take]; rfl) | (simp only [Int.toNat_natCast, Nat.sub_self, List.length_drop, List.length_take]; rfl)) ?_; (with_reducible refine (skerryref05_blocksFor.calls kj4 a1 a0_0 t185 _ A11.out).mono ?_); rintro e w' ⟨rfl, ⟨nd, rfl⟩⟩; refine ⟨_, rfl, ?_⟩))
              go_ret3
              exact ⟨by first | rfl | (simp [errW_none, errW_some] <;> rfl) | (simp [*, errW_none, errW_some] <;> rfl), by repeat (first | (with_reducible first | exact HB.out | apply below_alloc | apply pw_below_drewN | apply below_drew1 | refine below_set ?_ GE182.out) | with_reducible_and_instances exact HB.out)⟩
          · rw [if_neg c12] at H
            have c12b0 : decide (8 < t185) = false := decide_eq_false c12
            clear c12
            by_cases c17 : t185 > (wrap64 (8 + (wrap64 (Int.tdiv a0_0 2))))
            · rw [if_pos c17] at H
              have c17b0 : decide ((wrap64 (8 + (wrap64 (Int.tdiv a0_0 2)))) < t185) = true := decide_eq_true c17
              clear c17
              replace H := Option.bind_eq_some_iff.mp H
              obtain ⟨t187, A180, H⟩ := H
              replace H : (some (t185, wrap64 (2 + t187), 0)) = some (r1, r2, r3) := H
              have A18 := Aside0.mk A180
              clear A180
              simp only [Option.some.injEq, Prod.mk.injEq] at H
              obtain ⟨rfl, rfl, rfl⟩ := H
              have hcz19_0 : wc.cell? ⟨gb182, 0, none⟩ = some (.int .i64 a0_0) := (blk_cell BK182.out 0).trans rfl
              have hcz19_1 : wc.cell? ⟨gb182, 1, none⟩ = some (.int .i64 a0_1) := (blk_cell BK182.out 1).trans rfl
              have hcz19_2 : wc.cell? ⟨gb182, 2, none⟩ = some (.int .i64 a0_2) := (blk_cell BK182.out 2).trans rfl
              have hcz19_3 : wc.cell? ⟨gb182, 3, none⟩ = some (.int .i64 a0_3) := (blk_cell BK182.out 3).trans rfl
              have hcz19_4 : wc.cell? ⟨gb182, 4, none⟩ = some (.int .i64 a0_4) := (blk_cell BK182.out 4).trans rfl
              have hcz19_5 : wc.cell? ⟨gb182, 5, none⟩ = some (.int .i64 a0_5) := (blk_cell BK182.out 5).trans rfl
              have hcz19_6 : wc.cell? ⟨gb182, 6, none⟩ = some (.int .i64 a0_6) := (blk_cell BK182.out 6).trans rfl
              have hcz19_7 : wc.cell? ⟨gb182, 7, none⟩ = some (.int .i64 a0_7) := (blk_cell BK182.out 7).trans rfl
              have hcz19_8 : wc.cell? ⟨gb182, 8, none⟩ = some (.int .i64 a0_8) := (blk_cell BK182.out 8).trans rfl
              have hcz19_9 : wc.cell? ⟨gb182, 9, none⟩ = some (.int .i64 a0_9) := (blk_cell BK182.out 9).trans rfl
              have hcz19_10 : wc.cell? ⟨gb182, 10, none⟩ = some (.int .i64 a0_10) := (blk_cell BK182.out 10).trans rfl
              have hcz19_11 : wc.cell? ⟨gb182, 11, none⟩ = some (.int .i64 a0_11) := (blk_cell BK182.out 11).trans rfl
              have hfz19_0 := blk_frozen BK182.out 0
              have hfz19_1 := blk_frozen BK182.out 1
              have hfz19_2 := blk_frozen BK182.out 2
              have hfz19_3 := blk_frozen BK182.out 3
              have hfz19_4 := blk_frozen BK182.out 4
              have hfz19_5 := blk_frozen BK182.out 5
              have hfz19_6 := blk_frozen BK182.out 6
              have hfz19_7 := blk_frozen BK182.out 7
              have hfz19_8 := blk_frozen BK182.out 8
              have hfz19_9 := blk_frozen BK182.out 9
              have hfz19_10 := blk_frozen BK182.out 10
              have hfz19_11 := blk_frozen BK182.out 11
              go_wp2_with (first | ((with_reducible refine gate_callee (f := 29) rfl ?_); refine goesL_ (some 30) rfl rfl Try.func29 (by kernel_rfl) rfl #[.int .i64 a1, .int .i64 a0_0] rfl (by (try simp only [List.map_toArray, List.map_cons, List.map_nil]); first | done | rfl | (simp only [List.length_drop, List.length_take]; rfl) | (simp only [Int.toNat_natCast, Nat.sub_self, List.length_drop, List.length_take]; rfl)) ?_; (with_reducible refine (skerryref05_blocksFor.calls kj4 a1 a0_0 t185 _ A11.out).mono ?_); rintro e w' ⟨rfl, ⟨nd, rfl⟩⟩; refine ⟨_, rfl, ?_⟩) | ((with_reducible refine gate_callee (f := 29) rfl ?_); refine goesL_ (some 45) rfl rfl Try.func29 (by kernel_rfl) rfl #[.int .i64 (wrap64 ((wrap64 (t185 - 8)) - (wrap64 (Int.tdiv a0_0 2)))), .int .i64 (wrap64 (Int.tdiv a0_0 2))] rfl (by (try simp only [List.map_toArray, List.map_cons, List.map_nil]); first | done | rfl | (simp only [List.length_drop, List.length_take]; rfl) | (simp only [Int.toNat_natCast, Nat.sub_self, List.length_drop, List.length_take]; rfl)) ?_; (with_reducible refine (skerryref05_blocksFor.calls kj4 (wrap64 ((wrap64 (t185 - 8)) - (wrap64 (Int.tdiv a0_0 2)))) (wrap64 (Int.tdiv a0_0 2)) t187 _ A18.out).mono ?_); rintro e w' ⟨rfl, ⟨nd, rfl⟩⟩; refine ⟨_, rfl, ?_⟩))
              go_ret3
              exact ⟨by first | rfl | (simp [errW_none, errW_some] <;> rfl) | (simp [*, errW_none, errW_some] <;> rfl), by repeat (first | (with_reducible first | exact HB.out | apply below_alloc | apply pw_below_drewN | apply below_drew1 | refine below_set ?_ GE182.out) | with_reducible_and_instances exact HB.out)⟩
            · rw [if_neg c17] at H
              have c17b0 : decide ((wrap64 (8 + (wrap64 (Int.tdiv a0_0 2)))) < t185) = false := decide_eq_false c17
              clear c17
              simp only [Option.some.injEq, Prod.mk.injEq] at H
              obtain ⟨rfl, rfl, rfl⟩ := H
              have hcz20_0 : wc.cell? ⟨gb182, 0, none⟩ = some (.int .i64 a0_0) := (blk_cell BK182.out 0).trans rfl
              have hcz20_1 : wc.cell? ⟨gb182, 1, none⟩ = some (.int .i64 a0_1) := (blk_cell BK182.out 1).trans rfl
              have hcz20_2 : wc.cell? ⟨gb182, 2, none⟩ = some (.int .i64 a0_2) := (blk_cell BK182.out 2).trans rfl
              have hcz20_3 : wc.cell? ⟨gb182, 3, none⟩ = some (.int .i64 a0_3) := (blk_cell BK182.out 3).trans rfl
              have hcz20_4 : wc.cell? ⟨gb182, 4, none⟩ = some (.int .i64 a0_4) := (blk_cell BK182.out 4).trans rfl
              have hcz20_5 : wc.cell? ⟨gb182, 5, none⟩ = some (.int .i64 a0_5) := (blk_cell BK182.out 5).trans rfl
              have hcz20_6 : wc.cell? ⟨gb182, 6, none⟩ = some (.int .i64 a0_6) := (blk_cell BK182.out 6).trans rfl
              have hcz20_7 : wc.cell? ⟨gb182, 7, none⟩ = some (.int .i64 a0_7) := (blk_cell BK182.out 7).trans rfl
              have hcz20_8 : wc.cell? ⟨gb182, 8, none⟩ = some (.int .i64 a0_8) := (blk_cell BK182.out 8).trans rfl
              have hcz20_9 : wc.cell? ⟨gb182, 9, none⟩ = some (.int .i64 a0_9) := (blk_cell BK182.out 9).trans rfl
              have hcz20_10 : wc.cell? ⟨gb182, 10, none⟩ = some (.int .i64 a0_10) := (blk_cell BK182.out 10).trans rfl
              have hcz20_11 : wc.cell? ⟨gb182, 11, none⟩ = some (.int .i64 a0_11) := (blk_cell BK182.out 11).trans rfl
              have hfz20_0 := blk_frozen BK182.out 0
              have hfz20_1 := blk_frozen BK182.out 1
              have hfz20_2 := blk_frozen BK182.out 2
              have hfz20_3 := blk_frozen BK182.out 3
              have hfz20_4 := blk_frozen BK182.out 4
              have hfz20_5 := blk_frozen BK182.out 5
              have hfz20_6 := blk_frozen BK182.out 6
              have hfz20_7 := blk_frozen BK182.out 7
              have hfz20_8 := blk_frozen BK182.out 8
              have hfz20_9 := blk_frozen BK182.out 9
              have hfz20_10 := blk_frozen BK182.out 10
              have hfz20_11 := blk_frozen BK182.out 11
              go_wp2_with (first | ((with_reducible refine gate_callee (f := 29) rfl ?_); refine goesL_ (some 30) rfl rfl Try.func29 (by kernel_rfl) rfl #[.int .i64 a1, .int .i64 a0_0] rfl (by (try simp only [List.map_toArray, List.map_cons, List.map_nil]); first | done | rfl | (simp only [List.length_drop, List.length_take]; rfl) | (simp only [Int.toNat_natCast, Nat.sub_self, List.length_drop, List.length_take]; rfl)) ?_; (with_reducible refine (skerryref05_blocksFor.calls kj4 a1 a0_0 t185 _ A11.out).mono ?_); rintro e w' ⟨rfl, ⟨nd, rfl⟩⟩; refine ⟨_, rfl, ?_⟩))
              go_ret3
              exact ⟨by first | rfl | (simp [errW_none, errW_some] <;> rfl) | (simp [*, errW_none, errW_some] <;> rfl), by repeat (first | (with_reducible first | exact HB.out | apply below_alloc | apply pw_below_drewN | apply below_drew1 | refine below_set ?_ GE182.out) | with_reducible_and_instances exact HB.out)⟩
  · rw [if_neg c4] at H
    have c4b0 : (t184 == 0) = false := beq_eq_false_iff_ne.mpr c4
    have c4b1 : (t184 != 0) = true := bne_iff_ne.mpr c4
    simp only [Option.some.injEq, Prod.mk.injEq] at H
    obtain ⟨rfl, rfl, rfl⟩ := H
    go_enter Try.func22, Try.ntmps22
    go_wp2_with (first | ((with_reducible refine gate_dst (N := 2) rfl ?_); refine box_event ?hg (N := 2) ?hd (cs := #[.int .i64 a0_0, .int .i64 a0_1, .int .i64 a0_2, .int .i64 a0_3, .int .i64 a0_4, .int .i64 a0_5, .int .i64 a0_6, .int .i64 a0_7, .int .i64 a0_8, .int .i64 a0_9, .int .i64 a0_10, .int .i64 a0_11]) (t := 24) ?hr ?_; (case hd => rfl); (case hg => rfl); (case hr => first | (go_simp; done) | (go_simp; rfl)); intro gb182 hg w21 hbox hb; have n0_ := Aside0.mk (below_step (by repeat (first | (with_reducible first | exact HB.out | apply below_alloc | apply pw_below_drewN | apply below_drew1) | with_reducible_and_instances exact HB.out)) hb); have n1_ := Aside0.mk (hbox); have n2_ := Aside0.mk ((by rw [hg]; exact (below_size (by repeat (first | (with_reducible first | exact HB.out | apply below_alloc | apply pw_below_drewN | apply below_drew1) | with_reducible_and_instances exact HB.out))) : w.heap.size ≤ gb182)); have n3_ := Aside0.mk ((by rw [hg]; exact (below_size (by repeat (first | (with_reducible first | exact HB.out | apply below_alloc | apply pw_below_drewN | apply below_drew1) | with_reducible_and_instances exact HB.out))) : w.heap.size ≤ gb182)); clear HB; have HB := n0_; have BK182 := n1_; have GW182 := n2_; have GE182 := n3_; clear n0_ n1_ n2_ n3_; clear hb hbox hg; have hcz22_0 : w21.cell? ⟨gb182, 0, none⟩ = some (.int .i64 a0_0) := (blk_cell BK182.out 0).trans rfl; have hcz22_1 : w21.cell? ⟨gb182, 1, none⟩ = some (.int .i64 a0_1) := (blk_cell BK182.out 1).trans rfl; have hcz22_2 : w21.cell? ⟨gb182, 2, none⟩ = some (.int .i64 a0_2) := (blk_cell BK182.out 2).trans rfl; have hcz22_3 : w21.cell? ⟨gb182, 3, none⟩ = some (.int .i64 a0_3) := (blk_cell BK182.out 3).trans rfl; have hcz22_4 : w21.cell? ⟨gb182, 4, none⟩ = some (.int .i64 a0_4) := (blk_cell BK182.out 4).trans rfl; have hcz22_5 : w21.cell? ⟨gb182, 5, none⟩ = some (.int .i64 a0_5) := (blk_cell BK182.out 5).trans rfl; have hcz22_6 : w21.cell? ⟨gb182, 6, none⟩ = some (.int .i64 a0_6) := (blk_cell BK182.out 6).trans rfl; have hcz22_7 : w21.cell? ⟨gb182, 7, none⟩ = some (.int .i64 a0_7) := (blk_cell BK182.out 7).trans rfl; have hcz22_8 : w21.cell? ⟨gb182, 8, none⟩ = some (.int .i64 a0_8) := (blk_cell BK182.out 8).trans rfl; have hcz22_9 : w21.cell? ⟨gb182, 9, none⟩ = some (.int .i64 a0_9) := (blk_cell BK182.out 9).trans rfl; have hcz22_10 : w21.cell? ⟨gb182, 10, none⟩ = some (.int .i64 a0_10) := (blk_cell BK182.out 10).trans rfl; have hcz22_11 : w21.cell? ⟨gb182, 11, none⟩ = some (.int .i64 a0_11) := (blk_cell BK182.out 11).trans rfl; have hfz22_0 := blk_frozen BK182.out 0; have hfz22_1 := blk_frozen BK182.out 1; have hfz22_2 := blk_frozen BK182.out 2; have hfz22_3 := blk_frozen BK182.out 3; have hfz22_4 := blk_frozen BK182.out 4; have hfz22_5 := blk_frozen BK182.out 5; have hfz22_6 := blk_frozen BK182.out 6; have hfz22_7 := blk_frozen BK182.out 7; have hfz22_8 := blk_frozen BK182.out 8; have hfz22_9 := blk_frozen BK182.out 9; have hfz22_10 := blk_frozen BK182.out 10; have hfz22_11 := blk_frozen BK182.out 11) | ((with_reducible refine gate_callee (f := 20) rfl ?_); refine goesL_ (some 14) rfl rfl Try.func20 (by kernel_rfl) rfl #[.agg #[.int .i64 a0_0, .int .i64 a0_1, .int .i64 a0_2, .int .i64 a0_3, .int .i64 a0_4, .int .i64 a0_5, .int .i64 a0_6, .int .i64 a0_7, .int .i64 a0_8, .int .i64 a0_9, .int .i64 a0_10, .int .i64 a0_11]] rfl (by (try simp only [List.map_toArray, List.map_cons, List.map_nil]); first | done | rfl | (simp only [List.length_drop, List.length_take]; rfl) | (simp only [Int.toNat_natCast, Nat.sub_self, List.length_drop, List.length_take]; rfl)) ?_; (with_reducible refine (skerryref05_MaxSize.calls k a0_0 a0_1 a0_2 a0_3 a0_4 a0_5 a0_6 a0_7 a0_8 a0_9 a0_10 a0_11 t183 t184 _ A3.out).mono ?_); rintro e w23 ⟨rfl, hb⟩; refine ⟨_, rfl, ?_⟩; have n0_ := Aside0.mk (blk_below (g := gb182) (o := .cells #[.int .i64 a0_0, .int .i64 a0_1, .int .i64 a0_2, .int .i64 a0_3, .int .i64 a0_4, .int .i64 a0_5, .int .i64 a0_6, .int .i64 a0_7, .int .i64 a0_8, .int .i64 a0_9, .int .i64 a0_10, .int .i64 a0_11] 24 (0, 0)) (by (with_reducible repeat (first | refine blk_drewN ?_ _ | refine blk_drew ?_ | refine blk_alloc ?_ _)); exact BK182.out) hb); have n1_ := Aside0.mk (below_step (by repeat (first | (with_reducible first | exact HB.out | apply below_alloc | apply pw_below_drewN | apply below_drew1 | refine below_set ?_ GE182.out) | with_reducible_and_instances exact HB.out)) hb); clear BK182; clear HB; have BK182 := n0_; have HB := n1_; clear n0_ n1_; (try clear hb); (try clear hb2); (try clear hk); (try clear hi)))
    go_ret3
    exact ⟨by first | rfl | (simp [errW_none, errW_some] <;> rfl) | (simp [*, errW_none, errW_some] <;> rfl), by repeat (first | (with_reducible first | exact HB.out | apply below_alloc | apply pw_below_drewN | apply below_drew1 | refine below_set ?_ GE182.out) | with_reducible_and_instances exact HB.out)⟩

end Go.Proofs.Ytobkdcokickodaa.PPlanSteps
