-- Written by this session's own tool (prn.py) over the kit's printer; its templates are the session's own. Lean checks it.
import Derived.Test.YtdjlbbfgobbcmaaPNeedFilesx0
import Derived.Test.YtdjlbbfgobbcmaaPNeedFilesx3
namespace Go.Proofs.Ytdjlbbfgobbcmaa.PNeedFiles
open Go.RowKit Go.Proofs.YtdjlbbfgobbcmaaW.PrintWords Go.Proofs.YtdjlbbfgobbcmaaW.PrintLast Go.Proofs.YtdjlbbfgobbcmaaW.PrintMore
attribute [local go_sem] max2_int min2_int max_two min_two max_three min_three max_four min_four   -- for this text's walks alone
set_option linter.unusedVariables false
set_option linter.unusedSimpArgs false

/-! ### skerryref05_Whole: function 22 -/
def skerryref05_Whole.j0 : Nat → Int → Bool → Int → Int → Int → Int → Int → Int → Int → Int → Int → Int → Int → Int → Option (Int × Int × Int)
  | 0, _, _, _, _, _, _, _, _, _, _, _, _, _, _ => none
  | k + 1, x1, x26, x144000, x144001, x144002, x144003, x144004, x144005, x144006, x144007, x144008, x144009, x144010, x144011 => if x26 = true then (some (0, 0, 2)) else ((skerryref05_blocksFor.f k x1 x144000).bind fun t146 => (if t146 > 8 then (if t146 > (wrap64 (8 + (wrap64 (Int.tdiv x144000 2)))) then ((skerryref05_blocksFor.f k (wrap64 ((wrap64 (t146 - 8)) - (wrap64 (Int.tdiv x144000 2)))) (wrap64 (Int.tdiv x144000 2))).bind fun t147 => (some (t146, wrap64 (2 + t147), 0))) else (some (t146, 1, 0))) else (if t146 > (wrap64 (8 + (wrap64 (Int.tdiv x144000 2)))) then ((skerryref05_blocksFor.f k (wrap64 ((wrap64 (t146 - 8)) - (wrap64 (Int.tdiv x144000 2)))) (wrap64 (Int.tdiv x144000 2))).bind fun t148 => (some (t146, wrap64 (2 + t148), 0))) else (some (t146, 0, 0)))))
def skerryref05_Whole.f (k : Nat) (a0_0 : Int) (a0_1 : Int) (a0_2 : Int) (a0_3 : Int) (a0_4 : Int) (a0_5 : Int) (a0_6 : Int) (a0_7 : Int) (a0_8 : Int) (a0_9 : Int) (a0_10 : Int) (a0_11 : Int) (a1 : Int) : Option (Int × Int × Int) := (skerryref05_MaxSize.f k a0_0 a0_1 a0_2 a0_3 a0_4 a0_5 a0_6 a0_7 a0_8 a0_9 a0_10 a0_11).bind fun bt144 => (if bt144.2 = 0 then (if a1 < 0 then (skerryref05_Whole.j0 k a1 true a0_0 a0_1 a0_2 a0_3 a0_4 a0_5 a0_6 a0_7 a0_8 a0_9 a0_10 a0_11) else (skerryref05_Whole.j0 k a1 (decide (a1 > bt144.1)) a0_0 a0_1 a0_2 a0_3 a0_4 a0_5 a0_6 a0_7 a0_8 a0_9 a0_10 a0_11)) else (some (0, 0, bt144.2)))
theorem skerryref05_Whole.mono_l : ∀ k, (∀ y0 y1 y2 y3 y4 y5 y6 y7 y8 y9 y10 y11 y12 y13, LeO (skerryref05_Whole.j0 k y0 y1 y2 y3 y4 y5 y6 y7 y8 y9 y10 y11 y12 y13) (skerryref05_Whole.j0 (k + 1) y0 y1 y2 y3 y4 y5 y6 y7 y8 y9 y10 y11 y12 y13))
  | 0 => fun _ _ _ _ _ _ _ _ _ _ _ _ _ _ r h => by simp [skerryref05_Whole.j0] at h
  | k + 1 => by
    have ih0 := skerryref05_Whole.mono_l k
    · intro y0 y1 y2 y3 y4 y5 y6 y7 y8 y9 y10 y11 y12 y13
      unfold skerryref05_Whole.j0
      repeat' first
      | (with_reducible exact ih0 _ _ _ _ _ _ _ _ _ _ _ _ _ _)
      | (with_reducible exact skerryref05_MaxSize.mono _ _ _ _ _ _ _ _ _ _ _ _ _)
      | (with_reducible exact skerryref05_blocksFor.mono _ _ _)
      | (with_reducible exact LeO.refl _)
      | (with_reducible exact LeO.none _)
      | (with_reducible refine LeO.ite ?_ ?_)
      | (with_reducible refine LeO.bind ?_ (fun _ => ?_))
      | exact ih0 _ _ _ _ _ _ _ _ _ _ _ _ _ _
      | exact skerryref05_MaxSize.mono _ _ _ _ _ _ _ _ _ _ _ _ _
      | exact skerryref05_blocksFor.mono _ _ _
      | exact LeO.none _
      | refine LeO.ite ?_ ?_
      | refine LeO.bind ?_ (fun _ => ?_)
theorem skerryref05_Whole.mono : ∀ a0 a1 a2 a3 a4 a5 a6 a7 a8 a9 a10 a11 a12 k, LeO (skerryref05_Whole.f k a0 a1 a2 a3 a4 a5 a6 a7 a8 a9 a10 a11 a12) (skerryref05_Whole.f (k + 1) a0 a1 a2 a3 a4 a5 a6 a7 a8 a9 a10 a11 a12) := by
  intro a0 a1 a2 a3 a4 a5 a6 a7 a8 a9 a10 a11 a12 k
  have ih0 := skerryref05_Whole.mono_l k
  unfold skerryref05_Whole.f
  repeat' first
      | (with_reducible exact ih0 _ _ _ _ _ _ _ _ _ _ _ _ _ _)
      | (with_reducible exact skerryref05_MaxSize.mono _ _ _ _ _ _ _ _ _ _ _ _ _)
      | (with_reducible exact skerryref05_blocksFor.mono _ _ _)
      | (with_reducible exact LeO.refl _)
      | (with_reducible exact LeO.none _)
      | (with_reducible refine LeO.ite ?_ ?_)
      | (with_reducible refine LeO.bind ?_ (fun _ => ?_))
      | exact ih0 _ _ _ _ _ _ _ _ _ _ _ _ _ _
      | exact skerryref05_MaxSize.mono _ _ _ _ _ _ _ _ _ _ _ _ _
      | exact skerryref05_blocksFor.mono _ _ _
      | exact LeO.none _
      | refine LeO.ite ?_ ?_
      | refine LeO.bind ?_ (fun _ => ?_)
set_option maxHeartbeats 8000000 in
set_option maxRecDepth 100000 in
theorem skerryref05_Whole.calls (k : Nat) (a0_0 : Int) (a0_1 : Int) (a0_2 : Int) (a0_3 : Int) (a0_4 : Int) (a0_5 : Int) (a0_6 : Int) (a0_7 : Int) (a0_8 : Int) (a0_9 : Int) (a0_10 : Int) (a0_11 : Int) (a1 : Int) (r1 : Int) (r2 : Int) (r3 : Int) (w : World) (h : skerryref05_Whole.f k a0_0 a0_1 a0_2 a0_3 a0_4 a0_5 a0_6 a0_7 a0_8 a0_9 a0_10 a0_11 a1 = some (r1, r2, r3)) :
    Calls Try.prog 22 #[.agg #[.int .i64 a0_0, .int .i64 a0_1, .int .i64 a0_2, .int .i64 a0_3, .int .i64 a0_4, .int .i64 a0_5, .int .i64 a0_6, .int .i64 a0_7, .int .i64 a0_8, .int .i64 a0_9, .int .i64 a0_10, .int .i64 a0_11], .int .i64 a1] w fun e w' => e = .returned (.tuple #[.int .i64 r1, .int .i64 r2, .int .i64 r3]) ∧ Below w.heap.size w w' := by
  have hu23 := Try.underlying23
  have HB := Aside0.mk (Below.refl w.heap.size w)
  have H : ((skerryref05_MaxSize.f k a0_0 a0_1 a0_2 a0_3 a0_4 a0_5 a0_6 a0_7 a0_8 a0_9 a0_10 a0_11).bind fun bt144 => (if bt144.2 = 0 then (if a1 < 0 then (skerryref05_Whole.j0 k a1 true a0_0 a0_1 a0_2 a0_3 a0_4 a0_5 a0_6 a0_7 a0_8 a0_9 a0_10 a0_11) else (skerryref05_Whole.j0 k a1 (decide (a1 > bt144.1)) a0_0 a0_1 a0_2 a0_3 a0_4 a0_5 a0_6 a0_7 a0_8 a0_9 a0_10 a0_11)) else (some (0, 0, bt144.2)))) = some (r1, r2, r3) := h
  clear h
  replace H := Option.bind_eq_some_iff.mp H
  obtain ⟨⟨t144, t145⟩, A30, H⟩ := H
  replace H : (if t145 = 0 then (if a1 < 0 then (skerryref05_Whole.j0 k a1 true a0_0 a0_1 a0_2 a0_3 a0_4 a0_5 a0_6 a0_7 a0_8 a0_9 a0_10 a0_11) else (skerryref05_Whole.j0 k a1 (decide (a1 > t144)) a0_0 a0_1 a0_2 a0_3 a0_4 a0_5 a0_6 a0_7 a0_8 a0_9 a0_10 a0_11)) else (some (0, 0, t145))) = some (r1, r2, r3) := H
  have A3 := Aside0.mk A30
  clear A30
  by_cases c4 : t145 = 0
  · rw [if_pos c4] at H
    have c4b0 : (t145 == 0) = true := beq_iff_eq.mpr c4
    have c4b1 : (t145 != 0) = false := bne_eq_false_iff_eq.mpr c4
    clear c4
    have HC5 := Aside0.mk H
    clear H
    go_enter Try.func22, Try.ntmps22
    go_upto_region 4 with (first | ((with_reducible refine gate_dst (N := 2) rfl ?_); refine box_event ?hg (N := 2) ?hd (cs := #[.int .i64 a0_0, .int .i64 a0_1, .int .i64 a0_2, .int .i64 a0_3, .int .i64 a0_4, .int .i64 a0_5, .int .i64 a0_6, .int .i64 a0_7, .int .i64 a0_8, .int .i64 a0_9, .int .i64 a0_10, .int .i64 a0_11]) (t := 23) ?hr ?_; (case hd => rfl); (case hg => rfl); (case hr => first | (go_simp; done) | (go_simp; rfl)); intro gb143 hg w6 hbox hb; have n0_ := Aside0.mk (below_step (by repeat (first | (with_reducible first | exact HB.out | apply below_alloc | apply pw_below_drewN | apply below_drew1) | with_reducible_and_instances exact HB.out)) hb); have n1_ := Aside0.mk (hbox); have n2_ := Aside0.mk ((by rw [hg]; exact (below_size (by repeat (first | (with_reducible first | exact HB.out | apply below_alloc | apply pw_below_drewN | apply below_drew1) | with_reducible_and_instances exact HB.out))) : w.heap.size ≤ gb143)); have n3_ := Aside0.mk ((by rw [hg]; exact (below_size (by repeat (first | (with_reducible first | exact HB.out | apply below_alloc | apply pw_below_drewN | apply below_drew1) | with_reducible_and_instances exact HB.out))) : w.heap.size ≤ gb143)); clear HB; have HB := n0_; have BK143 := n1_; have GW143 := n2_; have GE143 := n3_; clear n0_ n1_ n2_ n3_; clear hb hbox hg; have hcz7_0 : w6.cell? ⟨gb143, 0, none⟩ = some (.int .i64 a0_0) := (blk_cell BK143.out 0).trans rfl; have hcz7_1 : w6.cell? ⟨gb143, 1, none⟩ = some (.int .i64 a0_1) := (blk_cell BK143.out 1).trans rfl; have hcz7_2 : w6.cell? ⟨gb143, 2, none⟩ = some (.int .i64 a0_2) := (blk_cell BK143.out 2).trans rfl; have hcz7_3 : w6.cell? ⟨gb143, 3, none⟩ = some (.int .i64 a0_3) := (blk_cell BK143.out 3).trans rfl; have hcz7_4 : w6.cell? ⟨gb143, 4, none⟩ = some (.int .i64 a0_4) := (blk_cell BK143.out 4).trans rfl; have hcz7_5 : w6.cell? ⟨gb143, 5, none⟩ = some (.int .i64 a0_5) := (blk_cell BK143.out 5).trans rfl; have hcz7_6 : w6.cell? ⟨gb143, 6, none⟩ = some (.int .i64 a0_6) := (blk_cell BK143.out 6).trans rfl; have hcz7_7 : w6.cell? ⟨gb143, 7, none⟩ = some (.int .i64 a0_7) := (blk_cell BK143.out 7).trans rfl; have hcz7_8 : w6.cell? ⟨gb143, 8, none⟩ = some (.int .i64 a0_8) := (blk_cell BK143.out 8).trans rfl; have hcz7_9 : w6.cell? ⟨gb143, 9, none⟩ = some (.int .i64 a0_9) := (blk_cell BK143.out 9).trans rfl; have hcz7_10 : w6.cell? ⟨gb143, 10, none⟩ = some (.int .i64 a0_10) := (blk_cell BK143.out 10).trans rfl; have hcz7_11 : w6.cell? ⟨gb143, 11, none⟩ = some (.int .i64 a0_11) := (blk_cell BK143.out 11).trans rfl; have hfz7_0 := blk_frozen BK143.out 0; have hfz7_1 := blk_frozen BK143.out 1; have hfz7_2 := blk_frozen BK143.out 2; have hfz7_3 := blk_frozen BK143.out 3; have hfz7_4 := blk_frozen BK143.out 4; have hfz7_5 := blk_frozen BK143.out 5; have hfz7_6 := blk_frozen BK143.out 6; have hfz7_7 := blk_frozen BK143.out 7; have hfz7_8 := blk_frozen BK143.out 8; have hfz7_9 := blk_frozen BK143.out 9; have hfz7_10 := blk_frozen BK143.out 10; have hfz7_11 := blk_frozen BK143.out 11) | ((with_reducible refine gate_callee (f := 24) rfl ?_); refine goesL_ (some 14) rfl rfl Try.func24 (by kernel_rfl) rfl #[.agg #[.int .i64 a0_0, .int .i64 a0_1, .int .i64 a0_2, .int .i64 a0_3, .int .i64 a0_4, .int .i64 a0_5, .int .i64 a0_6, .int .i64 a0_7, .int .i64 a0_8, .int .i64 a0_9, .int .i64 a0_10, .int .i64 a0_11]] rfl (by (try simp only [List.map_toArray, List.map_cons, List.map_nil]); first | done | rfl | (simp only [List.length_drop, List.length_take]; rfl) | (simp only [Int.toNat_natCast, Nat.sub_self, List.length_drop, List.length_take]; rfl)) ?_; (with_reducible refine (skerryref05_MaxSize.calls k a0_0 a0_1 a0_2 a0_3 a0_4 a0_5 a0_6 a0_7 a0_8 a0_9 a0_10 a0_11 t144 t145 _ A3.out).mono ?_); rintro e w8 ⟨rfl, hb⟩; refine ⟨_, rfl, ?_⟩; have n0_ := Aside0.mk (blk_below (g := gb143) (o := .cells #[.int .i64 a0_0, .int .i64 a0_1, .int .i64 a0_2, .int .i64 a0_3, .int .i64 a0_4, .int .i64 a0_5, .int .i64 a0_6, .int .i64 a0_7, .int .i64 a0_8, .int .i64 a0_9, .int .i64 a0_10, .int .i64 a0_11] 23 (0, 0)) (by (with_reducible repeat (first | refine blk_drewN ?_ _ | refine blk_drew ?_ | refine blk_alloc ?_ _)); exact BK143.out) hb); have n1_ := Aside0.mk (below_step (by repeat (first | (with_reducible first | exact HB.out | apply below_alloc | apply pw_below_drewN | apply below_drew1 | refine below_set ?_ GE143.out) | with_reducible_and_instances exact HB.out)) hb); clear BK143; clear HB; have BK143 := n0_; have HB := n1_; clear n0_ n1_; (try clear hb); (try clear hb2); (try clear hk); (try clear hi)))
    (try simp only [Act.put, List.setIfInBounds_toArray, List.set_cons_zero, List.set_cons_succ])
    go_cut [26] (fun v26 wc => ∃ (kq : Nat) (x26_4 : Bool), v26 = .bool x26_4 ∧ Aside0 (skerryref05_Whole.j0 kq a1 x26_4 a0_0 a0_1 a0_2 a0_3 a0_4 a0_5 a0_6 a0_7 a0_8 a0_9 a0_10 a0_11 = some (r1, r2, r3)) ∧ Aside0 (kq ≤ k) ∧ Aside0 (wc.heap[gb143]? = some (.cells #[.int .i64 a0_0, .int .i64 a0_1, .int .i64 a0_2, .int .i64 a0_3, .int .i64 a0_4, .int .i64 a0_5, .int .i64 a0_6, .int .i64 a0_7, .int .i64 a0_8, .int .i64 a0_9, .int .i64 a0_10, .int .i64 a0_11] 23 (0, 0))) ∧ Aside0 (Below w.heap.size w wc))
    case first =>
      have H := HC5.out
      clear HC5
      by_cases c9 : a1 < 0
      · rw [if_pos c9] at H
        have c9b0 : decide (a1 < 0) = true := decide_eq_true c9
        clear c9
        (first | rw [c9b0] | (simp only [i64_w, i32_w]; rw [c9b0]) | rw [c9b1] | skip)
        have H' := Aside0.mk H
        clear H
        go_wp2
        go_meet
        case rel => exact ⟨_, (true), (by first | rfl | (simp; done) | (simp [*]; done)), H', ⟨by first | omega | exact Nat.le_refl _⟩, ⟨by (with_reducible repeat (first | refine blk_drewN ?_ _ | refine blk_drew ?_ | refine blk_alloc ?_ _)); exact BK143.out⟩, ⟨by repeat (first | (with_reducible first | exact HB.out | apply below_alloc | apply pw_below_drewN | apply below_drew1 | refine below_set ?_ GE143.out) | with_reducible_and_instances exact HB.out)⟩⟩
      · rw [if_neg c9] at H
        have c9b0 : decide (a1 < 0) = false := decide_eq_false c9
        clear c9
        (first | rw [c9b0] | (simp only [i64_w, i32_w]; rw [c9b0]) | rw [c9b1] | skip)
        have H' := Aside0.mk H
        clear H
        go_wp2
        go_meet
        case rel => exact ⟨_, (decide (a1 > t144)), (by first | rfl | (simp; done) | (simp [*]; done)), H', ⟨by first | omega | exact Nat.le_refl _⟩, ⟨by (with_reducible repeat (first | refine blk_drewN ?_ _ | refine blk_drew ?_ | refine blk_alloc ?_ _)); exact BK143.out⟩, ⟨by repeat (first | (with_reducible first | exact HB.out | apply below_alloc | apply pw_below_drewN | apply below_drew1 | refine below_set ?_ GE143.out) | with_reducible_and_instances exact HB.out)⟩⟩
    case rest =>
      clear HC5
      try clear c2
      try clear p2
      try clear c4
      try clear c4b0
      try clear c4b1
      try clear c9
      try clear c9b0
      try clear c9b1
      try clear hcz7_0
      try clear hcz7_1
      try clear hcz7_10
      try clear hcz7_11
      try clear hcz7_2
      try clear hcz7_3
      try clear hcz7_4
      try clear hcz7_5
      try clear hcz7_6
      try clear hcz7_7
      try clear hcz7_8
      try clear hcz7_9
      try clear hfz7_0
      try clear hfz7_1
      try clear hfz7_10
      try clear hfz7_11
      try clear hfz7_2
      try clear hfz7_3
      try clear hfz7_4
      try clear hfz7_5
      try clear hfz7_6
      try clear hfz7_7
      try clear hfz7_8
      try clear hfz7_9
      obtain ⟨kq, x26_4, rfl, HA, HJ4, BK143, HB⟩ := hcut
      cases kq with
      | zero => exact absurd HA.out (by simp [skerryref05_Whole.j0])
      | succ kj4 =>
        have H := HA.out
        clear HA
        simp only [skerryref05_Whole.j0] at H
        by_cases c10 : x26_4 = true
        · subst c10
          have H1 : (some (0, 0, 2)) = some (r1, r2, r3) := by rw [if_pos rfl] at H; exact H
          clear H
          have H := H1
          clear H1
          simp only [Option.some.injEq, Prod.mk.injEq] at H
          obtain ⟨rfl, rfl, rfl⟩ := H
          go_wp2
          go_ret3
          exact ⟨by first | rfl | (simp [errW_none, errW_some] <;> rfl) | (simp [*, errW_none, errW_some] <;> rfl), by repeat (first | (with_reducible first | exact HB.out | apply below_alloc | apply pw_below_drewN | apply below_drew1 | refine below_set ?_ GE143.out) | with_reducible_and_instances exact HB.out)⟩
        · replace c10 := Bool.eq_false_iff.mpr c10
          subst c10
          have H1 : ((skerryref05_blocksFor.f kj4 a1 a0_0).bind fun t146 => (if t146 > 8 then (if t146 > (wrap64 (8 + (wrap64 (Int.tdiv a0_0 2)))) then ((skerryref05_blocksFor.f kj4 (wrap64 ((wrap64 (t146 - 8)) - (wrap64 (Int.tdiv a0_0 2)))) (wrap64 (Int.tdiv a0_0 2))).bind fun t147 => (some (t146, wrap64 (2 + t147), 0))) else (some (t146, 1, 0))) else (if t146 > (wrap64 (8 + (wrap64 (Int.tdiv a0_0 2)))) then ((skerryref05_blocksFor.f kj4 (wrap64 ((wrap64 (t146 - 8)) - (wrap64 (Int.tdiv a0_0 2)))) (wrap64 (Int.tdiv a0_0 2))).bind fun t148 => (some (t146, wrap64 (2 + t148), 0))) else (some (t146, 0, 0))))) = some (r1, r2, r3) := by rw [if_neg (show ¬ (false = true) by decide)] at H; exact H
          clear H
          have H := H1
          clear H1
          replace H := Option.bind_eq_some_iff.mp H
          obtain ⟨t146, A110, H⟩ := H
          replace H : (if t146 > 8 then (if t146 > (wrap64 (8 + (wrap64 (Int.tdiv a0_0 2)))) then ((skerryref05_blocksFor.f kj4 (wrap64 ((wrap64 (t146 - 8)) - (wrap64 (Int.tdiv a0_0 2)))) (wrap64 (Int.tdiv a0_0 2))).bind fun t147 => (some (t146, wrap64 (2 + t147), 0))) else (some (t146, 1, 0))) else (if t146 > (wrap64 (8 + (wrap64 (Int.tdiv a0_0 2)))) then ((skerryref05_blocksFor.f kj4 (wrap64 ((wrap64 (t146 - 8)) - (wrap64 (Int.tdiv a0_0 2)))) (wrap64 (Int.tdiv a0_0 2))).bind fun t148 => (some (t146, wrap64 (2 + t148), 0))) else (some (t146, 0, 0)))) = some (r1, r2, r3) := H
          have A11 := Aside0.mk A110
          clear A110
          by_cases c12 : t146 > 8
          · rw [if_pos c12] at H
            have c12b0 : decide (8 < t146) = true := decide_eq_true c12
            clear c12
            by_cases c13 : t146 > (wrap64 (8 + (wrap64 (Int.tdiv a0_0 2))))
            · rw [if_pos c13] at H
              have c13b0 : decide ((wrap64 (8 + (wrap64 (Int.tdiv a0_0 2)))) < t146) = true := decide_eq_true c13
              clear c13
              replace H := Option.bind_eq_some_iff.mp H
              obtain ⟨t147, A140, H⟩ := H
              replace H : (some (t146, wrap64 (2 + t147), 0)) = some (r1, r2, r3) := H
              have A14 := Aside0.mk A140
              clear A140
              simp only [Option.some.injEq, Prod.mk.injEq] at H
              obtain ⟨rfl, rfl, rfl⟩ := H
              have hcz15_0 : wc.cell? ⟨gb143, 0, none⟩ = some (.int .i64 a0_0) := (blk_cell BK143.out 0).trans rfl
              have hcz15_1 : wc.cell? ⟨gb143, 1, none⟩ = some (.int .i64 a0_1) := (blk_cell BK143.out 1).trans rfl
              have hcz15_2 : wc.cell? ⟨gb143, 2, none⟩ = some (.int .i64 a0_2) := (blk_cell BK143.out 2).trans rfl
              have hcz15_3 : wc.cell? ⟨gb143, 3, none⟩ = some (.int .i64 a0_3) := (blk_cell BK143.out 3).trans rfl
              have hcz15_4 : wc.cell? ⟨gb143, 4, none⟩ = some (.int .i64 a0_4) := (blk_cell BK143.out 4).trans rfl
              have hcz15_5 : wc.cell? ⟨gb143, 5, none⟩ = some (.int .i64 a0_5) := (blk_cell BK143.out 5).trans rfl
              have hcz15_6 : wc.cell? ⟨gb143, 6, none⟩ = some (.int .i64 a0_6) := (blk_cell BK143.out 6).trans rfl
              have hcz15_7 : wc.cell? ⟨gb143, 7, none⟩ = some (.int .i64 a0_7) := (blk_cell BK143.out 7).trans rfl
              have hcz15_8 : wc.cell? ⟨gb143, 8, none⟩ = some (.int .i64 a0_8) := (blk_cell BK143.out 8).trans rfl
              have hcz15_9 : wc.cell? ⟨gb143, 9, none⟩ = some (.int .i64 a0_9) := (blk_cell BK143.out 9).trans rfl
              have hcz15_10 : wc.cell? ⟨gb143, 10, none⟩ = some (.int .i64 a0_10) := (blk_cell BK143.out 10).trans rfl
              have hcz15_11 : wc.cell? ⟨gb143, 11, none⟩ = some (.int .i64 a0_11) := (blk_cell BK143.out 11).trans rfl
              have hfz15_0 := blk_frozen BK143.out 0
              have hfz15_1 := blk_frozen BK143.out 1
              have hfz15_2 := blk_frozen BK143.out 2
              have hfz15_3 := blk_frozen BK143.out 3
              have hfz15_4 := blk_frozen BK143.out 4
              have hfz15_5 := blk_frozen BK143.out 5
              have hfz15_6 := blk_frozen BK143.out 6
              have hfz15_7 := blk_frozen BK143.out 7
              have hfz15_8 := blk_frozen BK143.out 8
              have hfz15_9 := blk_frozen BK143.out 9
              have hfz15_10 := blk_frozen BK143.out 10
              have hfz15_11 := blk_frozen BK143.out 11
              go_wp2_with (first | ((with_reducible refine gate_callee (f := 31) rfl ?_); refine goesL_ (some 30) rfl rfl Try.func31 (by kernel_rfl) rfl #[.int .i64 a1, .int .i64 a0_0] rfl (by (try simp only [List.map_toArray, List.map_cons, List.map_nil]); first | done | rfl | (simp only [List.length_drop, List.length_take]; rfl) | (simp only [Int.toNat_natCast, Nat.sub_self, List.length_drop, List.length_take]; rfl)) ?_; (with_reducible refine (skerryref05_blocksFor.calls kj4 a1 a0_0 t146 _ A11.out).mono ?_); rintro e w' ⟨rfl, ⟨nd, rfl⟩⟩; refine ⟨_, rfl, ?_⟩) | ((with_reducible refine gate_callee (f := 31) rfl ?_); refine goesL_ (some 45) rfl rfl Try.func31 (by kernel_rfl) rfl #[.int .i64 (wrap64 ((wrap64 (t146 - 8)) - (wrap64 (Int.tdiv a0_0 2)))), .int .i64 (wrap64 (Int.tdiv a0_0 2))] rfl (by (try simp only [List.map_toArray, List.map_cons, List.map_nil]); first | done | rfl | (simp only [List.length_drop, List.length_take]; rfl) | (simp only [Int.toNat_natCast, Nat.sub_self, List.length_drop, List.length_take]; rfl)) ?_; (with_reducible refine (skerryref05_blocksFor.calls kj4 (wrap64 ((wrap64 (t146 - 8)) - (wrap64 (Int.tdiv a0_0 2)))) (wrap64 (Int.tdiv a0_0 2)) t147 _ A14.out).mono ?_); rintro e w' ⟨rfl, ⟨nd, rfl⟩⟩; refine ⟨_, rfl, ?_⟩))
              go_ret3
              exact ⟨by first | rfl | (simp [errW_none, errW_some] <;> rfl) | (simp [*, errW_none, errW_some] <;> rfl), by repeat (first | (with_reducible first | exact HB.out | apply below_alloc | apply pw_below_drewN | apply below_drew1 | refine below_set ?_ GE143.out) | with_reducible_and_instances exact HB.out)⟩
            · rw [if_neg c13] at H
              have c13b0 : decide ((wrap64 (8 + (wrap64 (Int.tdiv a0_0 2)))) < t146) = false := decide_eq_false c13
              clear c13
              simp only [Option.some.injEq, Prod.mk.injEq] at H
              obtain ⟨rfl, rfl, rfl⟩ := H
              have hcz16_0 : wc.cell? ⟨gb143, 0, none⟩ = some (.int .i64 a0_0) := (blk_cell BK143.out 0).trans rfl
              have hcz16_1 : wc.cell? ⟨gb143, 1, none⟩ = some (.int .i64 a0_1) := (blk_cell BK143.out 1).trans rfl
              have hcz16_2 : wc.cell? ⟨gb143, 2, none⟩ = some (.int .i64 a0_2) := (blk_cell BK143.out 2).trans rfl
              have hcz16_3 : wc.cell? ⟨gb143, 3, none⟩ = some (.int .i64 a0_3) := (blk_cell BK143.out 3).trans rfl
              have hcz16_4 : wc.cell? ⟨gb143, 4, none⟩ = some (.int .i64 a0_4) := (blk_cell BK143.out 4).trans rfl
              have hcz16_5 : wc.cell? ⟨gb143, 5, none⟩ = some (.int .i64 a0_5) := (blk_cell BK143.out 5).trans rfl
              have hcz16_6 : wc.cell? ⟨gb143, 6, none⟩ = some (.int .i64 a0_6) := (blk_cell BK143.out 6).trans rfl
              have hcz16_7 : wc.cell? ⟨gb143, 7, none⟩ = some (.int .i64 a0_7) := (blk_cell BK143.out 7).trans rfl
              have hcz16_8 : wc.cell? ⟨gb143, 8, none⟩ = some (.int .i64 a0_8) := (blk_cell BK143.out 8).trans rfl
              have hcz16_9 : wc.cell? ⟨gb143, 9, none⟩ = some (.int .i64 a0_9) := (blk_cell BK143.out 9).trans rfl
              have hcz16_10 : wc.cell? ⟨gb143, 10, none⟩ = some (.int .i64 a0_10) := (blk_cell BK143.out 10).trans rfl
              have hcz16_11 : wc.cell? ⟨gb143, 11, none⟩ = some (.int .i64 a0_11) := (blk_cell BK143.out 11).trans rfl
              have hfz16_0 := blk_frozen BK143.out 0
              have hfz16_1 := blk_frozen BK143.out 1
              have hfz16_2 := blk_frozen BK143.out 2
              have hfz16_3 := blk_frozen BK143.out 3
              have hfz16_4 := blk_frozen BK143.out 4
              have hfz16_5 := blk_frozen BK143.out 5
              have hfz16_6 := blk_frozen BK143.out 6
              have hfz16_7 := blk_frozen BK143.out 7
              have hfz16_8 := blk_frozen BK143.out 8
              have hfz16_9 := blk_frozen BK143.out 9
              have hfz16_10 := blk_frozen BK143.out 10
              have hfz16_11 := blk_frozen BK143.out 11
              go_wp2_with (first | ((with_reducible refine gate_callee (f := 31) rfl ?_); refine goesL_ (some 30) rfl rfl Try.func31 (by kernel_rfl) rfl #[.int .i64 a1, .int .i64 a0_0] rfl (by (try simp only [List.map_toArray, List.map_cons, List.map_nil]); first | done | rfl | (simp only [List.length_drop, List.length_take]; rfl) | (simp only [Int.toNat_natCast, Nat.sub_self, List.length_drop, List.length_take]; rfl)) ?_; (with_reducible refine (skerryref05_blocksFor.calls kj4 a1 a0_0 t146 _ A11.out).mono ?_); rintro e w' ⟨rfl, ⟨nd, rfl⟩⟩; refine ⟨_, rfl, ?_⟩))
              go_ret3
              exact ⟨by first | rfl | (simp [errW_none, errW_some] <;> rfl) | (simp [*, errW_none, errW_some] <;> rfl), by repeat (first | (with_reducible first | exact HB.out | apply below_alloc | apply pw_below_drewN | apply below_drew1 | refine below_set ?_ GE143.out) | with_reducible_and_instances exact HB.out)⟩
          · rw [if_neg c12] at H
            have c12b0 : decide (8 < t146) = false := decide_eq_false c12
            clear c12
            by_cases c17 : t146 > (wrap64 (8 + (wrap64 (Int.tdiv a0_0 2))))
            · rw [if_pos c17] at H
              have c17b0 : decide ((wrap64 (8 + (wrap64 (Int.tdiv a0_0 2)))) < t146) = true := decide_eq_true c17
              clear c17
              replace H := Option.bind_eq_some_iff.mp H
              obtain ⟨t148, A180, H⟩ := H
              replace H : (some (t146, wrap64 (2 + t148), 0)) = some (r1, r2, r3) := H
              have A18 := Aside0.mk A180
              clear A180
              simp only [Option.some.injEq, Prod.mk.injEq] at H
              obtain ⟨rfl, rfl, rfl⟩ := H
              have hcz19_0 : wc.cell? ⟨gb143, 0, none⟩ = some (.int .i64 a0_0) := (blk_cell BK143.out 0).trans rfl
              have hcz19_1 : wc.cell? ⟨gb143, 1, none⟩ = some (.int .i64 a0_1) := (blk_cell BK143.out 1).trans rfl
              have hcz19_2 : wc.cell? ⟨gb143, 2, none⟩ = some (.int .i64 a0_2) := (blk_cell BK143.out 2).trans rfl
              have hcz19_3 : wc.cell? ⟨gb143, 3, none⟩ = some (.int .i64 a0_3) := (blk_cell BK143.out 3).trans rfl
              have hcz19_4 : wc.cell? ⟨gb143, 4, none⟩ = some (.int .i64 a0_4) := (blk_cell BK143.out 4).trans rfl
              have hcz19_5 : wc.cell? ⟨gb143, 5, none⟩ = some (.int .i64 a0_5) := (blk_cell BK143.out 5).trans rfl
              have hcz19_6 : wc.cell? ⟨gb143, 6, none⟩ = some (.int .i64 a0_6) := (blk_cell BK143.out 6).trans rfl
              have hcz19_7 : wc.cell? ⟨gb143, 7, none⟩ = some (.int .i64 a0_7) := (blk_cell BK143.out 7).trans rfl
              have hcz19_8 : wc.cell? ⟨gb143, 8, none⟩ = some (.int .i64 a0_8) := (blk_cell BK143.out 8).trans rfl
              have hcz19_9 : wc.cell? ⟨gb143, 9, none⟩ = some (.int .i64 a0_9) := (blk_cell BK143.out 9).trans rfl
              have hcz19_10 : wc.cell? ⟨gb143, 10, none⟩ = some (.int .i64 a0_10) := (blk_cell BK143.out 10).trans rfl
              have hcz19_11 : wc.cell? ⟨gb143, 11, none⟩ = some (.int .i64 a0_11) := (blk_cell BK143.out 11).trans rfl
              have hfz19_0 := blk_frozen BK143.out 0
              have hfz19_1 := blk_frozen BK143.out 1
              have hfz19_2 := blk_frozen BK143.out 2
              have hfz19_3 := blk_frozen BK143.out 3
              have hfz19_4 := blk_frozen BK143.out 4
              have hfz19_5 := blk_frozen BK143.out 5
              have hfz19_6 := blk_frozen BK143.out 6
              have hfz19_7 := blk_frozen BK143.out 7
              have hfz19_8 := blk_frozen BK143.out 8
              have hfz19_9 := blk_frozen BK143.out 9
              have hfz19_10 := blk_frozen BK143.out 10
              have hfz19_11 := blk_frozen BK143.out 11
              go_wp2_with (first | ((with_reducible refine gate_callee (f := 31) rfl ?_); refine goesL_ (some 30) rfl rfl Try.func31 (by kernel_rfl) rfl #[.int .i64 a1, .int .i64 a0_0] rfl (by (try simp only [List.map_toArray, List.map_cons, List.map_nil]); first | done | rfl | (simp only [List.length_drop, List.length_take]; rfl) | (simp only [Int.toNat_natCast, Nat.sub_self, List.length_drop, List.length_take]; rfl)) ?_; (with_reducible refine (skerryref05_blocksFor.calls kj4 a1 a0_0 t146 _ A11.out).mono ?_); rintro e w' ⟨rfl, ⟨nd, rfl⟩⟩; refine ⟨_, rfl, ?_⟩) | ((with_reducible refine gate_callee (f := 31) rfl ?_); refine goesL_ (some 45) rfl rfl Try.func31 (by kernel_rfl) rfl #[.int .i64 (wrap64 ((wrap64 (t146 - 8)) - (wrap64 (Int.tdiv a0_0 2)))), .int .i64 (wrap64 (Int.tdiv a0_0 2))] rfl (by (try simp only [List.map_toArray, List.map_cons, List.map_nil]); first | done | rfl | (simp only [List.length_drop, List.length_take]; rfl) | (simp only [Int.toNat_natCast, Nat.sub_self, List.length_drop, List.length_take]; rfl)) ?_; (with_reducible refine (skerryref05_blocksFor.calls kj4 (wrap64 ((wrap64 (t146 - 8)) - (wrap64 (Int.tdiv a0_0 2)))) (wrap64 (Int.tdiv a0_0 2)) t148 _ A18.out).mono ?_); rintro e w' ⟨rfl, ⟨nd, rfl⟩⟩; refine ⟨_, rfl, ?_⟩))
              go_ret3
              exact ⟨by first | rfl | (simp [errW_none, errW_some] <;> rfl) | (simp [*, errW_none, errW_some] <;> rfl), by repeat (first | (with_reducible first | exact HB.out | apply below_alloc | apply pw_below_drewN | apply below_drew1 | refine below_set ?_ GE143.out) | with_reducible_and_instances exact HB.out)⟩
            · rw [if_neg c17] at H
              have c17b0 : decide ((wrap64 (8 + (wrap64 (Int.tdiv a0_0 2)))) < t146) = false := decide_eq_false c17
              clear c17
              simp only [Option.some.injEq, Prod.mk.injEq] at H
              obtain ⟨rfl, rfl, rfl⟩ := H
              have hcz20_0 : wc.cell? ⟨gb143, 0, none⟩ = some (.int .i64 a0_0) := (blk_cell BK143.out 0).trans rfl
              have hcz20_1 : wc.cell? ⟨gb143, 1, none⟩ = some (.int .i64 a0_1) := (blk_cell BK143.out 1).trans rfl
              have hcz20_2 : wc.cell? ⟨gb143, 2, none⟩ = some (.int .i64 a0_2) := (blk_cell BK143.out 2).trans rfl
              have hcz20_3 : wc.cell? ⟨gb143, 3, none⟩ = some (.int .i64 a0_3) := (blk_cell BK143.out 3).trans rfl
              have hcz20_4 : wc.cell? ⟨gb143, 4, none⟩ = some (.int .i64 a0_4) := (blk_cell BK143.out 4).trans rfl
              have hcz20_5 : wc.cell? ⟨gb143, 5, none⟩ = some (.int .i64 a0_5) := (blk_cell BK143.out 5).trans rfl
              have hcz20_6 : wc.cell? ⟨gb143, 6, none⟩ = some (.int .i64 a0_6) := (blk_cell BK143.out 6).trans rfl
              have hcz20_7 : wc.cell? ⟨gb143, 7, none⟩ = some (.int .i64 a0_7) := (blk_cell BK143.out 7).trans rfl
              have hcz20_8 : wc.cell? ⟨gb143, 8, none⟩ = some (.int .i64 a0_8) := (blk_cell BK143.out 8).trans rfl
              have hcz20_9 : wc.cell? ⟨gb143, 9, none⟩ = some (.int .i64 a0_9) := (blk_cell BK143.out 9).trans rfl
              have hcz20_10 : wc.cell? ⟨gb143, 10, none⟩ = some (.int .i64 a0_10) := (blk_cell BK143.out 10).trans rfl
              have hcz20_11 : wc.cell? ⟨gb143, 11, none⟩ = some (.int .i64 a0_11) := (blk_cell BK143.out 11).trans rfl
              have hfz20_0 := blk_frozen BK143.out 0
              have hfz20_1 := blk_frozen BK143.out 1
              have hfz20_2 := blk_frozen BK143.out 2
              have hfz20_3 := blk_frozen BK143.out 3
              have hfz20_4 := blk_frozen BK143.out 4
              have hfz20_5 := blk_frozen BK143.out 5
              have hfz20_6 := blk_frozen BK143.out 6
              have hfz20_7 := blk_frozen BK143.out 7
              have hfz20_8 := blk_frozen BK143.out 8
              have hfz20_9 := blk_frozen BK143.out 9
              have hfz20_10 := blk_frozen BK143.out 10
              have hfz20_11 := blk_frozen BK143.out 11
              go_wp2_with (first | ((with_reducible refine gate_callee (f := 31) rfl ?_); refine goesL_ (some 30) rfl rfl Try.func31 (by kernel_rfl) rfl #[.int .i64 a1, .int .i64 a0_0] rfl (by (try simp only [List.map_toArray, List.map_cons, List.map_nil]); first | done | rfl | (simp only [List.length_drop, List.length_take]; rfl) | (simp only [Int.toNat_natCast, Nat.sub_self, List.length_drop, List.length_take]; rfl)) ?_; (with_reducible refine (skerryref05_blocksFor.calls kj4 a1 a0_0 t146 _ A11.out).mono ?_); rintro e w' ⟨rfl, ⟨nd, rfl⟩⟩; refine ⟨_, rfl, ?_⟩))
              go_ret3
              exact ⟨by first | rfl | (simp [errW_none, errW_some] <;> rfl) | (simp [*, errW_none, errW_some] <;> rfl), by repeat (first | (with_reducible first | exact HB.out | apply below_alloc | apply pw_below_drewN | apply below_drew1 | refine below_set ?_ GE143.out) | with_reducible_and_instances exact HB.out)⟩
  · rw [if_neg c4] at H
    have c4b0 : (t145 == 0) = false := beq_eq_false_iff_ne.mpr c4
    have c4b1 : (t145 != 0) = true := bne_iff_ne.mpr c4
    simp only [Option.some.injEq, Prod.mk.injEq] at H
    obtain ⟨rfl, rfl, rfl⟩ := H
    go_enter Try.func22, Try.ntmps22
    go_wp2_with (first | ((with_reducible refine gate_dst (N := 2) rfl ?_); refine box_event ?hg (N := 2) ?hd (cs := #[.int .i64 a0_0, .int .i64 a0_1, .int .i64 a0_2, .int .i64 a0_3, .int .i64 a0_4, .int .i64 a0_5, .int .i64 a0_6, .int .i64 a0_7, .int .i64 a0_8, .int .i64 a0_9, .int .i64 a0_10, .int .i64 a0_11]) (t := 23) ?hr ?_; (case hd => rfl); (case hg => rfl); (case hr => first | (go_simp; done) | (go_simp; rfl)); intro gb143 hg w21 hbox hb; have n0_ := Aside0.mk (below_step (by repeat (first | (with_reducible first | exact HB.out | apply below_alloc | apply pw_below_drewN | apply below_drew1) | with_reducible_and_instances exact HB.out)) hb); have n1_ := Aside0.mk (hbox); have n2_ := Aside0.mk ((by rw [hg]; exact (below_size (by repeat (first | (with_reducible first | exact HB.out | apply below_alloc | apply pw_below_drewN | apply below_drew1) | with_reducible_and_instances exact HB.out))) : w.heap.size ≤ gb143)); have n3_ := Aside0.mk ((by rw [hg]; exact (below_size (by repeat (first | (with_reducible first | exact HB.out | apply below_alloc | apply pw_below_drewN | apply below_drew1) | with_reducible_and_instances exact HB.out))) : w.heap.size ≤ gb143)); clear HB; have HB := n0_; have BK143 := n1_; have GW143 := n2_; have GE143 := n3_; clear n0_ n1_ n2_ n3_; clear hb hbox hg; have hcz22_0 : w21.cell? ⟨gb143, 0, none⟩ = some (.int .i64 a0_0) := (blk_cell BK143.out 0).trans rfl; have hcz22_1 : w21.cell? ⟨gb143, 1, none⟩ = some (.int .i64 a0_1) := (blk_cell BK143.out 1).trans rfl; have hcz22_2 : w21.cell? ⟨gb143, 2, none⟩ = some (.int .i64 a0_2) := (blk_cell BK143.out 2).trans rfl; have hcz22_3 : w21.cell? ⟨gb143, 3, none⟩ = some (.int .i64 a0_3) := (blk_cell BK143.out 3).trans rfl; have hcz22_4 : w21.cell? ⟨gb143, 4, none⟩ = some (.int .i64 a0_4) := (blk_cell BK143.out 4).trans rfl; have hcz22_5 : w21.cell? ⟨gb143, 5, none⟩ = some (.int .i64 a0_5) := (blk_cell BK143.out 5).trans rfl; have hcz22_6 : w21.cell? ⟨gb143, 6, none⟩ = some (.int .i64 a0_6) := (blk_cell BK143.out 6).trans rfl; have hcz22_7 : w21.cell? ⟨gb143, 7, none⟩ = some (.int .i64 a0_7) := (blk_cell BK143.out 7).trans rfl; have hcz22_8 : w21.cell? ⟨gb143, 8, none⟩ = some (.int .i64 a0_8) := (blk_cell BK143.out 8).trans rfl; have hcz22_9 : w21.cell? ⟨gb143, 9, none⟩ = some (.int .i64 a0_9) := (blk_cell BK143.out 9).trans rfl; have hcz22_10 : w21.cell? ⟨gb143, 10, none⟩ = some (.int .i64 a0_10) := (blk_cell BK143.out 10).trans rfl; have hcz22_11 : w21.cell? ⟨gb143, 11, none⟩ = some (.int .i64 a0_11) := (blk_cell BK143.out 11).trans rfl; have hfz22_0 := blk_frozen BK143.out 0; have hfz22_1 := blk_frozen BK143.out 1; have hfz22_2 := blk_frozen BK143.out 2; have hfz22_3 := blk_frozen BK143.out 3; have hfz22_4 := blk_frozen BK143.out 4; have hfz22_5 := blk_frozen BK143.out 5; have hfz22_6 := blk_frozen BK143.out 6; have hfz22_7 := blk_frozen BK143.out 7; have hfz22_8 := blk_frozen BK143.out 8; have hfz22_9 := blk_frozen BK143.out 9; have hfz22_10 := blk_frozen BK143.out 10; have hfz22_11 := blk_frozen BK143.out 11) | ((with_reducible refine gate_callee (f := 24) rfl ?_); refine goesL_ (some 14) rfl rfl Try.func24 (by kernel_rfl) rfl #[.agg #[.int .i64 a0_0, .int .i64 a0_1, .int .i64 a0_2, .int .i64 a0_3, .int .i64 a0_4, .int .i64 a0_5, .int .i64 a0_6, .int .i64 a0_7, .int .i64 a0_8, .int .i64 a0_9, .int .i64 a0_10, .int .i64 a0_11]] rfl (by (try simp only [List.map_toArray, List.map_cons, List.map_nil]); first | done | rfl | (simp only [List.length_drop, List.length_take]; rfl) | (simp only [Int.toNat_natCast, Nat.sub_self, List.length_drop, List.length_take]; rfl)) ?_; (with_reducible refine (skerryref05_MaxSize.calls k a0_0 a0_1 a0_2 a0_3 a0_4 a0_5 a0_6 a0_7 a0_8 a0_9 a0_10 a0_11 t144 t145 _ A3.out).mono ?_); rintro e w23 ⟨rfl, hb⟩; refine ⟨_, rfl, ?_⟩; have n0_ := Aside0.mk (blk_below (g := gb143) (o := .cells #[.int .i64 a0_0, .int .i64 a0_1, .int .i64 a0_2, .int .i64 a0_3, .int .i64 a0_4, .int .i64 a0_5, .int .i64 a0_6, .int .i64 a0_7, .int .i64 a0_8, .int .i64 a0_9, .int .i64 a0_10, .int .i64 a0_11] 23 (0, 0)) (by (with_reducible repeat (first | refine blk_drewN ?_ _ | refine blk_drew ?_ | refine blk_alloc ?_ _)); exact BK143.out) hb); have n1_ := Aside0.mk (below_step (by repeat (first | (with_reducible first | exact HB.out | apply below_alloc | apply pw_below_drewN | apply below_drew1 | refine below_set ?_ GE143.out) | with_reducible_and_instances exact HB.out)) hb); clear BK143; clear HB; have BK143 := n0_; have HB := n1_; clear n0_ n1_; (try clear hb); (try clear hb2); (try clear hk); (try clear hi)))
    go_ret3
    exact ⟨by first | rfl | (simp [errW_none, errW_some] <;> rfl) | (simp [*, errW_none, errW_some] <;> rfl), by repeat (first | (with_reducible first | exact HB.out | apply below_alloc | apply pw_below_drewN | apply below_drew1 | refine below_set ?_ GE143.out) | with_reducible_and_instances exact HB.out)⟩

/-! ### skerryref10_sound: function 32 -/
def skerryref10_sound.f (a0 : Int) (a1 : Int) : Option (Bool) := if a0 ≥ 0 then (if a0 ≤ 1073741824 then (if a1 ≥ 0 then (some (decide (a1 ≤ 1073741824))) else (some false)) else (some false)) else (some false)
set_option maxHeartbeats 8000000 in
set_option maxRecDepth 100000 in
theorem skerryref10_sound.calls (a0 : Int) (a1 : Int) (r : Bool) (w : World) (h : skerryref10_sound.f a0 a1 = some r) :
    Calls Try.prog 32 #[.int .i64 a0, .int .i64 a1] w fun e w' => e = .returned (.bool r) ∧ Drawn0 w w' := by
  have H : (if a0 ≥ 0 then (if a0 ≤ 1073741824 then (if a1 ≥ 0 then (some (decide (a1 ≤ 1073741824))) else (some false)) else (some false)) else (some false)) = some r := h
  clear h
  by_cases c3 : a0 ≥ 0
  · rw [if_pos c3] at H
    have c3b0 : decide (0 ≤ a0) = true := decide_eq_true c3
    clear c3
    by_cases c4 : a0 ≤ 1073741824
    · rw [if_pos c4] at H
      have c4b0 : decide (a0 ≤ 1073741824) = true := decide_eq_true c4
      clear c4
      by_cases c5 : a1 ≥ 0
      · rw [if_pos c5] at H
        have c5b0 : decide (0 ≤ a1) = true := decide_eq_true c5
        clear c5
        obtain rfl := Option.some.inj H
        go_enter Try.func32, Try.ntmps32
        go_wp2
        go_ret
        exact ⟨by first | rfl | (simp; done) | (simp [*]; done), by repeat (first | exact Drawn0.refl _ | apply Drawn0.step)⟩
      · rw [if_neg c5] at H
        have c5b0 : decide (0 ≤ a1) = false := decide_eq_false c5
        clear c5
        obtain rfl := Option.some.inj H
        go_enter Try.func32, Try.ntmps32
        go_wp2
        go_ret
        exact ⟨by first | rfl | (simp; done) | (simp [*]; done), by repeat (first | exact Drawn0.refl _ | apply Drawn0.step)⟩
    · rw [if_neg c4] at H
      have c4b0 : decide (a0 ≤ 1073741824) = false := decide_eq_false c4
      clear c4
      obtain rfl := Option.some.inj H
      go_enter Try.func32, Try.ntmps32
      go_wp2
      go_ret
      exact ⟨by first | rfl | (simp; done) | (simp [*]; done), by repeat (first | exact Drawn0.refl _ | apply Drawn0.step)⟩
  · rw [if_neg c3] at H
    have c3b0 : decide (0 ≤ a0) = false := decide_eq_false c3
    clear c3
    obtain rfl := Option.some.inj H
    go_enter Try.func32, Try.ntmps32
    go_wp2
    go_ret
    exact ⟨by first | rfl | (simp; done) | (simp [*]; done), by repeat (first | exact Drawn0.refl _ | apply Drawn0.step)⟩

-- NOT PRINTED: function 23 (skerryref10_Amount)

-- NOT PRINTED: function 12 (skerryref10_File)

-- NOT PRINTED: function 13 (skerryref10_Dir)

-- NOT PRINTED: function 14 (need_Have)

-- NOT PRINTED: function 15 (skerryref10_Have)

-- NOT PRINTED: function 39 (skerryref10_whole)

-- NOT PRINTED: function 34 (skerryref10_Parts)

-- NOT PRINTED: function 26 (skerryref10_Sum)

-- NOT PRINTED: function 16 (skerryref10_Tree)

-- NOT PRINTED: function 5 (skerrylaw10_NeedFiles)

end Go.Proofs.Ytdjlbbfgobbcmaa.PNeedFiles
