-- Written by this session's own tool (prn.py) over the kit's printer; its templates are the session's own. Lean checks it.
import Derived.Test.YtobkdcokickodaaPPlanCoversx0
import Derived.Test.YtobkdcokickodaaPPlanCoversx2
import Derived.Test.YtobkdcokickodaaPPlanCoversx3
namespace Go.Proofs.Ytobkdcokickodaa.PPlanCovers
open Go.RowKit Go.Proofs.YtobkdcokickodaaW.PrintWords Go.Proofs.YtobkdcokickodaaW.PrintLast Go.Proofs.YtobkdcokickodaaW.PrintMore
attribute [local go_sem] max2_int min2_int max_two min_two max_three min_three max_four min_four   -- for this text's walks alone
set_option linter.unusedVariables false
set_option linter.unusedSimpArgs false

/-! ### skerrylaw05_PlanCovers: function 5 -/
mutual
def skerrylaw05_PlanCovers.j0 : Nat → Bool → Int → Int → Int → Int → Int → Int → Int → Int → Int → Int → Int → Int → Option (Bool)
  | 0, _, _, _, _, _, _, _, _, _, _, _, _, _ => none
  | k + 1, x35, x142000, x142001, x142002, x142003, x142004, x142005, x142006, x142007, x142008, x142009, x142010, x142011 => if x35 = true then (some true) else (skerrylaw05_PlanCovers.l0 k 0 0 x142000 x142001 x142002 x142003 x142004 x142005 x142006 x142007 x142008 x142009 x142010 x142011)
def skerrylaw05_PlanCovers.l0 : Nat → Int → Int → Int → Int → Int → Int → Int → Int → Int → Int → Int → Int → Int → Int → Option (Bool)
  | 0, _, _, _, _, _, _, _, _, _, _, _, _, _, _ => none
  | k + 1, x5, x6, x142000, x142001, x142002, x142003, x142004, x142005, x142006, x142007, x142008, x142009, x142010, x142011 => if x6 < x142001 then ((plan_Region.f k x142000 x142001 x142002 x142003 x142004 x142005 x142006 x142007 x142008 x142009 x142010 x142011 x6).bind fun bt146 => (if bt146.2 = 0 then (if bt146.1 < x5 then (some false) else (if bt146.1 > 6 then (some false) else (if bt146.1 > (wrap64 (x5 + 1)) then (some false) else (skerrylaw05_PlanCovers.l0 k bt146.1 (wrap64 (x6 + 1)) x142000 x142001 x142002 x142003 x142004 x142005 x142006 x142007 x142008 x142009 x142010 x142011)))) else (some false))) else (if x5 = 6 then (skerrylaw05_PlanCovers.l1 k (wrap64 (x142009 * x142000)) 0 x142000 x142001 x142002 x142003 x142004 x142005 x142006 x142007 x142008 x142009 x142010 x142011) else (some false))
def skerrylaw05_PlanCovers.l1 : Nat → Int → Int → Int → Int → Int → Int → Int → Int → Int → Int → Int → Int → Int → Int → Option (Bool)
  | 0, _, _, _, _, _, _, _, _, _, _, _, _, _, _ => none
  | k + 1, x9, x10, x142000, x142001, x142002, x142003, x142004, x142005, x142006, x142007, x142008, x142009, x142010, x142011 => if x10 < x142002 then ((plan_Place.f x142000 x142001 x142002 x142003 x142004 x142005 x142006 x142007 x142008 x142009 x142010 x142011 x10).bind fun bt148 => ((plan_Region.f k x142000 x142001 x142002 x142003 x142004 x142005 x142006 x142007 x142008 x142009 x142010 x142011 bt148.1).bind fun bt151 => (if bt148.2.2 = 0 then (if bt151.2 = 0 then (if bt151.1 = 5 then (if bt148.2.1 < 0 then (some false) else (if (wrap64 (bt148.2.1 + 32)) > x142000 then (some false) else (if (wrap64 ((wrap64 (bt148.1 * x142000)) + bt148.2.1)) < x9 then (some false) else (skerrylaw05_PlanCovers.l1 k (wrap64 ((wrap64 ((wrap64 (bt148.1 * x142000)) + bt148.2.1)) + 32)) (wrap64 (x10 + 1)) x142000 x142001 x142002 x142003 x142004 x142005 x142006 x142007 x142008 x142009 x142010 x142011)))) else (some false)) else (some false)) else (some false)))) else (some true)
end
def skerrylaw05_PlanCovers.f (k : Nat) (a0_0 : Int) (a0_1 : Int) (a0_2 : Int) (a0_3 : Int) (a0_4 : Int) (a0_5 : Int) (a0_6 : Int) (a0_7 : Int) (a0_8 : Int) (a0_9 : Int) (a0_10 : Int) (a0_11 : Int) : Option (Bool) := (skerrylaw05_wakes.f).bind fun t142 => (if t142 = true then ((plan_Check.f a0_0 a0_1 a0_2 a0_3 a0_4 a0_5 a0_6 a0_7 a0_8 a0_9 a0_10 a0_11).bind fun t143 => (if t143 = 0 then (if a0_1 > 400 then (skerrylaw05_PlanCovers.j0 k true a0_0 a0_1 a0_2 a0_3 a0_4 a0_5 a0_6 a0_7 a0_8 a0_9 a0_10 a0_11) else (skerrylaw05_PlanCovers.j0 k (decide (a0_2 > 200)) a0_0 a0_1 a0_2 a0_3 a0_4 a0_5 a0_6 a0_7 a0_8 a0_9 a0_10 a0_11)) else ((plan_Region.f k a0_0 a0_1 a0_2 a0_3 a0_4 a0_5 a0_6 a0_7 a0_8 a0_9 a0_10 a0_11 0).bind fun bt144 => (some (bt144.2 == 4))))) else (some false))
theorem skerrylaw05_PlanCovers.mono_l : ∀ k, (∀ y0 y1 y2 y3 y4 y5 y6 y7 y8 y9 y10 y11 y12, LeO (skerrylaw05_PlanCovers.j0 k y0 y1 y2 y3 y4 y5 y6 y7 y8 y9 y10 y11 y12) (skerrylaw05_PlanCovers.j0 (k + 1) y0 y1 y2 y3 y4 y5 y6 y7 y8 y9 y10 y11 y12)) ∧ (∀ y0 y1 y2 y3 y4 y5 y6 y7 y8 y9 y10 y11 y12 y13, LeO (skerrylaw05_PlanCovers.l0 k y0 y1 y2 y3 y4 y5 y6 y7 y8 y9 y10 y11 y12 y13) (skerrylaw05_PlanCovers.l0 (k + 1) y0 y1 y2 y3 y4 y5 y6 y7 y8 y9 y10 y11 y12 y13)) ∧ (∀ y0 y1 y2 y3 y4 y5 y6 y7 y8 y9 y10 y11 y12 y13, LeO (skerrylaw05_PlanCovers.l1 k y0 y1 y2 y3 y4 y5 y6 y7 y8 y9 y10 y11 y12 y13) (skerrylaw05_PlanCovers.l1 (k + 1) y0 y1 y2 y3 y4 y5 y6 y7 y8 y9 y10 y11 y12 y13))
  | 0 => ⟨fun _ _ _ _ _ _ _ _ _ _ _ _ _ r h => by simp [skerrylaw05_PlanCovers.j0] at h, fun _ _ _ _ _ _ _ _ _ _ _ _ _ _ r h => by simp [skerrylaw05_PlanCovers.l0] at h, fun _ _ _ _ _ _ _ _ _ _ _ _ _ _ r h => by simp [skerrylaw05_PlanCovers.l1] at h⟩
  | k + 1 => by
    obtain ⟨ih0, ih1, ih2⟩ := skerrylaw05_PlanCovers.mono_l k
    refine ⟨?_, ?_, ?_⟩
    · intro y0 y1 y2 y3 y4 y5 y6 y7 y8 y9 y10 y11 y12
      unfold skerrylaw05_PlanCovers.j0
      repeat' first
      | (with_reducible exact ih0 _ _ _ _ _ _ _ _ _ _ _ _ _)
      | (with_reducible exact ih1 _ _ _ _ _ _ _ _ _ _ _ _ _ _)
      | (with_reducible exact ih2 _ _ _ _ _ _ _ _ _ _ _ _ _ _)
      | (with_reducible exact plan_Region.mono _ _ _ _ _ _ _ _ _ _ _ _ _ _)
      | (with_reducible exact LeO.refl _)
      | (with_reducible exact LeO.none _)
      | (with_reducible refine LeO.ite ?_ ?_)
      | (with_reducible refine LeO.bind ?_ (fun _ => ?_))
      | exact ih0 _ _ _ _ _ _ _ _ _ _ _ _ _
      | exact ih1 _ _ _ _ _ _ _ _ _ _ _ _ _ _
      | exact ih2 _ _ _ _ _ _ _ _ _ _ _ _ _ _
      | exact plan_Region.mono _ _ _ _ _ _ _ _ _ _ _ _ _ _
      | exact LeO.none _
      | refine LeO.ite ?_ ?_
      | refine LeO.bind ?_ (fun _ => ?_)
    · intro y0 y1 y2 y3 y4 y5 y6 y7 y8 y9 y10 y11 y12 y13
      unfold skerrylaw05_PlanCovers.l0
      repeat' first
      | (with_reducible exact ih0 _ _ _ _ _ _ _ _ _ _ _ _ _)
      | (with_reducible exact ih1 _ _ _ _ _ _ _ _ _ _ _ _ _ _)
      | (with_reducible exact ih2 _ _ _ _ _ _ _ _ _ _ _ _ _ _)
      | (with_reducible exact plan_Region.mono _ _ _ _ _ _ _ _ _ _ _ _ _ _)
      | (with_reducible exact LeO.refl _)
      | (with_reducible exact LeO.none _)
      | (with_reducible refine LeO.ite ?_ ?_)
      | (with_reducible refine LeO.bind ?_ (fun _ => ?_))
      | exact ih0 _ _ _ _ _ _ _ _ _ _ _ _ _
      | exact ih1 _ _ _ _ _ _ _ _ _ _ _ _ _ _
      | exact ih2 _ _ _ _ _ _ _ _ _ _ _ _ _ _
      | exact plan_Region.mono _ _ _ _ _ _ _ _ _ _ _ _ _ _
      | exact LeO.none _
      | refine LeO.ite ?_ ?_
      | refine LeO.bind ?_ (fun _ => ?_)
    · intro y0 y1 y2 y3 y4 y5 y6 y7 y8 y9 y10 y11 y12 y13
      unfold skerrylaw05_PlanCovers.l1
      repeat' first
      | (with_reducible exact ih0 _ _ _ _ _ _ _ _ _ _ _ _ _)
      | (with_reducible exact ih1 _ _ _ _ _ _ _ _ _ _ _ _ _ _)
      | (with_reducible exact ih2 _ _ _ _ _ _ _ _ _ _ _ _ _ _)
      | (with_reducible exact plan_Region.mono _ _ _ _ _ _ _ _ _ _ _ _ _ _)
      | (with_reducible exact LeO.refl _)
      | (with_reducible exact LeO.none _)
      | (with_reducible refine LeO.ite ?_ ?_)
      | (with_reducible refine LeO.bind ?_ (fun _ => ?_))
      | exact ih0 _ _ _ _ _ _ _ _ _ _ _ _ _
      | exact ih1 _ _ _ _ _ _ _ _ _ _ _ _ _ _
      | exact ih2 _ _ _ _ _ _ _ _ _ _ _ _ _ _
      | exact plan_Region.mono _ _ _ _ _ _ _ _ _ _ _ _ _ _
      | exact LeO.none _
      | refine LeO.ite ?_ ?_
      | refine LeO.bind ?_ (fun _ => ?_)
theorem skerrylaw05_PlanCovers.mono : ∀ a0 a1 a2 a3 a4 a5 a6 a7 a8 a9 a10 a11 k, LeO (skerrylaw05_PlanCovers.f k a0 a1 a2 a3 a4 a5 a6 a7 a8 a9 a10 a11) (skerrylaw05_PlanCovers.f (k + 1) a0 a1 a2 a3 a4 a5 a6 a7 a8 a9 a10 a11) := by
  intro a0 a1 a2 a3 a4 a5 a6 a7 a8 a9 a10 a11 k
  obtain ⟨ih0, ih1, ih2⟩ := skerrylaw05_PlanCovers.mono_l k
  unfold skerrylaw05_PlanCovers.f
  repeat' first
      | (with_reducible exact ih0 _ _ _ _ _ _ _ _ _ _ _ _ _)
      | (with_reducible exact ih1 _ _ _ _ _ _ _ _ _ _ _ _ _ _)
      | (with_reducible exact ih2 _ _ _ _ _ _ _ _ _ _ _ _ _ _)
      | (with_reducible exact plan_Region.mono _ _ _ _ _ _ _ _ _ _ _ _ _ _)
      | (with_reducible exact LeO.refl _)
      | (with_reducible exact LeO.none _)
      | (with_reducible refine LeO.ite ?_ ?_)
      | (with_reducible refine LeO.bind ?_ (fun _ => ?_))
      | exact ih0 _ _ _ _ _ _ _ _ _ _ _ _ _
      | exact ih1 _ _ _ _ _ _ _ _ _ _ _ _ _ _
      | exact ih2 _ _ _ _ _ _ _ _ _ _ _ _ _ _
      | exact plan_Region.mono _ _ _ _ _ _ _ _ _ _ _ _ _ _
      | exact LeO.none _
      | refine LeO.ite ?_ ?_
      | refine LeO.bind ?_ (fun _ => ?_)
set_option maxHeartbeats 8000000 in
set_option maxRecDepth 100000 in
theorem skerrylaw05_PlanCovers.calls (k : Nat) (a0_0 : Int) (a0_1 : Int) (a0_2 : Int) (a0_3 : Int) (a0_4 : Int) (a0_5 : Int) (a0_6 : Int) (a0_7 : Int) (a0_8 : Int) (a0_9 : Int) (a0_10 : Int) (a0_11 : Int) (r : Bool) (w : World) (h : skerrylaw05_PlanCovers.f k a0_0 a0_1 a0_2 a0_3 a0_4 a0_5 a0_6 a0_7 a0_8 a0_9 a0_10 a0_11 = some r) :
    Calls Try.prog 5 #[.agg #[.int .i64 a0_0, .int .i64 a0_1, .int .i64 a0_2, .int .i64 a0_3, .int .i64 a0_4, .int .i64 a0_5, .int .i64 a0_6, .int .i64 a0_7, .int .i64 a0_8, .int .i64 a0_9, .int .i64 a0_10, .int .i64 a0_11]] w fun e w' => e = .returned (.bool r) ∧ Below w.heap.size w w' := by
  have hu24 := Try.underlying24
  have HB := Aside0.mk (Below.refl w.heap.size w)
  have H : ((skerrylaw05_wakes.f).bind fun t142 => (if t142 = true then ((plan_Check.f a0_0 a0_1 a0_2 a0_3 a0_4 a0_5 a0_6 a0_7 a0_8 a0_9 a0_10 a0_11).bind fun t143 => (if t143 = 0 then (if a0_1 > 400 then (skerrylaw05_PlanCovers.j0 k true a0_0 a0_1 a0_2 a0_3 a0_4 a0_5 a0_6 a0_7 a0_8 a0_9 a0_10 a0_11) else (skerrylaw05_PlanCovers.j0 k (decide (a0_2 > 200)) a0_0 a0_1 a0_2 a0_3 a0_4 a0_5 a0_6 a0_7 a0_8 a0_9 a0_10 a0_11)) else ((plan_Region.f k a0_0 a0_1 a0_2 a0_3 a0_4 a0_5 a0_6 a0_7 a0_8 a0_9 a0_10 a0_11 0).bind fun bt144 => (some (bt144.2 == 4))))) else (some false))) = some r := h
  clear h
  replace H := Option.bind_eq_some_iff.mp H
  obtain ⟨t142, A20, H⟩ := H
  replace H : (if t142 = true then ((plan_Check.f a0_0 a0_1 a0_2 a0_3 a0_4 a0_5 a0_6 a0_7 a0_8 a0_9 a0_10 a0_11).bind fun t143 => (if t143 = 0 then (if a0_1 > 400 then (skerrylaw05_PlanCovers.j0 k true a0_0 a0_1 a0_2 a0_3 a0_4 a0_5 a0_6 a0_7 a0_8 a0_9 a0_10 a0_11) else (skerrylaw05_PlanCovers.j0 k (decide (a0_2 > 200)) a0_0 a0_1 a0_2 a0_3 a0_4 a0_5 a0_6 a0_7 a0_8 a0_9 a0_10 a0_11)) else ((plan_Region.f k a0_0 a0_1 a0_2 a0_3 a0_4 a0_5 a0_6 a0_7 a0_8 a0_9 a0_10 a0_11 0).bind fun bt144 => (some (bt144.2 == 4))))) else (some false)) = some r := H
  have A2 := Aside0.mk A20
  clear A20
  by_cases c3 : t142 = true
  · subst c3
    have H1 : ((plan_Check.f a0_0 a0_1 a0_2 a0_3 a0_4 a0_5 a0_6 a0_7 a0_8 a0_9 a0_10 a0_11).bind fun t143 => (if t143 = 0 then (if a0_1 > 400 then (skerrylaw05_PlanCovers.j0 k true a0_0 a0_1 a0_2 a0_3 a0_4 a0_5 a0_6 a0_7 a0_8 a0_9 a0_10 a0_11) else (skerrylaw05_PlanCovers.j0 k (decide (a0_2 > 200)) a0_0 a0_1 a0_2 a0_3 a0_4 a0_5 a0_6 a0_7 a0_8 a0_9 a0_10 a0_11)) else ((plan_Region.f k a0_0 a0_1 a0_2 a0_3 a0_4 a0_5 a0_6 a0_7 a0_8 a0_9 a0_10 a0_11 0).bind fun bt144 => (some (bt144.2 == 4))))) = some r := by rw [if_pos rfl] at H; exact H
    clear H
    have H := H1
    clear H1
    replace H := Option.bind_eq_some_iff.mp H
    obtain ⟨t143, A40, H⟩ := H
    replace H : (if t143 = 0 then (if a0_1 > 400 then (skerrylaw05_PlanCovers.j0 k true a0_0 a0_1 a0_2 a0_3 a0_4 a0_5 a0_6 a0_7 a0_8 a0_9 a0_10 a0_11) else (skerrylaw05_PlanCovers.j0 k (decide (a0_2 > 200)) a0_0 a0_1 a0_2 a0_3 a0_4 a0_5 a0_6 a0_7 a0_8 a0_9 a0_10 a0_11)) else ((plan_Region.f k a0_0 a0_1 a0_2 a0_3 a0_4 a0_5 a0_6 a0_7 a0_8 a0_9 a0_10 a0_11 0).bind fun bt144 => (some (bt144.2 == 4)))) = some r := H
    have A4 := Aside0.mk A40
    clear A40
    by_cases c5 : t143 = 0
    · rw [if_pos c5] at H
      have c5b0 : (t143 == 0) = true := beq_iff_eq.mpr c5
      have c5b1 : (t143 != 0) = false := bne_eq_false_iff_eq.mpr c5
      clear c5
      have HC6 := Aside0.mk H
      clear H
      go_enter Try.func5, Try.ntmps5
      go_upto_region 6 with (first | ((with_reducible refine gate_dst (N := 1) rfl ?_); refine box_event ?hg (N := 1) ?hd (cs := #[.int .i64 a0_0, .int .i64 a0_1, .int .i64 a0_2, .int .i64 a0_3, .int .i64 a0_4, .int .i64 a0_5, .int .i64 a0_6, .int .i64 a0_7, .int .i64 a0_8, .int .i64 a0_9, .int .i64 a0_10, .int .i64 a0_11]) (t := 24) ?hr ?_; (case hd => rfl); (case hg => rfl); (case hr => first | (go_simp; done) | (go_simp; rfl)); intro gb141 hg w7 hbox hb; have n0_ := Aside0.mk (below_step (by repeat (first | (with_reducible first | exact HB.out | apply below_alloc | apply pw_below_drewN | apply below_drew1) | with_reducible_and_instances exact HB.out)) hb); have n1_ := Aside0.mk (hbox); have n2_ := Aside0.mk ((by rw [hg]; exact (below_size (by repeat (first | (with_reducible first | exact HB.out | apply below_alloc | apply pw_below_drewN | apply below_drew1) | with_reducible_and_instances exact HB.out))) : w.heap.size ≤ gb141)); have n3_ := Aside0.mk ((by rw [hg]; exact (below_size (by repeat (first | (with_reducible first | exact HB.out | apply below_alloc | apply pw_below_drewN | apply below_drew1) | with_reducible_and_instances exact HB.out))) : w.heap.size ≤ gb141)); clear HB; have HB := n0_; have BK141 := n1_; have GW141 := n2_; have GE141 := n3_; clear n0_ n1_ n2_ n3_; clear hb hbox hg) | ((with_reducible refine gate_callee (f := 8) rfl ?_); refine goesL_ (some 16) rfl rfl Try.func8 (by kernel_rfl) rfl #[] rfl (by (try simp only [List.map_toArray, List.map_cons, List.map_nil]); first | done | rfl | (simp only [List.length_drop, List.length_take]; rfl) | (simp only [Int.toNat_natCast, Nat.sub_self, List.length_drop, List.length_take]; rfl)) ?_; (with_reducible refine (skerrylaw05_wakes.calls  true _ A2.out).mono ?_); rintro e w8 ⟨rfl, hb⟩; refine ⟨_, rfl, ?_⟩; have n0_ := Aside0.mk (blk_below (g := gb141) (o := .cells #[.int .i64 a0_0, .int .i64 a0_1, .int .i64 a0_2, .int .i64 a0_3, .int .i64 a0_4, .int .i64 a0_5, .int .i64 a0_6, .int .i64 a0_7, .int .i64 a0_8, .int .i64 a0_9, .int .i64 a0_10, .int .i64 a0_11] 24 (0, 0)) (by (with_reducible repeat (first | refine blk_drewN ?_ _ | refine blk_drew ?_ | refine blk_alloc ?_ _)); exact BK141.out) hb); have n1_ := Aside0.mk (below_step (by repeat (first | (with_reducible first | exact HB.out | apply below_alloc | apply pw_below_drewN | apply below_drew1 | refine below_set ?_ GE141.out) | with_reducible_and_instances exact HB.out)) hb); clear BK141; clear HB; have BK141 := n0_; have HB := n1_; clear n0_ n1_; (try clear hb); (try clear hb2); (try clear hk); (try clear hi); have hcz9_0 : w8.cell? ⟨gb141, 0, none⟩ = some (.int .i64 a0_0) := (blk_cell BK141.out 0).trans rfl; have hcz9_1 : w8.cell? ⟨gb141, 1, none⟩ = some (.int .i64 a0_1) := (blk_cell BK141.out 1).trans rfl; have hcz9_2 : w8.cell? ⟨gb141, 2, none⟩ = some (.int .i64 a0_2) := (blk_cell BK141.out 2).trans rfl; have hcz9_3 : w8.cell? ⟨gb141, 3, none⟩ = some (.int .i64 a0_3) := (blk_cell BK141.out 3).trans rfl; have hcz9_4 : w8.cell? ⟨gb141, 4, none⟩ = some (.int .i64 a0_4) := (blk_cell BK141.out 4).trans rfl; have hcz9_5 : w8.cell? ⟨gb141, 5, none⟩ = some (.int .i64 a0_5) := (blk_cell BK141.out 5).trans rfl; have hcz9_6 : w8.cell? ⟨gb141, 6, none⟩ = some (.int .i64 a0_6) := (blk_cell BK141.out 6).trans rfl; have hcz9_7 : w8.cell? ⟨gb141, 7, none⟩ = some (.int .i64 a0_7) := (blk_cell BK141.out 7).trans rfl; have hcz9_8 : w8.cell? ⟨gb141, 8, none⟩ = some (.int .i64 a0_8) := (blk_cell BK141.out 8).trans rfl; have hcz9_9 : w8.cell? ⟨gb141, 9, none⟩ = some (.int .i64 a0_9) := (blk_cell BK141.out 9).trans rfl; have hcz9_10 : w8.cell? ⟨gb141, 10, none⟩ = some (.int .i64 a0_10) := (blk_cell BK141.out 10).trans rfl; have hcz9_11 : w8.cell? ⟨gb141, 11, none⟩ = some (.int .i64 a0_11) := (blk_cell BK141.out 11).trans rfl; have hfz9_0 := blk_frozen BK141.out 0; have hfz9_1 := blk_frozen BK141.out 1; have hfz9_2 := blk_frozen BK141.out 2; have hfz9_3 := blk_frozen BK141.out 3; have hfz9_4 := blk_frozen BK141.out 4; have hfz9_5 := blk_frozen BK141.out 5; have hfz9_6 := blk_frozen BK141.out 6; have hfz9_7 := blk_frozen BK141.out 7; have hfz9_8 := blk_frozen BK141.out 8; have hfz9_9 := blk_frozen BK141.out 9; have hfz9_10 := blk_frozen BK141.out 10; have hfz9_11 := blk_frozen BK141.out 11) | ((with_reducible refine gate_callee (f := 15) rfl ?_); refine goesL_ (some 19) rfl rfl Try.func15 (by kernel_rfl) rfl #[.agg #[.int .i64 a0_0, .int .i64 a0_1, .int .i64 a0_2, .int .i64 a0_3, .int .i64 a0_4, .int .i64 a0_5, .int .i64 a0_6, .int .i64 a0_7, .int .i64 a0_8, .int .i64 a0_9, .int .i64 a0_10, .int .i64 a0_11]] rfl (by (try simp only [List.map_toArray, List.map_cons, List.map_nil]); first | done | rfl | (simp only [List.length_drop, List.length_take]; rfl) | (simp only [Int.toNat_natCast, Nat.sub_self, List.length_drop, List.length_take]; rfl)) ?_; (with_reducible refine (plan_Check.calls a0_0 a0_1 a0_2 a0_3 a0_4 a0_5 a0_6 a0_7 a0_8 a0_9 a0_10 a0_11 t143 _ A4.out).mono ?_); rintro e w10 ⟨rfl, hb⟩; refine ⟨_, rfl, ?_⟩; have n0_ := Aside0.mk (blk_below (g := gb141) (o := .cells #[.int .i64 a0_0, .int .i64 a0_1, .int .i64 a0_2, .int .i64 a0_3, .int .i64 a0_4, .int .i64 a0_5, .int .i64 a0_6, .int .i64 a0_7, .int .i64 a0_8, .int .i64 a0_9, .int .i64 a0_10, .int .i64 a0_11] 24 (0, 0)) (by (with_reducible repeat (first | refine blk_drewN ?_ _ | refine blk_drew ?_ | refine blk_alloc ?_ _)); exact BK141.out) hb); have n1_ := Aside0.mk (below_step (by repeat (first | (with_reducible first | exact HB.out | apply below_alloc | apply pw_below_drewN | apply below_drew1 | refine below_set ?_ GE141.out) | with_reducible_and_instances exact HB.out)) hb); clear BK141; clear HB; have BK141 := n0_; have HB := n1_; clear n0_ n1_; (try clear hb); (try clear hb2); (try clear hk); (try clear hi)))
      (try simp only [Act.put, List.setIfInBounds_toArray, List.set_cons_zero, List.set_cons_succ])
      go_cut [35] (fun v35 wc => ∃ (kq : Nat) (x35_5 : Bool), v35 = .bool x35_5 ∧ Aside0 (skerrylaw05_PlanCovers.j0 kq x35_5 a0_0 a0_1 a0_2 a0_3 a0_4 a0_5 a0_6 a0_7 a0_8 a0_9 a0_10 a0_11 = some r) ∧ Aside0 (kq ≤ k) ∧ Aside0 (wc.heap[gb141]? = some (.cells #[.int .i64 a0_0, .int .i64 a0_1, .int .i64 a0_2, .int .i64 a0_3, .int .i64 a0_4, .int .i64 a0_5, .int .i64 a0_6, .int .i64 a0_7, .int .i64 a0_8, .int .i64 a0_9, .int .i64 a0_10, .int .i64 a0_11] 24 (0, 0))) ∧ Aside0 (Below w.heap.size w wc))
      case first =>
        have H := HC6.out
        clear HC6
        by_cases c11 : a0_1 > 400
        · rw [if_pos c11] at H
          have c11b0 : decide (400 < a0_1) = true := decide_eq_true c11
          clear c11
          (first | rw [c11b0] | (simp only [i64_w, i32_w]; rw [c11b0]) | rw [c11b1] | skip)
          have H' := Aside0.mk H
          clear H
          have hcz12_0 : w10.cell? ⟨gb141, 0, none⟩ = some (.int .i64 a0_0) := (blk_cell BK141.out 0).trans rfl
          have hcz12_1 : w10.cell? ⟨gb141, 1, none⟩ = some (.int .i64 a0_1) := (blk_cell BK141.out 1).trans rfl
          have hcz12_2 : w10.cell? ⟨gb141, 2, none⟩ = some (.int .i64 a0_2) := (blk_cell BK141.out 2).trans rfl
          have hcz12_3 : w10.cell? ⟨gb141, 3, none⟩ = some (.int .i64 a0_3) := (blk_cell BK141.out 3).trans rfl
          have hcz12_4 : w10.cell? ⟨gb141, 4, none⟩ = some (.int .i64 a0_4) := (blk_cell BK141.out 4).trans rfl
          have hcz12_5 : w10.cell? ⟨gb141, 5, none⟩ = some (.int .i64 a0_5) := (blk_cell BK141.out 5).trans rfl
          have hcz12_6 : w10.cell? ⟨gb141, 6, none⟩ = some (.int .i64 a0_6) := (blk_cell BK141.out 6).trans rfl
          have hcz12_7 : w10.cell? ⟨gb141, 7, none⟩ = some (.int .i64 a0_7) := (blk_cell BK141.out 7).trans rfl
          have hcz12_8 : w10.cell? ⟨gb141, 8, none⟩ = some (.int .i64 a0_8) := (blk_cell BK141.out 8).trans rfl
          have hcz12_9 : w10.cell? ⟨gb141, 9, none⟩ = some (.int .i64 a0_9) := (blk_cell BK141.out 9).trans rfl
          have hcz12_10 : w10.cell? ⟨gb141, 10, none⟩ = some (.int .i64 a0_10) := (blk_cell BK141.out 10).trans rfl
          have hcz12_11 : w10.cell? ⟨gb141, 11, none⟩ = some (.int .i64 a0_11) := (blk_cell BK141.out 11).trans rfl
          have hfz12_0 := blk_frozen BK141.out 0
          have hfz12_1 := blk_frozen BK141.out 1
          have hfz12_2 := blk_frozen BK141.out 2
          have hfz12_3 := blk_frozen BK141.out 3
          have hfz12_4 := blk_frozen BK141.out 4
          have hfz12_5 := blk_frozen BK141.out 5
          have hfz12_6 := blk_frozen BK141.out 6
          have hfz12_7 := blk_frozen BK141.out 7
          have hfz12_8 := blk_frozen BK141.out 8
          have hfz12_9 := blk_frozen BK141.out 9
          have hfz12_10 := blk_frozen BK141.out 10
          have hfz12_11 := blk_frozen BK141.out 11
          go_wp2
          go_meet
          case rel => exact ⟨_, (true), (by first | rfl | (simp; done) | (simp [*]; done)), H', ⟨by first | omega | exact Nat.le_refl _⟩, ⟨by (with_reducible repeat (first | refine blk_drewN ?_ _ | refine blk_drew ?_ | refine blk_alloc ?_ _)); exact BK141.out⟩, ⟨by repeat (first | (with_reducible first | exact HB.out | apply below_alloc | apply pw_below_drewN | apply below_drew1 | refine below_set ?_ GE141.out) | with_reducible_and_instances exact HB.out)⟩⟩
        · rw [if_neg c11] at H
          have c11b0 : decide (400 < a0_1) = false := decide_eq_false c11
          clear c11
          (first | rw [c11b0] | (simp only [i64_w, i32_w]; rw [c11b0]) | rw [c11b1] | skip)
          have H' := Aside0.mk H
          clear H
          have hcz13_0 : w10.cell? ⟨gb141, 0, none⟩ = some (.int .i64 a0_0) := (blk_cell BK141.out 0).trans rfl
          have hcz13_1 : w10.cell? ⟨gb141, 1, none⟩ = some (.int .i64 a0_1) := (blk_cell BK141.out 1).trans rfl
          have hcz13_2 : w10.cell? ⟨gb141, 2, none⟩ = some (.int .i64 a0_2) := (blk_cell BK141.out 2).trans rfl
          have hcz13_3 : w10.cell? ⟨gb141, 3, none⟩ = some (.int .i64 a0_3) := (blk_cell BK141.out 3).trans rfl
          have hcz13_4 : w10.cell? ⟨gb141, 4, none⟩ = some (.int .i64 a0_4) := (blk_cell BK141.out 4).trans rfl
          have hcz13_5 : w10.cell? ⟨gb141, 5, none⟩ = some (.int .i64 a0_5) := (blk_cell BK141.out 5).trans rfl
          have hcz13_6 : w10.cell? ⟨gb141, 6, none⟩ = some (.int .i64 a0_6) := (blk_cell BK141.out 6).trans rfl
          have hcz13_7 : w10.cell? ⟨gb141, 7, none⟩ = some (.int .i64 a0_7) := (blk_cell BK141.out 7).trans rfl
          have hcz13_8 : w10.cell? ⟨gb141, 8, none⟩ = some (.int .i64 a0_8) := (blk_cell BK141.out 8).trans rfl
          have hcz13_9 : w10.cell? ⟨gb141, 9, none⟩ = some (.int .i64 a0_9) := (blk_cell BK141.out 9).trans rfl
          have hcz13_10 : w10.cell? ⟨gb141, 10, none⟩ = some (.int .i64 a0_10) := (blk_cell BK141.out 10).trans rfl
          have hcz13_11 : w10.cell? ⟨gb141, 11, none⟩ = some (.int .i64 a0_11) := (blk_cell BK141.out 11).trans rfl
          have hfz13_0 := blk_frozen BK141.out 0
          have hfz13_1 := blk_frozen BK141.out 1
          have hfz13_2 := blk_frozen BK141.out 2
          have hfz13_3 := blk_frozen BK141.out 3
          have hfz13_4 := blk_frozen BK141.out 4
          have hfz13_5 := blk_frozen BK141.out 5
          have hfz13_6 := blk_frozen BK141.out 6
          have hfz13_7 := blk_frozen BK141.out 7
          have hfz13_8 := blk_frozen BK141.out 8
          have hfz13_9 := blk_frozen BK141.out 9
          have hfz13_10 := blk_frozen BK141.out 10
          have hfz13_11 := blk_frozen BK141.out 11
          go_wp2
          go_meet
          case rel => exact ⟨_, (decide (a0_2 > 200)), (by first | rfl | (simp; done) | (simp [*]; done)), H', ⟨by first | omega | exact Nat.le_refl _⟩, ⟨by (with_reducible repeat (first | refine blk_drewN ?_ _ | refine blk_drew ?_ | refine blk_alloc ?_ _)); exact BK141.out⟩, ⟨by repeat (first | (with_reducible first | exact HB.out | apply below_alloc | apply pw_below_drewN | apply below_drew1 | refine below_set ?_ GE141.out) | with_reducible_and_instances exact HB.out)⟩⟩
      case rest =>
        clear HC6
        try clear c1
        try clear p2
        try clear c3
        try clear c5
        try clear c5b0
        try clear c5b1
        try clear c8
        try clear c11
        try clear c11b0
        try clear c11b1
        try clear hcz12_0
        try clear hcz12_1
        try clear hcz12_10
        try clear hcz12_11
        try clear hcz12_2
        try clear hcz12_3
        try clear hcz12_4
        try clear hcz12_5
        try clear hcz12_6
        try clear hcz12_7
        try clear hcz12_8
        try clear hcz12_9
        try clear hcz13_0
        try clear hcz13_1
        try clear hcz13_10
        try clear hcz13_11
        try clear hcz13_2
        try clear hcz13_3
        try clear hcz13_4
        try clear hcz13_5
        try clear hcz13_6
        try clear hcz13_7
        try clear hcz13_8
        try clear hcz13_9
        try clear hcz9_0
        try clear hcz9_1
        try clear hcz9_10
        try clear hcz9_11
        try clear hcz9_2
        try clear hcz9_3
        try clear hcz9_4
        try clear hcz9_5
        try clear hcz9_6
        try clear hcz9_7
        try clear hcz9_8
        try clear hcz9_9
        try clear hfz12_0
        try clear hfz12_1
        try clear hfz12_10
        try clear hfz12_11
        try clear hfz12_2
        try clear hfz12_3
        try clear hfz12_4
        try clear hfz12_5
        try clear hfz12_6
        try clear hfz12_7
        try clear hfz12_8
        try clear hfz12_9
        try clear hfz13_0
        try clear hfz13_1
        try clear hfz13_10
        try clear hfz13_11
        try clear hfz13_2
        try clear hfz13_3
        try clear hfz13_4
        try clear hfz13_5
        try clear hfz13_6
        try clear hfz13_7
        try clear hfz13_8
        try clear hfz13_9
        try clear hfz9_0
        try clear hfz9_1
        try clear hfz9_10
        try clear hfz9_11
        try clear hfz9_2
        try clear hfz9_3
        try clear hfz9_4
        try clear hfz9_5
        try clear hfz9_6
        try clear hfz9_7
        try clear hfz9_8
        try clear hfz9_9
        obtain ⟨kq, x35_5, rfl, HA, HJ5, BK141, HB⟩ := hcut
        cases kq with
        | zero => exact absurd HA.out (by simp [skerrylaw05_PlanCovers.j0])
        | succ kj5 =>
          have H := HA.out
          clear HA
          simp only [skerrylaw05_PlanCovers.j0] at H
          by_cases c14 : x35_5 = true
          · subst c14
            have H1 : (some true) = some r := by rw [if_pos rfl] at H; exact H
            clear H
            have H := H1
            clear H1
            obtain rfl := Option.some.inj H
            go_wp2
            go_ret
            exact ⟨by first | rfl | (simp [errW_none, errW_some] <;> rfl) | (simp [*, errW_none, errW_some] <;> rfl), by repeat (first | (with_reducible first | exact HB.out | apply below_alloc | apply pw_below_drewN | apply below_drew1 | refine below_set ?_ GE141.out) | with_reducible_and_instances exact HB.out)⟩
          · replace c14 := Bool.eq_false_iff.mpr c14
            subst c14
            have H1 : (skerrylaw05_PlanCovers.l0 kj5 0 0 a0_0 a0_1 a0_2 a0_3 a0_4 a0_5 a0_6 a0_7 a0_8 a0_9 a0_10 a0_11) = some r := by rw [if_neg (show ¬ (false = true) by decide)] at H; exact H
            clear H
            have H := H1
            clear H1
            have H' := Aside0.mk H
            clear H
            go_wp2
            go_loopg [5, 6] kj5 (fun kq v5 v6 w' => ∃ (x5_2 : Int) (x6_2 : Int), v5 = .int .i64 x5_2 ∧ v6 = .int .i64 x6_2 ∧ Aside0 (skerrylaw05_PlanCovers.l0 kq x5_2 x6_2 a0_0 a0_1 a0_2 a0_3 a0_4 a0_5 a0_6 a0_7 a0_8 a0_9 a0_10 a0_11 = some r) ∧ Aside0 (kq ≤ kj5) ∧ Aside0 (w'.heap[gb141]? = some (.cells #[.int .i64 a0_0, .int .i64 a0_1, .int .i64 a0_2, .int .i64 a0_3, .int .i64 a0_4, .int .i64 a0_5, .int .i64 a0_6, .int .i64 a0_7, .int .i64 a0_8, .int .i64 a0_9, .int .i64 a0_10, .int .i64 a0_11] 24 (0, 0))) ∧ Aside0 (Below w.heap.size w w'))
            case atStart => exact ⟨(0), (0), (by first | rfl | (simp; done) | (simp [*]; done)), (by first | rfl | (simp; done) | (simp [*]; done)), H', ⟨Nat.le_refl _⟩, ⟨by (with_reducible repeat (first | refine blk_drewN ?_ _ | refine blk_drew ?_ | refine blk_alloc ?_ _)); exact BK141.out⟩, ⟨by repeat (first | (with_reducible first | exact HB.out | apply below_alloc | apply pw_below_drewN | apply below_drew1 | refine below_set ?_ GE141.out) | with_reducible_and_instances exact HB.out)⟩⟩
            case round =>
              clear H'
              try clear c1
              try clear p2
              try clear c3
              try clear c5
              try clear c5b0
              try clear c5b1
              try clear c8
              try clear c11
              try clear c11b0
              try clear c11b1
              try clear c14
              try clear hcz12_0
              try clear hcz12_1
              try clear hcz12_10
              try clear hcz12_11
              try clear hcz12_2
              try clear hcz12_3
              try clear hcz12_4
              try clear hcz12_5
              try clear hcz12_6
              try clear hcz12_7
              try clear hcz12_8
              try clear hcz12_9
              try clear hcz13_0
              try clear hcz13_1
              try clear hcz13_10
              try clear hcz13_11
              try clear hcz13_2
              try clear hcz13_3
              try clear hcz13_4
              try clear hcz13_5
              try clear hcz13_6
              try clear hcz13_7
              try clear hcz13_8
              try clear hcz13_9
              try clear hcz9_0
              try clear hcz9_1
              try clear hcz9_10
              try clear hcz9_11
              try clear hcz9_2
              try clear hcz9_3
              try clear hcz9_4
              try clear hcz9_5
              try clear hcz9_6
              try clear hcz9_7
              try clear hcz9_8
              try clear hcz9_9
              try clear hfz12_0
              try clear hfz12_1
              try clear hfz12_10
              try clear hfz12_11
              try clear hfz12_2
              try clear hfz12_3
              try clear hfz12_4
              try clear hfz12_5
              try clear hfz12_6
              try clear hfz12_7
              try clear hfz12_8
              try clear hfz12_9
              try clear hfz13_0
              try clear hfz13_1
              try clear hfz13_10
              try clear hfz13_11
              try clear hfz13_2
              try clear hfz13_3
              try clear hfz13_4
              try clear hfz13_5
              try clear hfz13_6
              try clear hfz13_7
              try clear hfz13_8
              try clear hfz13_9
              try clear hfz9_0
              try clear hfz9_1
              try clear hfz9_10
              try clear hfz9_11
              try clear hfz9_2
              try clear hfz9_3
              try clear hfz9_4
              try clear hfz9_5
              try clear hfz9_6
              try clear hfz9_7
              try clear hfz9_8
              try clear hfz9_9
              try clear p2
              obtain ⟨x5_2, x6_2, rfl, rfl, HA, HK2, BK141, HB⟩ := hrel
              cases gk with
              | zero => exact absurd HA.out (by simp [skerrylaw05_PlanCovers.l0])
              | succ k2 =>
                have H := HA.out
                clear HA
                simp only [skerrylaw05_PlanCovers.l0] at H
                by_cases c15 : x6_2 < a0_1
                · rw [if_pos c15] at H
                  have c15b0 : decide (x6_2 < a0_1) = true := decide_eq_true c15
                  clear c15
                  replace H := Option.bind_eq_some_iff.mp H
                  obtain ⟨⟨t146, t147⟩, A160, H⟩ := H
                  replace H : (if t147 = 0 then (if t146 < x5_2 then (some false) else (if t146 > 6 then (some false) else (if t146 > (wrap64 (x5_2 + 1)) then (some false) else (skerrylaw05_PlanCovers.l0 k2 t146 (wrap64 (x6_2 + 1)) a0_0 a0_1 a0_2 a0_3 a0_4 a0_5 a0_6 a0_7 a0_8 a0_9 a0_10 a0_11)))) else (some false)) = some r := H
                  have A16 := Aside0.mk A160
                  clear A160
                  by_cases c17 : t147 = 0
                  · rw [if_pos c17] at H
                    have c17b0 : (t147 == 0) = true := beq_iff_eq.mpr c17
                    have c17b1 : (t147 != 0) = false := bne_eq_false_iff_eq.mpr c17
                    clear c17
                    by_cases c18 : t146 < x5_2
                    · rw [if_pos c18] at H
                      have c18b0 : decide (t146 < x5_2) = true := decide_eq_true c18
                      clear c18
                      obtain rfl := Option.some.inj H
                      have hcz19_0 : wr.cell? ⟨gb141, 0, none⟩ = some (.int .i64 a0_0) := (blk_cell BK141.out 0).trans rfl
                      have hcz19_1 : wr.cell? ⟨gb141, 1, none⟩ = some (.int .i64 a0_1) := (blk_cell BK141.out 1).trans rfl
                      have hcz19_2 : wr.cell? ⟨gb141, 2, none⟩ = some (.int .i64 a0_2) := (blk_cell BK141.out 2).trans rfl
                      have hcz19_3 : wr.cell? ⟨gb141, 3, none⟩ = some (.int .i64 a0_3) := (blk_cell BK141.out 3).trans rfl
                      have hcz19_4 : wr.cell? ⟨gb141, 4, none⟩ = some (.int .i64 a0_4) := (blk_cell BK141.out 4).trans rfl
                      have hcz19_5 : wr.cell? ⟨gb141, 5, none⟩ = some (.int .i64 a0_5) := (blk_cell BK141.out 5).trans rfl
                      have hcz19_6 : wr.cell? ⟨gb141, 6, none⟩ = some (.int .i64 a0_6) := (blk_cell BK141.out 6).trans rfl
                      have hcz19_7 : wr.cell? ⟨gb141, 7, none⟩ = some (.int .i64 a0_7) := (blk_cell BK141.out 7).trans rfl
                      have hcz19_8 : wr.cell? ⟨gb141, 8, none⟩ = some (.int .i64 a0_8) := (blk_cell BK141.out 8).trans rfl
                      have hcz19_9 : wr.cell? ⟨gb141, 9, none⟩ = some (.int .i64 a0_9) := (blk_cell BK141.out 9).trans rfl
                      have hcz19_10 : wr.cell? ⟨gb141, 10, none⟩ = some (.int .i64 a0_10) := (blk_cell BK141.out 10).trans rfl
                      have hcz19_11 : wr.cell? ⟨gb141, 11, none⟩ = some (.int .i64 a0_11) := (blk_cell BK141.out 11).trans rfl
                      have hfz19_0 := blk_frozen BK141.out 0
                      have hfz19_1 := blk_frozen BK141.out 1
                      have hfz19_2 := blk_frozen BK141.out 2
                      have hfz19_3 := blk_frozen BK141.out 3
                      have hfz19_4 := blk_frozen BK141.out 4
                      have hfz19_5 := blk_frozen BK141.out 5
                      have hfz19_6 := blk_frozen BK141.out 6
                      have hfz19_7 := blk_frozen BK141.out 7
                      have hfz19_8 := blk_frozen BK141.out 8
                      have hfz19_9 := blk_frozen BK141.out 9
                      have hfz19_10 := blk_frozen BK141.out 10
                      have hfz19_11 := blk_frozen BK141.out 11
                      go_wp2_with (first | ((with_reducible refine gate_callee (f := 13) rfl ?_); refine goesL_ (some 45) rfl rfl Try.func13 (by kernel_rfl) rfl #[.agg #[.int .i64 a0_0, .int .i64 a0_1, .int .i64 a0_2, .int .i64 a0_3, .int .i64 a0_4, .int .i64 a0_5, .int .i64 a0_6, .int .i64 a0_7, .int .i64 a0_8, .int .i64 a0_9, .int .i64 a0_10, .int .i64 a0_11], .int .i64 x6_2] rfl (by (try simp only [List.map_toArray, List.map_cons, List.map_nil]); first | done | rfl | (simp only [List.length_drop, List.length_take]; rfl) | (simp only [Int.toNat_natCast, Nat.sub_self, List.length_drop, List.length_take]; rfl)) ?_; (with_reducible refine (plan_Region.calls k2 a0_0 a0_1 a0_2 a0_3 a0_4 a0_5 a0_6 a0_7 a0_8 a0_9 a0_10 a0_11 x6_2 t146 t147 _ A16.out).mono ?_); rintro e w20 ⟨rfl, hb⟩; refine ⟨_, rfl, ?_⟩; have n0_ := Aside0.mk (blk_below (g := gb141) (o := .cells #[.int .i64 a0_0, .int .i64 a0_1, .int .i64 a0_2, .int .i64 a0_3, .int .i64 a0_4, .int .i64 a0_5, .int .i64 a0_6, .int .i64 a0_7, .int .i64 a0_8, .int .i64 a0_9, .int .i64 a0_10, .int .i64 a0_11] 24 (0, 0)) (by (with_reducible repeat (first | refine blk_drewN ?_ _ | refine blk_drew ?_ | refine blk_alloc ?_ _)); exact BK141.out) hb); have n1_ := Aside0.mk (below_step (by repeat (first | (with_reducible first | exact HB.out | apply below_alloc | apply pw_below_drewN | apply below_drew1 | refine below_set ?_ GE141.out) | with_reducible_and_instances exact HB.out)) hb); clear BK141; clear HB; have BK141 := n0_; have HB := n1_; clear n0_ n1_; (try clear hb); (try clear hb2); (try clear hk); (try clear hi)))
                      go_ret
                      exact ⟨by first | rfl | (simp [errW_none, errW_some] <;> rfl) | (simp [*, errW_none, errW_some] <;> rfl), by repeat (first | (with_reducible first | exact HB.out | apply below_alloc | apply pw_below_drewN | apply below_drew1 | refine below_set ?_ GE141.out) | with_reducible_and_instances exact HB.out)⟩
                    · rw [if_neg c18] at H
                      have c18b0 : decide (t146 < x5_2) = false := decide_eq_false c18
                      clear c18
                      by_cases c21 : t146 > 6
                      · rw [if_pos c21] at H
                        have c21b0 : decide (6 < t146) = true := decide_eq_true c21
                        clear c21
                        obtain rfl := Option.some.inj H
                        have hcz22_0 : wr.cell? ⟨gb141, 0, none⟩ = some (.int .i64 a0_0) := (blk_cell BK141.out 0).trans rfl
                        have hcz22_1 : wr.cell? ⟨gb141, 1, none⟩ = some (.int .i64 a0_1) := (blk_cell BK141.out 1).trans rfl
                        have hcz22_2 : wr.cell? ⟨gb141, 2, none⟩ = some (.int .i64 a0_2) := (blk_cell BK141.out 2).trans rfl
                        have hcz22_3 : wr.cell? ⟨gb141, 3, none⟩ = some (.int .i64 a0_3) := (blk_cell BK141.out 3).trans rfl
                        have hcz22_4 : wr.cell? ⟨gb141, 4, none⟩ = some (.int .i64 a0_4) := (blk_cell BK141.out 4).trans rfl
                        have hcz22_5 : wr.cell? ⟨gb141, 5, none⟩ = some (.int .i64 a0_5) := (blk_cell BK141.out 5).trans rfl
                        have hcz22_6 : wr.cell? ⟨gb141, 6, none⟩ = some (.int .i64 a0_6) := (blk_cell BK141.out 6).trans rfl
                        have hcz22_7 : wr.cell? ⟨gb141, 7, none⟩ = some (.int .i64 a0_7) := (blk_cell BK141.out 7).trans rfl
                        have hcz22_8 : wr.cell? ⟨gb141, 8, none⟩ = some (.int .i64 a0_8) := (blk_cell BK141.out 8).trans rfl
                        have hcz22_9 : wr.cell? ⟨gb141, 9, none⟩ = some (.int .i64 a0_9) := (blk_cell BK141.out 9).trans rfl
                        have hcz22_10 : wr.cell? ⟨gb141, 10, none⟩ = some (.int .i64 a0_10) := (blk_cell BK141.out 10).trans rfl
                        have hcz22_11 : wr.cell? ⟨gb141, 11, none⟩ = some (.int .i64 a0_11) := (blk_cell BK141.out 11).trans rfl
                        have hfz22_0 := blk_frozen BK141.out 0
                        have hfz22_1 := blk_frozen BK141.out 1
                        have hfz22_2 := blk_frozen BK141.out 2
                        have hfz22_3 := blk_frozen BK141.out 3
                        have hfz22_4 := blk_frozen BK141.out 4
                        have hfz22_5 := blk_frozen BK141.out 5
                        have hfz22_6 := blk_frozen BK141.out 6
                        have hfz22_7 := blk_frozen BK141.out 7
                        have hfz22_8 := blk_frozen BK141.out 8
                        have hfz22_9 := blk_frozen BK141.out 9
                        have hfz22_10 := blk_frozen BK141.out 10
                        have hfz22_11 := blk_frozen BK141.out 11
                        go_wp2_with (first | ((with_reducible refine gate_callee (f := 13) rfl ?_); refine goesL_ (some 45) rfl rfl Try.func13 (by kernel_rfl) rfl #[.agg #[.int .i64 a0_0, .int .i64 a0_1, .int .i64 a0_2, .int .i64 a0_3, .int .i64 a0_4, .int .i64 a0_5, .int .i64 a0_6, .int .i64 a0_7, .int .i64 a0_8, .int .i64 a0_9, .int .i64 a0_10, .int .i64 a0_11], .int .i64 x6_2] rfl (by (try simp only [List.map_toArray, List.map_cons, List.map_nil]); first | done | rfl | (simp only [List.length_drop, List.length_take]; rfl) | (simp only [Int.toNat_natCast, Nat.sub_self, List.length_drop, List.length_take]; rfl)) ?_; (with_reducible refine (plan_Region.calls k2 a0_0 a0_1 a0_2 a0_3 a0_4 a0_5 a0_6 a0_7 a0_8 a0_9 a0_10 a0_11 x6_2 t146 t147 _ A16.out).mono ?_); rintro e w23 ⟨rfl, hb⟩; refine ⟨_, rfl, ?_⟩; have n0_ := Aside0.mk (blk_below (g := gb141) (o := .cells #[.int .i64 a0_0, .int .i64 a0_1, .int .i64 a0_2, .int .i64 a0_3, .int .i64 a0_4, .int .i64 a0_5, .int .i64 a0_6, .int .i64 a0_7, .int .i64 a0_8, .int .i64 a0_9, .int .i64 a0_10, .int .i64 a0_11] 24 (0, 0)) (by (with_reducible repeat (first | refine blk_drewN ?_ _ | refine blk_drew ?_ | refine blk_alloc ?_ _)); exact BK141.out) hb); have n1_ := Aside0.mk (below_step (by repeat (first | (with_reducible first | exact HB.out | apply below_alloc | apply pw_below_drewN | apply below_drew1 | refine below_set ?_ GE141.out) | with_reducible_and_instances exact HB.out)) hb); clear BK141; clear HB; have BK141 := n0_; have HB := n1_; clear n0_ n1_; (try clear hb); (try clear hb2); (try clear hk); (try clear hi)))
                        go_ret
                        exact ⟨by first | rfl | (simp [errW_none, errW_some] <;> rfl) | (simp [*, errW_none, errW_some] <;> rfl), by repeat (first | (with_reducible first | exact HB.out | apply below_alloc | apply pw_below_drewN | apply below_drew1 | refine below_set ?_ GE141.out) | with_reducible_and_instances exact HB.out)⟩
                      · rw [if_neg c21] at H
                        have c21b0 : decide (6 < t146) = false := decide_eq_false c21
                        clear c21
                        by_cases c24 : t146 > (wrap64 (x5_2 + 1))
                        · rw [if_pos c24] at H
                          have c24b0 : decide ((wrap64 (x5_2 + 1)) < t146) = true := decide_eq_true c24
                          clear c24
                          obtain rfl := Option.some.inj H
                          have hcz25_0 : wr.cell? ⟨gb141, 0, none⟩ = some (.int .i64 a0_0) := (blk_cell BK141.out 0).trans rfl
                          have hcz25_1 : wr.cell? ⟨gb141, 1, none⟩ = some (.int .i64 a0_1) := (blk_cell BK141.out 1).trans rfl
                          have hcz25_2 : wr.cell? ⟨gb141, 2, none⟩ = some (.int .i64 a0_2) := (blk_cell BK141.out 2).trans rfl
                          have hcz25_3 : wr.cell? ⟨gb141, 3, none⟩ = some (.int .i64 a0_3) := (blk_cell BK141.out 3).trans rfl
                          have hcz25_4 : wr.cell? ⟨gb141, 4, none⟩ = some (.int .i64 a0_4) := (blk_cell BK141.out 4).trans rfl
                          have hcz25_5 : wr.cell? ⟨gb141, 5, none⟩ = some (.int .i64 a0_5) := (blk_cell BK141.out 5).trans rfl
                          have hcz25_6 : wr.cell? ⟨gb141, 6, none⟩ = some (.int .i64 a0_6) := (blk_cell BK141.out 6).trans rfl
                          have hcz25_7 : wr.cell? ⟨gb141, 7, none⟩ = some (.int .i64 a0_7) := (blk_cell BK141.out 7).trans rfl
                          have hcz25_8 : wr.cell? ⟨gb141, 8, none⟩ = some (.int .i64 a0_8) := (blk_cell BK141.out 8).trans rfl
                          have hcz25_9 : wr.cell? ⟨gb141, 9, none⟩ = some (.int .i64 a0_9) := (blk_cell BK141.out 9).trans rfl
                          have hcz25_10 : wr.cell? ⟨gb141, 10, none⟩ = some (.int .i64 a0_10) := (blk_cell BK141.out 10).trans rfl
                          have hcz25_11 : wr.cell? ⟨gb141, 11, none⟩ = some (.int .i64 a0_11) := (blk_cell BK141.out 11).trans rfl
                          have hfz25_0 := blk_frozen BK141.out 0
                          have hfz25_1 := blk_frozen BK141.out 1
                          have hfz25_2 := blk_frozen BK141.out 2
                          have hfz25_3 := blk_frozen BK141.out 3
                          have hfz25_4 := blk_frozen BK141.out 4
                          have hfz25_5 := blk_frozen BK141.out 5
                          have hfz25_6 := blk_frozen BK141.out 6
                          have hfz25_7 := blk_frozen BK141.out 7
                          have hfz25_8 := blk_frozen BK141.out 8
                          have hfz25_9 := blk_frozen BK141.out 9
                          have hfz25_10 := blk_frozen BK141.out 10
                          have hfz25_11 := blk_frozen BK141.out 11
                          go_wp2_with (first | ((with_reducible refine gate_callee (f := 13) rfl ?_); refine goesL_ (some 45) rfl rfl Try.func13 (by kernel_rfl) rfl #[.agg #[.int .i64 a0_0, .int .i64 a0_1, .int .i64 a0_2, .int .i64 a0_3, .int .i64 a0_4, .int .i64 a0_5, .int .i64 a0_6, .int .i64 a0_7, .int .i64 a0_8, .int .i64 a0_9, .int .i64 a0_10, .int .i64 a0_11], .int .i64 x6_2] rfl (by (try simp only [List.map_toArray, List.map_cons, List.map_nil]); first | done | rfl | (simp only [List.length_drop, List.length_take]; rfl) | (simp only [Int.toNat_natCast, Nat.sub_self, List.length_drop, List.length_take]; rfl)) ?_; (with_reducible refine (plan_Region.calls k2 a0_0 a0_1 a0_2 a0_3 a0_4 a0_5 a0_6 a0_7 a0_8 a0_9 a0_10 a0_11 x6_2 t146 t147 _ A16.out).mono ?_); rintro e w26 ⟨rfl, hb⟩; refine ⟨_, rfl, ?_⟩; have n0_ := Aside0.mk (blk_below (g := gb141) (o := .cells #[.int .i64 a0_0, .int .i64 a0_1, .int .i64 a0_2, .int .i64 a0_3, .int .i64 a0_4, .int .i64 a0_5, .int .i64 a0_6, .int .i64 a0_7, .int .i64 a0_8, .int .i64 a0_9, .int .i64 a0_10, .int .i64 a0_11] 24 (0, 0)) (by (with_reducible repeat (first | refine blk_drewN ?_ _ | refine blk_drew ?_ | refine blk_alloc ?_ _)); exact BK141.out) hb); have n1_ := Aside0.mk (below_step (by repeat (first | (with_reducible first | exact HB.out | apply below_alloc | apply pw_below_drewN | apply below_drew1 | refine below_set ?_ GE141.out) | with_reducible_and_instances exact HB.out)) hb); clear BK141; clear HB; have BK141 := n0_; have HB := n1_; clear n0_ n1_; (try clear hb); (try clear hb2); (try clear hk); (try clear hi)))
                          go_ret
                          exact ⟨by first | rfl | (simp [errW_none, errW_some] <;> rfl) | (simp [*, errW_none, errW_some] <;> rfl), by repeat (first | (with_reducible first | exact HB.out | apply below_alloc | apply pw_below_drewN | apply below_drew1 | refine below_set ?_ GE141.out) | with_reducible_and_instances exact HB.out)⟩
                        · rw [if_neg c24] at H
                          have c24b0 : decide ((wrap64 (x5_2 + 1)) < t146) = false := decide_eq_false c24
                          clear c24
                          have H' := Aside0.mk H
                          clear H
                          have hcz27_0 : wr.cell? ⟨gb141, 0, none⟩ = some (.int .i64 a0_0) := (blk_cell BK141.out 0).trans rfl
                          have hcz27_1 : wr.cell? ⟨gb141, 1, none⟩ = some (.int .i64 a0_1) := (blk_cell BK141.out 1).trans rfl
                          have hcz27_2 : wr.cell? ⟨gb141, 2, none⟩ = some (.int .i64 a0_2) := (blk_cell BK141.out 2).trans rfl
                          have hcz27_3 : wr.cell? ⟨gb141, 3, none⟩ = some (.int .i64 a0_3) := (blk_cell BK141.out 3).trans rfl
                          have hcz27_4 : wr.cell? ⟨gb141, 4, none⟩ = some (.int .i64 a0_4) := (blk_cell BK141.out 4).trans rfl
                          have hcz27_5 : wr.cell? ⟨gb141, 5, none⟩ = some (.int .i64 a0_5) := (blk_cell BK141.out 5).trans rfl
                          have hcz27_6 : wr.cell? ⟨gb141, 6, none⟩ = some (.int .i64 a0_6) := (blk_cell BK141.out 6).trans rfl
                          have hcz27_7 : wr.cell? ⟨gb141, 7, none⟩ = some (.int .i64 a0_7) := (blk_cell BK141.out 7).trans rfl
                          have hcz27_8 : wr.cell? ⟨gb141, 8, none⟩ = some (.int .i64 a0_8) := (blk_cell BK141.out 8).trans rfl
                          have hcz27_9 : wr.cell? ⟨gb141, 9, none⟩ = some (.int .i64 a0_9) := (blk_cell BK141.out 9).trans rfl
                          have hcz27_10 : wr.cell? ⟨gb141, 10, none⟩ = some (.int .i64 a0_10) := (blk_cell BK141.out 10).trans rfl
                          have hcz27_11 : wr.cell? ⟨gb141, 11, none⟩ = some (.int .i64 a0_11) := (blk_cell BK141.out 11).trans rfl
                          have hfz27_0 := blk_frozen BK141.out 0
                          have hfz27_1 := blk_frozen BK141.out 1
                          have hfz27_2 := blk_frozen BK141.out 2
                          have hfz27_3 := blk_frozen BK141.out 3
                          have hfz27_4 := blk_frozen BK141.out 4
                          have hfz27_5 := blk_frozen BK141.out 5
                          have hfz27_6 := blk_frozen BK141.out 6
                          have hfz27_7 := blk_frozen BK141.out 7
                          have hfz27_8 := blk_frozen BK141.out 8
                          have hfz27_9 := blk_frozen BK141.out 9
                          have hfz27_10 := blk_frozen BK141.out 10
                          have hfz27_11 := blk_frozen BK141.out 11
                          go_wp2_with (first | ((with_reducible refine gate_callee (f := 13) rfl ?_); refine goesL_ (some 45) rfl rfl Try.func13 (by kernel_rfl) rfl #[.agg #[.int .i64 a0_0, .int .i64 a0_1, .int .i64 a0_2, .int .i64 a0_3, .int .i64 a0_4, .int .i64 a0_5, .int .i64 a0_6, .int .i64 a0_7, .int .i64 a0_8, .int .i64 a0_9, .int .i64 a0_10, .int .i64 a0_11], .int .i64 x6_2] rfl (by (try simp only [List.map_toArray, List.map_cons, List.map_nil]); first | done | rfl | (simp only [List.length_drop, List.length_take]; rfl) | (simp only [Int.toNat_natCast, Nat.sub_self, List.length_drop, List.length_take]; rfl)) ?_; (with_reducible refine (plan_Region.calls k2 a0_0 a0_1 a0_2 a0_3 a0_4 a0_5 a0_6 a0_7 a0_8 a0_9 a0_10 a0_11 x6_2 t146 t147 _ A16.out).mono ?_); rintro e w28 ⟨rfl, hb⟩; refine ⟨_, rfl, ?_⟩; have n0_ := Aside0.mk (blk_below (g := gb141) (o := .cells #[.int .i64 a0_0, .int .i64 a0_1, .int .i64 a0_2, .int .i64 a0_3, .int .i64 a0_4, .int .i64 a0_5, .int .i64 a0_6, .int .i64 a0_7, .int .i64 a0_8, .int .i64 a0_9, .int .i64 a0_10, .int .i64 a0_11] 24 (0, 0)) (by (with_reducible repeat (first | refine blk_drewN ?_ _ | refine blk_drew ?_ | refine blk_alloc ?_ _)); exact BK141.out) hb); have n1_ := Aside0.mk (below_step (by repeat (first | (with_reducible first | exact HB.out | apply below_alloc | apply pw_below_drewN | apply below_drew1 | refine below_set ?_ GE141.out) | with_reducible_and_instances exact HB.out)) hb); clear BK141; clear HB; have BK141 := n0_; have HB := n1_; clear n0_ n1_; (try clear hb); (try clear hb2); (try clear hk); (try clear hi)))
                          go_roundg k2
                          case measure => have := HJ5.out; have := HK2.out; omega
                          case rel => exact ⟨(t146), (wrap64 (x6_2 + 1)), (by first | rfl | (simp; done) | (simp [*]; done)), (by first | rfl | (simp; done) | (simp [*]; done)), H', ⟨by have := HJ5.out; have := HK2.out; omega⟩, ⟨by (with_reducible repeat (first | refine blk_drewN ?_ _ | refine blk_drew ?_ | refine blk_alloc ?_ _)); exact BK141.out⟩, ⟨by repeat (first | (with_reducible first | exact HB.out | apply below_alloc | apply pw_below_drewN | apply below_drew1 | refine below_set ?_ GE141.out) | with_reducible_and_instances exact HB.out)⟩⟩
                  · rw [if_neg c17] at H
                    have c17b0 : (t147 == 0) = false := beq_eq_false_iff_ne.mpr c17
                    have c17b1 : (t147 != 0) = true := bne_iff_ne.mpr c17
                    obtain rfl := Option.some.inj H
                    have hcz29_0 : wr.cell? ⟨gb141, 0, none⟩ = some (.int .i64 a0_0) := (blk_cell BK141.out 0).trans rfl
                    have hcz29_1 : wr.cell? ⟨gb141, 1, none⟩ = some (.int .i64 a0_1) := (blk_cell BK141.out 1).trans rfl
                    have hcz29_2 : wr.cell? ⟨gb141, 2, none⟩ = some (.int .i64 a0_2) := (blk_cell BK141.out 2).trans rfl
                    have hcz29_3 : wr.cell? ⟨gb141, 3, none⟩ = some (.int .i64 a0_3) := (blk_cell BK141.out 3).trans rfl
                    have hcz29_4 : wr.cell? ⟨gb141, 4, none⟩ = some (.int .i64 a0_4) := (blk_cell BK141.out 4).trans rfl
                    have hcz29_5 : wr.cell? ⟨gb141, 5, none⟩ = some (.int .i64 a0_5) := (blk_cell BK141.out 5).trans rfl
                    have hcz29_6 : wr.cell? ⟨gb141, 6, none⟩ = some (.int .i64 a0_6) := (blk_cell BK141.out 6).trans rfl
                    have hcz29_7 : wr.cell? ⟨gb141, 7, none⟩ = some (.int .i64 a0_7) := (blk_cell BK141.out 7).trans rfl
                    have hcz29_8 : wr.cell? ⟨gb141, 8, none⟩ = some (.int .i64 a0_8) := (blk_cell BK141.out 8).trans rfl
                    have hcz29_9 : wr.cell? ⟨gb141, 9, none⟩ = some (.int .i64 a0_9) := (blk_cell BK141.out 9).trans rfl
                    have hcz29_10 : wr.cell? ⟨gb141, 10, none⟩ = some (.int .i64 a0_10) := (blk_cell BK141.out 10).trans rfl
                    have hcz29_11 : wr.cell? ⟨gb141, 11, none⟩ = some (.int .i64 a0_11) := (blk_cell BK141.out 11).trans rfl
                    have hfz29_0 := blk_frozen BK141.out 0
                    have hfz29_1 := blk_frozen BK141.out 1
                    have hfz29_2 := blk_frozen BK141.out 2
                    have hfz29_3 := blk_frozen BK141.out 3
                    have hfz29_4 := blk_frozen BK141.out 4
                    have hfz29_5 := blk_frozen BK141.out 5
                    have hfz29_6 := blk_frozen BK141.out 6
                    have hfz29_7 := blk_frozen BK141.out 7
                    have hfz29_8 := blk_frozen BK141.out 8
                    have hfz29_9 := blk_frozen BK141.out 9
                    have hfz29_10 := blk_frozen BK141.out 10
                    have hfz29_11 := blk_frozen BK141.out 11
                    go_wp2_with (first | ((with_reducible refine gate_callee (f := 13) rfl ?_); refine goesL_ (some 45) rfl rfl Try.func13 (by kernel_rfl) rfl #[.agg #[.int .i64 a0_0, .int .i64 a0_1, .int .i64 a0_2, .int .i64 a0_3, .int .i64 a0_4, .int .i64 a0_5, .int .i64 a0_6, .int .i64 a0_7, .int .i64 a0_8, .int .i64 a0_9, .int .i64 a0_10, .int .i64 a0_11], .int .i64 x6_2] rfl (by (try simp only [List.map_toArray, List.map_cons, List.map_nil]); first | done | rfl | (simp only [List.length_drop, List.length_take]; rfl) | (simp only [Int.toNat_natCast, Nat.sub_self, List.length_drop, List.length_take]; rfl)) ?_; (with_reducible refine (plan_Region.calls k2 a0_0 a0_1 a0_2 a0_3 a0_4 a0_5 a0_6 a0_7 a0_8 a0_9 a0_10 a0_11 x6_2 t146 t147 _ A16.out).mono ?_); rintro e w30 ⟨rfl, hb⟩; refine ⟨_, rfl, ?_⟩; have n0_ := Aside0.mk (blk_below (g := gb141) (o := .cells #[.int .i64 a0_0, .int .i64 a0_1, .int .i64 a0_2, .int .i64 a0_3, .int .i64 a0_4, .int .i64 a0_5, .int .i64 a0_6, .int .i64 a0_7, .int .i64 a0_8, .int .i64 a0_9, .int .i64 a0_10, .int .i64 a0_11] 24 (0, 0)) (by (with_reducible repeat (first | refine blk_drewN ?_ _ | refine blk_drew ?_ | refine blk_alloc ?_ _)); exact BK141.out) hb); have n1_ := Aside0.mk (below_step (by repeat (first | (with_reducible first | exact HB.out | apply below_alloc | apply pw_below_drewN | apply below_drew1 | refine below_set ?_ GE141.out) | with_reducible_and_instances exact HB.out)) hb); clear BK141; clear HB; have BK141 := n0_; have HB := n1_; clear n0_ n1_; (try clear hb); (try clear hb2); (try clear hk); (try clear hi)))
                    go_ret
                    exact ⟨by first | rfl | (simp [errW_none, errW_some] <;> rfl) | (simp [*, errW_none, errW_some] <;> rfl), by repeat (first | (with_reducible first | exact HB.out | apply below_alloc | apply pw_below_drewN | apply below_drew1 | refine below_set ?_ GE141.out) | with_reducible_and_instances exact HB.out)⟩
                · rw [if_neg c15] at H
                  have c15b0 : decide (x6_2 < a0_1) = false := decide_eq_false c15
                  clear c15
                  by_cases c31 : x5_2 = 6
                  · rw [if_pos c31] at H
                    have c31b0 : (x5_2 == 6) = true := beq_iff_eq.mpr c31
                    have c31b1 : (x5_2 != 6) = false := bne_eq_false_iff_eq.mpr c31
                    clear c31
                    have H' := Aside0.mk H
                    clear H
                    have hcz32_0 : wr.cell? ⟨gb141, 0, none⟩ = some (.int .i64 a0_0) := (blk_cell BK141.out 0).trans rfl
                    have hcz32_1 : wr.cell? ⟨gb141, 1, none⟩ = some (.int .i64 a0_1) := (blk_cell BK141.out 1).trans rfl
                    have hcz32_2 : wr.cell? ⟨gb141, 2, none⟩ = some (.int .i64 a0_2) := (blk_cell BK141.out 2).trans rfl
                    have hcz32_3 : wr.cell? ⟨gb141, 3, none⟩ = some (.int .i64 a0_3) := (blk_cell BK141.out 3).trans rfl
                    have hcz32_4 : wr.cell? ⟨gb141, 4, none⟩ = some (.int .i64 a0_4) := (blk_cell BK141.out 4).trans rfl
                    have hcz32_5 : wr.cell? ⟨gb141, 5, none⟩ = some (.int .i64 a0_5) := (blk_cell BK141.out 5).trans rfl
                    have hcz32_6 : wr.cell? ⟨gb141, 6, none⟩ = some (.int .i64 a0_6) := (blk_cell BK141.out 6).trans rfl
                    have hcz32_7 : wr.cell? ⟨gb141, 7, none⟩ = some (.int .i64 a0_7) := (blk_cell BK141.out 7).trans rfl
                    have hcz32_8 : wr.cell? ⟨gb141, 8, none⟩ = some (.int .i64 a0_8) := (blk_cell BK141.out 8).trans rfl
                    have hcz32_9 : wr.cell? ⟨gb141, 9, none⟩ = some (.int .i64 a0_9) := (blk_cell BK141.out 9).trans rfl
                    have hcz32_10 : wr.cell? ⟨gb141, 10, none⟩ = some (.int .i64 a0_10) := (blk_cell BK141.out 10).trans rfl
                    have hcz32_11 : wr.cell? ⟨gb141, 11, none⟩ = some (.int .i64 a0_11) := (blk_cell BK141.out 11).trans rfl
                    have hfz32_0 := blk_frozen BK141.out 0
                    have hfz32_1 := blk_frozen BK141.out 1
                    have hfz32_2 := blk_frozen BK141.out 2
                    have hfz32_3 := blk_frozen BK141.out 3
                    have hfz32_4 := blk_frozen BK141.out 4
                    have hfz32_5 := blk_frozen BK141.out 5
                    have hfz32_6 := blk_frozen BK141.out 6
                    have hfz32_7 := blk_frozen BK141.out 7
                    have hfz32_8 := blk_frozen BK141.out 8
                    have hfz32_9 := blk_frozen BK141.out 9
                    have hfz32_10 := blk_frozen BK141.out 10
                    have hfz32_11 := blk_frozen BK141.out 11
                    go_wp2
                    go_loopg [9, 10] k2 (fun kq v9 v10 w' => ∃ (x9_3 : Int) (x10_3 : Int), v9 = .int .i64 x9_3 ∧ v10 = .int .i64 x10_3 ∧ Aside0 (skerrylaw05_PlanCovers.l1 kq x9_3 x10_3 a0_0 a0_1 a0_2 a0_3 a0_4 a0_5 a0_6 a0_7 a0_8 a0_9 a0_10 a0_11 = some r) ∧ Aside0 (kq ≤ k2) ∧ Aside0 (w'.heap[gb141]? = some (.cells #[.int .i64 a0_0, .int .i64 a0_1, .int .i64 a0_2, .int .i64 a0_3, .int .i64 a0_4, .int .i64 a0_5, .int .i64 a0_6, .int .i64 a0_7, .int .i64 a0_8, .int .i64 a0_9, .int .i64 a0_10, .int .i64 a0_11] 24 (0, 0))) ∧ Aside0 (Below w.heap.size w w'))
                    case atStart => exact ⟨(wrap64 (a0_9 * a0_0)), (0), (by first | rfl | (simp; done) | (simp [*]; done)), (by first | rfl | (simp; done) | (simp [*]; done)), H', ⟨Nat.le_refl _⟩, ⟨by (with_reducible repeat (first | refine blk_drewN ?_ _ | refine blk_drew ?_ | refine blk_alloc ?_ _)); exact BK141.out⟩, ⟨by repeat (first | (with_reducible first | exact HB.out | apply below_alloc | apply pw_below_drewN | apply below_drew1 | refine below_set ?_ GE141.out) | with_reducible_and_instances exact HB.out)⟩⟩
                    case round =>
                      clear H'
                      try clear c1
                      try clear c2
                      try clear p2
                      try clear c3
                      try clear c5
                      try clear c5b0
                      try clear c5b1
                      try clear p6
                      try clear c8
                      try clear c11
                      try clear c11b0
                      try clear c11b1
                      try clear c13
                      try clear c14
                      try clear c15
                      try clear c15b0
                      try clear c17
                      try clear c17b0
                      try clear c17b1
                      try clear c18
                      try clear c18b0
                      try clear c21
                      try clear c21b0
                      try clear c24
                      try clear c24b0
                      try clear c31
                      try clear c31b0
                      try clear c31b1
                      try clear hcz12_0
                      try clear hcz12_1
                      try clear hcz12_10
                      try clear hcz12_11
                      try clear hcz12_2
                      try clear hcz12_3
                      try clear hcz12_4
                      try clear hcz12_5
                      try clear hcz12_6
                      try clear hcz12_7
                      try clear hcz12_8
                      try clear hcz12_9
                      try clear hcz13_0
                      try clear hcz13_1
                      try clear hcz13_10
                      try clear hcz13_11
                      try clear hcz13_2
                      try clear hcz13_3
                      try clear hcz13_4
                      try clear hcz13_5
                      try clear hcz13_6
                      try clear hcz13_7
                      try clear hcz13_8
                      try clear hcz13_9
                      try clear hcz19_0
                      try clear hcz19_1
                      try clear hcz19_10
                      try clear hcz19_11
                      try clear hcz19_2
                      try clear hcz19_3
                      try clear hcz19_4
                      try clear hcz19_5
                      try clear hcz19_6
                      try clear hcz19_7
                      try clear hcz19_8
                      try clear hcz19_9
                      try clear hcz22_0
                      try clear hcz22_1
                      try clear hcz22_10
                      try clear hcz22_11
                      try clear hcz22_2
                      try clear hcz22_3
                      try clear hcz22_4
                      try clear hcz22_5
                      try clear hcz22_6
                      try clear hcz22_7
                      try clear hcz22_8
                      try clear hcz22_9
                      try clear hcz25_0
                      try clear hcz25_1
                      try clear hcz25_10
                      try clear hcz25_11
                      try clear hcz25_2
                      try clear hcz25_3
                      try clear hcz25_4
                      try clear hcz25_5
                      try clear hcz25_6
                      try clear hcz25_7
                      try clear hcz25_8
                      try clear hcz25_9
                      try clear hcz27_0
                      try clear hcz27_1
                      try clear hcz27_10
                      try clear hcz27_11
                      try clear hcz27_2
                      try clear hcz27_3
                      try clear hcz27_4
                      try clear hcz27_5
                      try clear hcz27_6
                      try clear hcz27_7
                      try clear hcz27_8
                      try clear hcz27_9
                      try clear hcz29_0
                      try clear hcz29_1
                      try clear hcz29_10
                      try clear hcz29_11
                      try clear hcz29_2
                      try clear hcz29_3
                      try clear hcz29_4
                      try clear hcz29_5
                      try clear hcz29_6
                      try clear hcz29_7
                      try clear hcz29_8
                      try clear hcz29_9
                      try clear hcz32_0
                      try clear hcz32_1
                      try clear hcz32_10
                      try clear hcz32_11
                      try clear hcz32_2
                      try clear hcz32_3
                      try clear hcz32_4
                      try clear hcz32_5
                      try clear hcz32_6
                      try clear hcz32_7
                      try clear hcz32_8
                      try clear hcz32_9
                      try clear hcz9_0
                      try clear hcz9_1
                      try clear hcz9_10
                      try clear hcz9_11
                      try clear hcz9_2
                      try clear hcz9_3
                      try clear hcz9_4
                      try clear hcz9_5
                      try clear hcz9_6
                      try clear hcz9_7
                      try clear hcz9_8
                      try clear hcz9_9
                      try clear hfz12_0
                      try clear hfz12_1
                      try clear hfz12_10
                      try clear hfz12_11
                      try clear hfz12_2
                      try clear hfz12_3
                      try clear hfz12_4
                      try clear hfz12_5
                      try clear hfz12_6
                      try clear hfz12_7
                      try clear hfz12_8
                      try clear hfz12_9
                      try clear hfz13_0
                      try clear hfz13_1
                      try clear hfz13_10
                      try clear hfz13_11
                      try clear hfz13_2
                      try clear hfz13_3
                      try clear hfz13_4
                      try clear hfz13_5
                      try clear hfz13_6
                      try clear hfz13_7
                      try clear hfz13_8
                      try clear hfz13_9
                      try clear hfz19_0
                      try clear hfz19_1
                      try clear hfz19_10
                      try clear hfz19_11
                      try clear hfz19_2
                      try clear hfz19_3
                      try clear hfz19_4
                      try clear hfz19_5
                      try clear hfz19_6
                      try clear hfz19_7
                      try clear hfz19_8
                      try clear hfz19_9
                      try clear hfz22_0
                      try clear hfz22_1
                      try clear hfz22_10
                      try clear hfz22_11
                      try clear hfz22_2
                      try clear hfz22_3
                      try clear hfz22_4
                      try clear hfz22_5
                      try clear hfz22_6
                      try clear hfz22_7
                      try clear hfz22_8
                      try clear hfz22_9
                      try clear hfz25_0
                      try clear hfz25_1
                      try clear hfz25_10
                      try clear hfz25_11
                      try clear hfz25_2
                      try clear hfz25_3
                      try clear hfz25_4
                      try clear hfz25_5
                      try clear hfz25_6
                      try clear hfz25_7
                      try clear hfz25_8
                      try clear hfz25_9
                      try clear hfz27_0
                      try clear hfz27_1
                      try clear hfz27_10
                      try clear hfz27_11
                      try clear hfz27_2
                      try clear hfz27_3
                      try clear hfz27_4
                      try clear hfz27_5
                      try clear hfz27_6
                      try clear hfz27_7
                      try clear hfz27_8
                      try clear hfz27_9
                      try clear hfz29_0
                      try clear hfz29_1
                      try clear hfz29_10
                      try clear hfz29_11
                      try clear hfz29_2
                      try clear hfz29_3
                      try clear hfz29_4
                      try clear hfz29_5
                      try clear hfz29_6
                      try clear hfz29_7
                      try clear hfz29_8
                      try clear hfz29_9
                      try clear hfz32_0
                      try clear hfz32_1
                      try clear hfz32_10
                      try clear hfz32_11
                      try clear hfz32_2
                      try clear hfz32_3
                      try clear hfz32_4
                      try clear hfz32_5
                      try clear hfz32_6
                      try clear hfz32_7
                      try clear hfz32_8
                      try clear hfz32_9
                      try clear hfz9_0
                      try clear hfz9_1
                      try clear hfz9_10
                      try clear hfz9_11
                      try clear hfz9_2
                      try clear hfz9_3
                      try clear hfz9_4
                      try clear hfz9_5
                      try clear hfz9_6
                      try clear hfz9_7
                      try clear hfz9_8
                      try clear hfz9_9
                      try clear p2
                      obtain ⟨x9_3, x10_3, rfl, rfl, HA, HK3, BK141, HB⟩ := hrel
                      cases gk with
                      | zero => exact absurd HA.out (by simp [skerrylaw05_PlanCovers.l1])
                      | succ k3 =>
                        have H := HA.out
                        clear HA
                        simp only [skerrylaw05_PlanCovers.l1] at H
                        by_cases c33 : x10_3 < a0_2
                        · rw [if_pos c33] at H
                          have c33b0 : decide (x10_3 < a0_2) = true := decide_eq_true c33
                          clear c33
                          replace H := Option.bind_eq_some_iff.mp H
                          obtain ⟨⟨t148, t149, t150⟩, A340, H⟩ := H
                          replace H : ((plan_Region.f k3 a0_0 a0_1 a0_2 a0_3 a0_4 a0_5 a0_6 a0_7 a0_8 a0_9 a0_10 a0_11 t148).bind fun bt151 => (if t150 = 0 then (if bt151.2 = 0 then (if bt151.1 = 5 then (if t149 < 0 then (some false) else (if (wrap64 (t149 + 32)) > a0_0 then (some false) else (if (wrap64 ((wrap64 (t148 * a0_0)) + t149)) < x9_3 then (some false) else (skerrylaw05_PlanCovers.l1 k3 (wrap64 ((wrap64 ((wrap64 (t148 * a0_0)) + t149)) + 32)) (wrap64 (x10_3 + 1)) a0_0 a0_1 a0_2 a0_3 a0_4 a0_5 a0_6 a0_7 a0_8 a0_9 a0_10 a0_11)))) else (some false)) else (some false)) else (some false))) = some r := H
                          have A34 := Aside0.mk A340
                          clear A340
                          replace H := Option.bind_eq_some_iff.mp H
                          obtain ⟨⟨t151, t152⟩, A350, H⟩ := H
                          replace H : (if t150 = 0 then (if t152 = 0 then (if t151 = 5 then (if t149 < 0 then (some false) else (if (wrap64 (t149 + 32)) > a0_0 then (some false) else (if (wrap64 ((wrap64 (t148 * a0_0)) + t149)) < x9_3 then (some false) else (skerrylaw05_PlanCovers.l1 k3 (wrap64 ((wrap64 ((wrap64 (t148 * a0_0)) + t149)) + 32)) (wrap64 (x10_3 + 1)) a0_0 a0_1 a0_2 a0_3 a0_4 a0_5 a0_6 a0_7 a0_8 a0_9 a0_10 a0_11)))) else (some false)) else (some false)) else (some false)) = some r := H
                          have A35 := Aside0.mk A350
                          clear A350
                          by_cases c36 : t150 = 0
                          · rw [if_pos c36] at H
                            have c36b0 : (t150 == 0) = true := beq_iff_eq.mpr c36
                            have c36b1 : (t150 != 0) = false := bne_eq_false_iff_eq.mpr c36
                            clear c36
                            by_cases c37 : t152 = 0
                            · rw [if_pos c37] at H
                              have c37b0 : (t152 == 0) = true := beq_iff_eq.mpr c37
                              have c37b1 : (t152 != 0) = false := bne_eq_false_iff_eq.mpr c37
                              clear c37
                              by_cases c38 : t151 = 5
                              · rw [if_pos c38] at H
                                have c38b0 : (t151 == 5) = true := beq_iff_eq.mpr c38
                                have c38b1 : (t151 != 5) = false := bne_eq_false_iff_eq.mpr c38
                                clear c38
                                by_cases c39 : t149 < 0
                                · rw [if_pos c39] at H
                                  have c39b0 : decide (t149 < 0) = true := decide_eq_true c39
                                  clear c39
                                  obtain rfl := Option.some.inj H
                                  have hcz40_0 : wr.cell? ⟨gb141, 0, none⟩ = some (.int .i64 a0_0) := (blk_cell BK141.out 0).trans rfl
                                  have hcz40_1 : wr.cell? ⟨gb141, 1, none⟩ = some (.int .i64 a0_1) := (blk_cell BK141.out 1).trans rfl
                                  have hcz40_2 : wr.cell? ⟨gb141, 2, none⟩ = some (.int .i64 a0_2) := (blk_cell BK141.out 2).trans rfl
                                  have hcz40_3 : wr.cell? ⟨gb141, 3, none⟩ = some (.int .i64 a0_3) := (blk_cell BK141.out 3).trans rfl
                                  have hcz40_4 : wr.cell? ⟨gb141, 4, none⟩ = some (.int .i64 a0_4) := (blk_cell BK141.out 4).trans rfl
                                  have hcz40_5 : wr.cell? ⟨gb141, 5, none⟩ = some (.int .i64 a0_5) := (blk_cell BK141.out 5).trans rfl
                                  have hcz40_6 : wr.cell? ⟨gb141, 6, none⟩ = some (.int .i64 a0_6) := (blk_cell BK141.out 6).trans rfl
                                  have hcz40_7 : wr.cell? ⟨gb141, 7, none⟩ = some (.int .i64 a0_7) := (blk_cell BK141.out 7).trans rfl
                                  have hcz40_8 : wr.cell? ⟨gb141, 8, none⟩ = some (.int .i64 a0_8) := (blk_cell BK141.out 8).trans rfl
                                  have hcz40_9 : wr.cell? ⟨gb141, 9, none⟩ = some (.int .i64 a0_9) := (blk_cell BK141.out 9).trans rfl
                                  have hcz40_10 : wr.cell? ⟨gb141, 10, none⟩ = some (.int .i64 a0_10) := (blk_cell BK141.out 10).trans rfl
                                  have hcz40_11 : wr.cell? ⟨gb141, 11, none⟩ = some (.int .i64 a0_11) := (blk_cell BK141.out 11).trans rfl
                                  have hfz40_0 := blk_frozen BK141.out 0
                                  have hfz40_1 := blk_frozen BK141.out 1
                                  have hfz40_2 := blk_frozen BK141.out 2
                                  have hfz40_3 := blk_frozen BK141.out 3
                                  have hfz40_4 := blk_frozen BK141.out 4
                                  have hfz40_5 := blk_frozen BK141.out 5
                                  have hfz40_6 := blk_frozen BK141.out 6
                                  have hfz40_7 := blk_frozen BK141.out 7
                                  have hfz40_8 := blk_frozen BK141.out 8
                                  have hfz40_9 := blk_frozen BK141.out 9
                                  have hfz40_10 := blk_frozen BK141.out 10
                                  have hfz40_11 := blk_frozen BK141.out 11
                                  go_wp2_with (first | ((with_reducible refine gate_callee (f := 11) rfl ?_); refine goesL_ (some 82) rfl rfl Try.func11 (by kernel_rfl) rfl #[.agg #[.int .i64 a0_0, .int .i64 a0_1, .int .i64 a0_2, .int .i64 a0_3, .int .i64 a0_4, .int .i64 a0_5, .int .i64 a0_6, .int .i64 a0_7, .int .i64 a0_8, .int .i64 a0_9, .int .i64 a0_10, .int .i64 a0_11], .int .i64 x10_3] rfl (by (try simp only [List.map_toArray, List.map_cons, List.map_nil]); first | done | rfl | (simp only [List.length_drop, List.length_take]; rfl) | (simp only [Int.toNat_natCast, Nat.sub_self, List.length_drop, List.length_take]; rfl)) ?_; (with_reducible refine (plan_Place.calls a0_0 a0_1 a0_2 a0_3 a0_4 a0_5 a0_6 a0_7 a0_8 a0_9 a0_10 a0_11 x10_3 t148 t149 t150 _ A34.out).mono ?_); rintro e w41 ⟨rfl, hb⟩; refine ⟨_, rfl, ?_⟩; have n0_ := Aside0.mk (blk_below (g := gb141) (o := .cells #[.int .i64 a0_0, .int .i64 a0_1, .int .i64 a0_2, .int .i64 a0_3, .int .i64 a0_4, .int .i64 a0_5, .int .i64 a0_6, .int .i64 a0_7, .int .i64 a0_8, .int .i64 a0_9, .int .i64 a0_10, .int .i64 a0_11] 24 (0, 0)) (by (with_reducible repeat (first | refine blk_drewN ?_ _ | refine blk_drew ?_ | refine blk_alloc ?_ _)); exact BK141.out) hb); have n1_ := Aside0.mk (below_step (by repeat (first | (with_reducible first | exact HB.out | apply below_alloc | apply pw_below_drewN | apply below_drew1 | refine below_set ?_ GE141.out) | with_reducible_and_instances exact HB.out)) hb); clear BK141; clear HB; have BK141 := n0_; have HB := n1_; clear n0_ n1_; (try clear hb); (try clear hb2); (try clear hk); (try clear hi); have hcz42_0 : w41.cell? ⟨gb141, 0, none⟩ = some (.int .i64 a0_0) := (blk_cell BK141.out 0).trans rfl; have hcz42_1 : w41.cell? ⟨gb141, 1, none⟩ = some (.int .i64 a0_1) := (blk_cell BK141.out 1).trans rfl; have hcz42_2 : w41.cell? ⟨gb141, 2, none⟩ = some (.int .i64 a0_2) := (blk_cell BK141.out 2).trans rfl; have hcz42_3 : w41.cell? ⟨gb141, 3, none⟩ = some (.int .i64 a0_3) := (blk_cell BK141.out 3).trans rfl; have hcz42_4 : w41.cell? ⟨gb141, 4, none⟩ = some (.int .i64 a0_4) := (blk_cell BK141.out 4).trans rfl; have hcz42_5 : w41.cell? ⟨gb141, 5, none⟩ = some (.int .i64 a0_5) := (blk_cell BK141.out 5).trans rfl; have hcz42_6 : w41.cell? ⟨gb141, 6, none⟩ = some (.int .i64 a0_6) := (blk_cell BK141.out 6).trans rfl; have hcz42_7 : w41.cell? ⟨gb141, 7, none⟩ = some (.int .i64 a0_7) := (blk_cell BK141.out 7).trans rfl; have hcz42_8 : w41.cell? ⟨gb141, 8, none⟩ = some (.int .i64 a0_8) := (blk_cell BK141.out 8).trans rfl; have hcz42_9 : w41.cell? ⟨gb141, 9, none⟩ = some (.int .i64 a0_9) := (blk_cell BK141.out 9).trans rfl; have hcz42_10 : w41.cell? ⟨gb141, 10, none⟩ = some (.int .i64 a0_10) := (blk_cell BK141.out 10).trans rfl; have hcz42_11 : w41.cell? ⟨gb141, 11, none⟩ = some (.int .i64 a0_11) := (blk_cell BK141.out 11).trans rfl; have hfz42_0 := blk_frozen BK141.out 0; have hfz42_1 := blk_frozen BK141.out 1; have hfz42_2 := blk_frozen BK141.out 2; have hfz42_3 := blk_frozen BK141.out 3; have hfz42_4 := blk_frozen BK141.out 4; have hfz42_5 := blk_frozen BK141.out 5; have hfz42_6 := blk_frozen BK141.out 6; have hfz42_7 := blk_frozen BK141.out 7; have hfz42_8 := blk_frozen BK141.out 8; have hfz42_9 := blk_frozen BK141.out 9; have hfz42_10 := blk_frozen BK141.out 10; have hfz42_11 := blk_frozen BK141.out 11) | ((with_reducible refine gate_callee (f := 13) rfl ?_); refine goesL_ (some 89) rfl rfl Try.func13 (by kernel_rfl) rfl #[.agg #[.int .i64 a0_0, .int .i64 a0_1, .int .i64 a0_2, .int .i64 a0_3, .int .i64 a0_4, .int .i64 a0_5, .int .i64 a0_6, .int .i64 a0_7, .int .i64 a0_8, .int .i64 a0_9, .int .i64 a0_10, .int .i64 a0_11], .int .i64 t148] rfl (by (try simp only [List.map_toArray, List.map_cons, List.map_nil]); first | done | rfl | (simp only [List.length_drop, List.length_take]; rfl) | (simp only [Int.toNat_natCast, Nat.sub_self, List.length_drop, List.length_take]; rfl)) ?_; (with_reducible refine (plan_Region.calls k3 a0_0 a0_1 a0_2 a0_3 a0_4 a0_5 a0_6 a0_7 a0_8 a0_9 a0_10 a0_11 t148 t151 t152 _ A35.out).mono ?_); rintro e w43 ⟨rfl, hb⟩; refine ⟨_, rfl, ?_⟩; have n0_ := Aside0.mk (blk_below (g := gb141) (o := .cells #[.int .i64 a0_0, .int .i64 a0_1, .int .i64 a0_2, .int .i64 a0_3, .int .i64 a0_4, .int .i64 a0_5, .int .i64 a0_6, .int .i64 a0_7, .int .i64 a0_8, .int .i64 a0_9, .int .i64 a0_10, .int .i64 a0_11] 24 (0, 0)) (by (with_reducible repeat (first | refine blk_drewN ?_ _ | refine blk_drew ?_ | refine blk_alloc ?_ _)); exact BK141.out) hb); have n1_ := Aside0.mk (below_step (by repeat (first | (with_reducible first | exact HB.out | apply below_alloc | apply pw_below_drewN | apply below_drew1 | refine below_set ?_ GE141.out) | with_reducible_and_instances exact HB.out)) hb); clear BK141; clear HB; have BK141 := n0_; have HB := n1_; clear n0_ n1_; (try clear hb); (try clear hb2); (try clear hk); (try clear hi)))
                                  go_ret
                                  exact ⟨by first | rfl | (simp [errW_none, errW_some] <;> rfl) | (simp [*, errW_none, errW_some] <;> rfl), by repeat (first | (with_reducible first | exact HB.out | apply below_alloc | apply pw_below_drewN | apply below_drew1 | refine below_set ?_ GE141.out) | with_reducible_and_instances exact HB.out)⟩
                                · rw [if_neg c39] at H
                                  have c39b0 : decide (t149 < 0) = false := decide_eq_false c39
                                  clear c39
                                  by_cases c44 : (wrap64 (t149 + 32)) > a0_0
                                  · rw [if_pos c44] at H
                                    have c44b0 : decide (a0_0 < (wrap64 (t149 + 32))) = true := decide_eq_true c44
                                    clear c44
                                    obtain rfl := Option.some.inj H
                                    have hcz45_0 : wr.cell? ⟨gb141, 0, none⟩ = some (.int .i64 a0_0) := (blk_cell BK141.out 0).trans rfl
                                    have hcz45_1 : wr.cell? ⟨gb141, 1, none⟩ = some (.int .i64 a0_1) := (blk_cell BK141.out 1).trans rfl
                                    have hcz45_2 : wr.cell? ⟨gb141, 2, none⟩ = some (.int .i64 a0_2) := (blk_cell BK141.out 2).trans rfl
                                    have hcz45_3 : wr.cell? ⟨gb141, 3, none⟩ = some (.int .i64 a0_3) := (blk_cell BK141.out 3).trans rfl
                                    have hcz45_4 : wr.cell? ⟨gb141, 4, none⟩ = some (.int .i64 a0_4) := (blk_cell BK141.out 4).trans rfl
                                    have hcz45_5 : wr.cell? ⟨gb141, 5, none⟩ = some (.int .i64 a0_5) := (blk_cell BK141.out 5).trans rfl
                                    have hcz45_6 : wr.cell? ⟨gb141, 6, none⟩ = some (.int .i64 a0_6) := (blk_cell BK141.out 6).trans rfl
                                    have hcz45_7 : wr.cell? ⟨gb141, 7, none⟩ = some (.int .i64 a0_7) := (blk_cell BK141.out 7).trans rfl
                                    have hcz45_8 : wr.cell? ⟨gb141, 8, none⟩ = some (.int .i64 a0_8) := (blk_cell BK141.out 8).trans rfl
                                    have hcz45_9 : wr.cell? ⟨gb141, 9, none⟩ = some (.int .i64 a0_9) := (blk_cell BK141.out 9).trans rfl
                                    have hcz45_10 : wr.cell? ⟨gb141, 10, none⟩ = some (.int .i64 a0_10) := (blk_cell BK141.out 10).trans rfl
                                    have hcz45_11 : wr.cell? ⟨gb141, 11, none⟩ = some (.int .i64 a0_11) := (blk_cell BK141.out 11).trans rfl
                                    have hfz45_0 := blk_frozen BK141.out 0
                                    have hfz45_1 := blk_frozen BK141.out 1
                                    have hfz45_2 := blk_frozen BK141.out 2
                                    have hfz45_3 := blk_frozen BK141.out 3
                                    have hfz45_4 := blk_frozen BK141.out 4
                                    have hfz45_5 := blk_frozen BK141.out 5
                                    have hfz45_6 := blk_frozen BK141.out 6
                                    have hfz45_7 := blk_frozen BK141.out 7
                                    have hfz45_8 := blk_frozen BK141.out 8
                                    have hfz45_9 := blk_frozen BK141.out 9
                                    have hfz45_10 := blk_frozen BK141.out 10
                                    have hfz45_11 := blk_frozen BK141.out 11
                                    go_wp2_with (first | ((with_reducible refine gate_callee (f := 11) rfl ?_); refine goesL_ (some 82) rfl rfl Try.func11 (by kernel_rfl) rfl #[.agg #[.int .i64 a0_0, .int .i64 a0_1, .int .i64 a0_2, .int .i64 a0_3, .int .i64 a0_4, .int .i64 a0_5, .int .i64 a0_6, .int .i64 a0_7, .int .i64 a0_8, .int .i64 a0_9, .int .i64 a0_10, .int .i64 a0_11], .int .i64 x10_3] rfl (by (try simp only [List.map_toArray, List.map_cons, List.map_nil]); first | done | rfl | (simp only [List.length_drop, List.length_take]; rfl) | (simp only [Int.toNat_natCast, Nat.sub_self, List.length_drop, List.length_take]; rfl)) ?_; (with_reducible refine (plan_Place.calls a0_0 a0_1 a0_2 a0_3 a0_4 a0_5 a0_6 a0_7 a0_8 a0_9 a0_10 a0_11 x10_3 t148 t149 t150 _ A34.out).mono ?_); rintro e w46 ⟨rfl, hb⟩; refine ⟨_, rfl, ?_⟩; have n0_ := Aside0.mk (blk_below (g := gb141) (o := .cells #[.int .i64 a0_0, .int .i64 a0_1, .int .i64 a0_2, .int .i64 a0_3, .int .i64 a0_4, .int .i64 a0_5, .int .i64 a0_6, .int .i64 a0_7, .int .i64 a0_8, .int .i64 a0_9, .int .i64 a0_10, .int .i64 a0_11] 24 (0, 0)) (by (with_reducible repeat (first | refine blk_drewN ?_ _ | refine blk_drew ?_ | refine blk_alloc ?_ _)); exact BK141.out) hb); have n1_ := Aside0.mk (below_step (by repeat (first | (with_reducible first | exact HB.out | apply below_alloc | apply pw_below_drewN | apply below_drew1 | refine below_set ?_ GE141.out) | with_reducible_and_instances exact HB.out)) hb); clear BK141; clear HB; have BK141 := n0_; have HB := n1_; clear n0_ n1_; (try clear hb); (try clear hb2); (try clear hk); (try clear hi); have hcz47_0 : w46.cell? ⟨gb141, 0, none⟩ = some (.int .i64 a0_0) := (blk_cell BK141.out 0).trans rfl; have hcz47_1 : w46.cell? ⟨gb141, 1, none⟩ = some (.int .i64 a0_1) := (blk_cell BK141.out 1).trans rfl; have hcz47_2 : w46.cell? ⟨gb141, 2, none⟩ = some (.int .i64 a0_2) := (blk_cell BK141.out 2).trans rfl; have hcz47_3 : w46.cell? ⟨gb141, 3, none⟩ = some (.int .i64 a0_3) := (blk_cell BK141.out 3).trans rfl; have hcz47_4 : w46.cell? ⟨gb141, 4, none⟩ = some (.int .i64 a0_4) := (blk_cell BK141.out 4).trans rfl; have hcz47_5 : w46.cell? ⟨gb141, 5, none⟩ = some (.int .i64 a0_5) := (blk_cell BK141.out 5).trans rfl; have hcz47_6 : w46.cell? ⟨gb141, 6, none⟩ = some (.int .i64 a0_6) := (blk_cell BK141.out 6).trans rfl; have hcz47_7 : w46.cell? ⟨gb141, 7, none⟩ = some (.int .i64 a0_7) := (blk_cell BK141.out 7).trans rfl; have hcz47_8 : w46.cell? ⟨gb141, 8, none⟩ = some (.int .i64 a0_8) := (blk_cell BK141.out 8).trans rfl; have hcz47_9 : w46.cell? ⟨gb141, 9, none⟩ = some (.int .i64 a0_9) := (blk_cell BK141.out 9).trans rfl; have hcz47_10 : w46.cell? ⟨gb141, 10, none⟩ = some (.int .i64 a0_10) := (blk_cell BK141.out 10).trans rfl; have hcz47_11 : w46.cell? ⟨gb141, 11, none⟩ = some (.int .i64 a0_11) := (blk_cell BK141.out 11).trans rfl; have hfz47_0 := blk_frozen BK141.out 0; have hfz47_1 := blk_frozen BK141.out 1; have hfz47_2 := blk_frozen BK141.out 2; have hfz47_3 := blk_frozen BK141.out 3; have hfz47_4 := blk_frozen BK141.out 4; have hfz47_5 := blk_frozen BK141.out 5; have hfz47_6 := blk_frozen BK141.out 6; have hfz47_7 := blk_frozen BK141.out 7; have hfz47_8 := blk_frozen BK141.out 8; have hfz47_9 := blk_frozen BK141.out 9; have hfz47_10 := blk_frozen BK141.out 10; have hfz47_11 := blk_frozen BK141.out 11) | ((with_reducible refine gate_callee (f := 13) rfl ?_); refine goesL_ (some 89) rfl rfl Try.func13 (by kernel_rfl) rfl #[.agg #[.int .i64 a0_0, .int .i64 a0_1, .int .i64 a0_2, .int .i64 a0_3, .int .i64 a0_4, .int .i64 a0_5, .int .i64 a0_6, .int .i64 a0_7, .int .i64 a0_8, .int .i64 a0_9, .int .i64 a0_10, .int .i64 a0_11], .int .i64 t148] rfl (by (try simp only [List.map_toArray, List.map_cons, List.map_nil]); first | done | rfl | (simp only [List.length_drop, List.length_take]; rfl) | (simp only [Int.toNat_natCast, Nat.sub_self, List.length_drop, List.length_take]; rfl)) ?_; (with_reducible refine (plan_Region.calls k3 a0_0 a0_1 a0_2 a0_3 a0_4 a0_5 a0_6 a0_7 a0_8 a0_9 a0_10 a0_11 t148 t151 t152 _ A35.out).mono ?_); rintro e w48 ⟨rfl, hb⟩; refine ⟨_, rfl, ?_⟩; have n0_ := Aside0.mk (blk_below (g := gb141) (o := .cells #[.int .i64 a0_0, .int .i64 a0_1, .int .i64 a0_2, .int .i64 a0_3, .int .i64 a0_4, .int .i64 a0_5, .int .i64 a0_6, .int .i64 a0_7, .int .i64 a0_8, .int .i64 a0_9, .int .i64 a0_10, .int .i64 a0_11] 24 (0, 0)) (by (with_reducible repeat (first | refine blk_drewN ?_ _ | refine blk_drew ?_ | refine blk_alloc ?_ _)); exact BK141.out) hb); have n1_ := Aside0.mk (below_step (by repeat (first | (with_reducible first | exact HB.out | apply below_alloc | apply pw_below_drewN | apply below_drew1 | refine below_set ?_ GE141.out) | with_reducible_and_instances exact HB.out)) hb); clear BK141; clear HB; have BK141 := n0_; have HB := n1_; clear n0_ n1_; (try clear hb); (try clear hb2); (try clear hk); (try clear hi); have hcz49_0 : w48.cell? ⟨gb141, 0, none⟩ = some (.int .i64 a0_0) := (blk_cell BK141.out 0).trans rfl; have hcz49_1 : w48.cell? ⟨gb141, 1, none⟩ = some (.int .i64 a0_1) := (blk_cell BK141.out 1).trans rfl; have hcz49_2 : w48.cell? ⟨gb141, 2, none⟩ = some (.int .i64 a0_2) := (blk_cell BK141.out 2).trans rfl; have hcz49_3 : w48.cell? ⟨gb141, 3, none⟩ = some (.int .i64 a0_3) := (blk_cell BK141.out 3).trans rfl; have hcz49_4 : w48.cell? ⟨gb141, 4, none⟩ = some (.int .i64 a0_4) := (blk_cell BK141.out 4).trans rfl; have hcz49_5 : w48.cell? ⟨gb141, 5, none⟩ = some (.int .i64 a0_5) := (blk_cell BK141.out 5).trans rfl; have hcz49_6 : w48.cell? ⟨gb141, 6, none⟩ = some (.int .i64 a0_6) := (blk_cell BK141.out 6).trans rfl; have hcz49_7 : w48.cell? ⟨gb141, 7, none⟩ = some (.int .i64 a0_7) := (blk_cell BK141.out 7).trans rfl; have hcz49_8 : w48.cell? ⟨gb141, 8, none⟩ = some (.int .i64 a0_8) := (blk_cell BK141.out 8).trans rfl; have hcz49_9 : w48.cell? ⟨gb141, 9, none⟩ = some (.int .i64 a0_9) := (blk_cell BK141.out 9).trans rfl; have hcz49_10 : w48.cell? ⟨gb141, 10, none⟩ = some (.int .i64 a0_10) := (blk_cell BK141.out 10).trans rfl; have hcz49_11 : w48.cell? ⟨gb141, 11, none⟩ = some (.int .i64 a0_11) := (blk_cell BK141.out 11).trans rfl; have hfz49_0 := blk_frozen BK141.out 0; have hfz49_1 := blk_frozen BK141.out 1; have hfz49_2 := blk_frozen BK141.out 2; have hfz49_3 := blk_frozen BK141.out 3; have hfz49_4 := blk_frozen BK141.out 4; have hfz49_5 := blk_frozen BK141.out 5; have hfz49_6 := blk_frozen BK141.out 6; have hfz49_7 := blk_frozen BK141.out 7; have hfz49_8 := blk_frozen BK141.out 8; have hfz49_9 := blk_frozen BK141.out 9; have hfz49_10 := blk_frozen BK141.out 10; have hfz49_11 := blk_frozen BK141.out 11))
                                    go_ret
                                    exact ⟨by first | rfl | (simp [errW_none, errW_some] <;> rfl) | (simp [*, errW_none, errW_some] <;> rfl), by repeat (first | (with_reducible first | exact HB.out | apply below_alloc | apply pw_below_drewN | apply below_drew1 | refine below_set ?_ GE141.out) | with_reducible_and_instances exact HB.out)⟩
                                  · rw [if_neg c44] at H
                                    have c44b0 : decide (a0_0 < (wrap64 (t149 + 32))) = false := decide_eq_false c44
                                    clear c44
                                    by_cases c50 : (wrap64 ((wrap64 (t148 * a0_0)) + t149)) < x9_3
                                    · rw [if_pos c50] at H
                                      have c50b0 : decide ((wrap64 ((wrap64 (t148 * a0_0)) + t149)) < x9_3) = true := decide_eq_true c50
                                      clear c50
                                      obtain rfl := Option.some.inj H
                                      have hcz51_0 : wr.cell? ⟨gb141, 0, none⟩ = some (.int .i64 a0_0) := (blk_cell BK141.out 0).trans rfl
                                      have hcz51_1 : wr.cell? ⟨gb141, 1, none⟩ = some (.int .i64 a0_1) := (blk_cell BK141.out 1).trans rfl
                                      have hcz51_2 : wr.cell? ⟨gb141, 2, none⟩ = some (.int .i64 a0_2) := (blk_cell BK141.out 2).trans rfl
                                      have hcz51_3 : wr.cell? ⟨gb141, 3, none⟩ = some (.int .i64 a0_3) := (blk_cell BK141.out 3).trans rfl
                                      have hcz51_4 : wr.cell? ⟨gb141, 4, none⟩ = some (.int .i64 a0_4) := (blk_cell BK141.out 4).trans rfl
                                      have hcz51_5 : wr.cell? ⟨gb141, 5, none⟩ = some (.int .i64 a0_5) := (blk_cell BK141.out 5).trans rfl
                                      have hcz51_6 : wr.cell? ⟨gb141, 6, none⟩ = some (.int .i64 a0_6) := (blk_cell BK141.out 6).trans rfl
                                      have hcz51_7 : wr.cell? ⟨gb141, 7, none⟩ = some (.int .i64 a0_7) := (blk_cell BK141.out 7).trans rfl
                                      have hcz51_8 : wr.cell? ⟨gb141, 8, none⟩ = some (.int .i64 a0_8) := (blk_cell BK141.out 8).trans rfl
                                      have hcz51_9 : wr.cell? ⟨gb141, 9, none⟩ = some (.int .i64 a0_9) := (blk_cell BK141.out 9).trans rfl
                                      have hcz51_10 : wr.cell? ⟨gb141, 10, none⟩ = some (.int .i64 a0_10) := (blk_cell BK141.out 10).trans rfl
                                      have hcz51_11 : wr.cell? ⟨gb141, 11, none⟩ = some (.int .i64 a0_11) := (blk_cell BK141.out 11).trans rfl
                                      have hfz51_0 := blk_frozen BK141.out 0
                                      have hfz51_1 := blk_frozen BK141.out 1
                                      have hfz51_2 := blk_frozen BK141.out 2
                                      have hfz51_3 := blk_frozen BK141.out 3
                                      have hfz51_4 := blk_frozen BK141.out 4
                                      have hfz51_5 := blk_frozen BK141.out 5
                                      have hfz51_6 := blk_frozen BK141.out 6
                                      have hfz51_7 := blk_frozen BK141.out 7
                                      have hfz51_8 := blk_frozen BK141.out 8
                                      have hfz51_9 := blk_frozen BK141.out 9
                                      have hfz51_10 := blk_frozen BK141.out 10
                                      have hfz51_11 := blk_frozen BK141.out 11
                                      go_wp2_with (first | ((with_reducible refine gate_callee (f := 11) rfl ?_); refine goesL_ (some 82) rfl rfl Try.func11 (by kernel_rfl) rfl #[.agg #[.int .i64 a0_0, .int .i64 a0_1, .int .i64 a0_2, .int .i64 a0_3, .int .i64 a0_4, .int .i64 a0_5, .int .i64 a0_6, .int .i64 a0_7, .int .i64 a0_8, .int .i64 a0_9, .int .i64 a0_10, .int .i64 a0_11], .int .i64 x10_3] rfl (by (try simp only [List.map_toArray, List.map_cons, List.map_nil]); first | done | rfl | (simp only [List.length_drop, List.length_take]; rfl) | (simp only [Int.toNat_natCast, Nat.sub_self, List.length_drop, List.length_take]; rfl)) ?_; (with_reducible refine (plan_Place.calls a0_0 a0_1 a0_2 a0_3 a0_4 a0_5 a0_6 a0_7 a0_8 a0_9 a0_10 a0_11 x10_3 t148 t149 t150 _ A34.out).mono ?_); rintro e w52 ⟨rfl, hb⟩; refine ⟨_, rfl, ?_⟩; have n0_ := Aside0.mk (blk_below (g := gb141) (o := .cells #[.int .i64 a0_0, .int .i64 a0_1, .int .i64 a0_2, .int .i64 a0_3, .int .i64 a0_4, .int .i64 a0_5, .int .i64 a0_6, .int .i64 a0_7, .int .i64 a0_8, .int .i64 a0_9, .int .i64 a0_10, .int .i64 a0_11] 24 (0, 0)) (by (with_reducible repeat (first | refine blk_drewN ?_ _ | refine blk_drew ?_ | refine blk_alloc ?_ _)); exact BK141.out) hb); have n1_ := Aside0.mk (below_step (by repeat (first | (with_reducible first | exact HB.out | apply below_alloc | apply pw_below_drewN | apply below_drew1 | refine below_set ?_ GE141.out) | with_reducible_and_instances exact HB.out)) hb); clear BK141; clear HB; have BK141 := n0_; have HB := n1_; clear n0_ n1_; (try clear hb); (try clear hb2); (try clear hk); (try clear hi); have hcz53_0 : w52.cell? ⟨gb141, 0, none⟩ = some (.int .i64 a0_0) := (blk_cell BK141.out 0).trans rfl; have hcz53_1 : w52.cell? ⟨gb141, 1, none⟩ = some (.int .i64 a0_1) := (blk_cell BK141.out 1).trans rfl; have hcz53_2 : w52.cell? ⟨gb141, 2, none⟩ = some (.int .i64 a0_2) := (blk_cell BK141.out 2).trans rfl; have hcz53_3 : w52.cell? ⟨gb141, 3, none⟩ = some (.int .i64 a0_3) := (blk_cell BK141.out 3).trans rfl; have hcz53_4 : w52.cell? ⟨gb141, 4, none⟩ = some (.int .i64 a0_4) := (blk_cell BK141.out 4).trans rfl; have hcz53_5 : w52.cell? ⟨gb141, 5, none⟩ = some (.int .i64 a0_5) := (blk_cell BK141.out 5).trans rfl; have hcz53_6 : w52.cell? ⟨gb141, 6, none⟩ = some (.int .i64 a0_6) := (blk_cell BK141.out 6).trans rfl; have hcz53_7 : w52.cell? ⟨gb141, 7, none⟩ = some (.int .i64 a0_7) := (blk_cell BK141.out 7).trans rfl; have hcz53_8 : w52.cell? ⟨gb141, 8, none⟩ = some (.int .i64 a0_8) := (blk_cell BK141.out 8).trans rfl; have hcz53_9 : w52.cell? ⟨gb141, 9, none⟩ = some (.int .i64 a0_9) := (blk_cell BK141.out 9).trans rfl; have hcz53_10 : w52.cell? ⟨gb141, 10, none⟩ = some (.int .i64 a0_10) := (blk_cell BK141.out 10).trans rfl; have hcz53_11 : w52.cell? ⟨gb141, 11, none⟩ = some (.int .i64 a0_11) := (blk_cell BK141.out 11).trans rfl; have hfz53_0 := blk_frozen BK141.out 0; have hfz53_1 := blk_frozen BK141.out 1; have hfz53_2 := blk_frozen BK141.out 2; have hfz53_3 := blk_frozen BK141.out 3; have hfz53_4 := blk_frozen BK141.out 4; have hfz53_5 := blk_frozen BK141.out 5; have hfz53_6 := blk_frozen BK141.out 6; have hfz53_7 := blk_frozen BK141.out 7; have hfz53_8 := blk_frozen BK141.out 8; have hfz53_9 := blk_frozen BK141.out 9; have hfz53_10 := blk_frozen BK141.out 10; have hfz53_11 := blk_frozen BK141.out 11) | ((with_reducible refine gate_callee (f := 13) rfl ?_); refine goesL_ (some 89) rfl rfl Try.func13 (by kernel_rfl) rfl #[.agg #[.int .i64 a0_0, .int .i64 a0_1, .int .i64 a0_2, .int .i64 a0_3, .int .i64 a0_4, .int .i64 a0_5, .int .i64 a0_6, .int .i64 a0_7, .int .i64 a0_8, .int .i64 a0_9, .int .i64 a0_10, .int .i64 a0_11], .int .i64 t148] rfl (by (try simp only [List.map_toArray, List.map_cons, List.map_nil]); first | done | rfl | (simp only [List.length_drop, List.length_take]; rfl) | (simp only [Int.toNat_natCast, Nat.sub_self, List.length_drop, List.length_take]; rfl)) ?_; (with_reducible refine (plan_Region.calls k3 a0_0 a0_1 a0_2 a0_3 a0_4 a0_5 a0_6 a0_7 a0_8 a0_9 a0_10 a0_11 t148 t151 t152 _ A35.out).mono ?_); rintro e w54 ⟨rfl, hb⟩; refine ⟨_, rfl, ?_⟩; have n0_ := Aside0.mk (blk_below (g := gb141) (o := .cells #[.int .i64 a0_0, .int .i64 a0_1, .int .i64 a0_2, .int .i64 a0_3, .int .i64 a0_4, .int .i64 a0_5, .int .i64 a0_6, .int .i64 a0_7, .int .i64 a0_8, .int .i64 a0_9, .int .i64 a0_10, .int .i64 a0_11] 24 (0, 0)) (by (with_reducible repeat (first | refine blk_drewN ?_ _ | refine blk_drew ?_ | refine blk_alloc ?_ _)); exact BK141.out) hb); have n1_ := Aside0.mk (below_step (by repeat (first | (with_reducible first | exact HB.out | apply below_alloc | apply pw_below_drewN | apply below_drew1 | refine below_set ?_ GE141.out) | with_reducible_and_instances exact HB.out)) hb); clear BK141; clear HB; have BK141 := n0_; have HB := n1_; clear n0_ n1_; (try clear hb); (try clear hb2); (try clear hk); (try clear hi); have hcz55_0 : w54.cell? ⟨gb141, 0, none⟩ = some (.int .i64 a0_0) := (blk_cell BK141.out 0).trans rfl; have hcz55_1 : w54.cell? ⟨gb141, 1, none⟩ = some (.int .i64 a0_1) := (blk_cell BK141.out 1).trans rfl; have hcz55_2 : w54.cell? ⟨gb141, 2, none⟩ = some (.int .i64 a0_2) := (blk_cell BK141.out 2).trans rfl; have hcz55_3 : w54.cell? ⟨gb141, 3, none⟩ = some (.int .i64 a0_3) := (blk_cell BK141.out 3).trans rfl; have hcz55_4 : w54.cell? ⟨gb141, 4, none⟩ = some (.int .i64 a0_4) := (blk_cell BK141.out 4).trans rfl; have hcz55_5 : w54.cell? ⟨gb141, 5, none⟩ = some (.int .i64 a0_5) := (blk_cell BK141.out 5).trans rfl; have hcz55_6 : w54.cell? ⟨gb141, 6, none⟩ = some (.int .i64 a0_6) := (blk_cell BK141.out 6).trans rfl; have hcz55_7 : w54.cell? ⟨gb141, 7, none⟩ = some (.int .i64 a0_7) := (blk_cell BK141.out 7).trans rfl; have hcz55_8 : w54.cell? ⟨gb141, 8, none⟩ = some (.int .i64 a0_8) := (blk_cell BK141.out 8).trans rfl; have hcz55_9 : w54.cell? ⟨gb141, 9, none⟩ = some (.int .i64 a0_9) := (blk_cell BK141.out 9).trans rfl; have hcz55_10 : w54.cell? ⟨gb141, 10, none⟩ = some (.int .i64 a0_10) := (blk_cell BK141.out 10).trans rfl; have hcz55_11 : w54.cell? ⟨gb141, 11, none⟩ = some (.int .i64 a0_11) := (blk_cell BK141.out 11).trans rfl; have hfz55_0 := blk_frozen BK141.out 0; have hfz55_1 := blk_frozen BK141.out 1; have hfz55_2 := blk_frozen BK141.out 2; have hfz55_3 := blk_frozen BK141.out 3; have hfz55_4 := blk_frozen BK141.out 4; have hfz55_5 := blk_frozen BK141.out 5; have hfz55_6 := blk_frozen BK141.out 6; have hfz55_7 := blk_frozen BK141.out 7; have hfz55_8 := blk_frozen BK141.out 8; have hfz55_9 := blk_frozen BK141.out 9; have hfz55_10 := blk_frozen BK141.out 10; have hfz55_11 := blk_frozen BK141.out 11))
                                      go_ret
                                      exact ⟨by first | rfl | (simp [errW_none, errW_some] <;> rfl) | (simp [*, errW_none, errW_some] <;> rfl), by repeat (first | (with_reducible first | exact HB.out | apply below_alloc | apply pw_below_drewN | apply below_drew1 | refine below_set ?_ GE141.out) | with_reducible_and_instances exact HB.out)⟩
                                    · rw [if_neg c50] at H
                                      have c50b0 : decide ((wrap64 ((wrap64 (t148 * a0_0)) + t149)) < x9_3) = false := decide_eq_false c50
                                      clear c50
                                      have H' := Aside0.mk H
                                      clear H
                                      have hcz56_0 : wr.cell? ⟨gb141, 0, none⟩ = some (.int .i64 a0_0) := (blk_cell BK141.out 0).trans rfl
                                      have hcz56_1 : wr.cell? ⟨gb141, 1, none⟩ = some (.int .i64 a0_1) := (blk_cell BK141.out 1).trans rfl
                                      have hcz56_2 : wr.cell? ⟨gb141, 2, none⟩ = some (.int .i64 a0_2) := (blk_cell BK141.out 2).trans rfl
                                      have hcz56_3 : wr.cell? ⟨gb141, 3, none⟩ = some (.int .i64 a0_3) := (blk_cell BK141.out 3).trans rfl
                                      have hcz56_4 : wr.cell? ⟨gb141, 4, none⟩ = some (.int .i64 a0_4) := (blk_cell BK141.out 4).trans rfl
                                      have hcz56_5 : wr.cell? ⟨gb141, 5, none⟩ = some (.int .i64 a0_5) := (blk_cell BK141.out 5).trans rfl
                                      have hcz56_6 : wr.cell? ⟨gb141, 6, none⟩ = some (.int .i64 a0_6) := (blk_cell BK141.out 6).trans rfl
                                      have hcz56_7 : wr.cell? ⟨gb141, 7, none⟩ = some (.int .i64 a0_7) := (blk_cell BK141.out 7).trans rfl
                                      have hcz56_8 : wr.cell? ⟨gb141, 8, none⟩ = some (.int .i64 a0_8) := (blk_cell BK141.out 8).trans rfl
                                      have hcz56_9 : wr.cell? ⟨gb141, 9, none⟩ = some (.int .i64 a0_9) := (blk_cell BK141.out 9).trans rfl
                                      have hcz56_10 : wr.cell? ⟨gb141, 10, none⟩ = some (.int .i64 a0_10) := (blk_cell BK141.out 10).trans rfl
                                      have hcz56_11 : wr.cell? ⟨gb141, 11, none⟩ = some (.int .i64 a0_11) := (blk_cell BK141.out 11).trans rfl
                                      have hfz56_0 := blk_frozen BK141.out 0
                                      have hfz56_1 := blk_frozen BK141.out 1
                                      have hfz56_2 := blk_frozen BK141.out 2
                                      have hfz56_3 := blk_frozen BK141.out 3
                                      have hfz56_4 := blk_frozen BK141.out 4
                                      have hfz56_5 := blk_frozen BK141.out 5
                                      have hfz56_6 := blk_frozen BK141.out 6
                                      have hfz56_7 := blk_frozen BK141.out 7
                                      have hfz56_8 := blk_frozen BK141.out 8
                                      have hfz56_9 := blk_frozen BK141.out 9
                                      have hfz56_10 := blk_frozen BK141.out 10
                                      have hfz56_11 := blk_frozen BK141.out 11
                                      go_wp2_with (first | ((with_reducible refine gate_callee (f := 11) rfl ?_); refine goesL_ (some 82) rfl rfl Try.func11 (by kernel_rfl) rfl #[.agg #[.int .i64 a0_0, .int .i64 a0_1, .int .i64 a0_2, .int .i64 a0_3, .int .i64 a0_4, .int .i64 a0_5, .int .i64 a0_6, .int .i64 a0_7, .int .i64 a0_8, .int .i64 a0_9, .int .i64 a0_10, .int .i64 a0_11], .int .i64 x10_3] rfl (by (try simp only [List.map_toArray, List.map_cons, List.map_nil]); first | done | rfl | (simp only [List.length_drop, List.length_take]; rfl) | (simp only [Int.toNat_natCast, Nat.sub_self, List.length_drop, List.length_take]; rfl)) ?_; (with_reducible refine (plan_Place.calls a0_0 a0_1 a0_2 a0_3 a0_4 a0_5 a0_6 a0_7 a0_8 a0_9 a0_10 a0_11 x10_3 t148 t149 t150 _ A34.out).mono ?_); rintro e w57 ⟨rfl, hb⟩; refine ⟨_, rfl, ?_⟩; have n0_ := Aside0.mk (blk_below (g := gb141) (o := .cells #[.int .i64 a0_0, .int .i64 a0_1, .int .i64 a0_2, .int .i64 a0_3, .int .i64 a0_4, .int .i64 a0_5, .int .i64 a0_6, .int .i64 a0_7, .int .i64 a0_8, .int .i64 a0_9, .int .i64 a0_10, .int .i64 a0_11] 24 (0, 0)) (by (with_reducible repeat (first | refine blk_drewN ?_ _ | refine blk_drew ?_ | refine blk_alloc ?_ _)); exact BK141.out) hb); have n1_ := Aside0.mk (below_step (by repeat (first | (with_reducible first | exact HB.out | apply below_alloc | apply pw_below_drewN | apply below_drew1 | refine below_set ?_ GE141.out) | with_reducible_and_instances exact HB.out)) hb); clear BK141; clear HB; have BK141 := n0_; have HB := n1_; clear n0_ n1_; (try clear hb); (try clear hb2); (try clear hk); (try clear hi); have hcz58_0 : w57.cell? ⟨gb141, 0, none⟩ = some (.int .i64 a0_0) := (blk_cell BK141.out 0).trans rfl; have hcz58_1 : w57.cell? ⟨gb141, 1, none⟩ = some (.int .i64 a0_1) := (blk_cell BK141.out 1).trans rfl; have hcz58_2 : w57.cell? ⟨gb141, 2, none⟩ = some (.int .i64 a0_2) := (blk_cell BK141.out 2).trans rfl; have hcz58_3 : w57.cell? ⟨gb141, 3, none⟩ = some (.int .i64 a0_3) := (blk_cell BK141.out 3).trans rfl; have hcz58_4 : w57.cell? ⟨gb141, 4, none⟩ = some (.int .i64 a0_4) := (blk_cell BK141.out 4).trans rfl; have hcz58_5 : w57.cell? ⟨gb141, 5, none⟩ = some (.int .i64 a0_5) := (blk_cell BK141.out 5).trans rfl; have hcz58_6 : w57.cell? ⟨gb141, 6, none⟩ = some (.int .i64 a0_6) := (blk_cell BK141.out 6).trans rfl; have hcz58_7 : w57.cell? ⟨gb141, 7, none⟩ = some (.int .i64 a0_7) := (blk_cell BK141.out 7).trans rfl; have hcz58_8 : w57.cell? ⟨gb141, 8, none⟩ = some (.int .i64 a0_8) := (blk_cell BK141.out 8).trans rfl; have hcz58_9 : w57.cell? ⟨gb141, 9, none⟩ = some (.int .i64 a0_9) := (blk_cell BK141.out 9).trans rfl; have hcz58_10 : w57.cell? ⟨gb141, 10, none⟩ = some (.int .i64 a0_10) := (blk_cell BK141.out 10).trans rfl; have hcz58_11 : w57.cell? ⟨gb141, 11, none⟩ = some (.int .i64 a0_11) := (blk_cell BK141.out 11).trans rfl; have hfz58_0 := blk_frozen BK141.out 0; have hfz58_1 := blk_frozen BK141.out 1; have hfz58_2 := blk_frozen BK141.out 2; have hfz58_3 := blk_frozen BK141.out 3; have hfz58_4 := blk_frozen BK141.out 4; have hfz58_5 := blk_frozen BK141.out 5; have hfz58_6 := blk_frozen BK141.out 6; have hfz58_7 := blk_frozen BK141.out 7; have hfz58_8 := blk_frozen BK141.out 8; have hfz58_9 := blk_frozen BK141.out 9; have hfz58_10 := blk_frozen BK141.out 10; have hfz58_11 := blk_frozen BK141.out 11) | ((with_reducible refine gate_callee (f := 13) rfl ?_); refine goesL_ (some 89) rfl rfl Try.func13 (by kernel_rfl) rfl #[.agg #[.int .i64 a0_0, .int .i64 a0_1, .int .i64 a0_2, .int .i64 a0_3, .int .i64 a0_4, .int .i64 a0_5, .int .i64 a0_6, .int .i64 a0_7, .int .i64 a0_8, .int .i64 a0_9, .int .i64 a0_10, .int .i64 a0_11], .int .i64 t148] rfl (by (try simp only [List.map_toArray, List.map_cons, List.map_nil]); first | done | rfl | (simp only [List.length_drop, List.length_take]; rfl) | (simp only [Int.toNat_natCast, Nat.sub_self, List.length_drop, List.length_take]; rfl)) ?_; (with_reducible refine (plan_Region.calls k3 a0_0 a0_1 a0_2 a0_3 a0_4 a0_5 a0_6 a0_7 a0_8 a0_9 a0_10 a0_11 t148 t151 t152 _ A35.out).mono ?_); rintro e w59 ⟨rfl, hb⟩; refine ⟨_, rfl, ?_⟩; have n0_ := Aside0.mk (blk_below (g := gb141) (o := .cells #[.int .i64 a0_0, .int .i64 a0_1, .int .i64 a0_2, .int .i64 a0_3, .int .i64 a0_4, .int .i64 a0_5, .int .i64 a0_6, .int .i64 a0_7, .int .i64 a0_8, .int .i64 a0_9, .int .i64 a0_10, .int .i64 a0_11] 24 (0, 0)) (by (with_reducible repeat (first | refine blk_drewN ?_ _ | refine blk_drew ?_ | refine blk_alloc ?_ _)); exact BK141.out) hb); have n1_ := Aside0.mk (below_step (by repeat (first | (with_reducible first | exact HB.out | apply below_alloc | apply pw_below_drewN | apply below_drew1 | refine below_set ?_ GE141.out) | with_reducible_and_instances exact HB.out)) hb); clear BK141; clear HB; have BK141 := n0_; have HB := n1_; clear n0_ n1_; (try clear hb); (try clear hb2); (try clear hk); (try clear hi); have hcz60_0 : w59.cell? ⟨gb141, 0, none⟩ = some (.int .i64 a0_0) := (blk_cell BK141.out 0).trans rfl; have hcz60_1 : w59.cell? ⟨gb141, 1, none⟩ = some (.int .i64 a0_1) := (blk_cell BK141.out 1).trans rfl; have hcz60_2 : w59.cell? ⟨gb141, 2, none⟩ = some (.int .i64 a0_2) := (blk_cell BK141.out 2).trans rfl; have hcz60_3 : w59.cell? ⟨gb141, 3, none⟩ = some (.int .i64 a0_3) := (blk_cell BK141.out 3).trans rfl; have hcz60_4 : w59.cell? ⟨gb141, 4, none⟩ = some (.int .i64 a0_4) := (blk_cell BK141.out 4).trans rfl; have hcz60_5 : w59.cell? ⟨gb141, 5, none⟩ = some (.int .i64 a0_5) := (blk_cell BK141.out 5).trans rfl; have hcz60_6 : w59.cell? ⟨gb141, 6, none⟩ = some (.int .i64 a0_6) := (blk_cell BK141.out 6).trans rfl; have hcz60_7 : w59.cell? ⟨gb141, 7, none⟩ = some (.int .i64 a0_7) := (blk_cell BK141.out 7).trans rfl; have hcz60_8 : w59.cell? ⟨gb141, 8, none⟩ = some (.int .i64 a0_8) := (blk_cell BK141.out 8).trans rfl; have hcz60_9 : w59.cell? ⟨gb141, 9, none⟩ = some (.int .i64 a0_9) := (blk_cell BK141.out 9).trans rfl; have hcz60_10 : w59.cell? ⟨gb141, 10, none⟩ = some (.int .i64 a0_10) := (blk_cell BK141.out 10).trans rfl; have hcz60_11 : w59.cell? ⟨gb141, 11, none⟩ = some (.int .i64 a0_11) := (blk_cell BK141.out 11).trans rfl; have hfz60_0 := blk_frozen BK141.out 0; have hfz60_1 := blk_frozen BK141.out 1; have hfz60_2 := blk_frozen BK141.out 2; have hfz60_3 := blk_frozen BK141.out 3; have hfz60_4 := blk_frozen BK141.out 4; have hfz60_5 := blk_frozen BK141.out 5; have hfz60_6 := blk_frozen BK141.out 6; have hfz60_7 := blk_frozen BK141.out 7; have hfz60_8 := blk_frozen BK141.out 8; have hfz60_9 := blk_frozen BK141.out 9; have hfz60_10 := blk_frozen BK141.out 10; have hfz60_11 := blk_frozen BK141.out 11))
                                      go_roundg k3
                                      case measure => have := HJ5.out; have := HK2.out; have := HK3.out; omega
                                      case rel => exact ⟨(wrap64 ((wrap64 ((wrap64 (t148 * a0_0)) + t149)) + 32)), (wrap64 (x10_3 + 1)), (by first | rfl | (simp; done) | (simp [*]; done)), (by first | rfl | (simp; done) | (simp [*]; done)), H', ⟨by have := HJ5.out; have := HK2.out; have := HK3.out; omega⟩, ⟨by (with_reducible repeat (first | refine blk_drewN ?_ _ | refine blk_drew ?_ | refine blk_alloc ?_ _)); exact BK141.out⟩, ⟨by repeat (first | (with_reducible first | exact HB.out | apply below_alloc | apply pw_below_drewN | apply below_drew1 | refine below_set ?_ GE141.out) | with_reducible_and_instances exact HB.out)⟩⟩
                              · rw [if_neg c38] at H
                                have c38b0 : (t151 == 5) = false := beq_eq_false_iff_ne.mpr c38
                                have c38b1 : (t151 != 5) = true := bne_iff_ne.mpr c38
                                obtain rfl := Option.some.inj H
                                have hcz61_0 : wr.cell? ⟨gb141, 0, none⟩ = some (.int .i64 a0_0) := (blk_cell BK141.out 0).trans rfl
                                have hcz61_1 : wr.cell? ⟨gb141, 1, none⟩ = some (.int .i64 a0_1) := (blk_cell BK141.out 1).trans rfl
                                have hcz61_2 : wr.cell? ⟨gb141, 2, none⟩ = some (.int .i64 a0_2) := (blk_cell BK141.out 2).trans rfl
                                have hcz61_3 : wr.cell? ⟨gb141, 3, none⟩ = some (.int .i64 a0_3) := (blk_cell BK141.out 3).trans rfl
                                have hcz61_4 : wr.cell? ⟨gb141, 4, none⟩ = some (.int .i64 a0_4) := (blk_cell BK141.out 4).trans rfl
                                have hcz61_5 : wr.cell? ⟨gb141, 5, none⟩ = some (.int .i64 a0_5) := (blk_cell BK141.out 5).trans rfl
                                have hcz61_6 : wr.cell? ⟨gb141, 6, none⟩ = some (.int .i64 a0_6) := (blk_cell BK141.out 6).trans rfl
                                have hcz61_7 : wr.cell? ⟨gb141, 7, none⟩ = some (.int .i64 a0_7) := (blk_cell BK141.out 7).trans rfl
                                have hcz61_8 : wr.cell? ⟨gb141, 8, none⟩ = some (.int .i64 a0_8) := (blk_cell BK141.out 8).trans rfl
                                have hcz61_9 : wr.cell? ⟨gb141, 9, none⟩ = some (.int .i64 a0_9) := (blk_cell BK141.out 9).trans rfl
                                have hcz61_10 : wr.cell? ⟨gb141, 10, none⟩ = some (.int .i64 a0_10) := (blk_cell BK141.out 10).trans rfl
                                have hcz61_11 : wr.cell? ⟨gb141, 11, none⟩ = some (.int .i64 a0_11) := (blk_cell BK141.out 11).trans rfl
                                have hfz61_0 := blk_frozen BK141.out 0
                                have hfz61_1 := blk_frozen BK141.out 1
                                have hfz61_2 := blk_frozen BK141.out 2
                                have hfz61_3 := blk_frozen BK141.out 3
                                have hfz61_4 := blk_frozen BK141.out 4
                                have hfz61_5 := blk_frozen BK141.out 5
                                have hfz61_6 := blk_frozen BK141.out 6
                                have hfz61_7 := blk_frozen BK141.out 7
                                have hfz61_8 := blk_frozen BK141.out 8
                                have hfz61_9 := blk_frozen BK141.out 9
                                have hfz61_10 := blk_frozen BK141.out 10
                                have hfz61_11 := blk_frozen BK141.out 11
                                go_wp2_with (first | ((with_reducible refine gate_callee (f := 11) rfl ?_); refine goesL_ (some 82) rfl rfl Try.func11 (by kernel_rfl) rfl #[.agg #[.int .i64 a0_0, .int .i64 a0_1, .int .i64 a0_2, .int .i64 a0_3, .int .i64 a0_4, .int .i64 a0_5, .int .i64 a0_6, .int .i64 a0_7, .int .i64 a0_8, .int .i64 a0_9, .int .i64 a0_10, .int .i64 a0_11], .int .i64 x10_3] rfl (by (try simp only [List.map_toArray, List.map_cons, List.map_nil]); first | done | rfl | (simp only [List.length_drop, List.length_take]; rfl) | (simp only [Int.toNat_natCast, Nat.sub_self, List.length_drop, List.length_take]; rfl)) ?_; (with_reducible refine (plan_Place.calls a0_0 a0_1 a0_2 a0_3 a0_4 a0_5 a0_6 a0_7 a0_8 a0_9 a0_10 a0_11 x10_3 t148 t149 t150 _ A34.out).mono ?_); rintro e w62 ⟨rfl, hb⟩; refine ⟨_, rfl, ?_⟩; have n0_ := Aside0.mk (blk_below (g := gb141) (o := .cells #[.int .i64 a0_0, .int .i64 a0_1, .int .i64 a0_2, .int .i64 a0_3, .int .i64 a0_4, .int .i64 a0_5, .int .i64 a0_6, .int .i64 a0_7, .int .i64 a0_8, .int .i64 a0_9, .int .i64 a0_10, .int .i64 a0_11] 24 (0, 0)) (by (with_reducible repeat (first | refine blk_drewN ?_ _ | refine blk_drew ?_ | refine blk_alloc ?_ _)); exact BK141.out) hb); have n1_ := Aside0.mk (below_step (by repeat (first | (with_reducible first | exact HB.out | apply below_alloc | apply pw_below_drewN | apply below_drew1 | refine below_set ?_ GE141.out) | with_reducible_and_instances exact HB.out)) hb); clear BK141; clear HB; have BK141 := n0_; have HB := n1_; clear n0_ n1_; (try clear hb); (try clear hb2); (try clear hk); (try clear hi); have hcz63_0 : w62.cell? ⟨gb141, 0, none⟩ = some (.int .i64 a0_0) := (blk_cell BK141.out 0).trans rfl; have hcz63_1 : w62.cell? ⟨gb141, 1, none⟩ = some (.int .i64 a0_1) := (blk_cell BK141.out 1).trans rfl; have hcz63_2 : w62.cell? ⟨gb141, 2, none⟩ = some (.int .i64 a0_2) := (blk_cell BK141.out 2).trans rfl; have hcz63_3 : w62.cell? ⟨gb141, 3, none⟩ = some (.int .i64 a0_3) := (blk_cell BK141.out 3).trans rfl; have hcz63_4 : w62.cell? ⟨gb141, 4, none⟩ = some (.int .i64 a0_4) := (blk_cell BK141.out 4).trans rfl; have hcz63_5 : w62.cell? ⟨gb141, 5, none⟩ = some (.int .i64 a0_5) := (blk_cell BK141.out 5).trans rfl; have hcz63_6 : w62.cell? ⟨gb141, 6, none⟩ = some (.int .i64 a0_6) := (blk_cell BK141.out 6).trans rfl; have hcz63_7 : w62.cell? ⟨gb141, 7, none⟩ = some (.int .i64 a0_7) := (blk_cell BK141.out 7).trans rfl; have hcz63_8 : w62.cell? ⟨gb141, 8, none⟩ = some (.int .i64 a0_8) := (blk_cell BK141.out 8).trans rfl; have hcz63_9 : w62.cell? ⟨gb141, 9, none⟩ = some (.int .i64 a0_9) := (blk_cell BK141.out 9).trans rfl; have hcz63_10 : w62.cell? ⟨gb141, 10, none⟩ = some (.int .i64 a0_10) := (blk_cell BK141.out 10).trans rfl; have hcz63_11 : w62.cell? ⟨gb141, 11, none⟩ = some (.int .i64 a0_11) := (blk_cell BK141.out 11).trans rfl; have hfz63_0 := blk_frozen BK141.out 0; have hfz63_1 := blk_frozen BK141.out 1; have hfz63_2 := blk_frozen BK141.out 2; have hfz63_3 := blk_frozen BK141.out 3; have hfz63_4 := blk_frozen BK141.out 4; have hfz63_5 := blk_frozen BK141.out 5; have hfz63_6 := blk_frozen BK141.out 6; have hfz63_7 := blk_frozen BK141.out 7; have hfz63_8 := blk_frozen BK141.out 8; have hfz63_9 := blk_frozen BK141.out 9; have hfz63_10 := blk_frozen BK141.out 10; have hfz63_11 := blk_frozen BK141.out 11) | ((with_reducible refine gate_callee (f := 13) rfl ?_); refine goesL_ (some 89) rfl rfl Try.func13 (by kernel_rfl) rfl #[.agg #[.int .i64 a0_0, .int .i64 a0_1, .int .i64 a0_2, .int .i64 a0_3, .int .i64 a0_4, .int .i64 a0_5, .int .i64 a0_6, .int .i64 a0_7, .int .i64 a0_8, .int .i64 a0_9, .int .i64 a0_10, .int .i64 a0_11], .int .i64 t148] rfl (by (try simp only [List.map_toArray, List.map_cons, List.map_nil]); first | done | rfl | (simp only [List.length_drop, List.length_take]; rfl) | (simp only [Int.toNat_natCast, Nat.sub_self, List.length_drop, List.length_take]; rfl)) ?_; (with_reducible refine (plan_Region.calls k3 a0_0 a0_1 a0_2 a0_3 a0_4 a0_5 a0_6 a0_7 a0_8 a0_9 a0_10 a0_11 t148 t151 t152 _ A35.out).mono ?_); rintro e w64 ⟨rfl, hb⟩; refine ⟨_, rfl, ?_⟩; have n0_ := Aside0.mk (blk_below (g := gb141) (o := .cells #[.int .i64 a0_0, .int .i64 a0_1, .int .i64 a0_2, .int .i64 a0_3, .int .i64 a0_4, .int .i64 a0_5, .int .i64 a0_6, .int .i64 a0_7, .int .i64 a0_8, .int .i64 a0_9, .int .i64 a0_10, .int .i64 a0_11] 24 (0, 0)) (by (with_reducible repeat (first | refine blk_drewN ?_ _ | refine blk_drew ?_ | refine blk_alloc ?_ _)); exact BK141.out) hb); have n1_ := Aside0.mk (below_step (by repeat (first | (with_reducible first | exact HB.out | apply below_alloc | apply pw_below_drewN | apply below_drew1 | refine below_set ?_ GE141.out) | with_reducible_and_instances exact HB.out)) hb); clear BK141; clear HB; have BK141 := n0_; have HB := n1_; clear n0_ n1_; (try clear hb); (try clear hb2); (try clear hk); (try clear hi)))
                                go_ret
                                exact ⟨by first | rfl | (simp [errW_none, errW_some] <;> rfl) | (simp [*, errW_none, errW_some] <;> rfl), by repeat (first | (with_reducible first | exact HB.out | apply below_alloc | apply pw_below_drewN | apply below_drew1 | refine below_set ?_ GE141.out) | with_reducible_and_instances exact HB.out)⟩
                            · rw [if_neg c37] at H
                              have c37b0 : (t152 == 0) = false := beq_eq_false_iff_ne.mpr c37
                              have c37b1 : (t152 != 0) = true := bne_iff_ne.mpr c37
                              obtain rfl := Option.some.inj H
                              have hcz65_0 : wr.cell? ⟨gb141, 0, none⟩ = some (.int .i64 a0_0) := (blk_cell BK141.out 0).trans rfl
                              have hcz65_1 : wr.cell? ⟨gb141, 1, none⟩ = some (.int .i64 a0_1) := (blk_cell BK141.out 1).trans rfl
                              have hcz65_2 : wr.cell? ⟨gb141, 2, none⟩ = some (.int .i64 a0_2) := (blk_cell BK141.out 2).trans rfl
                              have hcz65_3 : wr.cell? ⟨gb141, 3, none⟩ = some (.int .i64 a0_3) := (blk_cell BK141.out 3).trans rfl
                              have hcz65_4 : wr.cell? ⟨gb141, 4, none⟩ = some (.int .i64 a0_4) := (blk_cell BK141.out 4).trans rfl
                              have hcz65_5 : wr.cell? ⟨gb141, 5, none⟩ = some (.int .i64 a0_5) := (blk_cell BK141.out 5).trans rfl
                              have hcz65_6 : wr.cell? ⟨gb141, 6, none⟩ = some (.int .i64 a0_6) := (blk_cell BK141.out 6).trans rfl
                              have hcz65_7 : wr.cell? ⟨gb141, 7, none⟩ = some (.int .i64 a0_7) := (blk_cell BK141.out 7).trans rfl
                              have hcz65_8 : wr.cell? ⟨gb141, 8, none⟩ = some (.int .i64 a0_8) := (blk_cell BK141.out 8).trans rfl
                              have hcz65_9 : wr.cell? ⟨gb141, 9, none⟩ = some (.int .i64 a0_9) := (blk_cell BK141.out 9).trans rfl
                              have hcz65_10 : wr.cell? ⟨gb141, 10, none⟩ = some (.int .i64 a0_10) := (blk_cell BK141.out 10).trans rfl
                              have hcz65_11 : wr.cell? ⟨gb141, 11, none⟩ = some (.int .i64 a0_11) := (blk_cell BK141.out 11).trans rfl
                              have hfz65_0 := blk_frozen BK141.out 0
                              have hfz65_1 := blk_frozen BK141.out 1
                              have hfz65_2 := blk_frozen BK141.out 2
                              have hfz65_3 := blk_frozen BK141.out 3
                              have hfz65_4 := blk_frozen BK141.out 4
                              have hfz65_5 := blk_frozen BK141.out 5
                              have hfz65_6 := blk_frozen BK141.out 6
                              have hfz65_7 := blk_frozen BK141.out 7
                              have hfz65_8 := blk_frozen BK141.out 8
                              have hfz65_9 := blk_frozen BK141.out 9
                              have hfz65_10 := blk_frozen BK141.out 10
                              have hfz65_11 := blk_frozen BK141.out 11
                              go_wp2_with (first | ((with_reducible refine gate_callee (f := 11) rfl ?_); refine goesL_ (some 82) rfl rfl Try.func11 (by kernel_rfl) rfl #[.agg #[.int .i64 a0_0, .int .i64 a0_1, .int .i64 a0_2, .int .i64 a0_3, .int .i64 a0_4, .int .i64 a0_5, .int .i64 a0_6, .int .i64 a0_7, .int .i64 a0_8, .int .i64 a0_9, .int .i64 a0_10, .int .i64 a0_11], .int .i64 x10_3] rfl (by (try simp only [List.map_toArray, List.map_cons, List.map_nil]); first | done | rfl | (simp only [List.length_drop, List.length_take]; rfl) | (simp only [Int.toNat_natCast, Nat.sub_self, List.length_drop, List.length_take]; rfl)) ?_; (with_reducible refine (plan_Place.calls a0_0 a0_1 a0_2 a0_3 a0_4 a0_5 a0_6 a0_7 a0_8 a0_9 a0_10 a0_11 x10_3 t148 t149 t150 _ A34.out).mono ?_); rintro e w66 ⟨rfl, hb⟩; refine ⟨_, rfl, ?_⟩; have n0_ := Aside0.mk (blk_below (g := gb141) (o := .cells #[.int .i64 a0_0, .int .i64 a0_1, .int .i64 a0_2, .int .i64 a0_3, .int .i64 a0_4, .int .i64 a0_5, .int .i64 a0_6, .int .i64 a0_7, .int .i64 a0_8, .int .i64 a0_9, .int .i64 a0_10, .int .i64 a0_11] 24 (0, 0)) (by (with_reducible repeat (first | refine blk_drewN ?_ _ | refine blk_drew ?_ | refine blk_alloc ?_ _)); exact BK141.out) hb); have n1_ := Aside0.mk (below_step (by repeat (first | (with_reducible first | exact HB.out | apply below_alloc | apply pw_below_drewN | apply below_drew1 | refine below_set ?_ GE141.out) | with_reducible_and_instances exact HB.out)) hb); clear BK141; clear HB; have BK141 := n0_; have HB := n1_; clear n0_ n1_; (try clear hb); (try clear hb2); (try clear hk); (try clear hi); have hcz67_0 : w66.cell? ⟨gb141, 0, none⟩ = some (.int .i64 a0_0) := (blk_cell BK141.out 0).trans rfl; have hcz67_1 : w66.cell? ⟨gb141, 1, none⟩ = some (.int .i64 a0_1) := (blk_cell BK141.out 1).trans rfl; have hcz67_2 : w66.cell? ⟨gb141, 2, none⟩ = some (.int .i64 a0_2) := (blk_cell BK141.out 2).trans rfl; have hcz67_3 : w66.cell? ⟨gb141, 3, none⟩ = some (.int .i64 a0_3) := (blk_cell BK141.out 3).trans rfl; have hcz67_4 : w66.cell? ⟨gb141, 4, none⟩ = some (.int .i64 a0_4) := (blk_cell BK141.out 4).trans rfl; have hcz67_5 : w66.cell? ⟨gb141, 5, none⟩ = some (.int .i64 a0_5) := (blk_cell BK141.out 5).trans rfl; have hcz67_6 : w66.cell? ⟨gb141, 6, none⟩ = some (.int .i64 a0_6) := (blk_cell BK141.out 6).trans rfl; have hcz67_7 : w66.cell? ⟨gb141, 7, none⟩ = some (.int .i64 a0_7) := (blk_cell BK141.out 7).trans rfl; have hcz67_8 : w66.cell? ⟨gb141, 8, none⟩ = some (.int .i64 a0_8) := (blk_cell BK141.out 8).trans rfl; have hcz67_9 : w66.cell? ⟨gb141, 9, none⟩ = some (.int .i64 a0_9) := (blk_cell BK141.out 9).trans rfl; have hcz67_10 : w66.cell? ⟨gb141, 10, none⟩ = some (.int .i64 a0_10) := (blk_cell BK141.out 10).trans rfl; have hcz67_11 : w66.cell? ⟨gb141, 11, none⟩ = some (.int .i64 a0_11) := (blk_cell BK141.out 11).trans rfl; have hfz67_0 := blk_frozen BK141.out 0; have hfz67_1 := blk_frozen BK141.out 1; have hfz67_2 := blk_frozen BK141.out 2; have hfz67_3 := blk_frozen BK141.out 3; have hfz67_4 := blk_frozen BK141.out 4; have hfz67_5 := blk_frozen BK141.out 5; have hfz67_6 := blk_frozen BK141.out 6; have hfz67_7 := blk_frozen BK141.out 7; have hfz67_8 := blk_frozen BK141.out 8; have hfz67_9 := blk_frozen BK141.out 9; have hfz67_10 := blk_frozen BK141.out 10; have hfz67_11 := blk_frozen BK141.out 11) | ((with_reducible refine gate_callee (f := 13) rfl ?_); refine goesL_ (some 89) rfl rfl Try.func13 (by kernel_rfl) rfl #[.agg #[.int .i64 a0_0, .int .i64 a0_1, .int .i64 a0_2, .int .i64 a0_3, .int .i64 a0_4, .int .i64 a0_5, .int .i64 a0_6, .int .i64 a0_7, .int .i64 a0_8, .int .i64 a0_9, .int .i64 a0_10, .int .i64 a0_11], .int .i64 t148] rfl (by (try simp only [List.map_toArray, List.map_cons, List.map_nil]); first | done | rfl | (simp only [List.length_drop, List.length_take]; rfl) | (simp only [Int.toNat_natCast, Nat.sub_self, List.length_drop, List.length_take]; rfl)) ?_; (with_reducible refine (plan_Region.calls k3 a0_0 a0_1 a0_2 a0_3 a0_4 a0_5 a0_6 a0_7 a0_8 a0_9 a0_10 a0_11 t148 t151 t152 _ A35.out).mono ?_); rintro e w68 ⟨rfl, hb⟩; refine ⟨_, rfl, ?_⟩; have n0_ := Aside0.mk (blk_below (g := gb141) (o := .cells #[.int .i64 a0_0, .int .i64 a0_1, .int .i64 a0_2, .int .i64 a0_3, .int .i64 a0_4, .int .i64 a0_5, .int .i64 a0_6, .int .i64 a0_7, .int .i64 a0_8, .int .i64 a0_9, .int .i64 a0_10, .int .i64 a0_11] 24 (0, 0)) (by (with_reducible repeat (first | refine blk_drewN ?_ _ | refine blk_drew ?_ | refine blk_alloc ?_ _)); exact BK141.out) hb); have n1_ := Aside0.mk (below_step (by repeat (first | (with_reducible first | exact HB.out | apply below_alloc | apply pw_below_drewN | apply below_drew1 | refine below_set ?_ GE141.out) | with_reducible_and_instances exact HB.out)) hb); clear BK141; clear HB; have BK141 := n0_; have HB := n1_; clear n0_ n1_; (try clear hb); (try clear hb2); (try clear hk); (try clear hi)))
                              go_ret
                              exact ⟨by first | rfl | (simp [errW_none, errW_some] <;> rfl) | (simp [*, errW_none, errW_some] <;> rfl), by repeat (first | (with_reducible first | exact HB.out | apply below_alloc | apply pw_below_drewN | apply below_drew1 | refine below_set ?_ GE141.out) | with_reducible_and_instances exact HB.out)⟩
                          · rw [if_neg c36] at H
                            have c36b0 : (t150 == 0) = false := beq_eq_false_iff_ne.mpr c36
                            have c36b1 : (t150 != 0) = true := bne_iff_ne.mpr c36
                            obtain rfl := Option.some.inj H
                            have hcz69_0 : wr.cell? ⟨gb141, 0, none⟩ = some (.int .i64 a0_0) := (blk_cell BK141.out 0).trans rfl
                            have hcz69_1 : wr.cell? ⟨gb141, 1, none⟩ = some (.int .i64 a0_1) := (blk_cell BK141.out 1).trans rfl
                            have hcz69_2 : wr.cell? ⟨gb141, 2, none⟩ = some (.int .i64 a0_2) := (blk_cell BK141.out 2).trans rfl
                            have hcz69_3 : wr.cell? ⟨gb141, 3, none⟩ = some (.int .i64 a0_3) := (blk_cell BK141.out 3).trans rfl
                            have hcz69_4 : wr.cell? ⟨gb141, 4, none⟩ = some (.int .i64 a0_4) := (blk_cell BK141.out 4).trans rfl
                            have hcz69_5 : wr.cell? ⟨gb141, 5, none⟩ = some (.int .i64 a0_5) := (blk_cell BK141.out 5).trans rfl
                            have hcz69_6 : wr.cell? ⟨gb141, 6, none⟩ = some (.int .i64 a0_6) := (blk_cell BK141.out 6).trans rfl
                            have hcz69_7 : wr.cell? ⟨gb141, 7, none⟩ = some (.int .i64 a0_7) := (blk_cell BK141.out 7).trans rfl
                            have hcz69_8 : wr.cell? ⟨gb141, 8, none⟩ = some (.int .i64 a0_8) := (blk_cell BK141.out 8).trans rfl
                            have hcz69_9 : wr.cell? ⟨gb141, 9, none⟩ = some (.int .i64 a0_9) := (blk_cell BK141.out 9).trans rfl
                            have hcz69_10 : wr.cell? ⟨gb141, 10, none⟩ = some (.int .i64 a0_10) := (blk_cell BK141.out 10).trans rfl
                            have hcz69_11 : wr.cell? ⟨gb141, 11, none⟩ = some (.int .i64 a0_11) := (blk_cell BK141.out 11).trans rfl
                            have hfz69_0 := blk_frozen BK141.out 0
                            have hfz69_1 := blk_frozen BK141.out 1
                            have hfz69_2 := blk_frozen BK141.out 2
                            have hfz69_3 := blk_frozen BK141.out 3
                            have hfz69_4 := blk_frozen BK141.out 4
                            have hfz69_5 := blk_frozen BK141.out 5
                            have hfz69_6 := blk_frozen BK141.out 6
                            have hfz69_7 := blk_frozen BK141.out 7
                            have hfz69_8 := blk_frozen BK141.out 8
                            have hfz69_9 := blk_frozen BK141.out 9
                            have hfz69_10 := blk_frozen BK141.out 10
                            have hfz69_11 := blk_frozen BK141.out 11
                            go_wp2_with (first | ((with_reducible refine gate_callee (f := 11) rfl ?_); refine goesL_ (some 82) rfl rfl Try.func11 (by kernel_rfl) rfl #[.agg #[.int .i64 a0_0, .int .i64 a0_1, .int .i64 a0_2, .int .i64 a0_3, .int .i64 a0_4, .int .i64 a0_5, .int .i64 a0_6, .int .i64 a0_7, .int .i64 a0_8, .int .i64 a0_9, .int .i64 a0_10, .int .i64 a0_11], .int .i64 x10_3] rfl (by (try simp only [List.map_toArray, List.map_cons, List.map_nil]); first | done | rfl | (simp only [List.length_drop, List.length_take]; rfl) | (simp only [Int.toNat_natCast, Nat.sub_self, List.length_drop, List.length_take]; rfl)) ?_; (with_reducible refine (plan_Place.calls a0_0 a0_1 a0_2 a0_3 a0_4 a0_5 a0_6 a0_7 a0_8 a0_9 a0_10 a0_11 x10_3 t148 t149 t150 _ A34.out).mono ?_); rintro e w70 ⟨rfl, hb⟩; refine ⟨_, rfl, ?_⟩; have n0_ := Aside0.mk (blk_below (g := gb141) (o := .cells #[.int .i64 a0_0, .int .i64 a0_1, .int .i64 a0_2, .int .i64 a0_3, .int .i64 a0_4, .int .i64 a0_5, .int .i64 a0_6, .int .i64 a0_7, .int .i64 a0_8, .int .i64 a0_9, .int .i64 a0_10, .int .i64 a0_11] 24 (0, 0)) (by (with_reducible repeat (first | refine blk_drewN ?_ _ | refine blk_drew ?_ | refine blk_alloc ?_ _)); exact BK141.out) hb); have n1_ := Aside0.mk (below_step (by repeat (first | (with_reducible first | exact HB.out | apply below_alloc | apply pw_below_drewN | apply below_drew1 | refine below_set ?_ GE141.out) | with_reducible_and_instances exact HB.out)) hb); clear BK141; clear HB; have BK141 := n0_; have HB := n1_; clear n0_ n1_; (try clear hb); (try clear hb2); (try clear hk); (try clear hi); have hcz71_0 : w70.cell? ⟨gb141, 0, none⟩ = some (.int .i64 a0_0) := (blk_cell BK141.out 0).trans rfl; have hcz71_1 : w70.cell? ⟨gb141, 1, none⟩ = some (.int .i64 a0_1) := (blk_cell BK141.out 1).trans rfl; have hcz71_2 : w70.cell? ⟨gb141, 2, none⟩ = some (.int .i64 a0_2) := (blk_cell BK141.out 2).trans rfl; have hcz71_3 : w70.cell? ⟨gb141, 3, none⟩ = some (.int .i64 a0_3) := (blk_cell BK141.out 3).trans rfl; have hcz71_4 : w70.cell? ⟨gb141, 4, none⟩ = some (.int .i64 a0_4) := (blk_cell BK141.out 4).trans rfl; have hcz71_5 : w70.cell? ⟨gb141, 5, none⟩ = some (.int .i64 a0_5) := (blk_cell BK141.out 5).trans rfl; have hcz71_6 : w70.cell? ⟨gb141, 6, none⟩ = some (.int .i64 a0_6) := (blk_cell BK141.out 6).trans rfl; have hcz71_7 : w70.cell? ⟨gb141, 7, none⟩ = some (.int .i64 a0_7) := (blk_cell BK141.out 7).trans rfl; have hcz71_8 : w70.cell? ⟨gb141, 8, none⟩ = some (.int .i64 a0_8) := (blk_cell BK141.out 8).trans rfl; have hcz71_9 : w70.cell? ⟨gb141, 9, none⟩ = some (.int .i64 a0_9) := (blk_cell BK141.out 9).trans rfl; have hcz71_10 : w70.cell? ⟨gb141, 10, none⟩ = some (.int .i64 a0_10) := (blk_cell BK141.out 10).trans rfl; have hcz71_11 : w70.cell? ⟨gb141, 11, none⟩ = some (.int .i64 a0_11) := (blk_cell BK141.out 11).trans rfl; have hfz71_0 := blk_frozen BK141.out 0; have hfz71_1 := blk_frozen BK141.out 1; have hfz71_2 := blk_frozen BK141.out 2; have hfz71_3 := blk_frozen BK141.out 3; have hfz71_4 := blk_frozen BK141.out 4; have hfz71_5 := blk_frozen BK141.out 5; have hfz71_6 := blk_frozen BK141.out 6; have hfz71_7 := blk_frozen BK141.out 7; have hfz71_8 := blk_frozen BK141.out 8; have hfz71_9 := blk_frozen BK141.out 9; have hfz71_10 := blk_frozen BK141.out 10; have hfz71_11 := blk_frozen BK141.out 11) | ((with_reducible refine gate_callee (f := 13) rfl ?_); refine goesL_ (some 89) rfl rfl Try.func13 (by kernel_rfl) rfl #[.agg #[.int .i64 a0_0, .int .i64 a0_1, .int .i64 a0_2, .int .i64 a0_3, .int .i64 a0_4, .int .i64 a0_5, .int .i64 a0_6, .int .i64 a0_7, .int .i64 a0_8, .int .i64 a0_9, .int .i64 a0_10, .int .i64 a0_11], .int .i64 t148] rfl (by (try simp only [List.map_toArray, List.map_cons, List.map_nil]); first | done | rfl | (simp only [List.length_drop, List.length_take]; rfl) | (simp only [Int.toNat_natCast, Nat.sub_self, List.length_drop, List.length_take]; rfl)) ?_; (with_reducible refine (plan_Region.calls k3 a0_0 a0_1 a0_2 a0_3 a0_4 a0_5 a0_6 a0_7 a0_8 a0_9 a0_10 a0_11 t148 t151 t152 _ A35.out).mono ?_); rintro e w72 ⟨rfl, hb⟩; refine ⟨_, rfl, ?_⟩; have n0_ := Aside0.mk (blk_below (g := gb141) (o := .cells #[.int .i64 a0_0, .int .i64 a0_1, .int .i64 a0_2, .int .i64 a0_3, .int .i64 a0_4, .int .i64 a0_5, .int .i64 a0_6, .int .i64 a0_7, .int .i64 a0_8, .int .i64 a0_9, .int .i64 a0_10, .int .i64 a0_11] 24 (0, 0)) (by (with_reducible repeat (first | refine blk_drewN ?_ _ | refine blk_drew ?_ | refine blk_alloc ?_ _)); exact BK141.out) hb); have n1_ := Aside0.mk (below_step (by repeat (first | (with_reducible first | exact HB.out | apply below_alloc | apply pw_below_drewN | apply below_drew1 | refine below_set ?_ GE141.out) | with_reducible_and_instances exact HB.out)) hb); clear BK141; clear HB; have BK141 := n0_; have HB := n1_; clear n0_ n1_; (try clear hb); (try clear hb2); (try clear hk); (try clear hi)))
                            go_ret
                            exact ⟨by first | rfl | (simp [errW_none, errW_some] <;> rfl) | (simp [*, errW_none, errW_some] <;> rfl), by repeat (first | (with_reducible first | exact HB.out | apply below_alloc | apply pw_below_drewN | apply below_drew1 | refine below_set ?_ GE141.out) | with_reducible_and_instances exact HB.out)⟩
                        · rw [if_neg c33] at H
                          have c33b0 : decide (x10_3 < a0_2) = false := decide_eq_false c33
                          clear c33
                          obtain rfl := Option.some.inj H
                          have hcz73_0 : wr.cell? ⟨gb141, 0, none⟩ = some (.int .i64 a0_0) := (blk_cell BK141.out 0).trans rfl
                          have hcz73_1 : wr.cell? ⟨gb141, 1, none⟩ = some (.int .i64 a0_1) := (blk_cell BK141.out 1).trans rfl
                          have hcz73_2 : wr.cell? ⟨gb141, 2, none⟩ = some (.int .i64 a0_2) := (blk_cell BK141.out 2).trans rfl
                          have hcz73_3 : wr.cell? ⟨gb141, 3, none⟩ = some (.int .i64 a0_3) := (blk_cell BK141.out 3).trans rfl
                          have hcz73_4 : wr.cell? ⟨gb141, 4, none⟩ = some (.int .i64 a0_4) := (blk_cell BK141.out 4).trans rfl
                          have hcz73_5 : wr.cell? ⟨gb141, 5, none⟩ = some (.int .i64 a0_5) := (blk_cell BK141.out 5).trans rfl
                          have hcz73_6 : wr.cell? ⟨gb141, 6, none⟩ = some (.int .i64 a0_6) := (blk_cell BK141.out 6).trans rfl
                          have hcz73_7 : wr.cell? ⟨gb141, 7, none⟩ = some (.int .i64 a0_7) := (blk_cell BK141.out 7).trans rfl
                          have hcz73_8 : wr.cell? ⟨gb141, 8, none⟩ = some (.int .i64 a0_8) := (blk_cell BK141.out 8).trans rfl
                          have hcz73_9 : wr.cell? ⟨gb141, 9, none⟩ = some (.int .i64 a0_9) := (blk_cell BK141.out 9).trans rfl
                          have hcz73_10 : wr.cell? ⟨gb141, 10, none⟩ = some (.int .i64 a0_10) := (blk_cell BK141.out 10).trans rfl
                          have hcz73_11 : wr.cell? ⟨gb141, 11, none⟩ = some (.int .i64 a0_11) := (blk_cell BK141.out 11).trans rfl
                          have hfz73_0 := blk_frozen BK141.out 0
                          have hfz73_1 := blk_frozen BK141.out 1
                          have hfz73_2 := blk_frozen BK141.out 2
                          have hfz73_3 := blk_frozen BK141.out 3
                          have hfz73_4 := blk_frozen BK141.out 4
                          have hfz73_5 := blk_frozen BK141.out 5
                          have hfz73_6 := blk_frozen BK141.out 6
                          have hfz73_7 := blk_frozen BK141.out 7
                          have hfz73_8 := blk_frozen BK141.out 8
                          have hfz73_9 := blk_frozen BK141.out 9
                          have hfz73_10 := blk_frozen BK141.out 10
                          have hfz73_11 := blk_frozen BK141.out 11
                          go_wp2
                          go_ret
                          exact ⟨by first | rfl | (simp [errW_none, errW_some] <;> rfl) | (simp [*, errW_none, errW_some] <;> rfl), by repeat (first | (with_reducible first | exact HB.out | apply below_alloc | apply pw_below_drewN | apply below_drew1 | refine below_set ?_ GE141.out) | with_reducible_and_instances exact HB.out)⟩
                  · rw [if_neg c31] at H
                    have c31b0 : (x5_2 == 6) = false := beq_eq_false_iff_ne.mpr c31
                    have c31b1 : (x5_2 != 6) = true := bne_iff_ne.mpr c31
                    obtain rfl := Option.some.inj H
                    have hcz74_0 : wr.cell? ⟨gb141, 0, none⟩ = some (.int .i64 a0_0) := (blk_cell BK141.out 0).trans rfl
                    have hcz74_1 : wr.cell? ⟨gb141, 1, none⟩ = some (.int .i64 a0_1) := (blk_cell BK141.out 1).trans rfl
                    have hcz74_2 : wr.cell? ⟨gb141, 2, none⟩ = some (.int .i64 a0_2) := (blk_cell BK141.out 2).trans rfl
                    have hcz74_3 : wr.cell? ⟨gb141, 3, none⟩ = some (.int .i64 a0_3) := (blk_cell BK141.out 3).trans rfl
                    have hcz74_4 : wr.cell? ⟨gb141, 4, none⟩ = some (.int .i64 a0_4) := (blk_cell BK141.out 4).trans rfl
                    have hcz74_5 : wr.cell? ⟨gb141, 5, none⟩ = some (.int .i64 a0_5) := (blk_cell BK141.out 5).trans rfl
                    have hcz74_6 : wr.cell? ⟨gb141, 6, none⟩ = some (.int .i64 a0_6) := (blk_cell BK141.out 6).trans rfl
                    have hcz74_7 : wr.cell? ⟨gb141, 7, none⟩ = some (.int .i64 a0_7) := (blk_cell BK141.out 7).trans rfl
                    have hcz74_8 : wr.cell? ⟨gb141, 8, none⟩ = some (.int .i64 a0_8) := (blk_cell BK141.out 8).trans rfl
                    have hcz74_9 : wr.cell? ⟨gb141, 9, none⟩ = some (.int .i64 a0_9) := (blk_cell BK141.out 9).trans rfl
                    have hcz74_10 : wr.cell? ⟨gb141, 10, none⟩ = some (.int .i64 a0_10) := (blk_cell BK141.out 10).trans rfl
                    have hcz74_11 : wr.cell? ⟨gb141, 11, none⟩ = some (.int .i64 a0_11) := (blk_cell BK141.out 11).trans rfl
                    have hfz74_0 := blk_frozen BK141.out 0
                    have hfz74_1 := blk_frozen BK141.out 1
                    have hfz74_2 := blk_frozen BK141.out 2
                    have hfz74_3 := blk_frozen BK141.out 3
                    have hfz74_4 := blk_frozen BK141.out 4
                    have hfz74_5 := blk_frozen BK141.out 5
                    have hfz74_6 := blk_frozen BK141.out 6
                    have hfz74_7 := blk_frozen BK141.out 7
                    have hfz74_8 := blk_frozen BK141.out 8
                    have hfz74_9 := blk_frozen BK141.out 9
                    have hfz74_10 := blk_frozen BK141.out 10
                    have hfz74_11 := blk_frozen BK141.out 11
                    go_wp2
                    go_ret
                    exact ⟨by first | rfl | (simp [errW_none, errW_some] <;> rfl) | (simp [*, errW_none, errW_some] <;> rfl), by repeat (first | (with_reducible first | exact HB.out | apply below_alloc | apply pw_below_drewN | apply below_drew1 | refine below_set ?_ GE141.out) | with_reducible_and_instances exact HB.out)⟩
    · rw [if_neg c5] at H
      have c5b0 : (t143 == 0) = false := beq_eq_false_iff_ne.mpr c5
      have c5b1 : (t143 != 0) = true := bne_iff_ne.mpr c5
      replace H := Option.bind_eq_some_iff.mp H
      obtain ⟨⟨t144, t145⟩, A750, H⟩ := H
      replace H : (some (t145 == 4)) = some r := H
      have A75 := Aside0.mk A750
      clear A750
      obtain rfl := Option.some.inj H
      go_enter Try.func5, Try.ntmps5
      go_wp2_with (first | ((with_reducible refine gate_dst (N := 1) rfl ?_); refine box_event ?hg (N := 1) ?hd (cs := #[.int .i64 a0_0, .int .i64 a0_1, .int .i64 a0_2, .int .i64 a0_3, .int .i64 a0_4, .int .i64 a0_5, .int .i64 a0_6, .int .i64 a0_7, .int .i64 a0_8, .int .i64 a0_9, .int .i64 a0_10, .int .i64 a0_11]) (t := 24) ?hr ?_; (case hd => rfl); (case hg => rfl); (case hr => first | (go_simp; done) | (go_simp; rfl)); intro gb141 hg w76 hbox hb; have n0_ := Aside0.mk (below_step (by repeat (first | (with_reducible first | exact HB.out | apply below_alloc | apply pw_below_drewN | apply below_drew1) | with_reducible_and_instances exact HB.out)) hb); have n1_ := Aside0.mk (hbox); have n2_ := Aside0.mk ((by rw [hg]; exact (below_size (by repeat (first | (with_reducible first | exact HB.out | apply below_alloc | apply pw_below_drewN | apply below_drew1) | with_reducible_and_instances exact HB.out))) : w.heap.size ≤ gb141)); have n3_ := Aside0.mk ((by rw [hg]; exact (below_size (by repeat (first | (with_reducible first | exact HB.out | apply below_alloc | apply pw_below_drewN | apply below_drew1) | with_reducible_and_instances exact HB.out))) : w.heap.size ≤ gb141)); clear HB; have HB := n0_; have BK141 := n1_; have GW141 := n2_; have GE141 := n3_; clear n0_ n1_ n2_ n3_; clear hb hbox hg) | ((with_reducible refine gate_callee (f := 8) rfl ?_); refine goesL_ (some 16) rfl rfl Try.func8 (by kernel_rfl) rfl #[] rfl (by (try simp only [List.map_toArray, List.map_cons, List.map_nil]); first | done | rfl | (simp only [List.length_drop, List.length_take]; rfl) | (simp only [Int.toNat_natCast, Nat.sub_self, List.length_drop, List.length_take]; rfl)) ?_; (with_reducible refine (skerrylaw05_wakes.calls  true _ A2.out).mono ?_); rintro e w77 ⟨rfl, hb⟩; refine ⟨_, rfl, ?_⟩; have n0_ := Aside0.mk (blk_below (g := gb141) (o := .cells #[.int .i64 a0_0, .int .i64 a0_1, .int .i64 a0_2, .int .i64 a0_3, .int .i64 a0_4, .int .i64 a0_5, .int .i64 a0_6, .int .i64 a0_7, .int .i64 a0_8, .int .i64 a0_9, .int .i64 a0_10, .int .i64 a0_11] 24 (0, 0)) (by (with_reducible repeat (first | refine blk_drewN ?_ _ | refine blk_drew ?_ | refine blk_alloc ?_ _)); exact BK141.out) hb); have n1_ := Aside0.mk (below_step (by repeat (first | (with_reducible first | exact HB.out | apply below_alloc | apply pw_below_drewN | apply below_drew1 | refine below_set ?_ GE141.out) | with_reducible_and_instances exact HB.out)) hb); clear BK141; clear HB; have BK141 := n0_; have HB := n1_; clear n0_ n1_; (try clear hb); (try clear hb2); (try clear hk); (try clear hi); have hcz78_0 : w77.cell? ⟨gb141, 0, none⟩ = some (.int .i64 a0_0) := (blk_cell BK141.out 0).trans rfl; have hcz78_1 : w77.cell? ⟨gb141, 1, none⟩ = some (.int .i64 a0_1) := (blk_cell BK141.out 1).trans rfl; have hcz78_2 : w77.cell? ⟨gb141, 2, none⟩ = some (.int .i64 a0_2) := (blk_cell BK141.out 2).trans rfl; have hcz78_3 : w77.cell? ⟨gb141, 3, none⟩ = some (.int .i64 a0_3) := (blk_cell BK141.out 3).trans rfl; have hcz78_4 : w77.cell? ⟨gb141, 4, none⟩ = some (.int .i64 a0_4) := (blk_cell BK141.out 4).trans rfl; have hcz78_5 : w77.cell? ⟨gb141, 5, none⟩ = some (.int .i64 a0_5) := (blk_cell BK141.out 5).trans rfl; have hcz78_6 : w77.cell? ⟨gb141, 6, none⟩ = some (.int .i64 a0_6) := (blk_cell BK141.out 6).trans rfl; have hcz78_7 : w77.cell? ⟨gb141, 7, none⟩ = some (.int .i64 a0_7) := (blk_cell BK141.out 7).trans rfl; have hcz78_8 : w77.cell? ⟨gb141, 8, none⟩ = some (.int .i64 a0_8) := (blk_cell BK141.out 8).trans rfl; have hcz78_9 : w77.cell? ⟨gb141, 9, none⟩ = some (.int .i64 a0_9) := (blk_cell BK141.out 9).trans rfl; have hcz78_10 : w77.cell? ⟨gb141, 10, none⟩ = some (.int .i64 a0_10) := (blk_cell BK141.out 10).trans rfl; have hcz78_11 : w77.cell? ⟨gb141, 11, none⟩ = some (.int .i64 a0_11) := (blk_cell BK141.out 11).trans rfl; have hfz78_0 := blk_frozen BK141.out 0; have hfz78_1 := blk_frozen BK141.out 1; have hfz78_2 := blk_frozen BK141.out 2; have hfz78_3 := blk_frozen BK141.out 3; have hfz78_4 := blk_frozen BK141.out 4; have hfz78_5 := blk_frozen BK141.out 5; have hfz78_6 := blk_frozen BK141.out 6; have hfz78_7 := blk_frozen BK141.out 7; have hfz78_8 := blk_frozen BK141.out 8; have hfz78_9 := blk_frozen BK141.out 9; have hfz78_10 := blk_frozen BK141.out 10; have hfz78_11 := blk_frozen BK141.out 11) | ((with_reducible refine gate_callee (f := 15) rfl ?_); refine goesL_ (some 19) rfl rfl Try.func15 (by kernel_rfl) rfl #[.agg #[.int .i64 a0_0, .int .i64 a0_1, .int .i64 a0_2, .int .i64 a0_3, .int .i64 a0_4, .int .i64 a0_5, .int .i64 a0_6, .int .i64 a0_7, .int .i64 a0_8, .int .i64 a0_9, .int .i64 a0_10, .int .i64 a0_11]] rfl (by (try simp only [List.map_toArray, List.map_cons, List.map_nil]); first | done | rfl | (simp only [List.length_drop, List.length_take]; rfl) | (simp only [Int.toNat_natCast, Nat.sub_self, List.length_drop, List.length_take]; rfl)) ?_; (with_reducible refine (plan_Check.calls a0_0 a0_1 a0_2 a0_3 a0_4 a0_5 a0_6 a0_7 a0_8 a0_9 a0_10 a0_11 t143 _ A4.out).mono ?_); rintro e w79 ⟨rfl, hb⟩; refine ⟨_, rfl, ?_⟩; have n0_ := Aside0.mk (blk_below (g := gb141) (o := .cells #[.int .i64 a0_0, .int .i64 a0_1, .int .i64 a0_2, .int .i64 a0_3, .int .i64 a0_4, .int .i64 a0_5, .int .i64 a0_6, .int .i64 a0_7, .int .i64 a0_8, .int .i64 a0_9, .int .i64 a0_10, .int .i64 a0_11] 24 (0, 0)) (by (with_reducible repeat (first | refine blk_drewN ?_ _ | refine blk_drew ?_ | refine blk_alloc ?_ _)); exact BK141.out) hb); have n1_ := Aside0.mk (below_step (by repeat (first | (with_reducible first | exact HB.out | apply below_alloc | apply pw_below_drewN | apply below_drew1 | refine below_set ?_ GE141.out) | with_reducible_and_instances exact HB.out)) hb); clear BK141; clear HB; have BK141 := n0_; have HB := n1_; clear n0_ n1_; (try clear hb); (try clear hb2); (try clear hk); (try clear hi); have hcz80_0 : w79.cell? ⟨gb141, 0, none⟩ = some (.int .i64 a0_0) := (blk_cell BK141.out 0).trans rfl; have hcz80_1 : w79.cell? ⟨gb141, 1, none⟩ = some (.int .i64 a0_1) := (blk_cell BK141.out 1).trans rfl; have hcz80_2 : w79.cell? ⟨gb141, 2, none⟩ = some (.int .i64 a0_2) := (blk_cell BK141.out 2).trans rfl; have hcz80_3 : w79.cell? ⟨gb141, 3, none⟩ = some (.int .i64 a0_3) := (blk_cell BK141.out 3).trans rfl; have hcz80_4 : w79.cell? ⟨gb141, 4, none⟩ = some (.int .i64 a0_4) := (blk_cell BK141.out 4).trans rfl; have hcz80_5 : w79.cell? ⟨gb141, 5, none⟩ = some (.int .i64 a0_5) := (blk_cell BK141.out 5).trans rfl; have hcz80_6 : w79.cell? ⟨gb141, 6, none⟩ = some (.int .i64 a0_6) := (blk_cell BK141.out 6).trans rfl; have hcz80_7 : w79.cell? ⟨gb141, 7, none⟩ = some (.int .i64 a0_7) := (blk_cell BK141.out 7).trans rfl; have hcz80_8 : w79.cell? ⟨gb141, 8, none⟩ = some (.int .i64 a0_8) := (blk_cell BK141.out 8).trans rfl; have hcz80_9 : w79.cell? ⟨gb141, 9, none⟩ = some (.int .i64 a0_9) := (blk_cell BK141.out 9).trans rfl; have hcz80_10 : w79.cell? ⟨gb141, 10, none⟩ = some (.int .i64 a0_10) := (blk_cell BK141.out 10).trans rfl; have hcz80_11 : w79.cell? ⟨gb141, 11, none⟩ = some (.int .i64 a0_11) := (blk_cell BK141.out 11).trans rfl; have hfz80_0 := blk_frozen BK141.out 0; have hfz80_1 := blk_frozen BK141.out 1; have hfz80_2 := blk_frozen BK141.out 2; have hfz80_3 := blk_frozen BK141.out 3; have hfz80_4 := blk_frozen BK141.out 4; have hfz80_5 := blk_frozen BK141.out 5; have hfz80_6 := blk_frozen BK141.out 6; have hfz80_7 := blk_frozen BK141.out 7; have hfz80_8 := blk_frozen BK141.out 8; have hfz80_9 := blk_frozen BK141.out 9; have hfz80_10 := blk_frozen BK141.out 10; have hfz80_11 := blk_frozen BK141.out 11) | ((with_reducible refine gate_callee (f := 13) rfl ?_); refine goesL_ (some 23) rfl rfl Try.func13 (by kernel_rfl) rfl #[.agg #[.int .i64 a0_0, .int .i64 a0_1, .int .i64 a0_2, .int .i64 a0_3, .int .i64 a0_4, .int .i64 a0_5, .int .i64 a0_6, .int .i64 a0_7, .int .i64 a0_8, .int .i64 a0_9, .int .i64 a0_10, .int .i64 a0_11], .int .i64 0] rfl (by (try simp only [List.map_toArray, List.map_cons, List.map_nil]); first | done | rfl | (simp only [List.length_drop, List.length_take]; rfl) | (simp only [Int.toNat_natCast, Nat.sub_self, List.length_drop, List.length_take]; rfl)) ?_; (with_reducible refine (plan_Region.calls k a0_0 a0_1 a0_2 a0_3 a0_4 a0_5 a0_6 a0_7 a0_8 a0_9 a0_10 a0_11 0 t144 t145 _ A75.out).mono ?_); rintro e w81 ⟨rfl, hb⟩; refine ⟨_, rfl, ?_⟩; have n0_ := Aside0.mk (blk_below (g := gb141) (o := .cells #[.int .i64 a0_0, .int .i64 a0_1, .int .i64 a0_2, .int .i64 a0_3, .int .i64 a0_4, .int .i64 a0_5, .int .i64 a0_6, .int .i64 a0_7, .int .i64 a0_8, .int .i64 a0_9, .int .i64 a0_10, .int .i64 a0_11] 24 (0, 0)) (by (with_reducible repeat (first | refine blk_drewN ?_ _ | refine blk_drew ?_ | refine blk_alloc ?_ _)); exact BK141.out) hb); have n1_ := Aside0.mk (below_step (by repeat (first | (with_reducible first | exact HB.out | apply below_alloc | apply pw_below_drewN | apply below_drew1 | refine below_set ?_ GE141.out) | with_reducible_and_instances exact HB.out)) hb); clear BK141; clear HB; have BK141 := n0_; have HB := n1_; clear n0_ n1_; (try clear hb); (try clear hb2); (try clear hk); (try clear hi)))
      go_ret
      exact ⟨by first | rfl | (simp [errW_none, errW_some] <;> rfl) | (simp [*, errW_none, errW_some] <;> rfl), by repeat (first | (with_reducible first | exact HB.out | apply below_alloc | apply pw_below_drewN | apply below_drew1 | refine below_set ?_ GE141.out) | with_reducible_and_instances exact HB.out)⟩
  · replace c3 := Bool.eq_false_iff.mpr c3
    subst c3
    have H1 : (some false) = some r := by rw [if_neg (show ¬ (false = true) by decide)] at H; exact H
    clear H
    have H := H1
    clear H1
    obtain rfl := Option.some.inj H
    go_enter Try.func5, Try.ntmps5
    go_wp2_with (first | ((with_reducible refine gate_dst (N := 1) rfl ?_); refine box_event ?hg (N := 1) ?hd (cs := #[.int .i64 a0_0, .int .i64 a0_1, .int .i64 a0_2, .int .i64 a0_3, .int .i64 a0_4, .int .i64 a0_5, .int .i64 a0_6, .int .i64 a0_7, .int .i64 a0_8, .int .i64 a0_9, .int .i64 a0_10, .int .i64 a0_11]) (t := 24) ?hr ?_; (case hd => rfl); (case hg => rfl); (case hr => first | (go_simp; done) | (go_simp; rfl)); intro gb141 hg w82 hbox hb; have n0_ := Aside0.mk (below_step (by repeat (first | (with_reducible first | exact HB.out | apply below_alloc | apply pw_below_drewN | apply below_drew1) | with_reducible_and_instances exact HB.out)) hb); have n1_ := Aside0.mk (hbox); have n2_ := Aside0.mk ((by rw [hg]; exact (below_size (by repeat (first | (with_reducible first | exact HB.out | apply below_alloc | apply pw_below_drewN | apply below_drew1) | with_reducible_and_instances exact HB.out))) : w.heap.size ≤ gb141)); have n3_ := Aside0.mk ((by rw [hg]; exact (below_size (by repeat (first | (with_reducible first | exact HB.out | apply below_alloc | apply pw_below_drewN | apply below_drew1) | with_reducible_and_instances exact HB.out))) : w.heap.size ≤ gb141)); clear HB; have HB := n0_; have BK141 := n1_; have GW141 := n2_; have GE141 := n3_; clear n0_ n1_ n2_ n3_; clear hb hbox hg) | ((with_reducible refine gate_callee (f := 8) rfl ?_); refine goesL_ (some 16) rfl rfl Try.func8 (by kernel_rfl) rfl #[] rfl (by (try simp only [List.map_toArray, List.map_cons, List.map_nil]); first | done | rfl | (simp only [List.length_drop, List.length_take]; rfl) | (simp only [Int.toNat_natCast, Nat.sub_self, List.length_drop, List.length_take]; rfl)) ?_; (with_reducible refine (skerrylaw05_wakes.calls  false _ A2.out).mono ?_); rintro e w83 ⟨rfl, hb⟩; refine ⟨_, rfl, ?_⟩; have n0_ := Aside0.mk (blk_below (g := gb141) (o := .cells #[.int .i64 a0_0, .int .i64 a0_1, .int .i64 a0_2, .int .i64 a0_3, .int .i64 a0_4, .int .i64 a0_5, .int .i64 a0_6, .int .i64 a0_7, .int .i64 a0_8, .int .i64 a0_9, .int .i64 a0_10, .int .i64 a0_11] 24 (0, 0)) (by (with_reducible repeat (first | refine blk_drewN ?_ _ | refine blk_drew ?_ | refine blk_alloc ?_ _)); exact BK141.out) hb); have n1_ := Aside0.mk (below_step (by repeat (first | (with_reducible first | exact HB.out | apply below_alloc | apply pw_below_drewN | apply below_drew1 | refine below_set ?_ GE141.out) | with_reducible_and_instances exact HB.out)) hb); clear BK141; clear HB; have BK141 := n0_; have HB := n1_; clear n0_ n1_; (try clear hb); (try clear hb2); (try clear hk); (try clear hi)))
    go_ret
    exact ⟨by first | rfl | (simp [errW_none, errW_some] <;> rfl) | (simp [*, errW_none, errW_some] <;> rfl), by repeat (first | (with_reducible first | exact HB.out | apply below_alloc | apply pw_below_drewN | apply below_drew1 | refine below_set ?_ GE141.out) | with_reducible_and_instances exact HB.out)⟩

/-- THE ONE PURE STATEMENT of skerrylaw05_PlanCovers. -/
def skerrylaw05_PlanCovers.Pure : Prop := ∀ (a0_0 : Int) (a0_1 : Int) (a0_2 : Int) (a0_3 : Int) (a0_4 : Int) (a0_5 : Int) (a0_6 : Int) (a0_7 : Int) (a0_8 : Int) (a0_9 : Int) (a0_10 : Int) (a0_11 : Int), (Lit.int .i64 a0_0).wf = true → (Lit.int .i64 a0_1).wf = true → (Lit.int .i64 a0_2).wf = true → (Lit.int .i64 a0_3).wf = true → (Lit.int .i64 a0_4).wf = true → (Lit.int .i64 a0_5).wf = true → (Lit.int .i64 a0_6).wf = true → (Lit.int .i64 a0_7).wf = true → (Lit.int .i64 a0_8).wf = true → (Lit.int .i64 a0_9).wf = true → (Lit.int .i64 a0_10).wf = true → (Lit.int .i64 a0_11).wf = true → ∃ k, skerrylaw05_PlanCovers.f k a0_0 a0_1 a0_2 a0_3 a0_4 a0_5 a0_6 a0_7 a0_8 a0_9 a0_10 a0_11 = some true
theorem skerrylaw05_PlanCovers.walk (P : skerrylaw05_PlanCovers.Pure) (a0_0 : Int) (a0_1 : Int) (a0_2 : Int) (a0_3 : Int) (a0_4 : Int) (a0_5 : Int) (a0_6 : Int) (a0_7 : Int) (a0_8 : Int) (a0_9 : Int) (a0_10 : Int) (a0_11 : Int) (w : World) (w0_0 : (Lit.int .i64 a0_0).wf = true) (w0_1 : (Lit.int .i64 a0_1).wf = true) (w0_2 : (Lit.int .i64 a0_2).wf = true) (w0_3 : (Lit.int .i64 a0_3).wf = true) (w0_4 : (Lit.int .i64 a0_4).wf = true) (w0_5 : (Lit.int .i64 a0_5).wf = true) (w0_6 : (Lit.int .i64 a0_6).wf = true) (w0_7 : (Lit.int .i64 a0_7).wf = true) (w0_8 : (Lit.int .i64 a0_8).wf = true) (w0_9 : (Lit.int .i64 a0_9).wf = true) (w0_10 : (Lit.int .i64 a0_10).wf = true) (w0_11 : (Lit.int .i64 a0_11).wf = true) :
    Calls Try.prog 5 #[.agg #[.int .i64 a0_0, .int .i64 a0_1, .int .i64 a0_2, .int .i64 a0_3, .int .i64 a0_4, .int .i64 a0_5, .int .i64 a0_6, .int .i64 a0_7, .int .i64 a0_8, .int .i64 a0_9, .int .i64 a0_10, .int .i64 a0_11]] w fun e w' => e = .returned (.bool true) ∧ Below w.heap.size w w' := by
  obtain ⟨k, h⟩ := P a0_0 a0_1 a0_2 a0_3 a0_4 a0_5 a0_6 a0_7 a0_8 a0_9 a0_10 a0_11 w0_0 w0_1 w0_2 w0_3 w0_4 w0_5 w0_6 w0_7 w0_8 w0_9 w0_10 w0_11
  refine (skerrylaw05_PlanCovers.calls k a0_0 a0_1 a0_2 a0_3 a0_4 a0_5 a0_6 a0_7 a0_8 a0_9 a0_10 a0_11 true w h).mono ?_
  rintro e w' ⟨rfl, hd⟩
  exact ⟨rfl, hd⟩

end Go.Proofs.Ytobkdcokickodaa.PPlanCovers
