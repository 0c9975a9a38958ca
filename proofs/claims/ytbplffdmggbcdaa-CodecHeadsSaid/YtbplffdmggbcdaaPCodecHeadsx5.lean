-- Written by this session's own tool (prn.py) over the kit's printer; its templates are the session's own. Lean checks it.
import Derived.Test.YtbplffdmggbcdaaPCodecHeadsx0
import Derived.Test.YtbplffdmggbcdaaPCodecHeadsx1
import Derived.Test.YtbplffdmggbcdaaPCodecHeadsx4
namespace Go.Proofs.Ytbplffdmggbcdaa.PCodecHeads
open Go.RowKit Go.Proofs.YtbplffdmggbcdaaW.PrintWords Go.Proofs.YtbplffdmggbcdaaW.PrintLast Go.Proofs.YtbplffdmggbcdaaW.PrintMore
attribute [local go_sem] max2_int min2_int max_two min_two max_three min_three max_four min_four   -- for this text's walks alone
set_option linter.unusedVariables false
set_option linter.unusedSimpArgs false

attribute [local go_sem high] eqA37
/-! ### skerryref05_Check: function 34 -/
def skerryref05_Check.f (k : Nat) (a0_0 : Int) (a0_1 : Int) (a0_2 : Int) (a0_3 : Int) (a0_4 : Int) (a0_5 : Int) (a0_6 : Int) (a0_7 : Int) (a0_8 : Int) (a0_9 : Int) (a0_10 : Int) (a0_11 : Int) : Option (Int) := (skerryref05_Make.f k a0_0 a0_1 a0_2 a0_3).bind fun bt140 => (if bt140.2.2.2.2.2.2.2.2.2.2.2.2 = 0 then (if (!(a0_0 == bt140.1) || (!(a0_1 == bt140.2.1) || (!(a0_2 == bt140.2.2.1) || (!(a0_3 == bt140.2.2.2.1) || (!(a0_4 == bt140.2.2.2.2.1) || (!(a0_5 == bt140.2.2.2.2.2.1) || (!(a0_6 == bt140.2.2.2.2.2.2.1) || (!(a0_7 == bt140.2.2.2.2.2.2.2.1) || (!(a0_8 == bt140.2.2.2.2.2.2.2.2.1) || (!(a0_9 == bt140.2.2.2.2.2.2.2.2.2.1) || (!(a0_10 == bt140.2.2.2.2.2.2.2.2.2.2.1) || (!(a0_11 == bt140.2.2.2.2.2.2.2.2.2.2.2.1))))))))))))) = true then (some 4) else (some 0)) else (some 4))
theorem skerryref05_Check.mono : ∀ a0 a1 a2 a3 a4 a5 a6 a7 a8 a9 a10 a11 k, LeO (skerryref05_Check.f k a0 a1 a2 a3 a4 a5 a6 a7 a8 a9 a10 a11) (skerryref05_Check.f (k + 1) a0 a1 a2 a3 a4 a5 a6 a7 a8 a9 a10 a11) := by
  intro a0 a1 a2 a3 a4 a5 a6 a7 a8 a9 a10 a11 k
  unfold skerryref05_Check.f
  repeat' first
      | (with_reducible exact skerryref05_Make.mono _ _ _ _ _)
      | (with_reducible exact LeO.refl _)
      | (with_reducible exact LeO.none _)
      | (with_reducible refine LeO.ite ?_ ?_)
      | (with_reducible refine LeO.bind ?_ (fun _ => ?_))
      | exact skerryref05_Make.mono _ _ _ _ _
      | exact LeO.none _
      | refine LeO.ite ?_ ?_
      | refine LeO.bind ?_ (fun _ => ?_)
set_option maxHeartbeats 8000000 in
set_option maxRecDepth 100000 in
theorem skerryref05_Check.calls (k : Nat) (a0_0 : Int) (a0_1 : Int) (a0_2 : Int) (a0_3 : Int) (a0_4 : Int) (a0_5 : Int) (a0_6 : Int) (a0_7 : Int) (a0_8 : Int) (a0_9 : Int) (a0_10 : Int) (a0_11 : Int) (r : Int) (w : World) (h : skerryref05_Check.f k a0_0 a0_1 a0_2 a0_3 a0_4 a0_5 a0_6 a0_7 a0_8 a0_9 a0_10 a0_11 = some r) :
    Calls Try.prog 34 #[.agg #[.int .i64 a0_0, .int .i64 a0_1, .int .i64 a0_2, .int .i64 a0_3, .int .i64 a0_4, .int .i64 a0_5, .int .i64 a0_6, .int .i64 a0_7, .int .i64 a0_8, .int .i64 a0_9, .int .i64 a0_10, .int .i64 a0_11]] w fun e w' => e = .returned (.int .i64 r) ∧ Below w.heap.size w w' := by
  have hu37 := Try.underlying37
  have HB := Aside0.mk (Below.refl w.heap.size w)
  have H : ((skerryref05_Make.f k a0_0 a0_1 a0_2 a0_3).bind fun bt140 => (if bt140.2.2.2.2.2.2.2.2.2.2.2.2 = 0 then (if (!(a0_0 == bt140.1) || (!(a0_1 == bt140.2.1) || (!(a0_2 == bt140.2.2.1) || (!(a0_3 == bt140.2.2.2.1) || (!(a0_4 == bt140.2.2.2.2.1) || (!(a0_5 == bt140.2.2.2.2.2.1) || (!(a0_6 == bt140.2.2.2.2.2.2.1) || (!(a0_7 == bt140.2.2.2.2.2.2.2.1) || (!(a0_8 == bt140.2.2.2.2.2.2.2.2.1) || (!(a0_9 == bt140.2.2.2.2.2.2.2.2.2.1) || (!(a0_10 == bt140.2.2.2.2.2.2.2.2.2.2.1) || (!(a0_11 == bt140.2.2.2.2.2.2.2.2.2.2.2.1))))))))))))) = true then (some 4) else (some 0)) else (some 4))) = some r := h
  clear h
  replace H := Option.bind_eq_some_iff.mp H
  obtain ⟨⟨t140, t141, t142, t143, t144, t145, t146, t147, t148, t149, t150, t151, t152⟩, A20, H⟩ := H
  replace H : (if t152 = 0 then (if (!(a0_0 == t140) || (!(a0_1 == t141) || (!(a0_2 == t142) || (!(a0_3 == t143) || (!(a0_4 == t144) || (!(a0_5 == t145) || (!(a0_6 == t146) || (!(a0_7 == t147) || (!(a0_8 == t148) || (!(a0_9 == t149) || (!(a0_10 == t150) || (!(a0_11 == t151))))))))))))) = true then (some 4) else (some 0)) else (some 4)) = some r := H
  have A2 := Aside0.mk A20
  clear A20
  by_cases c3 : t152 = 0
  · rw [if_pos c3] at H
    have c3b0 : (t152 == 0) = true := beq_iff_eq.mpr c3
    have c3b1 : (t152 != 0) = false := bne_eq_false_iff_eq.mpr c3
    clear c3
    by_cases c4 : (!(a0_0 == t140) || (!(a0_1 == t141) || (!(a0_2 == t142) || (!(a0_3 == t143) || (!(a0_4 == t144) || (!(a0_5 == t145) || (!(a0_6 == t146) || (!(a0_7 == t147) || (!(a0_8 == t148) || (!(a0_9 == t149) || (!(a0_10 == t150) || (!(a0_11 == t151))))))))))))) = true
    · rw [if_pos c4] at H
      have c4b0 : (!(a0_0 == t140) || (!(a0_1 == t141) || (!(a0_2 == t142) || (!(a0_3 == t143) || (!(a0_4 == t144) || (!(a0_5 == t145) || (!(a0_6 == t146) || (!(a0_7 == t147) || (!(a0_8 == t148) || (!(a0_9 == t149) || (!(a0_10 == t150) || (!(a0_11 == t151))))))))))))) = true := c4
      clear c4
      obtain rfl := Option.some.inj H
      go_enter Try.func34, Try.ntmps34
      go_wp2_with (first | ((with_reducible refine gate_dst (N := 1) rfl ?_); refine box_event ?hg (N := 1) ?hd (cs := #[.int .i64 a0_0, .int .i64 a0_1, .int .i64 a0_2, .int .i64 a0_3, .int .i64 a0_4, .int .i64 a0_5, .int .i64 a0_6, .int .i64 a0_7, .int .i64 a0_8, .int .i64 a0_9, .int .i64 a0_10, .int .i64 a0_11]) (t := 37) ?hr ?_; (case hd => rfl); (case hg => rfl); (case hr => first | (go_simp; done) | (go_simp; rfl)); intro gb139 hg w5 hbox hb; have n0_ := Aside0.mk (below_step (by repeat (first | (with_reducible first | exact HB.out | apply below_alloc | apply pw_below_drewN | apply below_drew1) | with_reducible_and_instances exact HB.out)) hb); have n1_ := Aside0.mk (hbox); have n2_ := Aside0.mk ((by rw [hg]; exact (below_size (by repeat (first | (with_reducible first | exact HB.out | apply below_alloc | apply pw_below_drewN | apply below_drew1) | with_reducible_and_instances exact HB.out))) : w.heap.size ≤ gb139)); have n3_ := Aside0.mk ((by rw [hg]; exact (below_size (by repeat (first | (with_reducible first | exact HB.out | apply below_alloc | apply pw_below_drewN | apply below_drew1) | with_reducible_and_instances exact HB.out))) : w.heap.size ≤ gb139)); clear HB; have HB := n0_; have BK139 := n1_; have GW139 := n2_; have GE139 := n3_; clear n0_ n1_ n2_ n3_; clear hb hbox hg; have hcz6_0 : w5.cell? ⟨gb139, 0, none⟩ = some (.int .i64 a0_0) := (blk_cell BK139.out 0).trans rfl; have hcz6_1 : w5.cell? ⟨gb139, 1, none⟩ = some (.int .i64 a0_1) := (blk_cell BK139.out 1).trans rfl; have hcz6_2 : w5.cell? ⟨gb139, 2, none⟩ = some (.int .i64 a0_2) := (blk_cell BK139.out 2).trans rfl; have hcz6_3 : w5.cell? ⟨gb139, 3, none⟩ = some (.int .i64 a0_3) := (blk_cell BK139.out 3).trans rfl; have hcz6_4 : w5.cell? ⟨gb139, 4, none⟩ = some (.int .i64 a0_4) := (blk_cell BK139.out 4).trans rfl; have hcz6_5 : w5.cell? ⟨gb139, 5, none⟩ = some (.int .i64 a0_5) := (blk_cell BK139.out 5).trans rfl; have hcz6_6 : w5.cell? ⟨gb139, 6, none⟩ = some (.int .i64 a0_6) := (blk_cell BK139.out 6).trans rfl; have hcz6_7 : w5.cell? ⟨gb139, 7, none⟩ = some (.int .i64 a0_7) := (blk_cell BK139.out 7).trans rfl; have hcz6_8 : w5.cell? ⟨gb139, 8, none⟩ = some (.int .i64 a0_8) := (blk_cell BK139.out 8).trans rfl; have hcz6_9 : w5.cell? ⟨gb139, 9, none⟩ = some (.int .i64 a0_9) := (blk_cell BK139.out 9).trans rfl; have hcz6_10 : w5.cell? ⟨gb139, 10, none⟩ = some (.int .i64 a0_10) := (blk_cell BK139.out 10).trans rfl; have hcz6_11 : w5.cell? ⟨gb139, 11, none⟩ = some (.int .i64 a0_11) := (blk_cell BK139.out 11).trans rfl; have hfz6_0 := blk_frozen BK139.out 0; have hfz6_1 := blk_frozen BK139.out 1; have hfz6_2 := blk_frozen BK139.out 2; have hfz6_3 := blk_frozen BK139.out 3; have hfz6_4 := blk_frozen BK139.out 4; have hfz6_5 := blk_frozen BK139.out 5; have hfz6_6 := blk_frozen BK139.out 6; have hfz6_7 := blk_frozen BK139.out 7; have hfz6_8 := blk_frozen BK139.out 8; have hfz6_9 := blk_frozen BK139.out 9; have hfz6_10 := blk_frozen BK139.out 10; have hfz6_11 := blk_frozen BK139.out 11) | ((with_reducible refine gate_callee (f := 41) rfl ?_); refine goesL_ (some 14) rfl rfl Try.func41 (by kernel_rfl) rfl #[.int .i64 a0_0, .int .i64 a0_1, .int .i64 a0_2, .int .i64 a0_3] rfl (by (try simp only [List.map_toArray, List.map_cons, List.map_nil]); first | done | rfl | (simp only [List.length_drop, List.length_take]; rfl) | (simp only [Int.toNat_natCast, Nat.sub_self, List.length_drop, List.length_take]; rfl)) ?_; (with_reducible refine (skerryref05_Make.calls k a0_0 a0_1 a0_2 a0_3 t140 t141 t142 t143 t144 t145 t146 t147 t148 t149 t150 t151 t152 _ A2.out).mono ?_); rintro e w7 ⟨rfl, hb⟩; refine ⟨_, rfl, ?_⟩; have n0_ := Aside0.mk (blk_below (g := gb139) (o := .cells #[.int .i64 a0_0, .int .i64 a0_1, .int .i64 a0_2, .int .i64 a0_3, .int .i64 a0_4, .int .i64 a0_5, .int .i64 a0_6, .int .i64 a0_7, .int .i64 a0_8, .int .i64 a0_9, .int .i64 a0_10, .int .i64 a0_11] 37 (0, 0)) (by (with_reducible repeat (first | refine blk_drewN ?_ _ | refine blk_drew ?_ | refine blk_alloc ?_ _)); exact BK139.out) hb); have n1_ := Aside0.mk (below_step (by repeat (first | (with_reducible first | exact HB.out | apply below_alloc | apply pw_below_drewN | apply below_drew1 | refine below_set ?_ GE139.out) | with_reducible_and_instances exact HB.out)) hb); clear BK139; clear HB; have BK139 := n0_; have HB := n1_; clear n0_ n1_; (try clear hb); (try clear hb2); (try clear hk); (try clear hi)) | ((with_reducible refine gate_dst (N := 3) rfl ?_); refine box_event ?hg (N := 3) ?hd (cs := #[.int .i64 0, .int .i64 0, .int .i64 0, .int .i64 0, .int .i64 0, .int .i64 0, .int .i64 0, .int .i64 0, .int .i64 0, .int .i64 0, .int .i64 0, .int .i64 0]) (t := 37) ?hr ?_; (case hd => rfl); (case hg => rfl); (case hr => first | (go_simp; done) | (go_simp; rfl)); intro gb153 hg w8 hbox hb; have n0_ := Aside0.mk (blk_below (g := gb139) (o := .cells #[.int .i64 a0_0, .int .i64 a0_1, .int .i64 a0_2, .int .i64 a0_3, .int .i64 a0_4, .int .i64 a0_5, .int .i64 a0_6, .int .i64 a0_7, .int .i64 a0_8, .int .i64 a0_9, .int .i64 a0_10, .int .i64 a0_11] 37 (0, 0)) (by (with_reducible repeat (first | refine blk_drewN ?_ _ | refine blk_drew ?_ | refine blk_alloc ?_ _)); exact BK139.out) hb); have n1_ := Aside0.mk (below_step (by repeat (first | (with_reducible first | exact HB.out | apply below_alloc | apply pw_below_drewN | apply below_drew1 | refine below_set ?_ GE139.out) | with_reducible_and_instances exact HB.out)) hb); have n2_ := Aside0.mk (hbox); have n3_ := Aside0.mk ((by rw [hg]; exact (below_size (by repeat (first | (with_reducible first | exact HB.out | apply below_alloc | apply pw_below_drewN | apply below_drew1 | refine below_set ?_ GE139.out) | with_reducible_and_instances exact HB.out))) : w.heap.size ≤ gb153)); have n4_ := Aside0.mk ((by rw [hg]; exact (below_size (by repeat (first | (with_reducible first | exact HB.out | apply below_alloc | apply pw_below_drewN | apply below_drew1 | refine below_set ?_ GE139.out) | with_reducible_and_instances exact HB.out))) : w.heap.size ≤ gb153)); have n5_ := Aside0.mk ((by rw [hg]; exact Nat.ne_of_lt (blk_lt (g := gb139) (o := .cells #[.int .i64 a0_0, .int .i64 a0_1, .int .i64 a0_2, .int .i64 a0_3, .int .i64 a0_4, .int .i64 a0_5, .int .i64 a0_6, .int .i64 a0_7, .int .i64 a0_8, .int .i64 a0_9, .int .i64 a0_10, .int .i64 a0_11] 37 (0, 0)) (by (with_reducible repeat (first | refine blk_drewN ?_ _ | refine blk_drew ?_ | refine blk_alloc ?_ _)); exact BK139.out)) : gb139 ≠ gb153)); have n6_ := Aside0.mk ((by rw [hg]; exact Nat.ne_of_gt (blk_lt (g := gb139) (o := .cells #[.int .i64 a0_0, .int .i64 a0_1, .int .i64 a0_2, .int .i64 a0_3, .int .i64 a0_4, .int .i64 a0_5, .int .i64 a0_6, .int .i64 a0_7, .int .i64 a0_8, .int .i64 a0_9, .int .i64 a0_10, .int .i64 a0_11] 37 (0, 0)) (by (with_reducible repeat (first | refine blk_drewN ?_ _ | refine blk_drew ?_ | refine blk_alloc ?_ _)); exact BK139.out)) : gb153 ≠ gb139)); clear BK139; clear HB; have BK139 := n0_; have HB := n1_; have BK153 := n2_; have GW153 := n3_; have GE153 := n4_; have NB139_153 := n5_; have NB153_139 := n6_; clear n0_ n1_ n2_ n3_ n4_ n5_ n6_; clear hb hbox hg; have hnb9 := NB153_139.out; have hnc9 := NB139_153.out; have hcz10_0 : w8.cell? ⟨gb153, 0, none⟩ = some (.int .i64 0) := (blk_cell BK153.out 0).trans rfl; have hcz10_1 : w8.cell? ⟨gb153, 1, none⟩ = some (.int .i64 0) := (blk_cell BK153.out 1).trans rfl; have hcz10_2 : w8.cell? ⟨gb153, 2, none⟩ = some (.int .i64 0) := (blk_cell BK153.out 2).trans rfl; have hcz10_3 : w8.cell? ⟨gb153, 3, none⟩ = some (.int .i64 0) := (blk_cell BK153.out 3).trans rfl; have hcz10_4 : w8.cell? ⟨gb153, 4, none⟩ = some (.int .i64 0) := (blk_cell BK153.out 4).trans rfl; have hcz10_5 : w8.cell? ⟨gb153, 5, none⟩ = some (.int .i64 0) := (blk_cell BK153.out 5).trans rfl; have hcz10_6 : w8.cell? ⟨gb153, 6, none⟩ = some (.int .i64 0) := (blk_cell BK153.out 6).trans rfl; have hcz10_7 : w8.cell? ⟨gb153, 7, none⟩ = some (.int .i64 0) := (blk_cell BK153.out 7).trans rfl; have hcz10_8 : w8.cell? ⟨gb153, 8, none⟩ = some (.int .i64 0) := (blk_cell BK153.out 8).trans rfl; have hcz10_9 : w8.cell? ⟨gb153, 9, none⟩ = some (.int .i64 0) := (blk_cell BK153.out 9).trans rfl; have hcz10_10 : w8.cell? ⟨gb153, 10, none⟩ = some (.int .i64 0) := (blk_cell BK153.out 10).trans rfl; have hcz10_11 : w8.cell? ⟨gb153, 11, none⟩ = some (.int .i64 0) := (blk_cell BK153.out 11).trans rfl; have hfz10_0 := blk_frozen BK153.out 0; have hfz10_1 := blk_frozen BK153.out 1; have hfz10_2 := blk_frozen BK153.out 2; have hfz10_3 := blk_frozen BK153.out 3; have hfz10_4 := blk_frozen BK153.out 4; have hfz10_5 := blk_frozen BK153.out 5; have hfz10_6 := blk_frozen BK153.out 6; have hfz10_7 := blk_frozen BK153.out 7; have hfz10_8 := blk_frozen BK153.out 8; have hfz10_9 := blk_frozen BK153.out 9; have hfz10_10 := blk_frozen BK153.out 10; have hfz10_11 := blk_frozen BK153.out 11; have hcz11_0 : w8.cell? ⟨gb139, 0, none⟩ = some (.int .i64 a0_0) := (blk_cell BK139.out 0).trans rfl; have hcz11_1 : w8.cell? ⟨gb139, 1, none⟩ = some (.int .i64 a0_1) := (blk_cell BK139.out 1).trans rfl; have hcz11_2 : w8.cell? ⟨gb139, 2, none⟩ = some (.int .i64 a0_2) := (blk_cell BK139.out 2).trans rfl; have hcz11_3 : w8.cell? ⟨gb139, 3, none⟩ = some (.int .i64 a0_3) := (blk_cell BK139.out 3).trans rfl; have hcz11_4 : w8.cell? ⟨gb139, 4, none⟩ = some (.int .i64 a0_4) := (blk_cell BK139.out 4).trans rfl; have hcz11_5 : w8.cell? ⟨gb139, 5, none⟩ = some (.int .i64 a0_5) := (blk_cell BK139.out 5).trans rfl; have hcz11_6 : w8.cell? ⟨gb139, 6, none⟩ = some (.int .i64 a0_6) := (blk_cell BK139.out 6).trans rfl; have hcz11_7 : w8.cell? ⟨gb139, 7, none⟩ = some (.int .i64 a0_7) := (blk_cell BK139.out 7).trans rfl; have hcz11_8 : w8.cell? ⟨gb139, 8, none⟩ = some (.int .i64 a0_8) := (blk_cell BK139.out 8).trans rfl; have hcz11_9 : w8.cell? ⟨gb139, 9, none⟩ = some (.int .i64 a0_9) := (blk_cell BK139.out 9).trans rfl; have hcz11_10 : w8.cell? ⟨gb139, 10, none⟩ = some (.int .i64 a0_10) := (blk_cell BK139.out 10).trans rfl; have hcz11_11 : w8.cell? ⟨gb139, 11, none⟩ = some (.int .i64 a0_11) := (blk_cell BK139.out 11).trans rfl; have hfz11_0 := blk_frozen BK139.out 0; have hfz11_1 := blk_frozen BK139.out 1; have hfz11_2 := blk_frozen BK139.out 2; have hfz11_3 := blk_frozen BK139.out 3; have hfz11_4 := blk_frozen BK139.out 4; have hfz11_5 := blk_frozen BK139.out 5; have hfz11_6 := blk_frozen BK139.out 6; have hfz11_7 := blk_frozen BK139.out 7; have hfz11_8 := blk_frozen BK139.out 8; have hfz11_9 := blk_frozen BK139.out 9; have hfz11_10 := blk_frozen BK139.out 10; have hfz11_11 := blk_frozen BK139.out 11))
      go_ret
      exact ⟨by first | rfl | (simp [errW_none, errW_some] <;> rfl) | (simp [*, errW_none, errW_some] <;> rfl), by repeat (first | (with_reducible first | exact HB.out | apply below_alloc | apply pw_below_drewN | apply below_drew1 | refine below_set ?_ GE139.out | refine below_set ?_ GE153.out) | with_reducible_and_instances exact HB.out)⟩
    · rw [if_neg c4] at H
      have c4b0 : (!(a0_0 == t140) || (!(a0_1 == t141) || (!(a0_2 == t142) || (!(a0_3 == t143) || (!(a0_4 == t144) || (!(a0_5 == t145) || (!(a0_6 == t146) || (!(a0_7 == t147) || (!(a0_8 == t148) || (!(a0_9 == t149) || (!(a0_10 == t150) || (!(a0_11 == t151))))))))))))) = false := by simpa using c4
      clear c4
      obtain rfl := Option.some.inj H
      go_enter Try.func34, Try.ntmps34
      go_wp2_with (first | ((with_reducible refine gate_dst (N := 1) rfl ?_); refine box_event ?hg (N := 1) ?hd (cs := #[.int .i64 a0_0, .int .i64 a0_1, .int .i64 a0_2, .int .i64 a0_3, .int .i64 a0_4, .int .i64 a0_5, .int .i64 a0_6, .int .i64 a0_7, .int .i64 a0_8, .int .i64 a0_9, .int .i64 a0_10, .int .i64 a0_11]) (t := 37) ?hr ?_; (case hd => rfl); (case hg => rfl); (case hr => first | (go_simp; done) | (go_simp; rfl)); intro gb139 hg w12 hbox hb; have n0_ := Aside0.mk (below_step (by repeat (first | (with_reducible first | exact HB.out | apply below_alloc | apply pw_below_drewN | apply below_drew1) | with_reducible_and_instances exact HB.out)) hb); have n1_ := Aside0.mk (hbox); have n2_ := Aside0.mk ((by rw [hg]; exact (below_size (by repeat (first | (with_reducible first | exact HB.out | apply below_alloc | apply pw_below_drewN | apply below_drew1) | with_reducible_and_instances exact HB.out))) : w.heap.size ≤ gb139)); have n3_ := Aside0.mk ((by rw [hg]; exact (below_size (by repeat (first | (with_reducible first | exact HB.out | apply below_alloc | apply pw_below_drewN | apply below_drew1) | with_reducible_and_instances exact HB.out))) : w.heap.size ≤ gb139)); clear HB; have HB := n0_; have BK139 := n1_; have GW139 := n2_; have GE139 := n3_; clear n0_ n1_ n2_ n3_; clear hb hbox hg; have hcz13_0 : w12.cell? ⟨gb139, 0, none⟩ = some (.int .i64 a0_0) := (blk_cell BK139.out 0).trans rfl; have hcz13_1 : w12.cell? ⟨gb139, 1, none⟩ = some (.int .i64 a0_1) := (blk_cell BK139.out 1).trans rfl; have hcz13_2 : w12.cell? ⟨gb139, 2, none⟩ = some (.int .i64 a0_2) := (blk_cell BK139.out 2).trans rfl; have hcz13_3 : w12.cell? ⟨gb139, 3, none⟩ = some (.int .i64 a0_3) := (blk_cell BK139.out 3).trans rfl; have hcz13_4 : w12.cell? ⟨gb139, 4, none⟩ = some (.int .i64 a0_4) := (blk_cell BK139.out 4).trans rfl; have hcz13_5 : w12.cell? ⟨gb139, 5, none⟩ = some (.int .i64 a0_5) := (blk_cell BK139.out 5).trans rfl; have hcz13_6 : w12.cell? ⟨gb139, 6, none⟩ = some (.int .i64 a0_6) := (blk_cell BK139.out 6).trans rfl; have hcz13_7 : w12.cell? ⟨gb139, 7, none⟩ = some (.int .i64 a0_7) := (blk_cell BK139.out 7).trans rfl; have hcz13_8 : w12.cell? ⟨gb139, 8, none⟩ = some (.int .i64 a0_8) := (blk_cell BK139.out 8).trans rfl; have hcz13_9 : w12.cell? ⟨gb139, 9, none⟩ = some (.int .i64 a0_9) := (blk_cell BK139.out 9).trans rfl; have hcz13_10 : w12.cell? ⟨gb139, 10, none⟩ = some (.int .i64 a0_10) := (blk_cell BK139.out 10).trans rfl; have hcz13_11 : w12.cell? ⟨gb139, 11, none⟩ = some (.int .i64 a0_11) := (blk_cell BK139.out 11).trans rfl; have hfz13_0 := blk_frozen BK139.out 0; have hfz13_1 := blk_frozen BK139.out 1; have hfz13_2 := blk_frozen BK139.out 2; have hfz13_3 := blk_frozen BK139.out 3; have hfz13_4 := blk_frozen BK139.out 4; have hfz13_5 := blk_frozen BK139.out 5; have hfz13_6 := blk_frozen BK139.out 6; have hfz13_7 := blk_frozen BK139.out 7; have hfz13_8 := blk_frozen BK139.out 8; have hfz13_9 := blk_frozen BK139.out 9; have hfz13_10 := blk_frozen BK139.out 10; have hfz13_11 := blk_frozen BK139.out 11) | ((with_reducible refine gate_callee (f := 41) rfl ?_); refine goesL_ (some 14) rfl rfl Try.func41 (by kernel_rfl) rfl #[.int .i64 a0_0, .int .i64 a0_1, .int .i64 a0_2, .int .i64 a0_3] rfl (by (try simp only [List.map_toArray, List.map_cons, List.map_nil]); first | done | rfl | (simp only [List.length_drop, List.length_take]; rfl) | (simp only [Int.toNat_natCast, Nat.sub_self, List.length_drop, List.length_take]; rfl)) ?_; (with_reducible refine (skerryref05_Make.calls k a0_0 a0_1 a0_2 a0_3 t140 t141 t142 t143 t144 t145 t146 t147 t148 t149 t150 t151 t152 _ A2.out).mono ?_); rintro e w14 ⟨rfl, hb⟩; refine ⟨_, rfl, ?_⟩; have n0_ := Aside0.mk (blk_below (g := gb139) (o := .cells #[.int .i64 a0_0, .int .i64 a0_1, .int .i64 a0_2, .int .i64 a0_3, .int .i64 a0_4, .int .i64 a0_5, .int .i64 a0_6, .int .i64 a0_7, .int .i64 a0_8, .int .i64 a0_9, .int .i64 a0_10, .int .i64 a0_11] 37 (0, 0)) (by (with_reducible repeat (first | refine blk_drewN ?_ _ | refine blk_drew ?_ | refine blk_alloc ?_ _)); exact BK139.out) hb); have n1_ := Aside0.mk (below_step (by repeat (first | (with_reducible first | exact HB.out | apply below_alloc | apply pw_below_drewN | apply below_drew1 | refine below_set ?_ GE139.out) | with_reducible_and_instances exact HB.out)) hb); clear BK139; clear HB; have BK139 := n0_; have HB := n1_; clear n0_ n1_; (try clear hb); (try clear hb2); (try clear hk); (try clear hi)) | ((with_reducible refine gate_dst (N := 3) rfl ?_); refine box_event ?hg (N := 3) ?hd (cs := #[.int .i64 0, .int .i64 0, .int .i64 0, .int .i64 0, .int .i64 0, .int .i64 0, .int .i64 0, .int .i64 0, .int .i64 0, .int .i64 0, .int .i64 0, .int .i64 0]) (t := 37) ?hr ?_; (case hd => rfl); (case hg => rfl); (case hr => first | (go_simp; done) | (go_simp; rfl)); intro gb153 hg w15 hbox hb; have n0_ := Aside0.mk (blk_below (g := gb139) (o := .cells #[.int .i64 a0_0, .int .i64 a0_1, .int .i64 a0_2, .int .i64 a0_3, .int .i64 a0_4, .int .i64 a0_5, .int .i64 a0_6, .int .i64 a0_7, .int .i64 a0_8, .int .i64 a0_9, .int .i64 a0_10, .int .i64 a0_11] 37 (0, 0)) (by (with_reducible repeat (first | refine blk_drewN ?_ _ | refine blk_drew ?_ | refine blk_alloc ?_ _)); exact BK139.out) hb); have n1_ := Aside0.mk (below_step (by repeat (first | (with_reducible first | exact HB.out | apply below_alloc | apply pw_below_drewN | apply below_drew1 | refine below_set ?_ GE139.out) | with_reducible_and_instances exact HB.out)) hb); have n2_ := Aside0.mk (hbox); have n3_ := Aside0.mk ((by rw [hg]; exact (below_size (by repeat (first | (with_reducible first | exact HB.out | apply below_alloc | apply pw_below_drewN | apply below_drew1 | refine below_set ?_ GE139.out) | with_reducible_and_instances exact HB.out))) : w.heap.size ≤ gb153)); have n4_ := Aside0.mk ((by rw [hg]; exact (below_size (by repeat (first | (with_reducible first | exact HB.out | apply below_alloc | apply pw_below_drewN | apply below_drew1 | refine below_set ?_ GE139.out) | with_reducible_and_instances exact HB.out))) : w.heap.size ≤ gb153)); have n5_ := Aside0.mk ((by rw [hg]; exact Nat.ne_of_lt (blk_lt (g := gb139) (o := .cells #[.int .i64 a0_0, .int .i64 a0_1, .int .i64 a0_2, .int .i64 a0_3, .int .i64 a0_4, .int .i64 a0_5, .int .i64 a0_6, .int .i64 a0_7, .int .i64 a0_8, .int .i64 a0_9, .int .i64 a0_10, .int .i64 a0_11] 37 (0, 0)) (by (with_reducible repeat (first | refine blk_drewN ?_ _ | refine blk_drew ?_ | refine blk_alloc ?_ _)); exact BK139.out)) : gb139 ≠ gb153)); have n6_ := Aside0.mk ((by rw [hg]; exact Nat.ne_of_gt (blk_lt (g := gb139) (o := .cells #[.int .i64 a0_0, .int .i64 a0_1, .int .i64 a0_2, .int .i64 a0_3, .int .i64 a0_4, .int .i64 a0_5, .int .i64 a0_6, .int .i64 a0_7, .int .i64 a0_8, .int .i64 a0_9, .int .i64 a0_10, .int .i64 a0_11] 37 (0, 0)) (by (with_reducible repeat (first | refine blk_drewN ?_ _ | refine blk_drew ?_ | refine blk_alloc ?_ _)); exact BK139.out)) : gb153 ≠ gb139)); clear BK139; clear HB; have BK139 := n0_; have HB := n1_; have BK153 := n2_; have GW153 := n3_; have GE153 := n4_; have NB139_153 := n5_; have NB153_139 := n6_; clear n0_ n1_ n2_ n3_ n4_ n5_ n6_; clear hb hbox hg; have hnb16 := NB153_139.out; have hnc16 := NB139_153.out; have hcz17_0 : w15.cell? ⟨gb153, 0, none⟩ = some (.int .i64 0) := (blk_cell BK153.out 0).trans rfl; have hcz17_1 : w15.cell? ⟨gb153, 1, none⟩ = some (.int .i64 0) := (blk_cell BK153.out 1).trans rfl; have hcz17_2 : w15.cell? ⟨gb153, 2, none⟩ = some (.int .i64 0) := (blk_cell BK153.out 2).trans rfl; have hcz17_3 : w15.cell? ⟨gb153, 3, none⟩ = some (.int .i64 0) := (blk_cell BK153.out 3).trans rfl; have hcz17_4 : w15.cell? ⟨gb153, 4, none⟩ = some (.int .i64 0) := (blk_cell BK153.out 4).trans rfl; have hcz17_5 : w15.cell? ⟨gb153, 5, none⟩ = some (.int .i64 0) := (blk_cell BK153.out 5).trans rfl; have hcz17_6 : w15.cell? ⟨gb153, 6, none⟩ = some (.int .i64 0) := (blk_cell BK153.out 6).trans rfl; have hcz17_7 : w15.cell? ⟨gb153, 7, none⟩ = some (.int .i64 0) := (blk_cell BK153.out 7).trans rfl; have hcz17_8 : w15.cell? ⟨gb153, 8, none⟩ = some (.int .i64 0) := (blk_cell BK153.out 8).trans rfl; have hcz17_9 : w15.cell? ⟨gb153, 9, none⟩ = some (.int .i64 0) := (blk_cell BK153.out 9).trans rfl; have hcz17_10 : w15.cell? ⟨gb153, 10, none⟩ = some (.int .i64 0) := (blk_cell BK153.out 10).trans rfl; have hcz17_11 : w15.cell? ⟨gb153, 11, none⟩ = some (.int .i64 0) := (blk_cell BK153.out 11).trans rfl; have hfz17_0 := blk_frozen BK153.out 0; have hfz17_1 := blk_frozen BK153.out 1; have hfz17_2 := blk_frozen BK153.out 2; have hfz17_3 := blk_frozen BK153.out 3; have hfz17_4 := blk_frozen BK153.out 4; have hfz17_5 := blk_frozen BK153.out 5; have hfz17_6 := blk_frozen BK153.out 6; have hfz17_7 := blk_frozen BK153.out 7; have hfz17_8 := blk_frozen BK153.out 8; have hfz17_9 := blk_frozen BK153.out 9; have hfz17_10 := blk_frozen BK153.out 10; have hfz17_11 := blk_frozen BK153.out 11; have hcz18_0 : w15.cell? ⟨gb139, 0, none⟩ = some (.int .i64 a0_0) := (blk_cell BK139.out 0).trans rfl; have hcz18_1 : w15.cell? ⟨gb139, 1, none⟩ = some (.int .i64 a0_1) := (blk_cell BK139.out 1).trans rfl; have hcz18_2 : w15.cell? ⟨gb139, 2, none⟩ = some (.int .i64 a0_2) := (blk_cell BK139.out 2).trans rfl; have hcz18_3 : w15.cell? ⟨gb139, 3, none⟩ = some (.int .i64 a0_3) := (blk_cell BK139.out 3).trans rfl; have hcz18_4 : w15.cell? ⟨gb139, 4, none⟩ = some (.int .i64 a0_4) := (blk_cell BK139.out 4).trans rfl; have hcz18_5 : w15.cell? ⟨gb139, 5, none⟩ = some (.int .i64 a0_5) := (blk_cell BK139.out 5).trans rfl; have hcz18_6 : w15.cell? ⟨gb139, 6, none⟩ = some (.int .i64 a0_6) := (blk_cell BK139.out 6).trans rfl; have hcz18_7 : w15.cell? ⟨gb139, 7, none⟩ = some (.int .i64 a0_7) := (blk_cell BK139.out 7).trans rfl; have hcz18_8 : w15.cell? ⟨gb139, 8, none⟩ = some (.int .i64 a0_8) := (blk_cell BK139.out 8).trans rfl; have hcz18_9 : w15.cell? ⟨gb139, 9, none⟩ = some (.int .i64 a0_9) := (blk_cell BK139.out 9).trans rfl; have hcz18_10 : w15.cell? ⟨gb139, 10, none⟩ = some (.int .i64 a0_10) := (blk_cell BK139.out 10).trans rfl; have hcz18_11 : w15.cell? ⟨gb139, 11, none⟩ = some (.int .i64 a0_11) := (blk_cell BK139.out 11).trans rfl; have hfz18_0 := blk_frozen BK139.out 0; have hfz18_1 := blk_frozen BK139.out 1; have hfz18_2 := blk_frozen BK139.out 2; have hfz18_3 := blk_frozen BK139.out 3; have hfz18_4 := blk_frozen BK139.out 4; have hfz18_5 := blk_frozen BK139.out 5; have hfz18_6 := blk_frozen BK139.out 6; have hfz18_7 := blk_frozen BK139.out 7; have hfz18_8 := blk_frozen BK139.out 8; have hfz18_9 := blk_frozen BK139.out 9; have hfz18_10 := blk_frozen BK139.out 10; have hfz18_11 := blk_frozen BK139.out 11))
      go_ret
      exact ⟨by first | rfl | (simp [errW_none, errW_some] <;> rfl) | (simp [*, errW_none, errW_some] <;> rfl), by repeat (first | (with_reducible first | exact HB.out | apply below_alloc | apply pw_below_drewN | apply below_drew1 | refine below_set ?_ GE139.out | refine below_set ?_ GE153.out) | with_reducible_and_instances exact HB.out)⟩
  · rw [if_neg c3] at H
    have c3b0 : (t152 == 0) = false := beq_eq_false_iff_ne.mpr c3
    have c3b1 : (t152 != 0) = true := bne_iff_ne.mpr c3
    obtain rfl := Option.some.inj H
    go_enter Try.func34, Try.ntmps34
    go_wp2_with (first | ((with_reducible refine gate_dst (N := 1) rfl ?_); refine box_event ?hg (N := 1) ?hd (cs := #[.int .i64 a0_0, .int .i64 a0_1, .int .i64 a0_2, .int .i64 a0_3, .int .i64 a0_4, .int .i64 a0_5, .int .i64 a0_6, .int .i64 a0_7, .int .i64 a0_8, .int .i64 a0_9, .int .i64 a0_10, .int .i64 a0_11]) (t := 37) ?hr ?_; (case hd => rfl); (case hg => rfl); (case hr => first | (go_simp; done) | (go_simp; rfl)); intro gb139 hg w19 hbox hb; have n0_ := Aside0.mk (below_step (by repeat (first | (with_reducible first | exact HB.out | apply below_alloc | apply pw_below_drewN | apply below_drew1) | with_reducible_and_instances exact HB.out)) hb); have n1_ := Aside0.mk (hbox); have n2_ := Aside0.mk ((by rw [hg]; exact (below_size (by repeat (first | (with_reducible first | exact HB.out | apply below_alloc | apply pw_below_drewN | apply below_drew1) | with_reducible_and_instances exact HB.out))) : w.heap.size ≤ gb139)); have n3_ := Aside0.mk ((by rw [hg]; exact (below_size (by repeat (first | (with_reducible first | exact HB.out | apply below_alloc | apply pw_below_drewN | apply below_drew1) | with_reducible_and_instances exact HB.out))) : w.heap.size ≤ gb139)); clear HB; have HB := n0_; have BK139 := n1_; have GW139 := n2_; have GE139 := n3_; clear n0_ n1_ n2_ n3_; clear hb hbox hg; have hcz20_0 : w19.cell? ⟨gb139, 0, none⟩ = some (.int .i64 a0_0) := (blk_cell BK139.out 0).trans rfl; have hcz20_1 : w19.cell? ⟨gb139, 1, none⟩ = some (.int .i64 a0_1) := (blk_cell BK139.out 1).trans rfl; have hcz20_2 : w19.cell? ⟨gb139, 2, none⟩ = some (.int .i64 a0_2) := (blk_cell BK139.out 2).trans rfl; have hcz20_3 : w19.cell? ⟨gb139, 3, none⟩ = some (.int .i64 a0_3) := (blk_cell BK139.out 3).trans rfl; have hcz20_4 : w19.cell? ⟨gb139, 4, none⟩ = some (.int .i64 a0_4) := (blk_cell BK139.out 4).trans rfl; have hcz20_5 : w19.cell? ⟨gb139, 5, none⟩ = some (.int .i64 a0_5) := (blk_cell BK139.out 5).trans rfl; have hcz20_6 : w19.cell? ⟨gb139, 6, none⟩ = some (.int .i64 a0_6) := (blk_cell BK139.out 6).trans rfl; have hcz20_7 : w19.cell? ⟨gb139, 7, none⟩ = some (.int .i64 a0_7) := (blk_cell BK139.out 7).trans rfl; have hcz20_8 : w19.cell? ⟨gb139, 8, none⟩ = some (.int .i64 a0_8) := (blk_cell BK139.out 8).trans rfl; have hcz20_9 : w19.cell? ⟨gb139, 9, none⟩ = some (.int .i64 a0_9) := (blk_cell BK139.out 9).trans rfl; have hcz20_10 : w19.cell? ⟨gb139, 10, none⟩ = some (.int .i64 a0_10) := (blk_cell BK139.out 10).trans rfl; have hcz20_11 : w19.cell? ⟨gb139, 11, none⟩ = some (.int .i64 a0_11) := (blk_cell BK139.out 11).trans rfl; have hfz20_0 := blk_frozen BK139.out 0; have hfz20_1 := blk_frozen BK139.out 1; have hfz20_2 := blk_frozen BK139.out 2; have hfz20_3 := blk_frozen BK139.out 3; have hfz20_4 := blk_frozen BK139.out 4; have hfz20_5 := blk_frozen BK139.out 5; have hfz20_6 := blk_frozen BK139.out 6; have hfz20_7 := blk_frozen BK139.out 7; have hfz20_8 := blk_frozen BK139.out 8; have hfz20_9 := blk_frozen BK139.out 9; have hfz20_10 := blk_frozen BK139.out 10; have hfz20_11 := blk_frozen BK139.out 11) | ((with_reducible refine gate_callee (f := 41) rfl ?_); refine goesL_ (some 14) rfl rfl Try.func41 (by kernel_rfl) rfl #[.int .i64 a0_0, .int .i64 a0_1, .int .i64 a0_2, .int .i64 a0_3] rfl (by (try simp only [List.map_toArray, List.map_cons, List.map_nil]); first | done | rfl | (simp only [List.length_drop, List.length_take]; rfl) | (simp only [Int.toNat_natCast, Nat.sub_self, List.length_drop, List.length_take]; rfl)) ?_; (with_reducible refine (skerryref05_Make.calls k a0_0 a0_1 a0_2 a0_3 t140 t141 t142 t143 t144 t145 t146 t147 t148 t149 t150 t151 t152 _ A2.out).mono ?_); rintro e w21 ⟨rfl, hb⟩; refine ⟨_, rfl, ?_⟩; have n0_ := Aside0.mk (blk_below (g := gb139) (o := .cells #[.int .i64 a0_0, .int .i64 a0_1, .int .i64 a0_2, .int .i64 a0_3, .int .i64 a0_4, .int .i64 a0_5, .int .i64 a0_6, .int .i64 a0_7, .int .i64 a0_8, .int .i64 a0_9, .int .i64 a0_10, .int .i64 a0_11] 37 (0, 0)) (by (with_reducible repeat (first | refine blk_drewN ?_ _ | refine blk_drew ?_ | refine blk_alloc ?_ _)); exact BK139.out) hb); have n1_ := Aside0.mk (below_step (by repeat (first | (with_reducible first | exact HB.out | apply below_alloc | apply pw_below_drewN | apply below_drew1 | refine below_set ?_ GE139.out) | with_reducible_and_instances exact HB.out)) hb); clear BK139; clear HB; have BK139 := n0_; have HB := n1_; clear n0_ n1_; (try clear hb); (try clear hb2); (try clear hk); (try clear hi)) | ((with_reducible refine gate_dst (N := 3) rfl ?_); refine box_event ?hg (N := 3) ?hd (cs := #[.int .i64 0, .int .i64 0, .int .i64 0, .int .i64 0, .int .i64 0, .int .i64 0, .int .i64 0, .int .i64 0, .int .i64 0, .int .i64 0, .int .i64 0, .int .i64 0]) (t := 37) ?hr ?_; (case hd => rfl); (case hg => rfl); (case hr => first | (go_simp; done) | (go_simp; rfl)); intro gb153 hg w22 hbox hb; have n0_ := Aside0.mk (blk_below (g := gb139) (o := .cells #[.int .i64 a0_0, .int .i64 a0_1, .int .i64 a0_2, .int .i64 a0_3, .int .i64 a0_4, .int .i64 a0_5, .int .i64 a0_6, .int .i64 a0_7, .int .i64 a0_8, .int .i64 a0_9, .int .i64 a0_10, .int .i64 a0_11] 37 (0, 0)) (by (with_reducible repeat (first | refine blk_drewN ?_ _ | refine blk_drew ?_ | refine blk_alloc ?_ _)); exact BK139.out) hb); have n1_ := Aside0.mk (below_step (by repeat (first | (with_reducible first | exact HB.out | apply below_alloc | apply pw_below_drewN | apply below_drew1 | refine below_set ?_ GE139.out) | with_reducible_and_instances exact HB.out)) hb); have n2_ := Aside0.mk (hbox); have n3_ := Aside0.mk ((by rw [hg]; exact (below_size (by repeat (first | (with_reducible first | exact HB.out | apply below_alloc | apply pw_below_drewN | apply below_drew1 | refine below_set ?_ GE139.out) | with_reducible_and_instances exact HB.out))) : w.heap.size ≤ gb153)); have n4_ := Aside0.mk ((by rw [hg]; exact (below_size (by repeat (first | (with_reducible first | exact HB.out | apply below_alloc | apply pw_below_drewN | apply below_drew1 | refine below_set ?_ GE139.out) | with_reducible_and_instances exact HB.out))) : w.heap.size ≤ gb153)); have n5_ := Aside0.mk ((by rw [hg]; exact Nat.ne_of_lt (blk_lt (g := gb139) (o := .cells #[.int .i64 a0_0, .int .i64 a0_1, .int .i64 a0_2, .int .i64 a0_3, .int .i64 a0_4, .int .i64 a0_5, .int .i64 a0_6, .int .i64 a0_7, .int .i64 a0_8, .int .i64 a0_9, .int .i64 a0_10, .int .i64 a0_11] 37 (0, 0)) (by (with_reducible repeat (first | refine blk_drewN ?_ _ | refine blk_drew ?_ | refine blk_alloc ?_ _)); exact BK139.out)) : gb139 ≠ gb153)); have n6_ := Aside0.mk ((by rw [hg]; exact Nat.ne_of_gt (blk_lt (g := gb139) (o := .cells #[.int .i64 a0_0, .int .i64 a0_1, .int .i64 a0_2, .int .i64 a0_3, .int .i64 a0_4, .int .i64 a0_5, .int .i64 a0_6, .int .i64 a0_7, .int .i64 a0_8, .int .i64 a0_9, .int .i64 a0_10, .int .i64 a0_11] 37 (0, 0)) (by (with_reducible repeat (first | refine blk_drewN ?_ _ | refine blk_drew ?_ | refine blk_alloc ?_ _)); exact BK139.out)) : gb153 ≠ gb139)); clear BK139; clear HB; have BK139 := n0_; have HB := n1_; have BK153 := n2_; have GW153 := n3_; have GE153 := n4_; have NB139_153 := n5_; have NB153_139 := n6_; clear n0_ n1_ n2_ n3_ n4_ n5_ n6_; clear hb hbox hg; have hnb23 := NB153_139.out; have hnc23 := NB139_153.out; have hcz24_0 : w22.cell? ⟨gb153, 0, none⟩ = some (.int .i64 0) := (blk_cell BK153.out 0).trans rfl; have hcz24_1 : w22.cell? ⟨gb153, 1, none⟩ = some (.int .i64 0) := (blk_cell BK153.out 1).trans rfl; have hcz24_2 : w22.cell? ⟨gb153, 2, none⟩ = some (.int .i64 0) := (blk_cell BK153.out 2).trans rfl; have hcz24_3 : w22.cell? ⟨gb153, 3, none⟩ = some (.int .i64 0) := (blk_cell BK153.out 3).trans rfl; have hcz24_4 : w22.cell? ⟨gb153, 4, none⟩ = some (.int .i64 0) := (blk_cell BK153.out 4).trans rfl; have hcz24_5 : w22.cell? ⟨gb153, 5, none⟩ = some (.int .i64 0) := (blk_cell BK153.out 5).trans rfl; have hcz24_6 : w22.cell? ⟨gb153, 6, none⟩ = some (.int .i64 0) := (blk_cell BK153.out 6).trans rfl; have hcz24_7 : w22.cell? ⟨gb153, 7, none⟩ = some (.int .i64 0) := (blk_cell BK153.out 7).trans rfl; have hcz24_8 : w22.cell? ⟨gb153, 8, none⟩ = some (.int .i64 0) := (blk_cell BK153.out 8).trans rfl; have hcz24_9 : w22.cell? ⟨gb153, 9, none⟩ = some (.int .i64 0) := (blk_cell BK153.out 9).trans rfl; have hcz24_10 : w22.cell? ⟨gb153, 10, none⟩ = some (.int .i64 0) := (blk_cell BK153.out 10).trans rfl; have hcz24_11 : w22.cell? ⟨gb153, 11, none⟩ = some (.int .i64 0) := (blk_cell BK153.out 11).trans rfl; have hfz24_0 := blk_frozen BK153.out 0; have hfz24_1 := blk_frozen BK153.out 1; have hfz24_2 := blk_frozen BK153.out 2; have hfz24_3 := blk_frozen BK153.out 3; have hfz24_4 := blk_frozen BK153.out 4; have hfz24_5 := blk_frozen BK153.out 5; have hfz24_6 := blk_frozen BK153.out 6; have hfz24_7 := blk_frozen BK153.out 7; have hfz24_8 := blk_frozen BK153.out 8; have hfz24_9 := blk_frozen BK153.out 9; have hfz24_10 := blk_frozen BK153.out 10; have hfz24_11 := blk_frozen BK153.out 11))
    go_ret
    exact ⟨by first | rfl | (simp [errW_none, errW_some] <;> rfl) | (simp [*, errW_none, errW_some] <;> rfl), by repeat (first | (with_reducible first | exact HB.out | apply below_alloc | apply pw_below_drewN | apply below_drew1 | refine below_set ?_ GE139.out | refine below_set ?_ GE153.out) | with_reducible_and_instances exact HB.out)⟩

/-! ### skerryref02_step: function 50 -/
def skerryref02_step.l0 : Nat → Int → Int → Option (Int)
  | 0, _, _ => none
  | k + 1, x0, x5 => if x5 < 8 then (if (Int.tmod x0 2) = 1 then (skerryref02_step.l0 k (Go.bits .xor .i64 (wrap64 (Int.tdiv x0 2)) 3988292384) (wrap64 (x5 + 1))) else (skerryref02_step.l0 k (wrap64 (Int.tdiv x0 2)) (wrap64 (x5 + 1)))) else (some x0)
def skerryref02_step.f (k : Nat) (a0 : Int) (a1 : Int) : Option (Int) := skerryref02_step.l0 k (Go.bits .xor .i64 a0 (wrap64 (a1))) 0
theorem skerryref02_step.mono_l : ∀ k, (∀ y0 y1, LeO (skerryref02_step.l0 k y0 y1) (skerryref02_step.l0 (k + 1) y0 y1))
  | 0 => fun _ _ r h => by simp [skerryref02_step.l0] at h
  | k + 1 => by
    have ih0 := skerryref02_step.mono_l k
    · intro y0 y1
      unfold skerryref02_step.l0
      repeat' first
      | (with_reducible exact ih0 _ _)
      | (with_reducible exact LeO.refl _)
      | (with_reducible exact LeO.none _)
      | (with_reducible refine LeO.ite ?_ ?_)
      | (with_reducible refine LeO.bind ?_ (fun _ => ?_))
      | exact ih0 _ _
      | exact LeO.none _
      | refine LeO.ite ?_ ?_
      | refine LeO.bind ?_ (fun _ => ?_)
theorem skerryref02_step.mono : ∀ a0 a1 k, LeO (skerryref02_step.f k a0 a1) (skerryref02_step.f (k + 1) a0 a1) := by
  intro a0 a1 k
  have ih0 := skerryref02_step.mono_l k
  unfold skerryref02_step.f
  repeat' first
      | (with_reducible exact ih0 _ _)
      | (with_reducible exact LeO.refl _)
      | (with_reducible exact LeO.none _)
      | (with_reducible refine LeO.ite ?_ ?_)
      | (with_reducible refine LeO.bind ?_ (fun _ => ?_))
      | exact ih0 _ _
      | exact LeO.none _
      | refine LeO.ite ?_ ?_
      | refine LeO.bind ?_ (fun _ => ?_)
set_option maxHeartbeats 8000000 in
set_option maxRecDepth 100000 in
theorem skerryref02_step.calls (k : Nat) (a0 : Int) (a1 : Int) (r : Int) (w : World) (h : skerryref02_step.f k a0 a1 = some r) :
    Calls Try.prog 50 #[.int .i64 a0, .int .u8 a1] w fun e w' => e = .returned (.int .i64 r) ∧ Drawn0 w w' := by
  have H : (skerryref02_step.l0 k (Go.bits .xor .i64 a0 (wrap64 (a1))) 0) = some r := h
  clear h
  have H' := Aside0.mk H
  clear H
  go_enter Try.func50, Try.ntmps50
  go_wp2
  go_loopg [0, 5] k (fun kq v0 v5 w' => ∃ (x0_1 : Int) (x5_1 : Int), v0 = .int .i64 x0_1 ∧ v5 = .int .i64 x5_1 ∧ Aside0 (skerryref02_step.l0 kq x0_1 x5_1 = some r) ∧ Aside0 (kq ≤ k) ∧ Drawn0 w w')
  case atStart => exact ⟨(Go.bits .xor .i64 a0 (wrap64 (a1))), (0), (by first | rfl | (simp; done) | (simp [*]; done)), (by first | rfl | (simp; done) | (simp [*]; done)), H', ⟨Nat.le_refl _⟩, by repeat (first | exact Drawn0.refl _ | apply Drawn0.step)⟩
  case round =>
    clear H'
    try clear p2
    obtain ⟨x0_1, x5_1, rfl, rfl, HA, HK1, ⟨m1, rfl⟩⟩ := hrel
    cases gk with
    | zero => exact absurd HA.out (by simp [skerryref02_step.l0])
    | succ k1 =>
      have H := HA.out
      clear HA
      simp only [skerryref02_step.l0] at H
      by_cases c3 : x5_1 < 8
      · rw [if_pos c3] at H
        have c3b0 : decide (x5_1 < 8) = true := decide_eq_true c3
        clear c3
        by_cases c4 : (Int.tmod x0_1 2) = 1
        · rw [if_pos c4] at H
          have c4b0 : ((Int.tmod x0_1 2) == 1) = true := beq_iff_eq.mpr c4
          have c4b1 : ((Int.tmod x0_1 2) != 1) = false := bne_eq_false_iff_eq.mpr c4
          clear c4
          have H' := Aside0.mk H
          clear H
          go_wp2
          go_roundg k1
          case measure => have := HK1.out; omega
          case rel => exact ⟨(Go.bits .xor .i64 (wrap64 (Int.tdiv x0_1 2)) 3988292384), (wrap64 (x5_1 + 1)), (by first | rfl | (simp; done) | (simp [*]; done)), (by first | rfl | (simp; done) | (simp [*]; done)), H', ⟨by have := HK1.out; omega⟩, by repeat (first | exact Drawn0.refl _ | apply Drawn0.step)⟩
        · rw [if_neg c4] at H
          have c4b0 : ((Int.tmod x0_1 2) == 1) = false := beq_eq_false_iff_ne.mpr c4
          have c4b1 : ((Int.tmod x0_1 2) != 1) = true := bne_iff_ne.mpr c4
          have H' := Aside0.mk H
          clear H
          go_wp2
          go_roundg k1
          case measure => have := HK1.out; omega
          case rel => exact ⟨(wrap64 (Int.tdiv x0_1 2)), (wrap64 (x5_1 + 1)), (by first | rfl | (simp; done) | (simp [*]; done)), (by first | rfl | (simp; done) | (simp [*]; done)), H', ⟨by have := HK1.out; omega⟩, by repeat (first | exact Drawn0.refl _ | apply Drawn0.step)⟩
      · rw [if_neg c3] at H
        have c3b0 : decide (x5_1 < 8) = false := decide_eq_false c3
        clear c3
        obtain rfl := Option.some.inj H
        go_wp2
        go_ret
        exact ⟨by first | rfl | (simp; done) | (simp [*]; done), by repeat (first | exact Drawn0.refl _ | apply Drawn0.step)⟩

/-! ### skerryref02_Sum: function 35 -/
def skerryref02_Sum.l0 : Nat → List Int → Int → Int → Option (Int)
  | 0, _, _, _ => none
  | k + 1, x0, x3, x4 => if x4 < (x0.length : Int) then (if 0 ≤ x4 then ((skerryref02_step.f k x3 (rd x0 x4)).bind fun t155 => (skerryref02_Sum.l0 k x0 t155 (wrap64 (x4 + 1)))) else (none)) else (some (Go.bits .xor .i64 x3 4294967295))
def skerryref02_Sum.f (k : Nat) (l0 : List Int) : Option (Int) := skerryref02_Sum.l0 k l0 4294967295 0
theorem skerryref02_Sum.mono_l : ∀ k, (∀ y0 y1 y2, LeO (skerryref02_Sum.l0 k y0 y1 y2) (skerryref02_Sum.l0 (k + 1) y0 y1 y2))
  | 0 => fun _ _ _ r h => by simp [skerryref02_Sum.l0] at h
  | k + 1 => by
    have ih0 := skerryref02_Sum.mono_l k
    · intro y0 y1 y2
      unfold skerryref02_Sum.l0
      repeat' first
      | (with_reducible exact ih0 _ _ _)
      | (with_reducible exact skerryref02_step.mono _ _ _)
      | (with_reducible exact LeO.refl _)
      | (with_reducible exact LeO.none _)
      | (with_reducible refine LeO.ite ?_ ?_)
      | (with_reducible refine LeO.bind ?_ (fun _ => ?_))
      | exact ih0 _ _ _
      | exact skerryref02_step.mono _ _ _
      | exact LeO.none _
      | refine LeO.ite ?_ ?_
      | refine LeO.bind ?_ (fun _ => ?_)
theorem skerryref02_Sum.mono : ∀ a0 k, LeO (skerryref02_Sum.f k a0) (skerryref02_Sum.f (k + 1) a0) := by
  intro a0 k
  have ih0 := skerryref02_Sum.mono_l k
  unfold skerryref02_Sum.f
  repeat' first
      | (with_reducible exact ih0 _ _ _)
      | (with_reducible exact skerryref02_step.mono _ _ _)
      | (with_reducible exact LeO.refl _)
      | (with_reducible exact LeO.none _)
      | (with_reducible refine LeO.ite ?_ ?_)
      | (with_reducible refine LeO.bind ?_ (fun _ => ?_))
      | exact ih0 _ _ _
      | exact skerryref02_step.mono _ _ _
      | exact LeO.none _
      | refine LeO.ite ?_ ?_
      | refine LeO.bind ?_ (fun _ => ?_)
set_option maxHeartbeats 8000000 in
set_option maxRecDepth 100000 in
theorem skerryref02_Sum.calls (k : Nat) (A0 : Option Addr) (c0 : Nat) (l0 : List Int) (r : Int) (w : World) (hr0 : Kd.C (Kd.int .u8) w A0 l0.length l0) (hc0 : l0.length ≤ c0) (h : skerryref02_Sum.f k l0 = some r) :
    Calls Try.prog 35 #[.slice A0 l0.length c0] w fun e w' => e = .returned (.int .i64 r) ∧ Drawn0 w w' := by
  have HR0 := Aside0.mk hr0
  have HC0 := Aside0.mk hc0
  clear hr0 hc0
  have H : (skerryref02_Sum.l0 k l0 4294967295 0) = some r := h
  clear h
  have H' := Aside0.mk H
  clear H
  go_enter Try.func35, Try.ntmps35
  go_wp2
  go_loopg [3, 4] k (fun kq v3 v4 w' => ∃ (x3_1 : Int) (x4_1 : Int), v3 = .int .i64 x3_1 ∧ v4 = .int .i64 x4_1 ∧ Aside0 (skerryref02_Sum.l0 kq l0 x3_1 x4_1 = some r) ∧ Aside0 (kq ≤ k) ∧ Drawn0 w w')
  case atStart => exact ⟨(4294967295), (0), (by first | rfl | (simp; done) | (simp [*]; done)), (by first | rfl | (simp; done) | (simp [*]; done)), H', ⟨Nat.le_refl _⟩, by repeat (first | exact Drawn0.refl _ | apply Drawn0.step)⟩
  case round =>
    clear H'
    obtain ⟨x3_1, x4_1, rfl, rfl, HA, HK1, ⟨m1, rfl⟩⟩ := hrel
    cases gk with
    | zero => exact absurd HA.out (by simp [skerryref02_Sum.l0])
    | succ k1 =>
      have H := HA.out
      clear HA
      simp only [skerryref02_Sum.l0] at H
      by_cases c2 : x4_1 < (l0.length : Int)
      · rw [if_pos c2] at H
        have c2b0 : decide (x4_1 < (l0.length : Int)) = true := decide_eq_true c2
        clear c2
        by_cases c3 : 0 ≤ x4_1
        · rw [if_pos c3] at H
          have c3b0 : decide (0 ≤ x4_1) = true := decide_eq_true c3
          clear c3
          replace H := Option.bind_eq_some_iff.mp H
          obtain ⟨t155, A40, H⟩ := H
          replace H : (skerryref02_Sum.l0 k1 l0 t155 (wrap64 (x4_1 + 1))) = some r := H
          have A4 := Aside0.mk A40
          clear A40
          have H' := Aside0.mk H
          clear H
          have p154 : 0 ≤ (x4_1 : Int) := of_decide_eq_true (by first | (with_reducible assumption) | assumption)
          have q154 : x4_1 < (l0.length : Int) := of_decide_eq_true (by first | (with_reducible assumption) | assumption)
          obtain ⟨ad154, e154, hx154_0⟩ := Kd.at_int HR0.out x4_1 p154 q154
          cases e154
          replace p154 := eq_true p154
          replace q154 := eq_true q154
          go_wp2_with (first | ((with_reducible refine gate_callee (f := 50) rfl ?_); refine goesL_ (some 16) rfl rfl Try.func50 (by kernel_rfl) rfl #[.int .i64 x3_1, .int .u8 (rd l0 x4_1)] rfl (by (try simp only [List.map_toArray, List.map_cons, List.map_nil]); first | done | rfl | (simp only [List.length_drop, List.length_take]; rfl) | (simp only [Int.toNat_natCast, Nat.sub_self, List.length_drop, List.length_take]; rfl)) ?_; (with_reducible refine (skerryref02_step.calls k1 x3_1 (rd l0 x4_1) t155 _ A4.out).mono ?_); rintro e w' ⟨rfl, ⟨nd, rfl⟩⟩; refine ⟨_, rfl, ?_⟩))
          go_roundg k1
          case measure => have := HK1.out; omega
          case rel => exact ⟨(t155), (wrap64 (x4_1 + 1)), (by first | rfl | (simp; done) | (simp [*]; done)), (by first | rfl | (simp; done) | (simp [*]; done)), H', ⟨by have := HK1.out; omega⟩, by repeat (first | exact Drawn0.refl _ | apply Drawn0.step)⟩
        · rw [if_neg c3] at H
          exact absurd H (by simp)
      · rw [if_neg c2] at H
        have c2b0 : decide (x4_1 < (l0.length : Int)) = false := decide_eq_false c2
        clear c2
        obtain rfl := Option.some.inj H
        go_wp2
        go_ret
        exact ⟨by first | rfl | (simp; done) | (simp [*]; done), by repeat (first | exact Drawn0.refl _ | apply Drawn0.step)⟩

/-! ### skerryref06_padded: function 36 -/
def skerryref06_padded.l0 : Nat → List Int → Int → Option (List Int)
  | 0, _, _ => none
  | k + 1, x0, x1 => if (x0.length : Int) < x1 then (if x0.length < 140737488355328 then (skerryref06_padded.l0 k (x0 ++ [0]) x1) else (none)) else (some x0)
def skerryref06_padded.f (k : Nat) (l0 : List Int) (a1 : Int) : Option (List Int) := skerryref06_padded.l0 k l0 a1
theorem skerryref06_padded.mono_l : ∀ k, (∀ y0 y1, LeO (skerryref06_padded.l0 k y0 y1) (skerryref06_padded.l0 (k + 1) y0 y1))
  | 0 => fun _ _ r h => by simp [skerryref06_padded.l0] at h
  | k + 1 => by
    have ih0 := skerryref06_padded.mono_l k
    · intro y0 y1
      unfold skerryref06_padded.l0
      repeat' first
      | (with_reducible exact ih0 _ _)
      | (with_reducible exact LeO.refl _)
      | (with_reducible exact LeO.none _)
      | (with_reducible refine LeO.ite ?_ ?_)
      | (with_reducible refine LeO.bind ?_ (fun _ => ?_))
      | exact ih0 _ _
      | exact LeO.none _
      | refine LeO.ite ?_ ?_
      | refine LeO.bind ?_ (fun _ => ?_)
theorem skerryref06_padded.mono : ∀ a0 a1 k, LeO (skerryref06_padded.f k a0 a1) (skerryref06_padded.f (k + 1) a0 a1) := by
  intro a0 a1 k
  have ih0 := skerryref06_padded.mono_l k
  unfold skerryref06_padded.f
  repeat' first
      | (with_reducible exact ih0 _ _)
      | (with_reducible exact LeO.refl _)
      | (with_reducible exact LeO.none _)
      | (with_reducible refine LeO.ite ?_ ?_)
      | (with_reducible refine LeO.bind ?_ (fun _ => ?_))
      | exact ih0 _ _
      | exact LeO.none _
      | refine LeO.ite ?_ ?_
      | refine LeO.bind ?_ (fun _ => ?_)
set_option maxHeartbeats 8000000 in
set_option maxRecDepth 100000 in
theorem skerryref06_padded.calls (k : Nat) (P0_ : Nat → Prop) (u9000_ : Value) (l0 : List Int) (a1 : Int) (r : List Int) (w0 w : World) (hB : Below w0.heap.size w0 w) (ho0 : Kd.R (Kd.int .u8) 5 w w0.heap.size P0_ u9000_ l0) (h : skerryref06_padded.f k l0 a1 = some r) :
    Calls Try.prog 36 #[u9000_, .int .i64 a1] w fun e w' => ∃ v0_ : Value, e = .returned (v0_) ∧ Kd.R (Kd.int .u8) 5 w' w0.heap.size (fun k_ => (P0_ k_ ∨ w.heap.size ≤ k_)) v0_ r ∧ Below w0.heap.size w0 w' ∧ Kept w w' (fun k_ => P0_ k_) := by
  have HO0 := Aside0.mk (show Kd.R (Kd.int .u8) 5 w w0.heap.size (fun k_ => (P0_ k_ ∨ w.heap.size ≤ k_)) u9000_ l0 from Kd.R_mono ho0 (fun k_ hk => (.inl hk)))
  have HK := Aside0.mk (Kept.refl w (fun k_ => P0_ k_))
  have HW0 := Aside0.mk hB.size
  have HB := Aside0.mk hB
  clear hB
  have H : (skerryref06_padded.l0 k l0 a1) = some r := h
  clear h
  have H' := Aside0.mk H
  clear H
  go_enter Try.func36, Try.ntmps36
  go_wp2
  go_loopg [0] k (fun kq v0 w' => ∃ (x0_1 : List Int), Aside0 (skerryref06_padded.l0 kq x0_1 a1 = some r) ∧ Aside0 (kq ≤ k) ∧ Aside0 (Kd.R (Kd.int .u8) 5 w' w0.heap.size (fun k_ => (P0_ k_ ∨ w.heap.size ≤ k_)) v0 x0_1) ∧ Aside0 (Kept w w' (fun k_ => P0_ k_)) ∧ Aside0 (Below w0.heap.size w0 w'))
  case atStart => exact ⟨(l0), H', ⟨Nat.le_refl _⟩, ⟨by (with_reducible repeat (first | apply Kd.R_alloc | apply Kd.R_drewN | apply Kd.R_drew)); exact HO0.out⟩, ⟨by repeat (first | (with_reducible first | exact HK.out | apply Kept.alloc | apply Kept.drewN | apply Kept.drew) | with_reducible_and_instances exact HK.out)⟩, ⟨by repeat (first | (with_reducible first | exact HB.out | apply below_alloc | apply pw_below_drewN | apply below_drew1) | with_reducible_and_instances exact HB.out)⟩⟩
  case round =>
    clear H'
    try clear p2
    obtain ⟨x0_1, HA, HK1, HO_0, HK, HB⟩ := hrel
    cases gk with
    | zero => exact absurd HA.out (by simp [skerryref06_padded.l0])
    | succ k1 =>
      have H := HA.out
      clear HA
      simp only [skerryref06_padded.l0] at H
      by_cases c3 : (x0_1.length : Int) < a1
      · rw [if_pos c3] at H
        have c3b0 : decide ((x0_1.length : Int) < a1) = true := decide_eq_true c3
        clear c3
        by_cases c4 : x0_1.length < 140737488355328
        · rw [if_pos c4] at H
          have LMc4 := Aside0.mk c4
          clear c4
          obtain ⟨y156, hy156⟩ : ∃ y_ : List Int, y_ = (x0_1 ++ [0]) := ⟨_, rfl⟩
          replace H : (skerryref06_padded.l0 k1 y156 a1) = some r := by first | (rw [hy156]; with_reducible exact H) | (have H2_ := (Option.bind_some _ _).symm.trans H; rw [hy156]; with_reducible exact H2_) | (have H2_ := (Option.bind_some _ _).symm.trans H; with_reducible exact H2_) | with_reducible exact H | (rw [hy156]; exact H) | exact H
          have Ny156 := Aside0.mk hy156
          clear hy156
          have H' := Aside0.mk H
          clear H
          obtain ⟨Ao5, co5, eo5⟩ := Kd.R_slice HO_0.out
          subst eo5
          go_wp2_with (first | ((with_reducible refine gate_builtin (b := .append) (xs := #[.tmp 9, .tmp 10]) rfl ?_); at_builtin; refine Kd.R_append (Kd.int .u8) (w0 := w0) w0.heap.size rfl (.tmp 9) (.tmp 10) 27 5 (.int .u8 0) 1 rfl Try.underlying27 info5 rfl (by decide) (by omega) (.slice Ao5 x0_1.length co5) x0_1 0 [.int .u8 0] (fun k_ => (P0_ k_ ∨ w.heap.size ≤ k_)) (fun _ => False) rfl rfl ?aP (fun _ hk => hk.elim) ?aF ?aO ?aB ?aS ?aL ?_; (case aP => exact rfl); (case aB => exact (by repeat (first | (with_reducible first | exact HB.out | apply below_alloc | apply pw_below_drewN | apply below_drew1) | with_reducible_and_instances exact HB.out))); (case aF => exact (fun k_ hk => (.inr (Nat.le_trans (by first | exact HK.out.1 | exact (show Kept w _ (fun k_ => P0_ k_) from by repeat (first | (with_reducible first | exact HK.out | apply Kept.alloc | apply Kept.drewN | apply Kept.drew) | with_reducible_and_instances exact HK.out)).1) hk)))); (case aO => exact (by (with_reducible repeat (first | apply Kd.R_alloc | apply Kd.R_drewN | apply Kd.R_drew)); exact HO_0.out)); (case aS => exact (below_size (by repeat (first | (with_reducible first | exact HB.out | apply below_alloc | apply pw_below_drewN | apply below_drew1) | with_reducible_and_instances exact HB.out)))); (case aL => have := LMc4.out; omega); intro v157 w6 ho hb hg hat; rw [← Ny156.out] at ho; have n0_ := Aside0.mk (hb); have n1_ := Aside0.mk (Kept.of_grown (S := (fun k_ => P0_ k_)) hg (by repeat (first | (with_reducible first | exact HK.out | apply Kept.alloc | apply Kept.drewN | apply Kept.drew) | with_reducible_and_instances exact HK.out)) (fun k_ e_ => (HO_0.out.1 k_ e_))); have n2_ := Aside0.mk (ho); clear HB; clear HK; clear HO_0; have HB := n0_; have HK := n1_; have HO158 := n2_; clear n0_ n1_ n2_; clear ho hb hg hat))
          go_roundg k1
          case measure => have := HK1.out; omega
          case rel => exact ⟨(y156), H', ⟨by have := HK1.out; omega⟩, ⟨by (with_reducible repeat (first | apply Kd.R_alloc | apply Kd.R_drewN | apply Kd.R_drew)); exact HO158.out⟩, ⟨by repeat (first | (with_reducible first | exact HK.out | apply Kept.alloc | apply Kept.drewN | apply Kept.drew) | with_reducible_and_instances exact HK.out)⟩, ⟨by repeat (first | (with_reducible first | exact HB.out | apply below_alloc | apply pw_below_drewN | apply below_drew1) | with_reducible_and_instances exact HB.out)⟩⟩
        · rw [if_neg c4] at H
          exact absurd H (by simp)
      · rw [if_neg c3] at H
        have c3b0 : decide ((x0_1.length : Int) < a1) = false := decide_eq_false c3
        clear c3
        obtain rfl := Option.some.inj H
        obtain ⟨Ao7, co7, eo7⟩ := Kd.R_slice HO_0.out
        subst eo7
        go_wp2
        go_ret
        exact ⟨_, by first | rfl | (simp [errW_none, errW_some] <;> rfl) | (simp [*, errW_none, errW_some] <;> rfl), by (with_reducible repeat (first | apply Kd.R_alloc | apply Kd.R_drewN | apply Kd.R_drew)); exact HO_0.out, by repeat (first | (with_reducible first | exact HB.out | apply below_alloc | apply pw_below_drewN | apply below_drew1) | with_reducible_and_instances exact HB.out), by repeat (first | (with_reducible first | exact HK.out | apply Kept.alloc | apply Kept.drewN | apply Kept.drew) | with_reducible_and_instances exact HK.out)⟩

/-! ### skerryref06_Super: function 12 -/
def skerryref06_Super.f (k : Nat) (a0_0 : Int) (a0_1 : Int) (a0_2 : Int) (a0_3 : Int) (a0_4 : Int) (a0_5 : Int) (a0_6 : Int) (a0_7 : Int) (a0_8 : Int) (a0_9 : Int) (a0_10 : Int) (a0_11 : Int) : Option (List Int × Int) := (skerryref05_Check.f k a0_0 a0_1 a0_2 a0_3 a0_4 a0_5 a0_6 a0_7 a0_8 a0_9 a0_10 a0_11).bind fun t160 => (if t160 = 0 then ((skerryref06_put.f k (([83, 75, 82, 89] : List Int)) 2 a0_0).bind fun t164 => ((skerryref06_put.f k t164 2 a0_1).bind fun t167 => ((skerryref06_put.f k t167 2 a0_2).bind fun t170 => ((skerryref06_put.f k t170 2 a0_3).bind fun t173 => ((skerryref02_Sum.f k t173).bind fun t176 => ((skerryref06_put.f k t173 4 t176).bind fun t177 => ((skerryref06_padded.f k t177 a0_0).bind fun t180 => (some (t180, 0))))))))) else (some (([] : List Int), 4)))
theorem skerryref06_Super.mono : ∀ a0 a1 a2 a3 a4 a5 a6 a7 a8 a9 a10 a11 k, LeO (skerryref06_Super.f k a0 a1 a2 a3 a4 a5 a6 a7 a8 a9 a10 a11) (skerryref06_Super.f (k + 1) a0 a1 a2 a3 a4 a5 a6 a7 a8 a9 a10 a11) := by
  intro a0 a1 a2 a3 a4 a5 a6 a7 a8 a9 a10 a11 k
  unfold skerryref06_Super.f
  repeat' first
      | (with_reducible exact skerryref02_Sum.mono _ _)
      | (with_reducible exact skerryref05_Check.mono _ _ _ _ _ _ _ _ _ _ _ _ _)
      | (with_reducible exact skerryref06_padded.mono _ _ _)
      | (with_reducible exact skerryref06_put.mono _ _ _ _)
      | (with_reducible exact LeO.refl _)
      | (with_reducible exact LeO.none _)
      | (with_reducible refine LeO.ite ?_ ?_)
      | (with_reducible refine LeO.bind ?_ (fun _ => ?_))
      | exact skerryref02_Sum.mono _ _
      | exact skerryref05_Check.mono _ _ _ _ _ _ _ _ _ _ _ _ _
      | exact skerryref06_padded.mono _ _ _
      | exact skerryref06_put.mono _ _ _ _
      | exact LeO.none _
      | refine LeO.ite ?_ ?_
      | refine LeO.bind ?_ (fun _ => ?_)

/-! ### codec_blockSize: function 37 -/
def codec_blockSize.f (a0 : Int) : Option (Bool) := if a0 ≥ 64 then (if a0 ≤ 4096 then (some ((Go.bits .and .i64 a0 (wrap64 (a0 - 1))) == 0)) else (some false)) else (some false)
set_option maxHeartbeats 8000000 in
set_option maxRecDepth 100000 in
theorem codec_blockSize.calls (a0 : Int) (r : Bool) (w : World) (h : codec_blockSize.f a0 = some r) :
    Calls Try.prog 37 #[.int .i64 a0] w fun e w' => e = .returned (.bool r) ∧ Drawn0 w w' := by
  have H : (if a0 ≥ 64 then (if a0 ≤ 4096 then (some ((Go.bits .and .i64 a0 (wrap64 (a0 - 1))) == 0)) else (some false)) else (some false)) = some r := h
  clear h
  by_cases c2 : a0 ≥ 64
  · rw [if_pos c2] at H
    have c2b0 : decide (64 ≤ a0) = true := decide_eq_true c2
    clear c2
    by_cases c3 : a0 ≤ 4096
    · rw [if_pos c3] at H
      have c3b0 : decide (a0 ≤ 4096) = true := decide_eq_true c3
      clear c3
      obtain rfl := Option.some.inj H
      go_enter Try.func37, Try.ntmps37
      go_wp2
      go_ret
      exact ⟨by first | rfl | (simp; done) | (simp [*]; done), by repeat (first | exact Drawn0.refl _ | apply Drawn0.step)⟩
    · rw [if_neg c3] at H
      have c3b0 : decide (a0 ≤ 4096) = false := decide_eq_false c3
      clear c3
      obtain rfl := Option.some.inj H
      go_enter Try.func37, Try.ntmps37
      go_wp2
      go_ret
      exact ⟨by first | rfl | (simp; done) | (simp [*]; done), by repeat (first | exact Drawn0.refl _ | apply Drawn0.step)⟩
  · rw [if_neg c2] at H
    have c2b0 : decide (64 ≤ a0) = false := decide_eq_false c2
    clear c2
    obtain rfl := Option.some.inj H
    go_enter Try.func37, Try.ntmps37
    go_wp2
    go_ret
    exact ⟨by first | rfl | (simp; done) | (simp [*]; done), by repeat (first | exact Drawn0.refl _ | apply Drawn0.step)⟩

-- NOT PRINTED: function 13 (codec_Header)

/-! ### skerryref06_fits: function 22 -/
def skerryref06_fits.l0 : Nat → Int → Int → Int → Int → Option (Bool)
  | 0, _, _, _, _ => none
  | k + 1, x0, x1, x5, x6 => if x6 < x1 then (skerryref06_fits.l0 k x0 x1 (wrap64 (x5 * 256)) (wrap64 (x6 + 1))) else (if x0 ≥ 0 then (some (decide (x0 < x5))) else (some false))
def skerryref06_fits.f (k : Nat) (a0 : Int) (a1 : Int) : Option (Bool) := skerryref06_fits.l0 k a0 a1 1 0
theorem skerryref06_fits.mono_l : ∀ k, (∀ y0 y1 y2 y3, LeO (skerryref06_fits.l0 k y0 y1 y2 y3) (skerryref06_fits.l0 (k + 1) y0 y1 y2 y3))
  | 0 => fun _ _ _ _ r h => by simp [skerryref06_fits.l0] at h
  | k + 1 => by
    have ih0 := skerryref06_fits.mono_l k
    · intro y0 y1 y2 y3
      unfold skerryref06_fits.l0
      repeat' first
      | (with_reducible exact ih0 _ _ _ _)
      | (with_reducible exact LeO.refl _)
      | (with_reducible exact LeO.none _)
      | (with_reducible refine LeO.ite ?_ ?_)
      | (with_reducible refine LeO.bind ?_ (fun _ => ?_))
      | exact ih0 _ _ _ _
      | exact LeO.none _
      | refine LeO.ite ?_ ?_
      | refine LeO.bind ?_ (fun _ => ?_)
theorem skerryref06_fits.mono : ∀ a0 a1 k, LeO (skerryref06_fits.f k a0 a1) (skerryref06_fits.f (k + 1) a0 a1) := by
  intro a0 a1 k
  have ih0 := skerryref06_fits.mono_l k
  unfold skerryref06_fits.f
  repeat' first
      | (with_reducible exact ih0 _ _ _ _)
      | (with_reducible exact LeO.refl _)
      | (with_reducible exact LeO.none _)
      | (with_reducible refine LeO.ite ?_ ?_)
      | (with_reducible refine LeO.bind ?_ (fun _ => ?_))
      | exact ih0 _ _ _ _
      | exact LeO.none _
      | refine LeO.ite ?_ ?_
      | refine LeO.bind ?_ (fun _ => ?_)
set_option maxHeartbeats 8000000 in
set_option maxRecDepth 100000 in
theorem skerryref06_fits.calls (k : Nat) (a0 : Int) (a1 : Int) (r : Bool) (w : World) (h : skerryref06_fits.f k a0 a1 = some r) :
    Calls Try.prog 22 #[.int .i64 a0, .int .i64 a1] w fun e w' => e = .returned (.bool r) ∧ Drawn0 w w' := by
  have H : (skerryref06_fits.l0 k a0 a1 1 0) = some r := h
  clear h
  have H' := Aside0.mk H
  clear H
  go_enter Try.func22, Try.ntmps22
  go_wp2
  go_loopg [5, 6] k (fun kq v5 v6 w' => ∃ (x5_1 : Int) (x6_1 : Int), v5 = .int .i64 x5_1 ∧ v6 = .int .i64 x6_1 ∧ Aside0 (skerryref06_fits.l0 kq a0 a1 x5_1 x6_1 = some r) ∧ Aside0 (kq ≤ k) ∧ Drawn0 w w')
  case atStart => exact ⟨(1), (0), (by first | rfl | (simp; done) | (simp [*]; done)), (by first | rfl | (simp; done) | (simp [*]; done)), H', ⟨Nat.le_refl _⟩, by repeat (first | exact Drawn0.refl _ | apply Drawn0.step)⟩
  case round =>
    clear H'
    try clear c2
    try clear p2
    obtain ⟨x5_1, x6_1, rfl, rfl, HA, HK1, ⟨m1, rfl⟩⟩ := hrel
    cases gk with
    | zero => exact absurd HA.out (by simp [skerryref06_fits.l0])
    | succ k1 =>
      have H := HA.out
      clear HA
      simp only [skerryref06_fits.l0] at H
      by_cases c3 : x6_1 < a1
      · rw [if_pos c3] at H
        have c3b0 : decide (x6_1 < a1) = true := decide_eq_true c3
        clear c3
        have H' := Aside0.mk H
        clear H
        go_wp2
        go_roundg k1
        case measure => have := HK1.out; omega
        case rel => exact ⟨(wrap64 (x5_1 * 256)), (wrap64 (x6_1 + 1)), (by first | rfl | (simp; done) | (simp [*]; done)), (by first | rfl | (simp; done) | (simp [*]; done)), H', ⟨by have := HK1.out; omega⟩, by repeat (first | exact Drawn0.refl _ | apply Drawn0.step)⟩
      · rw [if_neg c3] at H
        have c3b0 : decide (x6_1 < a1) = false := decide_eq_false c3
        clear c3
        by_cases c4 : a0 ≥ 0
        · rw [if_pos c4] at H
          have c4b0 : decide (0 ≤ a0) = true := decide_eq_true c4
          clear c4
          obtain rfl := Option.some.inj H
          go_wp2
          go_ret
          exact ⟨by first | rfl | (simp; done) | (simp [*]; done), by repeat (first | exact Drawn0.refl _ | apply Drawn0.step)⟩
        · rw [if_neg c4] at H
          have c4b0 : decide (0 ≤ a0) = false := decide_eq_false c4
          clear c4
          obtain rfl := Option.some.inj H
          go_wp2
          go_ret
          exact ⟨by first | rfl | (simp; done) | (simp [*]; done), by repeat (first | exact Drawn0.refl _ | apply Drawn0.step)⟩

/-! ### skerryref06_Header: function 14 -/
def skerryref06_Header.j0 : Nat → Int → Bool → Int → Int → Int → Option (List Int × Int)
  | 0, _, _, _, _, _ => none
  | k + 1, x1, x25, x190000, x190001, x190002 => if x25 = true then (some (([] : List Int), 3)) else ((skerryref06_put.f k (([83, 76, 79, 71] : List Int)) 4 x190000).bind fun t197 => ((skerryref06_put.f k t197 2 x190001).bind fun t200 => ((skerryref06_put.f k t200 2 x190002).bind fun t203 => ((skerryref02_Sum.f k t203).bind fun t206 => ((skerryref06_put.f k t203 4 t206).bind fun t207 => ((skerryref06_padded.f k t207 x1).bind fun t210 => (some (t210, 0))))))))
def skerryref06_Header.f (k : Nat) (a0_0 : Int) (a0_1 : Int) (a0_2 : Int) (a1 : Int) : Option (List Int × Int) := (skerryref05_Size.f k a1).bind fun t190 => (if t190 = true then ((skerryref06_fits.f k a0_0 4).bind fun t191 => (if t191 = true then ((skerryref06_fits.f k a0_1 2).bind fun t192 => (if t192 = true then ((skerryref06_fits.f k a0_2 2).bind fun t193 => (skerryref06_Header.j0 k a1 (!t193) a0_0 a0_1 a0_2)) else (skerryref06_Header.j0 k a1 true a0_0 a0_1 a0_2))) else (skerryref06_Header.j0 k a1 true a0_0 a0_1 a0_2))) else (some (([] : List Int), 1)))
theorem skerryref06_Header.mono_l : ∀ k, (∀ y0 y1 y2 y3 y4, LeO (skerryref06_Header.j0 k y0 y1 y2 y3 y4) (skerryref06_Header.j0 (k + 1) y0 y1 y2 y3 y4))
  | 0 => fun _ _ _ _ _ r h => by simp [skerryref06_Header.j0] at h
  | k + 1 => by
    have ih0 := skerryref06_Header.mono_l k
    · intro y0 y1 y2 y3 y4
      unfold skerryref06_Header.j0
      repeat' first
      | (with_reducible exact ih0 _ _ _ _ _)
      | (with_reducible exact skerryref02_Sum.mono _ _)
      | (with_reducible exact skerryref05_Size.mono _ _)
      | (with_reducible exact skerryref06_fits.mono _ _ _)
      | (with_reducible exact skerryref06_padded.mono _ _ _)
      | (with_reducible exact skerryref06_put.mono _ _ _ _)
      | (with_reducible exact LeO.refl _)
      | (with_reducible exact LeO.none _)
      | (with_reducible refine LeO.ite ?_ ?_)
      | (with_reducible refine LeO.bind ?_ (fun _ => ?_))
      | exact ih0 _ _ _ _ _
      | exact skerryref02_Sum.mono _ _
      | exact skerryref05_Size.mono _ _
      | exact skerryref06_fits.mono _ _ _
      | exact skerryref06_padded.mono _ _ _
      | exact skerryref06_put.mono _ _ _ _
      | exact LeO.none _
      | refine LeO.ite ?_ ?_
      | refine LeO.bind ?_ (fun _ => ?_)
theorem skerryref06_Header.mono : ∀ a0 a1 a2 a3 k, LeO (skerryref06_Header.f k a0 a1 a2 a3) (skerryref06_Header.f (k + 1) a0 a1 a2 a3) := by
  intro a0 a1 a2 a3 k
  have ih0 := skerryref06_Header.mono_l k
  unfold skerryref06_Header.f
  repeat' first
      | (with_reducible exact ih0 _ _ _ _ _)
      | (with_reducible exact skerryref02_Sum.mono _ _)
      | (with_reducible exact skerryref05_Size.mono _ _)
      | (with_reducible exact skerryref06_fits.mono _ _ _)
      | (with_reducible exact skerryref06_padded.mono _ _ _)
      | (with_reducible exact skerryref06_put.mono _ _ _ _)
      | (with_reducible exact LeO.refl _)
      | (with_reducible exact LeO.none _)
      | (with_reducible refine LeO.ite ?_ ?_)
      | (with_reducible refine LeO.bind ?_ (fun _ => ?_))
      | exact ih0 _ _ _ _ _
      | exact skerryref02_Sum.mono _ _
      | exact skerryref05_Size.mono _ _
      | exact skerryref06_fits.mono _ _ _
      | exact skerryref06_padded.mono _ _ _
      | exact skerryref06_put.mono _ _ _ _
      | exact LeO.none _
      | refine LeO.ite ?_ ?_
      | refine LeO.bind ?_ (fun _ => ?_)

end Go.Proofs.Ytbplffdmggbcdaa.PCodecHeads
