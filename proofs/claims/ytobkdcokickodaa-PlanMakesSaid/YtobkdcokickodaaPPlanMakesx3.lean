-- Written by this session's own tool (prn.py) over the kit's printer; its templates are the session's own. Lean checks it.
import Derived.Test.YtobkdcokickodaaPPlanMakesx0
import Derived.Test.YtobkdcokickodaaPPlanMakesx1
import Derived.Test.YtobkdcokickodaaPPlanMakesx2
namespace Go.Proofs.Ytobkdcokickodaa.PPlanMakes
open Go.RowKit Go.Proofs.YtobkdcokickodaaW.PrintWords Go.Proofs.YtobkdcokickodaaW.PrintLast Go.Proofs.YtobkdcokickodaaW.PrintMore
attribute [local go_sem] max2_int min2_int max_two min_two max_three min_three max_four min_four   -- for this text's walks alone
set_option linter.unusedVariables false
set_option linter.unusedSimpArgs false

attribute [local go_sem high] eqA24
/-! ### skerryref05_Size: function 28 -/
def skerryref05_Size.l0 : Nat → Int → Int → Option (Bool)
  | 0, _, _ => none
  | k + 1, x0, x3 => if x3 ≤ 4096 then (if x3 = x0 then (some true) else (skerryref05_Size.l0 k x0 (wrap64 (x3 * 2)))) else (some false)
def skerryref05_Size.f (k : Nat) (a0 : Int) : Option (Bool) := skerryref05_Size.l0 k a0 64
theorem skerryref05_Size.mono_l : ∀ k, (∀ y0 y1, LeO (skerryref05_Size.l0 k y0 y1) (skerryref05_Size.l0 (k + 1) y0 y1))
  | 0 => fun _ _ r h => by simp [skerryref05_Size.l0] at h
  | k + 1 => by
    have ih0 := skerryref05_Size.mono_l k
    · intro y0 y1
      unfold skerryref05_Size.l0
      repeat' first
      | (with_reducible exact ih0 _ _)
      | (with_reducible exact LeO.refl _)
      | (with_reducible exact LeO.none _)
      | (with_reducible refine LeO.ite ?_ ?_)
      | (with_reducible refine LeO.bind ?_ (fun _ => ?_))
      | exact ih0 _ _
      | exact LeO.none _
      | refine LeO.ite ?_ ?_
      | refine LeO.bind ?_ (fun _ => ?_)
theorem skerryref05_Size.mono : ∀ a0 k, LeO (skerryref05_Size.f k a0) (skerryref05_Size.f (k + 1) a0) := by
  intro a0 k
  have ih0 := skerryref05_Size.mono_l k
  unfold skerryref05_Size.f
  repeat' first
      | (with_reducible exact ih0 _ _)
      | (with_reducible exact LeO.refl _)
      | (with_reducible exact LeO.none _)
      | (with_reducible refine LeO.ite ?_ ?_)
      | (with_reducible refine LeO.bind ?_ (fun _ => ?_))
      | exact ih0 _ _
      | exact LeO.none _
      | refine LeO.ite ?_ ?_
      | refine LeO.bind ?_ (fun _ => ?_)
set_option maxHeartbeats 8000000 in
set_option maxRecDepth 100000 in
theorem skerryref05_Size.calls (k : Nat) (a0 : Int) (r : Bool) (w : World) (h : skerryref05_Size.f k a0 = some r) :
    Calls Try.prog 28 #[.int .i64 a0] w fun e w' => e = .returned (.bool r) ∧ Drawn0 w w' := by
  have H : (skerryref05_Size.l0 k a0 64) = some r := h
  clear h
  have H' := Aside0.mk H
  clear H
  go_enter Try.func28, Try.ntmps28
  go_wp2
  go_loopg [3] k (fun kq v3 w' => ∃ (x3_1 : Int), v3 = .int .i64 x3_1 ∧ Aside0 (skerryref05_Size.l0 kq a0 x3_1 = some r) ∧ Aside0 (kq ≤ k) ∧ Drawn0 w w')
  case atStart => exact ⟨(64), (by first | rfl | (simp; done) | (simp [*]; done)), H', ⟨Nat.le_refl _⟩, by repeat (first | exact Drawn0.refl _ | apply Drawn0.step)⟩
  case round =>
    clear H'
    obtain ⟨x3_1, rfl, HA, HK1, ⟨m1, rfl⟩⟩ := hrel
    cases gk with
    | zero => exact absurd HA.out (by simp [skerryref05_Size.l0])
    | succ k1 =>
      have H := HA.out
      clear HA
      simp only [skerryref05_Size.l0] at H
      by_cases c2 : x3_1 ≤ 4096
      · rw [if_pos c2] at H
        have c2b0 : decide (x3_1 ≤ 4096) = true := decide_eq_true c2
        clear c2
        by_cases c3 : x3_1 = a0
        · rw [if_pos c3] at H
          have c3b0 : (x3_1 == a0) = true := beq_iff_eq.mpr c3
          have c3b1 : (x3_1 != a0) = false := bne_eq_false_iff_eq.mpr c3
          clear c3
          obtain rfl := Option.some.inj H
          go_wp2
          go_ret
          exact ⟨by first | rfl | (simp; done) | (simp [*]; done), by repeat (first | exact Drawn0.refl _ | apply Drawn0.step)⟩
        · rw [if_neg c3] at H
          have c3b0 : (x3_1 == a0) = false := beq_eq_false_iff_ne.mpr c3
          have c3b1 : (x3_1 != a0) = true := bne_iff_ne.mpr c3
          have H' := Aside0.mk H
          clear H
          go_wp2
          go_roundg k1
          case measure => have := HK1.out; omega
          case rel => exact ⟨(wrap64 (x3_1 * 2)), (by first | rfl | (simp; done) | (simp [*]; done)), H', ⟨by have := HK1.out; omega⟩, by repeat (first | exact Drawn0.refl _ | apply Drawn0.step)⟩
      · rw [if_neg c2] at H
        have c2b0 : decide (x3_1 ≤ 4096) = false := decide_eq_false c2
        clear c2
        obtain rfl := Option.some.inj H
        go_wp2
        go_ret
        exact ⟨by first | rfl | (simp; done) | (simp [*]; done), by repeat (first | exact Drawn0.refl _ | apply Drawn0.step)⟩

/-! ### skerryref05_blocksFor: function 29 -/
def skerryref05_blocksFor.l0 : Nat → Int → Int → Int → Option (Int)
  | 0, _, _, _ => none
  | k + 1, x0, x1, x5 => if (wrap64 (x5 * x1)) < x0 then (skerryref05_blocksFor.l0 k x0 x1 (wrap64 (x5 + 1))) else (some x5)
def skerryref05_blocksFor.f (k : Nat) (a0 : Int) (a1 : Int) : Option (Int) := skerryref05_blocksFor.l0 k a0 a1 0
theorem skerryref05_blocksFor.mono_l : ∀ k, (∀ y0 y1 y2, LeO (skerryref05_blocksFor.l0 k y0 y1 y2) (skerryref05_blocksFor.l0 (k + 1) y0 y1 y2))
  | 0 => fun _ _ _ r h => by simp [skerryref05_blocksFor.l0] at h
  | k + 1 => by
    have ih0 := skerryref05_blocksFor.mono_l k
    · intro y0 y1 y2
      unfold skerryref05_blocksFor.l0
      repeat' first
      | (with_reducible exact ih0 _ _ _)
      | (with_reducible exact LeO.refl _)
      | (with_reducible exact LeO.none _)
      | (with_reducible refine LeO.ite ?_ ?_)
      | (with_reducible refine LeO.bind ?_ (fun _ => ?_))
      | exact ih0 _ _ _
      | exact LeO.none _
      | refine LeO.ite ?_ ?_
      | refine LeO.bind ?_ (fun _ => ?_)
theorem skerryref05_blocksFor.mono : ∀ a0 a1 k, LeO (skerryref05_blocksFor.f k a0 a1) (skerryref05_blocksFor.f (k + 1) a0 a1) := by
  intro a0 a1 k
  have ih0 := skerryref05_blocksFor.mono_l k
  unfold skerryref05_blocksFor.f
  repeat' first
      | (with_reducible exact ih0 _ _ _)
      | (with_reducible exact LeO.refl _)
      | (with_reducible exact LeO.none _)
      | (with_reducible refine LeO.ite ?_ ?_)
      | (with_reducible refine LeO.bind ?_ (fun _ => ?_))
      | exact ih0 _ _ _
      | exact LeO.none _
      | refine LeO.ite ?_ ?_
      | refine LeO.bind ?_ (fun _ => ?_)
set_option maxHeartbeats 8000000 in
set_option maxRecDepth 100000 in
theorem skerryref05_blocksFor.calls (k : Nat) (a0 : Int) (a1 : Int) (r : Int) (w : World) (h : skerryref05_blocksFor.f k a0 a1 = some r) :
    Calls Try.prog 29 #[.int .i64 a0, .int .i64 a1] w fun e w' => e = .returned (.int .i64 r) ∧ Drawn0 w w' := by
  have H : (skerryref05_blocksFor.l0 k a0 a1 0) = some r := h
  clear h
  have H' := Aside0.mk H
  clear H
  go_enter Try.func29, Try.ntmps29
  go_wp2
  go_loopg [5] k (fun kq v5 w' => ∃ (x5_1 : Int), v5 = .int .i64 x5_1 ∧ Aside0 (skerryref05_blocksFor.l0 kq a0 a1 x5_1 = some r) ∧ Aside0 (kq ≤ k) ∧ Drawn0 w w')
  case atStart => exact ⟨(0), (by first | rfl | (simp; done) | (simp [*]; done)), H', ⟨Nat.le_refl _⟩, by repeat (first | exact Drawn0.refl _ | apply Drawn0.step)⟩
  case round =>
    clear H'
    try clear c2
    try clear p2
    obtain ⟨x5_1, rfl, HA, HK1, ⟨m1, rfl⟩⟩ := hrel
    cases gk with
    | zero => exact absurd HA.out (by simp [skerryref05_blocksFor.l0])
    | succ k1 =>
      have H := HA.out
      clear HA
      simp only [skerryref05_blocksFor.l0] at H
      by_cases c3 : (wrap64 (x5_1 * a1)) < a0
      · rw [if_pos c3] at H
        have c3b0 : decide ((wrap64 (x5_1 * a1)) < a0) = true := decide_eq_true c3
        clear c3
        have H' := Aside0.mk H
        clear H
        go_wp2
        go_roundg k1
        case measure => have := HK1.out; omega
        case rel => exact ⟨(wrap64 (x5_1 + 1)), (by first | rfl | (simp; done) | (simp [*]; done)), H', ⟨by have := HK1.out; omega⟩, by repeat (first | exact Drawn0.refl _ | apply Drawn0.step)⟩
      · rw [if_neg c3] at H
        have c3b0 : decide ((wrap64 (x5_1 * a1)) < a0) = false := decide_eq_false c3
        clear c3
        obtain rfl := Option.some.inj H
        go_wp2
        go_ret
        exact ⟨by first | rfl | (simp; done) | (simp [*]; done), by repeat (first | exact Drawn0.refl _ | apply Drawn0.step)⟩

/-! ### skerryref05_Make: function 10 -/
def skerryref05_Make.j0 : Nat → Int → Int → Int → Int → Bool → Option (Int × Int × Int × Int × Int × Int × Int × Int × Int × Int × Int × Int × Int)
  | 0, _, _, _, _, _ => none
  | k + 1, x0, x1, x2, x3, x37 => if x37 = true then (some (0, 0, 0, 0, 0, 0, 0, 0, 0, 0, 0, 0, 1)) else (if (wrap64 (x0 * x1)) > 1048576 then (some (0, 0, 0, 0, 0, 0, 0, 0, 0, 0, 0, 0, 5)) else ((skerryref05_blocksFor.f k x2 (wrap64 (8 * x0))).bind fun t119 => ((skerryref05_blocksFor.f k x1 (wrap64 (8 * x0))).bind fun t120 => ((skerryref05_blocksFor.f k x2 (wrap64 (Int.tdiv x0 32))).bind fun t121 => (if (wrap64 ((wrap64 ((wrap64 ((wrap64 (2 + x3)) + t119)) + t120)) + t121)) ≥ x1 then (some (0, 0, 0, 0, 0, 0, 0, 0, 0, 0, 0, 0, 6)) else (some (x0, x1, x2, x3, 2, wrap64 (2 + x3), t119, wrap64 ((wrap64 (2 + x3)) + t119), t120, wrap64 ((wrap64 ((wrap64 (2 + x3)) + t119)) + t120), t121, wrap64 ((wrap64 ((wrap64 ((wrap64 (2 + x3)) + t119)) + t120)) + t121), 0)))))))
def skerryref05_Make.f (k : Nat) (a0 : Int) (a1 : Int) (a2 : Int) (a3 : Int) : Option (Int × Int × Int × Int × Int × Int × Int × Int × Int × Int × Int × Int × Int) := (skerryref05_Size.f k a0).bind fun t117 => (if t117 = true then (if a1 < 1 then (skerryref05_Make.j0 k a0 a1 a2 a3 true) else (if a1 > 4096 then (skerryref05_Make.j0 k a0 a1 a2 a3 true) else (if a2 < 2 then (skerryref05_Make.j0 k a0 a1 a2 a3 true) else (if a2 > 1024 then (skerryref05_Make.j0 k a0 a1 a2 a3 true) else (if a3 < 4 then (skerryref05_Make.j0 k a0 a1 a2 a3 true) else (skerryref05_Make.j0 k a0 a1 a2 a3 (decide (a3 > 512)))))))) else (skerryref05_Make.j0 k a0 a1 a2 a3 true))
theorem skerryref05_Make.mono_l : ∀ k, (∀ y0 y1 y2 y3 y4, LeO (skerryref05_Make.j0 k y0 y1 y2 y3 y4) (skerryref05_Make.j0 (k + 1) y0 y1 y2 y3 y4))
  | 0 => fun _ _ _ _ _ r h => by simp [skerryref05_Make.j0] at h
  | k + 1 => by
    have ih0 := skerryref05_Make.mono_l k
    · intro y0 y1 y2 y3 y4
      unfold skerryref05_Make.j0
      repeat' first
      | (with_reducible exact ih0 _ _ _ _ _)
      | (with_reducible exact skerryref05_Size.mono _ _)
      | (with_reducible exact skerryref05_blocksFor.mono _ _ _)
      | (with_reducible exact LeO.refl _)
      | (with_reducible exact LeO.none _)
      | (with_reducible refine LeO.ite ?_ ?_)
      | (with_reducible refine LeO.bind ?_ (fun _ => ?_))
      | exact ih0 _ _ _ _ _
      | exact skerryref05_Size.mono _ _
      | exact skerryref05_blocksFor.mono _ _ _
      | exact LeO.none _
      | refine LeO.ite ?_ ?_
      | refine LeO.bind ?_ (fun _ => ?_)
theorem skerryref05_Make.mono : ∀ a0 a1 a2 a3 k, LeO (skerryref05_Make.f k a0 a1 a2 a3) (skerryref05_Make.f (k + 1) a0 a1 a2 a3) := by
  intro a0 a1 a2 a3 k
  have ih0 := skerryref05_Make.mono_l k
  unfold skerryref05_Make.f
  repeat' first
      | (with_reducible exact ih0 _ _ _ _ _)
      | (with_reducible exact skerryref05_Size.mono _ _)
      | (with_reducible exact skerryref05_blocksFor.mono _ _ _)
      | (with_reducible exact LeO.refl _)
      | (with_reducible exact LeO.none _)
      | (with_reducible refine LeO.ite ?_ ?_)
      | (with_reducible refine LeO.bind ?_ (fun _ => ?_))
      | exact ih0 _ _ _ _ _
      | exact skerryref05_Size.mono _ _
      | exact skerryref05_blocksFor.mono _ _ _
      | exact LeO.none _
      | refine LeO.ite ?_ ?_
      | refine LeO.bind ?_ (fun _ => ?_)
theorem skerryref05_Make.carry_ {P : Program} {c : Code} {Q : Exit → Act → World → Prop} {a : Act} {w : World} (F : World → Prop) (hF : F w) (h : ∀ W, F W → Code.wp P c Q a W) : Code.wp P c Q a w := h w hF
set_option maxHeartbeats 8000000 in
set_option maxRecDepth 100000 in
theorem skerryref05_Make.calls (k : Nat) (a0 : Int) (a1 : Int) (a2 : Int) (a3 : Int) (r1 : Int) (r2 : Int) (r3 : Int) (r4 : Int) (r5 : Int) (r6 : Int) (r7 : Int) (r8 : Int) (r9 : Int) (r10 : Int) (r11 : Int) (r12 : Int) (r13 : Int) (w : World) (h : skerryref05_Make.f k a0 a1 a2 a3 = some (r1, r2, r3, r4, r5, r6, r7, r8, r9, r10, r11, r12, r13)) :
    Calls Try.prog 10 #[.int .i64 a0, .int .i64 a1, .int .i64 a2, .int .i64 a3] w fun e w' => e = .returned (.tuple #[.agg #[.int .i64 r1, .int .i64 r2, .int .i64 r3, .int .i64 r4, .int .i64 r5, .int .i64 r6, .int .i64 r7, .int .i64 r8, .int .i64 r9, .int .i64 r10, .int .i64 r11, .int .i64 r12], .int .i64 r13]) ∧ Below w.heap.size w w' := by
  have hu24 := Try.underlying24
  have HB := Aside0.mk (Below.refl w.heap.size w)
  have H : ((skerryref05_Size.f k a0).bind fun t117 => (if t117 = true then (if a1 < 1 then (skerryref05_Make.j0 k a0 a1 a2 a3 true) else (if a1 > 4096 then (skerryref05_Make.j0 k a0 a1 a2 a3 true) else (if a2 < 2 then (skerryref05_Make.j0 k a0 a1 a2 a3 true) else (if a2 > 1024 then (skerryref05_Make.j0 k a0 a1 a2 a3 true) else (if a3 < 4 then (skerryref05_Make.j0 k a0 a1 a2 a3 true) else (skerryref05_Make.j0 k a0 a1 a2 a3 (decide (a3 > 512)))))))) else (skerryref05_Make.j0 k a0 a1 a2 a3 true))) = some (r1, r2, r3, r4, r5, r6, r7, r8, r9, r10, r11, r12, r13) := h
  clear h
  have HC5 := Aside0.mk H
  clear H
  go_enter Try.func10, Try.ntmps10
  go_upto_region 1 with (first | ((with_reducible refine gate_dst (N := 8) rfl ?_); refine box_event ?hg (N := 8) ?hd (cs := #[.int .i64 0, .int .i64 0, .int .i64 0, .int .i64 0, .int .i64 0, .int .i64 0, .int .i64 0, .int .i64 0, .int .i64 0, .int .i64 0, .int .i64 0, .int .i64 0]) (t := 24) ?hr ?_; (case hd => rfl); (case hg => rfl); (case hr => first | (go_simp; done) | (go_simp; rfl)); intro gb116 hg w6 hbox hb; have n0_ := Aside0.mk (below_step (by repeat (first | (with_reducible first | exact HB.out | apply below_alloc | apply pw_below_drewN | apply below_drew1) | exact HB.out)) hb); have n1_ := Aside0.mk (hbox); have n2_ := Aside0.mk ((by rw [hg]; exact (below_size (by repeat (first | (with_reducible first | exact HB.out | apply below_alloc | apply pw_below_drewN | apply below_drew1) | exact HB.out))) : w.heap.size ≤ gb116)); have n3_ := Aside0.mk ((by rw [hg]; exact (below_size (by repeat (first | (with_reducible first | exact HB.out | apply below_alloc | apply pw_below_drewN | apply below_drew1) | exact HB.out))) : w.heap.size ≤ gb116)); clear HB; have HB := n0_; have BK116 := n1_; have GW116 := n2_; have GE116 := n3_; clear n0_ n1_ n2_ n3_; clear hb hbox hg))
  (try simp only [Act.put, List.setIfInBounds_toArray, List.set_cons_zero, List.set_cons_succ])
  go_cut [37] (fun v37 wc => ∃ (kq : Nat) (x37_4 : Bool), v37 = .bool x37_4 ∧ Aside0 (skerryref05_Make.j0 kq a0 a1 a2 a3 x37_4 = some (r1, r2, r3, r4, r5, r6, r7, r8, r9, r10, r11, r12, r13)) ∧ Aside0 (kq ≤ k) ∧ Aside0 (wc.heap[gb116]? = some (.cells #[.int .i64 0, .int .i64 0, .int .i64 0, .int .i64 0, .int .i64 0, .int .i64 0, .int .i64 0, .int .i64 0, .int .i64 0, .int .i64 0, .int .i64 0, .int .i64 0] 24 (0, 0))) ∧ Aside0 (Below w.heap.size w wc))
  case first =>
    have H := HC5.out
    clear HC5
    replace H := Option.bind_eq_some_iff.mp H
    obtain ⟨t117, A70, H⟩ := H
    replace H : (if t117 = true then (if a1 < 1 then (skerryref05_Make.j0 k a0 a1 a2 a3 true) else (if a1 > 4096 then (skerryref05_Make.j0 k a0 a1 a2 a3 true) else (if a2 < 2 then (skerryref05_Make.j0 k a0 a1 a2 a3 true) else (if a2 > 1024 then (skerryref05_Make.j0 k a0 a1 a2 a3 true) else (if a3 < 4 then (skerryref05_Make.j0 k a0 a1 a2 a3 true) else (skerryref05_Make.j0 k a0 a1 a2 a3 (decide (a3 > 512)))))))) else (skerryref05_Make.j0 k a0 a1 a2 a3 true)) = some (r1, r2, r3, r4, r5, r6, r7, r8, r9, r10, r11, r12, r13) := H
    have A7 := Aside0.mk A70
    clear A70
    by_cases c8 : t117 = true
    · subst c8
      have H1 : (if a1 < 1 then (skerryref05_Make.j0 k a0 a1 a2 a3 true) else (if a1 > 4096 then (skerryref05_Make.j0 k a0 a1 a2 a3 true) else (if a2 < 2 then (skerryref05_Make.j0 k a0 a1 a2 a3 true) else (if a2 > 1024 then (skerryref05_Make.j0 k a0 a1 a2 a3 true) else (if a3 < 4 then (skerryref05_Make.j0 k a0 a1 a2 a3 true) else (skerryref05_Make.j0 k a0 a1 a2 a3 (decide (a3 > 512)))))))) = some (r1, r2, r3, r4, r5, r6, r7, r8, r9, r10, r11, r12, r13) := by rw [if_pos rfl] at H; exact H
      clear H
      have H := H1
      clear H1
      by_cases c9 : a1 < 1
      · rw [if_pos c9] at H
        have c9b0 : decide (a1 < 1) = true := decide_eq_true c9
        clear c9
        (first | rw [c9b0] | (simp only [i64_w, i32_w]; rw [c9b0]) | rw [c9b1] | skip)
        have H' := Aside0.mk H
        clear H
        go_wp2_with (first | ((with_reducible refine gate_callee (f := 28) rfl ?_); refine goesL_ (some 12) rfl rfl Try.func28 (by kernel_rfl) rfl #[.int .i64 a0] rfl (by (try simp only [List.map_toArray, List.map_cons, List.map_nil]); first | done | rfl | (simp only [List.length_drop, List.length_take]; rfl) | (simp only [Int.toNat_natCast, Nat.sub_self, List.length_drop, List.length_take]; rfl)) ?_; (with_reducible refine (skerryref05_Size.calls k a0 true _ A7.out).mono ?_); rintro e w' ⟨rfl, ⟨nd, rfl⟩⟩; refine ⟨_, rfl, ?_⟩))
        go_meet
        case rel => exact ⟨_, (true), (by first | rfl | (simp; done) | (simp [*]; done)), H', ⟨by first | omega | exact Nat.le_refl _⟩, ⟨by (with_reducible repeat (first | refine blk_drewN ?_ _ | refine blk_drew ?_ | refine blk_alloc ?_ _)); exact BK116.out⟩, ⟨by repeat (first | (with_reducible first | exact HB.out | apply below_alloc | apply pw_below_drewN | apply below_drew1 | refine below_set ?_ GE116.out))⟩⟩
      · rw [if_neg c9] at H
        have c9b0 : decide (a1 < 1) = false := decide_eq_false c9
        clear c9
        (first | rw [c9b0] | (simp only [i64_w, i32_w]; rw [c9b0]) | rw [c9b1] | skip)
        by_cases c10 : a1 > 4096
        · rw [if_pos c10] at H
          have c10b0 : decide (4096 < a1) = true := decide_eq_true c10
          clear c10
          have H' := Aside0.mk H
          clear H
          go_wp2_with (first | ((with_reducible refine gate_callee (f := 28) rfl ?_); refine goesL_ (some 12) rfl rfl Try.func28 (by kernel_rfl) rfl #[.int .i64 a0] rfl (by (try simp only [List.map_toArray, List.map_cons, List.map_nil]); first | done | rfl | (simp only [List.length_drop, List.length_take]; rfl) | (simp only [Int.toNat_natCast, Nat.sub_self, List.length_drop, List.length_take]; rfl)) ?_; (with_reducible refine (skerryref05_Size.calls k a0 true _ A7.out).mono ?_); rintro e w' ⟨rfl, ⟨nd, rfl⟩⟩; refine ⟨_, rfl, ?_⟩))
          go_meet
          case rel => exact ⟨_, (true), (by first | rfl | (simp; done) | (simp [*]; done)), H', ⟨by first | omega | exact Nat.le_refl _⟩, ⟨by (with_reducible repeat (first | refine blk_drewN ?_ _ | refine blk_drew ?_ | refine blk_alloc ?_ _)); exact BK116.out⟩, ⟨by repeat (first | (with_reducible first | exact HB.out | apply below_alloc | apply pw_below_drewN | apply below_drew1 | refine below_set ?_ GE116.out))⟩⟩
        · rw [if_neg c10] at H
          have c10b0 : decide (4096 < a1) = false := decide_eq_false c10
          clear c10
          by_cases c11 : a2 < 2
          · rw [if_pos c11] at H
            have c11b0 : decide (a2 < 2) = true := decide_eq_true c11
            clear c11
            have H' := Aside0.mk H
            clear H
            go_wp2_with (first | ((with_reducible refine gate_callee (f := 28) rfl ?_); refine goesL_ (some 12) rfl rfl Try.func28 (by kernel_rfl) rfl #[.int .i64 a0] rfl (by (try simp only [List.map_toArray, List.map_cons, List.map_nil]); first | done | rfl | (simp only [List.length_drop, List.length_take]; rfl) | (simp only [Int.toNat_natCast, Nat.sub_self, List.length_drop, List.length_take]; rfl)) ?_; (with_reducible refine (skerryref05_Size.calls k a0 true _ A7.out).mono ?_); rintro e w' ⟨rfl, ⟨nd, rfl⟩⟩; refine ⟨_, rfl, ?_⟩))
            go_meet
            case rel => exact ⟨_, (true), (by first | rfl | (simp; done) | (simp [*]; done)), H', ⟨by first | omega | exact Nat.le_refl _⟩, ⟨by (with_reducible repeat (first | refine blk_drewN ?_ _ | refine blk_drew ?_ | refine blk_alloc ?_ _)); exact BK116.out⟩, ⟨by repeat (first | (with_reducible first | exact HB.out | apply below_alloc | apply pw_below_drewN | apply below_drew1 | refine below_set ?_ GE116.out))⟩⟩
          · rw [if_neg c11] at H
            have c11b0 : decide (a2 < 2) = false := decide_eq_false c11
            clear c11
            by_cases c12 : a2 > 1024
            · rw [if_pos c12] at H
              have c12b0 : decide (1024 < a2) = true := decide_eq_true c12
              clear c12
              have H' := Aside0.mk H
              clear H
              go_wp2_with (first | ((with_reducible refine gate_callee (f := 28) rfl ?_); refine goesL_ (some 12) rfl rfl Try.func28 (by kernel_rfl) rfl #[.int .i64 a0] rfl (by (try simp only [List.map_toArray, List.map_cons, List.map_nil]); first | done | rfl | (simp only [List.length_drop, List.length_take]; rfl) | (simp only [Int.toNat_natCast, Nat.sub_self, List.length_drop, List.length_take]; rfl)) ?_; (with_reducible refine (skerryref05_Size.calls k a0 true _ A7.out).mono ?_); rintro e w' ⟨rfl, ⟨nd, rfl⟩⟩; refine ⟨_, rfl, ?_⟩))
              go_meet
              case rel => exact ⟨_, (true), (by first | rfl | (simp; done) | (simp [*]; done)), H', ⟨by first | omega | exact Nat.le_refl _⟩, ⟨by (with_reducible repeat (first | refine blk_drewN ?_ _ | refine blk_drew ?_ | refine blk_alloc ?_ _)); exact BK116.out⟩, ⟨by repeat (first | (with_reducible first | exact HB.out | apply below_alloc | apply pw_below_drewN | apply below_drew1 | refine below_set ?_ GE116.out))⟩⟩
            · rw [if_neg c12] at H
              have c12b0 : decide (1024 < a2) = false := decide_eq_false c12
              clear c12
              by_cases c13 : a3 < 4
              · rw [if_pos c13] at H
                have c13b0 : decide (a3 < 4) = true := decide_eq_true c13
                clear c13
                have H' := Aside0.mk H
                clear H
                go_wp2_with (first | ((with_reducible refine gate_callee (f := 28) rfl ?_); refine goesL_ (some 12) rfl rfl Try.func28 (by kernel_rfl) rfl #[.int .i64 a0] rfl (by (try simp only [List.map_toArray, List.map_cons, List.map_nil]); first | done | rfl | (simp only [List.length_drop, List.length_take]; rfl) | (simp only [Int.toNat_natCast, Nat.sub_self, List.length_drop, List.length_take]; rfl)) ?_; (with_reducible refine (skerryref05_Size.calls k a0 true _ A7.out).mono ?_); rintro e w' ⟨rfl, ⟨nd, rfl⟩⟩; refine ⟨_, rfl, ?_⟩))
                go_meet
                case rel => exact ⟨_, (true), (by first | rfl | (simp; done) | (simp [*]; done)), H', ⟨by first | omega | exact Nat.le_refl _⟩, ⟨by (with_reducible repeat (first | refine blk_drewN ?_ _ | refine blk_drew ?_ | refine blk_alloc ?_ _)); exact BK116.out⟩, ⟨by repeat (first | (with_reducible first | exact HB.out | apply below_alloc | apply pw_below_drewN | apply below_drew1 | refine below_set ?_ GE116.out))⟩⟩
              · rw [if_neg c13] at H
                have c13b0 : decide (a3 < 4) = false := decide_eq_false c13
                clear c13
                have H' := Aside0.mk H
                clear H
                go_wp2_with (first | ((with_reducible refine gate_callee (f := 28) rfl ?_); refine goesL_ (some 12) rfl rfl Try.func28 (by kernel_rfl) rfl #[.int .i64 a0] rfl (by (try simp only [List.map_toArray, List.map_cons, List.map_nil]); first | done | rfl | (simp only [List.length_drop, List.length_take]; rfl) | (simp only [Int.toNat_natCast, Nat.sub_self, List.length_drop, List.length_take]; rfl)) ?_; (with_reducible refine (skerryref05_Size.calls k a0 true _ A7.out).mono ?_); rintro e w' ⟨rfl, ⟨nd, rfl⟩⟩; refine ⟨_, rfl, ?_⟩))
                go_meet
                case rel => exact ⟨_, (decide (a3 > 512)), (by first | rfl | (simp; done) | (simp [*]; done)), H', ⟨by first | omega | exact Nat.le_refl _⟩, ⟨by (with_reducible repeat (first | refine blk_drewN ?_ _ | refine blk_drew ?_ | refine blk_alloc ?_ _)); exact BK116.out⟩, ⟨by repeat (first | (with_reducible first | exact HB.out | apply below_alloc | apply pw_below_drewN | apply below_drew1 | refine below_set ?_ GE116.out))⟩⟩
    · replace c8 := Bool.eq_false_iff.mpr c8
      subst c8
      have H1 : (skerryref05_Make.j0 k a0 a1 a2 a3 true) = some (r1, r2, r3, r4, r5, r6, r7, r8, r9, r10, r11, r12, r13) := by rw [if_neg (show ¬ (false = true) by decide)] at H; exact H
      clear H
      have H := H1
      clear H1
      have H' := Aside0.mk H
      clear H
      go_wp2_with (first | ((with_reducible refine gate_callee (f := 28) rfl ?_); refine goesL_ (some 12) rfl rfl Try.func28 (by kernel_rfl) rfl #[.int .i64 a0] rfl (by (try simp only [List.map_toArray, List.map_cons, List.map_nil]); first | done | rfl | (simp only [List.length_drop, List.length_take]; rfl) | (simp only [Int.toNat_natCast, Nat.sub_self, List.length_drop, List.length_take]; rfl)) ?_; (with_reducible refine (skerryref05_Size.calls k a0 false _ A7.out).mono ?_); rintro e w' ⟨rfl, ⟨nd, rfl⟩⟩; refine ⟨_, rfl, ?_⟩))
      go_meet
      case rel => exact ⟨_, (true), (by first | rfl | (simp; done) | (simp [*]; done)), H', ⟨by first | omega | exact Nat.le_refl _⟩, ⟨by (with_reducible repeat (first | refine blk_drewN ?_ _ | refine blk_drew ?_ | refine blk_alloc ?_ _)); exact BK116.out⟩, ⟨by repeat (first | (with_reducible first | exact HB.out | apply below_alloc | apply pw_below_drewN | apply below_drew1 | refine below_set ?_ GE116.out))⟩⟩
  case rest =>
    clear HC5
    try clear c1
    try clear c2
    try clear p2
    try clear c8
    try clear c9
    try clear c9b0
    try clear c9b1
    try clear c10
    try clear c10b0
    try clear c11
    try clear c11b0
    try clear c12
    try clear c12b0
    try clear c13
    try clear c13b0
    obtain ⟨kq, x37_4, rfl, HA, HJ4, BK116, HB⟩ := hcut
    cases kq with
    | zero => exact absurd HA.out (by simp [skerryref05_Make.j0])
    | succ kj4 =>
      have H := HA.out
      clear HA
      simp only [skerryref05_Make.j0] at H
      by_cases c14 : x37_4 = true
      · subst c14
        have H1 : (some (0, 0, 0, 0, 0, 0, 0, 0, 0, 0, 0, 0, 1)) = some (r1, r2, r3, r4, r5, r6, r7, r8, r9, r10, r11, r12, r13) := by rw [if_pos rfl] at H; exact H
        clear H
        have H := H1
        clear H1
        simp only [Option.some.injEq, Prod.mk.injEq] at H
        obtain ⟨rfl, rfl, rfl, rfl, rfl, rfl, rfl, rfl, rfl, rfl, rfl, rfl, rfl⟩ := H
        have hcz15_0 : wc.cell? ⟨gb116, 0, none⟩ = some (.int .i64 0) := (blk_cell BK116.out 0).trans rfl
        have hcz15_1 : wc.cell? ⟨gb116, 1, none⟩ = some (.int .i64 0) := (blk_cell BK116.out 1).trans rfl
        have hcz15_2 : wc.cell? ⟨gb116, 2, none⟩ = some (.int .i64 0) := (blk_cell BK116.out 2).trans rfl
        have hcz15_3 : wc.cell? ⟨gb116, 3, none⟩ = some (.int .i64 0) := (blk_cell BK116.out 3).trans rfl
        have hcz15_4 : wc.cell? ⟨gb116, 4, none⟩ = some (.int .i64 0) := (blk_cell BK116.out 4).trans rfl
        have hcz15_5 : wc.cell? ⟨gb116, 5, none⟩ = some (.int .i64 0) := (blk_cell BK116.out 5).trans rfl
        have hcz15_6 : wc.cell? ⟨gb116, 6, none⟩ = some (.int .i64 0) := (blk_cell BK116.out 6).trans rfl
        have hcz15_7 : wc.cell? ⟨gb116, 7, none⟩ = some (.int .i64 0) := (blk_cell BK116.out 7).trans rfl
        have hcz15_8 : wc.cell? ⟨gb116, 8, none⟩ = some (.int .i64 0) := (blk_cell BK116.out 8).trans rfl
        have hcz15_9 : wc.cell? ⟨gb116, 9, none⟩ = some (.int .i64 0) := (blk_cell BK116.out 9).trans rfl
        have hcz15_10 : wc.cell? ⟨gb116, 10, none⟩ = some (.int .i64 0) := (blk_cell BK116.out 10).trans rfl
        have hcz15_11 : wc.cell? ⟨gb116, 11, none⟩ = some (.int .i64 0) := (blk_cell BK116.out 11).trans rfl
        have hfz15_0 := blk_frozen BK116.out 0
        have hfz15_1 := blk_frozen BK116.out 1
        have hfz15_2 := blk_frozen BK116.out 2
        have hfz15_3 := blk_frozen BK116.out 3
        have hfz15_4 := blk_frozen BK116.out 4
        have hfz15_5 := blk_frozen BK116.out 5
        have hfz15_6 := blk_frozen BK116.out 6
        have hfz15_7 := blk_frozen BK116.out 7
        have hfz15_8 := blk_frozen BK116.out 8
        have hfz15_9 := blk_frozen BK116.out 9
        have hfz15_10 := blk_frozen BK116.out 10
        have hfz15_11 := blk_frozen BK116.out 11
        go_wp2
        refine bodyPost_ret (results_ct rfl _ _ gb116 24 #[.int .i64 0, .int .i64 0, .int .i64 0, .int .i64 0, .int .i64 0, .int .i64 0, .int .i64 0, .int .i64 0, .int .i64 0, .int .i64 0, .int .i64 0, .int .i64 0] (0, 0) _ rfl (by (with_reducible repeat (first | refine blk_drewN ?_ _ | refine blk_drew ?_ | refine blk_alloc ?_ _)); refine blk_put (cs := #[.int .i64 0, .int .i64 0, .int .i64 0, .int .i64 0, .int .i64 0, .int .i64 0, .int .i64 0, .int .i64 0, .int .i64 0, .int .i64 0, .int .i64 0, .int .i64 0]) ?_ 11 _ rfl; (with_reducible repeat (first | refine blk_drewN ?_ _ | refine blk_drew ?_ | refine blk_alloc ?_ _)); refine blk_put (cs := #[.int .i64 0, .int .i64 0, .int .i64 0, .int .i64 0, .int .i64 0, .int .i64 0, .int .i64 0, .int .i64 0, .int .i64 0, .int .i64 0, .int .i64 0, .int .i64 0]) ?_ 10 _ rfl; (with_reducible repeat (first | refine blk_drewN ?_ _ | refine blk_drew ?_ | refine blk_alloc ?_ _)); refine blk_put (cs := #[.int .i64 0, .int .i64 0, .int .i64 0, .int .i64 0, .int .i64 0, .int .i64 0, .int .i64 0, .int .i64 0, .int .i64 0, .int .i64 0, .int .i64 0, .int .i64 0]) ?_ 9 _ rfl; (with_reducible repeat (first | refine blk_drewN ?_ _ | refine blk_drew ?_ | refine blk_alloc ?_ _)); refine blk_put (cs := #[.int .i64 0, .int .i64 0, .int .i64 0, .int .i64 0, .int .i64 0, .int .i64 0, .int .i64 0, .int .i64 0, .int .i64 0, .int .i64 0, .int .i64 0, .int .i64 0]) ?_ 8 _ rfl; (with_reducible repeat (first | refine blk_drewN ?_ _ | refine blk_drew ?_ | refine blk_alloc ?_ _)); refine blk_put (cs := #[.int .i64 0, .int .i64 0, .int .i64 0, .int .i64 0, .int .i64 0, .int .i64 0, .int .i64 0, .int .i64 0, .int .i64 0, .int .i64 0, .int .i64 0, .int .i64 0]) ?_ 7 _ rfl; (with_reducible repeat (first | refine blk_drewN ?_ _ | refine blk_drew ?_ | refine blk_alloc ?_ _)); refine blk_put (cs := #[.int .i64 0, .int .i64 0, .int .i64 0, .int .i64 0, .int .i64 0, .int .i64 0, .int .i64 0, .int .i64 0, .int .i64 0, .int .i64 0, .int .i64 0, .int .i64 0]) ?_ 6 _ rfl; (with_reducible repeat (first | refine blk_drewN ?_ _ | refine blk_drew ?_ | refine blk_alloc ?_ _)); refine blk_put (cs := #[.int .i64 0, .int .i64 0, .int .i64 0, .int .i64 0, .int .i64 0, .int .i64 0, .int .i64 0, .int .i64 0, .int .i64 0, .int .i64 0, .int .i64 0, .int .i64 0]) ?_ 5 _ rfl; (with_reducible repeat (first | refine blk_drewN ?_ _ | refine blk_drew ?_ | refine blk_alloc ?_ _)); refine blk_put (cs := #[.int .i64 0, .int .i64 0, .int .i64 0, .int .i64 0, .int .i64 0, .int .i64 0, .int .i64 0, .int .i64 0, .int .i64 0, .int .i64 0, .int .i64 0, .int .i64 0]) ?_ 4 _ rfl; (with_reducible repeat (first | refine blk_drewN ?_ _ | refine blk_drew ?_ | refine blk_alloc ?_ _)); refine blk_put (cs := #[.int .i64 0, .int .i64 0, .int .i64 0, .int .i64 0, .int .i64 0, .int .i64 0, .int .i64 0, .int .i64 0, .int .i64 0, .int .i64 0, .int .i64 0, .int .i64 0]) ?_ 3 _ rfl; (with_reducible repeat (first | refine blk_drewN ?_ _ | refine blk_drew ?_ | refine blk_alloc ?_ _)); refine blk_put (cs := #[.int .i64 0, .int .i64 0, .int .i64 0, .int .i64 0, .int .i64 0, .int .i64 0, .int .i64 0, .int .i64 0, .int .i64 0, .int .i64 0, .int .i64 0, .int .i64 0]) ?_ 2 _ rfl; (with_reducible repeat (first | refine blk_drewN ?_ _ | refine blk_drew ?_ | refine blk_alloc ?_ _)); refine blk_put (cs := #[.int .i64 0, .int .i64 0, .int .i64 0, .int .i64 0, .int .i64 0, .int .i64 0, .int .i64 0, .int .i64 0, .int .i64 0, .int .i64 0, .int .i64 0, .int .i64 0]) ?_ 1 _ rfl; (with_reducible repeat (first | refine blk_drewN ?_ _ | refine blk_drew ?_ | refine blk_alloc ?_ _)); refine blk_put (cs := #[.int .i64 0, .int .i64 0, .int .i64 0, .int .i64 0, .int .i64 0, .int .i64 0, .int .i64 0, .int .i64 0, .int .i64 0, .int .i64 0, .int .i64 0, .int .i64 0]) ?_ 0 _ rfl; (with_reducible repeat (first | refine blk_drewN ?_ _ | refine blk_drew ?_ | refine blk_alloc ?_ _)); exact BK116.out) Try.underlying24 rfl (by kernel_rfl)) rfl ?_
        exact ⟨by first | rfl | (simp [errW_none, errW_some] <;> rfl) | (simp [*, errW_none, errW_some] <;> rfl), by repeat (first | (with_reducible first | exact HB.out | apply below_alloc | apply pw_below_drewN | apply below_drew1 | refine below_set ?_ GE116.out))⟩
      · replace c14 := Bool.eq_false_iff.mpr c14
        subst c14
        have H1 : (if (wrap64 (a0 * a1)) > 1048576 then (some (0, 0, 0, 0, 0, 0, 0, 0, 0, 0, 0, 0, 5)) else ((skerryref05_blocksFor.f kj4 a2 (wrap64 (8 * a0))).bind fun t119 => ((skerryref05_blocksFor.f kj4 a1 (wrap64 (8 * a0))).bind fun t120 => ((skerryref05_blocksFor.f kj4 a2 (wrap64 (Int.tdiv a0 32))).bind fun t121 => (if (wrap64 ((wrap64 ((wrap64 ((wrap64 (2 + a3)) + t119)) + t120)) + t121)) ≥ a1 then (some (0, 0, 0, 0, 0, 0, 0, 0, 0, 0, 0, 0, 6)) else (some (a0, a1, a2, a3, 2, wrap64 (2 + a3), t119, wrap64 ((wrap64 (2 + a3)) + t119), t120, wrap64 ((wrap64 ((wrap64 (2 + a3)) + t119)) + t120), t121, wrap64 ((wrap64 ((wrap64 ((wrap64 (2 + a3)) + t119)) + t120)) + t121), 0))))))) = some (r1, r2, r3, r4, r5, r6, r7, r8, r9, r10, r11, r12, r13) := by rw [if_neg (show ¬ (false = true) by decide)] at H; exact H
        clear H
        have H := H1
        clear H1
        by_cases c16 : (wrap64 (a0 * a1)) > 1048576
        · rw [if_pos c16] at H
          have c16b0 : decide (1048576 < (wrap64 (a0 * a1))) = true := decide_eq_true c16
          clear c16
          simp only [Option.some.injEq, Prod.mk.injEq] at H
          obtain ⟨rfl, rfl, rfl, rfl, rfl, rfl, rfl, rfl, rfl, rfl, rfl, rfl, rfl⟩ := H
          have hcz17_0 : wc.cell? ⟨gb116, 0, none⟩ = some (.int .i64 0) := (blk_cell BK116.out 0).trans rfl
          have hcz17_1 : wc.cell? ⟨gb116, 1, none⟩ = some (.int .i64 0) := (blk_cell BK116.out 1).trans rfl
          have hcz17_2 : wc.cell? ⟨gb116, 2, none⟩ = some (.int .i64 0) := (blk_cell BK116.out 2).trans rfl
          have hcz17_3 : wc.cell? ⟨gb116, 3, none⟩ = some (.int .i64 0) := (blk_cell BK116.out 3).trans rfl
          have hcz17_4 : wc.cell? ⟨gb116, 4, none⟩ = some (.int .i64 0) := (blk_cell BK116.out 4).trans rfl
          have hcz17_5 : wc.cell? ⟨gb116, 5, none⟩ = some (.int .i64 0) := (blk_cell BK116.out 5).trans rfl
          have hcz17_6 : wc.cell? ⟨gb116, 6, none⟩ = some (.int .i64 0) := (blk_cell BK116.out 6).trans rfl
          have hcz17_7 : wc.cell? ⟨gb116, 7, none⟩ = some (.int .i64 0) := (blk_cell BK116.out 7).trans rfl
          have hcz17_8 : wc.cell? ⟨gb116, 8, none⟩ = some (.int .i64 0) := (blk_cell BK116.out 8).trans rfl
          have hcz17_9 : wc.cell? ⟨gb116, 9, none⟩ = some (.int .i64 0) := (blk_cell BK116.out 9).trans rfl
          have hcz17_10 : wc.cell? ⟨gb116, 10, none⟩ = some (.int .i64 0) := (blk_cell BK116.out 10).trans rfl
          have hcz17_11 : wc.cell? ⟨gb116, 11, none⟩ = some (.int .i64 0) := (blk_cell BK116.out 11).trans rfl
          have hfz17_0 := blk_frozen BK116.out 0
          have hfz17_1 := blk_frozen BK116.out 1
          have hfz17_2 := blk_frozen BK116.out 2
          have hfz17_3 := blk_frozen BK116.out 3
          have hfz17_4 := blk_frozen BK116.out 4
          have hfz17_5 := blk_frozen BK116.out 5
          have hfz17_6 := blk_frozen BK116.out 6
          have hfz17_7 := blk_frozen BK116.out 7
          have hfz17_8 := blk_frozen BK116.out 8
          have hfz17_9 := blk_frozen BK116.out 9
          have hfz17_10 := blk_frozen BK116.out 10
          have hfz17_11 := blk_frozen BK116.out 11
          go_wp2
          refine bodyPost_ret (results_ct rfl _ _ gb116 24 #[.int .i64 0, .int .i64 0, .int .i64 0, .int .i64 0, .int .i64 0, .int .i64 0, .int .i64 0, .int .i64 0, .int .i64 0, .int .i64 0, .int .i64 0, .int .i64 0] (0, 0) _ rfl (by (with_reducible repeat (first | refine blk_drewN ?_ _ | refine blk_drew ?_ | refine blk_alloc ?_ _)); refine blk_put (cs := #[.int .i64 0, .int .i64 0, .int .i64 0, .int .i64 0, .int .i64 0, .int .i64 0, .int .i64 0, .int .i64 0, .int .i64 0, .int .i64 0, .int .i64 0, .int .i64 0]) ?_ 11 _ rfl; (with_reducible repeat (first | refine blk_drewN ?_ _ | refine blk_drew ?_ | refine blk_alloc ?_ _)); refine blk_put (cs := #[.int .i64 0, .int .i64 0, .int .i64 0, .int .i64 0, .int .i64 0, .int .i64 0, .int .i64 0, .int .i64 0, .int .i64 0, .int .i64 0, .int .i64 0, .int .i64 0]) ?_ 10 _ rfl; (with_reducible repeat (first | refine blk_drewN ?_ _ | refine blk_drew ?_ | refine blk_alloc ?_ _)); refine blk_put (cs := #[.int .i64 0, .int .i64 0, .int .i64 0, .int .i64 0, .int .i64 0, .int .i64 0, .int .i64 0, .int .i64 0, .int .i64 0, .int .i64 0, .int .i64 0, .int .i64 0]) ?_ 9 _ rfl; (with_reducible repeat (first | refine blk_drewN ?_ _ | refine blk_drew ?_ | refine blk_alloc ?_ _)); refine blk_put (cs := #[.int .i64 0, .int .i64 0, .int .i64 0, .int .i64 0, .int .i64 0, .int .i64 0, .int .i64 0, .int .i64 0, .int .i64 0, .int .i64 0, .int .i64 0, .int .i64 0]) ?_ 8 _ rfl; (with_reducible repeat (first | refine blk_drewN ?_ _ | refine blk_drew ?_ | refine blk_alloc ?_ _)); refine blk_put (cs := #[.int .i64 0, .int .i64 0, .int .i64 0, .int .i64 0, .int .i64 0, .int .i64 0, .int .i64 0, .int .i64 0, .int .i64 0, .int .i64 0, .int .i64 0, .int .i64 0]) ?_ 7 _ rfl; (with_reducible repeat (first | refine blk_drewN ?_ _ | refine blk_drew ?_ | refine blk_alloc ?_ _)); refine blk_put (cs := #[.int .i64 0, .int .i64 0, .int .i64 0, .int .i64 0, .int .i64 0, .int .i64 0, .int .i64 0, .int .i64 0, .int .i64 0, .int .i64 0, .int .i64 0, .int .i64 0]) ?_ 6 _ rfl; (with_reducible repeat (first | refine blk_drewN ?_ _ | refine blk_drew ?_ | refine blk_alloc ?_ _)); refine blk_put (cs := #[.int .i64 0, .int .i64 0, .int .i64 0, .int .i64 0, .int .i64 0, .int .i64 0, .int .i64 0, .int .i64 0, .int .i64 0, .int .i64 0, .int .i64 0, .int .i64 0]) ?_ 5 _ rfl; (with_reducible repeat (first | refine blk_drewN ?_ _ | refine blk_drew ?_ | refine blk_alloc ?_ _)); refine blk_put (cs := #[.int .i64 0, .int .i64 0, .int .i64 0, .int .i64 0, .int .i64 0, .int .i64 0, .int .i64 0, .int .i64 0, .int .i64 0, .int .i64 0, .int .i64 0, .int .i64 0]) ?_ 4 _ rfl; (with_reducible repeat (first | refine blk_drewN ?_ _ | refine blk_drew ?_ | refine blk_alloc ?_ _)); refine blk_put (cs := #[.int .i64 0, .int .i64 0, .int .i64 0, .int .i64 0, .int .i64 0, .int .i64 0, .int .i64 0, .int .i64 0, .int .i64 0, .int .i64 0, .int .i64 0, .int .i64 0]) ?_ 3 _ rfl; (with_reducible repeat (first | refine blk_drewN ?_ _ | refine blk_drew ?_ | refine blk_alloc ?_ _)); refine blk_put (cs := #[.int .i64 0, .int .i64 0, .int .i64 0, .int .i64 0, .int .i64 0, .int .i64 0, .int .i64 0, .int .i64 0, .int .i64 0, .int .i64 0, .int .i64 0, .int .i64 0]) ?_ 2 _ rfl; (with_reducible repeat (first | refine blk_drewN ?_ _ | refine blk_drew ?_ | refine blk_alloc ?_ _)); refine blk_put (cs := #[.int .i64 0, .int .i64 0, .int .i64 0, .int .i64 0, .int .i64 0, .int .i64 0, .int .i64 0, .int .i64 0, .int .i64 0, .int .i64 0, .int .i64 0, .int .i64 0]) ?_ 1 _ rfl; (with_reducible repeat (first | refine blk_drewN ?_ _ | refine blk_drew ?_ | refine blk_alloc ?_ _)); refine blk_put (cs := #[.int .i64 0, .int .i64 0, .int .i64 0, .int .i64 0, .int .i64 0, .int .i64 0, .int .i64 0, .int .i64 0, .int .i64 0, .int .i64 0, .int .i64 0, .int .i64 0]) ?_ 0 _ rfl; (with_reducible repeat (first | refine blk_drewN ?_ _ | refine blk_drew ?_ | refine blk_alloc ?_ _)); exact BK116.out) Try.underlying24 rfl (by kernel_rfl)) rfl ?_
          exact ⟨by first | rfl | (simp [errW_none, errW_some] <;> rfl) | (simp [*, errW_none, errW_some] <;> rfl), by repeat (first | (with_reducible first | exact HB.out | apply below_alloc | apply pw_below_drewN | apply below_drew1 | refine below_set ?_ GE116.out))⟩
        · rw [if_neg c16] at H
          have c16b0 : decide (1048576 < (wrap64 (a0 * a1))) = false := decide_eq_false c16
          clear c16
          replace H := Option.bind_eq_some_iff.mp H
          obtain ⟨t119, A180, H⟩ := H
          replace H : ((skerryref05_blocksFor.f kj4 a1 (wrap64 (8 * a0))).bind fun t120 => ((skerryref05_blocksFor.f kj4 a2 (wrap64 (Int.tdiv a0 32))).bind fun t121 => (if (wrap64 ((wrap64 ((wrap64 ((wrap64 (2 + a3)) + t119)) + t120)) + t121)) ≥ a1 then (some (0, 0, 0, 0, 0, 0, 0, 0, 0, 0, 0, 0, 6)) else (some (a0, a1, a2, a3, 2, wrap64 (2 + a3), t119, wrap64 ((wrap64 (2 + a3)) + t119), t120, wrap64 ((wrap64 ((wrap64 (2 + a3)) + t119)) + t120), t121, wrap64 ((wrap64 ((wrap64 ((wrap64 (2 + a3)) + t119)) + t120)) + t121), 0))))) = some (r1, r2, r3, r4, r5, r6, r7, r8, r9, r10, r11, r12, r13) := H
          have A18 := Aside0.mk A180
          clear A180
          replace H := Option.bind_eq_some_iff.mp H
          obtain ⟨t120, A190, H⟩ := H
          replace H : ((skerryref05_blocksFor.f kj4 a2 (wrap64 (Int.tdiv a0 32))).bind fun t121 => (if (wrap64 ((wrap64 ((wrap64 ((wrap64 (2 + a3)) + t119)) + t120)) + t121)) ≥ a1 then (some (0, 0, 0, 0, 0, 0, 0, 0, 0, 0, 0, 0, 6)) else (some (a0, a1, a2, a3, 2, wrap64 (2 + a3), t119, wrap64 ((wrap64 (2 + a3)) + t119), t120, wrap64 ((wrap64 ((wrap64 (2 + a3)) + t119)) + t120), t121, wrap64 ((wrap64 ((wrap64 ((wrap64 (2 + a3)) + t119)) + t120)) + t121), 0)))) = some (r1, r2, r3, r4, r5, r6, r7, r8, r9, r10, r11, r12, r13) := H
          have A19 := Aside0.mk A190
          clear A190
          replace H := Option.bind_eq_some_iff.mp H
          obtain ⟨t121, A200, H⟩ := H
          replace H : (if (wrap64 ((wrap64 ((wrap64 ((wrap64 (2 + a3)) + t119)) + t120)) + t121)) ≥ a1 then (some (0, 0, 0, 0, 0, 0, 0, 0, 0, 0, 0, 0, 6)) else (some (a0, a1, a2, a3, 2, wrap64 (2 + a3), t119, wrap64 ((wrap64 (2 + a3)) + t119), t120, wrap64 ((wrap64 ((wrap64 (2 + a3)) + t119)) + t120), t121, wrap64 ((wrap64 ((wrap64 ((wrap64 (2 + a3)) + t119)) + t120)) + t121), 0))) = some (r1, r2, r3, r4, r5, r6, r7, r8, r9, r10, r11, r12, r13) := H
          have A20 := Aside0.mk A200
          clear A200
          have HL := Aside0.mk H
          clear H
          go_upto_region 6 with (first | ((with_reducible refine gate_dst (N := 10) rfl ?_); refine box_event ?hg (N := 10) ?hd (cs := #[.int .i64 0, .int .i64 0, .int .i64 0, .int .i64 0, .int .i64 0, .int .i64 0, .int .i64 0, .int .i64 0, .int .i64 0, .int .i64 0, .int .i64 0, .int .i64 0]) (t := 24) ?hr ?_; (case hd => rfl); (case hg => rfl); (case hr => first | (go_simp; done) | (go_simp; rfl)); intro gb118 hg w22 hbox hb; have n0_ := Aside0.mk (blk_below (g := gb116) (o := .cells #[.int .i64 0, .int .i64 0, .int .i64 0, .int .i64 0, .int .i64 0, .int .i64 0, .int .i64 0, .int .i64 0, .int .i64 0, .int .i64 0, .int .i64 0, .int .i64 0] 24 (0, 0)) (by (with_reducible repeat (first | refine blk_drewN ?_ _ | refine blk_drew ?_ | refine blk_alloc ?_ _)); exact BK116.out) hb); have n1_ := Aside0.mk (below_step (by repeat (first | (with_reducible first | exact HB.out | apply below_alloc | apply pw_below_drewN | apply below_drew1 | refine below_set ?_ GE116.out))) hb); have n2_ := Aside0.mk (hbox); have n3_ := Aside0.mk ((by rw [hg]; exact (below_size (by repeat (first | (with_reducible first | exact HB.out | apply below_alloc | apply pw_below_drewN | apply below_drew1 | refine below_set ?_ GE116.out)))) : w.heap.size ≤ gb118)); have n4_ := Aside0.mk ((by rw [hg]; exact (below_size (by repeat (first | (with_reducible first | exact HB.out | apply below_alloc | apply pw_below_drewN | apply below_drew1 | refine below_set ?_ GE116.out)))) : w.heap.size ≤ gb118)); have n5_ := Aside0.mk ((by rw [hg]; exact Nat.ne_of_lt (blk_lt (g := gb116) (o := .cells #[.int .i64 0, .int .i64 0, .int .i64 0, .int .i64 0, .int .i64 0, .int .i64 0, .int .i64 0, .int .i64 0, .int .i64 0, .int .i64 0, .int .i64 0, .int .i64 0] 24 (0, 0)) (by (with_reducible repeat (first | refine blk_drewN ?_ _ | refine blk_drew ?_ | refine blk_alloc ?_ _)); exact BK116.out)) : gb116 ≠ gb118)); have n6_ := Aside0.mk ((by rw [hg]; exact Nat.ne_of_gt (blk_lt (g := gb116) (o := .cells #[.int .i64 0, .int .i64 0, .int .i64 0, .int .i64 0, .int .i64 0, .int .i64 0, .int .i64 0, .int .i64 0, .int .i64 0, .int .i64 0, .int .i64 0, .int .i64 0] 24 (0, 0)) (by (with_reducible repeat (first | refine blk_drewN ?_ _ | refine blk_drew ?_ | refine blk_alloc ?_ _)); exact BK116.out)) : gb118 ≠ gb116)); clear BK116; clear HB; have BK116 := n0_; have HB := n1_; have BK118 := n2_; have GW118 := n3_; have GE118 := n4_; have NB116_118 := n5_; have NB118_116 := n6_; clear n0_ n1_ n2_ n3_ n4_ n5_ n6_; clear hb hbox hg; have hnb23 := NB118_116.out; have hnc23 := NB116_118.out; have hcz24_0 : w22.cell? ⟨gb118, 0, none⟩ = some (.int .i64 0) := (blk_cell BK118.out 0).trans rfl; have hcz24_1 : w22.cell? ⟨gb118, 1, none⟩ = some (.int .i64 0) := (blk_cell BK118.out 1).trans rfl; have hcz24_2 : w22.cell? ⟨gb118, 2, none⟩ = some (.int .i64 0) := (blk_cell BK118.out 2).trans rfl; have hcz24_3 : w22.cell? ⟨gb118, 3, none⟩ = some (.int .i64 0) := (blk_cell BK118.out 3).trans rfl; have hcz24_4 : w22.cell? ⟨gb118, 4, none⟩ = some (.int .i64 0) := (blk_cell BK118.out 4).trans rfl; have hcz24_5 : w22.cell? ⟨gb118, 5, none⟩ = some (.int .i64 0) := (blk_cell BK118.out 5).trans rfl; have hcz24_6 : w22.cell? ⟨gb118, 6, none⟩ = some (.int .i64 0) := (blk_cell BK118.out 6).trans rfl; have hcz24_7 : w22.cell? ⟨gb118, 7, none⟩ = some (.int .i64 0) := (blk_cell BK118.out 7).trans rfl; have hcz24_8 : w22.cell? ⟨gb118, 8, none⟩ = some (.int .i64 0) := (blk_cell BK118.out 8).trans rfl; have hcz24_9 : w22.cell? ⟨gb118, 9, none⟩ = some (.int .i64 0) := (blk_cell BK118.out 9).trans rfl; have hcz24_10 : w22.cell? ⟨gb118, 10, none⟩ = some (.int .i64 0) := (blk_cell BK118.out 10).trans rfl; have hcz24_11 : w22.cell? ⟨gb118, 11, none⟩ = some (.int .i64 0) := (blk_cell BK118.out 11).trans rfl; have hfz24_0 := blk_frozen BK118.out 0; have hfz24_1 := blk_frozen BK118.out 1; have hfz24_2 := blk_frozen BK118.out 2; have hfz24_3 := blk_frozen BK118.out 3; have hfz24_4 := blk_frozen BK118.out 4; have hfz24_5 := blk_frozen BK118.out 5; have hfz24_6 := blk_frozen BK118.out 6; have hfz24_7 := blk_frozen BK118.out 7; have hfz24_8 := blk_frozen BK118.out 8; have hfz24_9 := blk_frozen BK118.out 9; have hfz24_10 := blk_frozen BK118.out 10; have hfz24_11 := blk_frozen BK118.out 11))
          refine skerryref05_Make.carry_ (fun W => W.heap[gb116]? = some (.cells #[.int .i64 0, .int .i64 0, .int .i64 0, .int .i64 0, .int .i64 0, .int .i64 0, .int .i64 0, .int .i64 0, .int .i64 0, .int .i64 0, .int .i64 0, .int .i64 0] 24 (0, 0)) ∧ W.heap[gb118]? = some (.cells #[.int .i64 a0, .int .i64 a1, .int .i64 a2, .int .i64 a3, .int .i64 2, .int .i64 0, .int .i64 0, .int .i64 0, .int .i64 0, .int .i64 0, .int .i64 0, .int .i64 0] 24 (0, 0)) ∧ Below w.heap.size w W) ?_ (fun W hW => ?_)
          · refine ⟨?_, ?_, ?_⟩
            · repeat (first | (with_reducible exact BK116.out) | (with_reducible refine blk_drewN ?_ _) | (with_reducible refine blk_drew ?_) | (with_reducible refine blk_alloc ?_ _) | refine blk_far ?_ NB116_118.out _)
            · (with_reducible repeat (first | refine blk_drewN ?_ _ | refine blk_drew ?_ | refine blk_alloc ?_ _)); refine blk_put (cs := #[.int .i64 a0, .int .i64 a1, .int .i64 a2, .int .i64 a3, .int .i64 2, .int .i64 0, .int .i64 0, .int .i64 0, .int .i64 0, .int .i64 0, .int .i64 0, .int .i64 0]) ?_ 11 _ rfl; (with_reducible repeat (first | refine blk_drewN ?_ _ | refine blk_drew ?_ | refine blk_alloc ?_ _)); refine blk_put (cs := #[.int .i64 a0, .int .i64 a1, .int .i64 a2, .int .i64 a3, .int .i64 2, .int .i64 0, .int .i64 0, .int .i64 0, .int .i64 0, .int .i64 0, .int .i64 0, .int .i64 0]) ?_ 10 _ rfl; (with_reducible repeat (first | refine blk_drewN ?_ _ | refine blk_drew ?_ | refine blk_alloc ?_ _)); refine blk_put (cs := #[.int .i64 a0, .int .i64 a1, .int .i64 a2, .int .i64 a3, .int .i64 2, .int .i64 0, .int .i64 0, .int .i64 0, .int .i64 0, .int .i64 0, .int .i64 0, .int .i64 0]) ?_ 9 _ rfl; (with_reducible repeat (first | refine blk_drewN ?_ _ | refine blk_drew ?_ | refine blk_alloc ?_ _)); refine blk_put (cs := #[.int .i64 a0, .int .i64 a1, .int .i64 a2, .int .i64 a3, .int .i64 2, .int .i64 0, .int .i64 0, .int .i64 0, .int .i64 0, .int .i64 0, .int .i64 0, .int .i64 0]) ?_ 8 _ rfl; (with_reducible repeat (first | refine blk_drewN ?_ _ | refine blk_drew ?_ | refine blk_alloc ?_ _)); refine blk_put (cs := #[.int .i64 a0, .int .i64 a1, .int .i64 a2, .int .i64 a3, .int .i64 2, .int .i64 0, .int .i64 0, .int .i64 0, .int .i64 0, .int .i64 0, .int .i64 0, .int .i64 0]) ?_ 7 _ rfl; (with_reducible repeat (first | refine blk_drewN ?_ _ | refine blk_drew ?_ | refine blk_alloc ?_ _)); refine blk_put (cs := #[.int .i64 a0, .int .i64 a1, .int .i64 a2, .int .i64 a3, .int .i64 2, .int .i64 0, .int .i64 0, .int .i64 0, .int .i64 0, .int .i64 0, .int .i64 0, .int .i64 0]) ?_ 6 _ rfl; (with_reducible repeat (first | refine blk_drewN ?_ _ | refine blk_drew ?_ | refine blk_alloc ?_ _)); refine blk_put (cs := #[.int .i64 a0, .int .i64 a1, .int .i64 a2, .int .i64 a3, .int .i64 2, .int .i64 0, .int .i64 0, .int .i64 0, .int .i64 0, .int .i64 0, .int .i64 0, .int .i64 0]) ?_ 5 _ rfl; (with_reducible repeat (first | refine blk_drewN ?_ _ | refine blk_drew ?_ | refine blk_alloc ?_ _)); refine blk_put (cs := #[.int .i64 a0, .int .i64 a1, .int .i64 a2, .int .i64 a3, .int .i64 0, .int .i64 0, .int .i64 0, .int .i64 0, .int .i64 0, .int .i64 0, .int .i64 0, .int .i64 0]) ?_ 4 _ rfl; (with_reducible repeat (first | refine blk_drewN ?_ _ | refine blk_drew ?_ | refine blk_alloc ?_ _)); refine blk_put (cs := #[.int .i64 a0, .int .i64 a1, .int .i64 a2, .int .i64 0, .int .i64 0, .int .i64 0, .int .i64 0, .int .i64 0, .int .i64 0, .int .i64 0, .int .i64 0, .int .i64 0]) ?_ 3 _ rfl; (with_reducible repeat (first | refine blk_drewN ?_ _ | refine blk_drew ?_ | refine blk_alloc ?_ _)); refine blk_put (cs := #[.int .i64 a0, .int .i64 a1, .int .i64 0, .int .i64 0, .int .i64 0, .int .i64 0, .int .i64 0, .int .i64 0, .int .i64 0, .int .i64 0, .int .i64 0, .int .i64 0]) ?_ 2 _ rfl; (with_reducible repeat (first | refine blk_drewN ?_ _ | refine blk_drew ?_ | refine blk_alloc ?_ _)); refine blk_put (cs := #[.int .i64 a0, .int .i64 0, .int .i64 0, .int .i64 0, .int .i64 0, .int .i64 0, .int .i64 0, .int .i64 0, .int .i64 0, .int .i64 0, .int .i64 0, .int .i64 0]) ?_ 1 _ rfl; (with_reducible repeat (first | refine blk_drewN ?_ _ | refine blk_drew ?_ | refine blk_alloc ?_ _)); refine blk_put (cs := #[.int .i64 0, .int .i64 0, .int .i64 0, .int .i64 0, .int .i64 0, .int .i64 0, .int .i64 0, .int .i64 0, .int .i64 0, .int .i64 0, .int .i64 0, .int .i64 0]) ?_ 0 _ rfl; (with_reducible repeat (first | refine blk_drewN ?_ _ | refine blk_drew ?_ | refine blk_alloc ?_ _)); with_reducible exact BK118.out
            · exact (by with_reducible (repeat (first | exact HB.out | apply below_alloc | apply pw_below_drewN | apply below_drew1 | refine below_set ?_ GE116.out | refine below_set ?_ GE118.out)))
          clear BK116 BK118 HB
          have BK116 := Aside0.mk hW.1
          have BK118 := Aside0.mk hW.2.1
          have HB := Aside0.mk hW.2.2
          clear hW
          clear hcz24_0 hcz24_1 hcz24_2 hcz24_3 hcz24_4 hcz24_5 hcz24_6 hcz24_7 hcz24_8 hcz24_9 hcz24_10 hcz24_11 hfz24_0 hfz24_1 hfz24_2 hfz24_3 hfz24_4 hfz24_5 hfz24_6 hfz24_7 hfz24_8 hfz24_9 hfz24_10 hfz24_11
          have hka_4 : W.cell? ⟨gb118, 4, none⟩ = some (.int .i64 2) := (blk_cell BK118.out 4).trans rfl
          have hza_4 := blk_frozen BK118.out 4
          have hka_5 : W.cell? ⟨gb118, 5, none⟩ = some (.int .i64 0) := (blk_cell BK118.out 5).trans rfl
          have hza_5 := blk_frozen BK118.out 5
          have hka_6 : W.cell? ⟨gb118, 6, none⟩ = some (.int .i64 0) := (blk_cell BK118.out 6).trans rfl
          have hza_6 := blk_frozen BK118.out 6
          go_upto_region 8 with (first | ((with_reducible refine gate_callee (f := 29) rfl ?_); refine goesL_ (some 57) rfl rfl Try.func29 (by kernel_rfl) rfl #[.int .i64 a2, .int .i64 (wrap64 (8 * a0))] rfl (by (try simp only [List.map_toArray, List.map_cons, List.map_nil]); first | done | rfl | (simp only [List.length_drop, List.length_take]; rfl) | (simp only [Int.toNat_natCast, Nat.sub_self, List.length_drop, List.length_take]; rfl)) ?_; (with_reducible refine (skerryref05_blocksFor.calls kj4 a2 (wrap64 (8 * a0)) t119 _ A18.out).mono ?_); rintro e w' ⟨rfl, ⟨nd, rfl⟩⟩; refine ⟨_, rfl, ?_⟩))
          refine skerryref05_Make.carry_ (fun W => W.heap[gb116]? = some (.cells #[.int .i64 0, .int .i64 0, .int .i64 0, .int .i64 0, .int .i64 0, .int .i64 0, .int .i64 0, .int .i64 0, .int .i64 0, .int .i64 0, .int .i64 0, .int .i64 0] 24 (0, 0)) ∧ W.heap[gb118]? = some (.cells #[.int .i64 a0, .int .i64 a1, .int .i64 a2, .int .i64 a3, .int .i64 2, .int .i64 (wrap64 (2 + a3)), .int .i64 t119, .int .i64 0, .int .i64 0, .int .i64 0, .int .i64 0, .int .i64 0] 24 (0, 0)) ∧ Below w.heap.size w W) ?_ (fun W hW => ?_)
          · refine ⟨?_, ?_, ?_⟩
            · repeat (first | (with_reducible exact BK116.out) | (with_reducible refine blk_drewN ?_ _) | (with_reducible refine blk_drew ?_) | (with_reducible refine blk_alloc ?_ _) | refine blk_far ?_ NB116_118.out _)
            · (with_reducible repeat (first | refine blk_drewN ?_ _ | refine blk_drew ?_ | refine blk_alloc ?_ _)); refine blk_put (cs := #[.int .i64 a0, .int .i64 a1, .int .i64 a2, .int .i64 a3, .int .i64 2, .int .i64 (wrap64 (2 + a3)), .int .i64 0, .int .i64 0, .int .i64 0, .int .i64 0, .int .i64 0, .int .i64 0]) ?_ 6 _ rfl; (with_reducible repeat (first | refine blk_drewN ?_ _ | refine blk_drew ?_ | refine blk_alloc ?_ _)); refine blk_put (cs := #[.int .i64 a0, .int .i64 a1, .int .i64 a2, .int .i64 a3, .int .i64 2, .int .i64 0, .int .i64 0, .int .i64 0, .int .i64 0, .int .i64 0, .int .i64 0, .int .i64 0]) ?_ 5 _ rfl; (with_reducible repeat (first | refine blk_drewN ?_ _ | refine blk_drew ?_ | refine blk_alloc ?_ _)); with_reducible exact BK118.out
            · exact (by with_reducible (repeat (first | exact HB.out | apply below_alloc | apply pw_below_drewN | apply below_drew1 | refine below_set ?_ GE116.out | refine below_set ?_ GE118.out)))
          clear BK116 BK118 HB
          have BK116 := Aside0.mk hW.1
          have BK118 := Aside0.mk hW.2.1
          have HB := Aside0.mk hW.2.2
          clear hW
          clear hka_4 hza_4 hka_5 hza_5 hka_6 hza_6
          have hkb_5 : W.cell? ⟨gb118, 5, none⟩ = some (.int .i64 (wrap64 (2 + a3))) := (blk_cell BK118.out 5).trans rfl
          have hzb_5 := blk_frozen BK118.out 5
          have hkb_6 : W.cell? ⟨gb118, 6, none⟩ = some (.int .i64 t119) := (blk_cell BK118.out 6).trans rfl
          have hzb_6 := blk_frozen BK118.out 6
          have hkb_7 : W.cell? ⟨gb118, 7, none⟩ = some (.int .i64 0) := (blk_cell BK118.out 7).trans rfl
          have hzb_7 := blk_frozen BK118.out 7
          have hkb_8 : W.cell? ⟨gb118, 8, none⟩ = some (.int .i64 0) := (blk_cell BK118.out 8).trans rfl
          have hzb_8 := blk_frozen BK118.out 8
          go_upto_region 10 with (first | ((with_reducible refine gate_callee (f := 29) rfl ?_); refine goesL_ (some 68) rfl rfl Try.func29 (by kernel_rfl) rfl #[.int .i64 a1, .int .i64 (wrap64 (8 * a0))] rfl (by (try simp only [List.map_toArray, List.map_cons, List.map_nil]); first | done | rfl | (simp only [List.length_drop, List.length_take]; rfl) | (simp only [Int.toNat_natCast, Nat.sub_self, List.length_drop, List.length_take]; rfl)) ?_; (with_reducible refine (skerryref05_blocksFor.calls kj4 a1 (wrap64 (8 * a0)) t120 _ A19.out).mono ?_); rintro e w' ⟨rfl, ⟨nd, rfl⟩⟩; refine ⟨_, rfl, ?_⟩))
          refine skerryref05_Make.carry_ (fun W => W.heap[gb116]? = some (.cells #[.int .i64 0, .int .i64 0, .int .i64 0, .int .i64 0, .int .i64 0, .int .i64 0, .int .i64 0, .int .i64 0, .int .i64 0, .int .i64 0, .int .i64 0, .int .i64 0] 24 (0, 0)) ∧ W.heap[gb118]? = some (.cells #[.int .i64 a0, .int .i64 a1, .int .i64 a2, .int .i64 a3, .int .i64 2, .int .i64 (wrap64 (2 + a3)), .int .i64 t119, .int .i64 (wrap64 ((wrap64 (2 + a3)) + t119)), .int .i64 t120, .int .i64 0, .int .i64 0, .int .i64 0] 24 (0, 0)) ∧ Below w.heap.size w W) ?_ (fun W hW => ?_)
          · refine ⟨?_, ?_, ?_⟩
            · repeat (first | (with_reducible exact BK116.out) | (with_reducible refine blk_drewN ?_ _) | (with_reducible refine blk_drew ?_) | (with_reducible refine blk_alloc ?_ _) | refine blk_far ?_ NB116_118.out _)
            · (with_reducible repeat (first | refine blk_drewN ?_ _ | refine blk_drew ?_ | refine blk_alloc ?_ _)); refine blk_put (cs := #[.int .i64 a0, .int .i64 a1, .int .i64 a2, .int .i64 a3, .int .i64 2, .int .i64 (wrap64 (2 + a3)), .int .i64 t119, .int .i64 (wrap64 ((wrap64 (2 + a3)) + t119)), .int .i64 0, .int .i64 0, .int .i64 0, .int .i64 0]) ?_ 8 _ rfl; (with_reducible repeat (first | refine blk_drewN ?_ _ | refine blk_drew ?_ | refine blk_alloc ?_ _)); refine blk_put (cs := #[.int .i64 a0, .int .i64 a1, .int .i64 a2, .int .i64 a3, .int .i64 2, .int .i64 (wrap64 (2 + a3)), .int .i64 t119, .int .i64 0, .int .i64 0, .int .i64 0, .int .i64 0, .int .i64 0]) ?_ 7 _ rfl; (with_reducible repeat (first | refine blk_drewN ?_ _ | refine blk_drew ?_ | refine blk_alloc ?_ _)); with_reducible exact BK118.out
            · exact (by with_reducible (repeat (first | exact HB.out | apply below_alloc | apply pw_below_drewN | apply below_drew1 | refine below_set ?_ GE116.out | refine below_set ?_ GE118.out)))
          clear BK116 BK118 HB
          have BK116 := Aside0.mk hW.1
          have BK118 := Aside0.mk hW.2.1
          have HB := Aside0.mk hW.2.2
          clear hW
          clear hkb_5 hzb_5 hkb_6 hzb_6 hkb_7 hzb_7 hkb_8 hzb_8
          have hkc_7 : W.cell? ⟨gb118, 7, none⟩ = some (.int .i64 (wrap64 ((wrap64 (2 + a3)) + t119))) := (blk_cell BK118.out 7).trans rfl
          have hzc_7 := blk_frozen BK118.out 7
          have hkc_8 : W.cell? ⟨gb118, 8, none⟩ = some (.int .i64 t120) := (blk_cell BK118.out 8).trans rfl
          have hzc_8 := blk_frozen BK118.out 8
          have hkc_9 : W.cell? ⟨gb118, 9, none⟩ = some (.int .i64 0) := (blk_cell BK118.out 9).trans rfl
          have hzc_9 := blk_frozen BK118.out 9
          have hkc_10 : W.cell? ⟨gb118, 10, none⟩ = some (.int .i64 0) := (blk_cell BK118.out 10).trans rfl
          have hzc_10 := blk_frozen BK118.out 10
          go_upto_region 12 with (first | ((with_reducible refine gate_callee (f := 29) rfl ?_); refine goesL_ (some 79) rfl rfl Try.func29 (by kernel_rfl) rfl #[.int .i64 a2, .int .i64 (wrap64 (Int.tdiv a0 32))] rfl (by (try simp only [List.map_toArray, List.map_cons, List.map_nil]); first | done | rfl | (simp only [List.length_drop, List.length_take]; rfl) | (simp only [Int.toNat_natCast, Nat.sub_self, List.length_drop, List.length_take]; rfl)) ?_; (with_reducible refine (skerryref05_blocksFor.calls kj4 a2 (wrap64 (Int.tdiv a0 32)) t121 _ A20.out).mono ?_); rintro e w' ⟨rfl, ⟨nd, rfl⟩⟩; refine ⟨_, rfl, ?_⟩))
          refine skerryref05_Make.carry_ (fun W => W.heap[gb116]? = some (.cells #[.int .i64 0, .int .i64 0, .int .i64 0, .int .i64 0, .int .i64 0, .int .i64 0, .int .i64 0, .int .i64 0, .int .i64 0, .int .i64 0, .int .i64 0, .int .i64 0] 24 (0, 0)) ∧ W.heap[gb118]? = some (.cells #[.int .i64 a0, .int .i64 a1, .int .i64 a2, .int .i64 a3, .int .i64 2, .int .i64 (wrap64 (2 + a3)), .int .i64 t119, .int .i64 (wrap64 ((wrap64 (2 + a3)) + t119)), .int .i64 t120, .int .i64 (wrap64 ((wrap64 ((wrap64 (2 + a3)) + t119)) + t120)), .int .i64 t121, .int .i64 0] 24 (0, 0)) ∧ Below w.heap.size w W) ?_ (fun W hW => ?_)
          · refine ⟨?_, ?_, ?_⟩
            · repeat (first | (with_reducible exact BK116.out) | (with_reducible refine blk_drewN ?_ _) | (with_reducible refine blk_drew ?_) | (with_reducible refine blk_alloc ?_ _) | refine blk_far ?_ NB116_118.out _)
            · (with_reducible repeat (first | refine blk_drewN ?_ _ | refine blk_drew ?_ | refine blk_alloc ?_ _)); refine blk_put (cs := #[.int .i64 a0, .int .i64 a1, .int .i64 a2, .int .i64 a3, .int .i64 2, .int .i64 (wrap64 (2 + a3)), .int .i64 t119, .int .i64 (wrap64 ((wrap64 (2 + a3)) + t119)), .int .i64 t120, .int .i64 (wrap64 ((wrap64 ((wrap64 (2 + a3)) + t119)) + t120)), .int .i64 0, .int .i64 0]) ?_ 10 _ rfl; (with_reducible repeat (first | refine blk_drewN ?_ _ | refine blk_drew ?_ | refine blk_alloc ?_ _)); refine blk_put (cs := #[.int .i64 a0, .int .i64 a1, .int .i64 a2, .int .i64 a3, .int .i64 2, .int .i64 (wrap64 (2 + a3)), .int .i64 t119, .int .i64 (wrap64 ((wrap64 (2 + a3)) + t119)), .int .i64 t120, .int .i64 0, .int .i64 0, .int .i64 0]) ?_ 9 _ rfl; (with_reducible repeat (first | refine blk_drewN ?_ _ | refine blk_drew ?_ | refine blk_alloc ?_ _)); with_reducible exact BK118.out
            · exact (by with_reducible (repeat (first | exact HB.out | apply below_alloc | apply pw_below_drewN | apply below_drew1 | refine below_set ?_ GE116.out | refine below_set ?_ GE118.out)))
          clear BK116 BK118 HB
          have BK116 := Aside0.mk hW.1
          have BK118 := Aside0.mk hW.2.1
          have HB := Aside0.mk hW.2.2
          clear hW
          clear hkc_7 hzc_7 hkc_8 hzc_8 hkc_9 hzc_9 hkc_10 hzc_10
          have hkd_9 : W.cell? ⟨gb118, 9, none⟩ = some (.int .i64 (wrap64 ((wrap64 ((wrap64 (2 + a3)) + t119)) + t120))) := (blk_cell BK118.out 9).trans rfl
          have hzd_9 := blk_frozen BK118.out 9
          have hkd_10 : W.cell? ⟨gb118, 10, none⟩ = some (.int .i64 t121) := (blk_cell BK118.out 10).trans rfl
          have hzd_10 := blk_frozen BK118.out 10
          have hkd_11 : W.cell? ⟨gb118, 11, none⟩ = some (.int .i64 0) := (blk_cell BK118.out 11).trans rfl
          have hzd_11 := blk_frozen BK118.out 11
          go_upto_region 13 with (fail)
          refine skerryref05_Make.carry_ (fun W => W.heap[gb116]? = some (.cells #[.int .i64 0, .int .i64 0, .int .i64 0, .int .i64 0, .int .i64 0, .int .i64 0, .int .i64 0, .int .i64 0, .int .i64 0, .int .i64 0, .int .i64 0, .int .i64 0] 24 (0, 0)) ∧ W.heap[gb118]? = some (.cells #[.int .i64 a0, .int .i64 a1, .int .i64 a2, .int .i64 a3, .int .i64 2, .int .i64 (wrap64 (2 + a3)), .int .i64 t119, .int .i64 (wrap64 ((wrap64 (2 + a3)) + t119)), .int .i64 t120, .int .i64 (wrap64 ((wrap64 ((wrap64 (2 + a3)) + t119)) + t120)), .int .i64 t121, .int .i64 (wrap64 ((wrap64 ((wrap64 ((wrap64 (2 + a3)) + t119)) + t120)) + t121))] 24 (0, 0)) ∧ Below w.heap.size w W) ?_ (fun W hW => ?_)
          · refine ⟨?_, ?_, ?_⟩
            · repeat (first | (with_reducible exact BK116.out) | (with_reducible refine blk_drewN ?_ _) | (with_reducible refine blk_drew ?_) | (with_reducible refine blk_alloc ?_ _) | refine blk_far ?_ NB116_118.out _)
            · (with_reducible repeat (first | refine blk_drewN ?_ _ | refine blk_drew ?_ | refine blk_alloc ?_ _)); refine blk_put (cs := #[.int .i64 a0, .int .i64 a1, .int .i64 a2, .int .i64 a3, .int .i64 2, .int .i64 (wrap64 (2 + a3)), .int .i64 t119, .int .i64 (wrap64 ((wrap64 (2 + a3)) + t119)), .int .i64 t120, .int .i64 (wrap64 ((wrap64 ((wrap64 (2 + a3)) + t119)) + t120)), .int .i64 t121, .int .i64 0]) ?_ 11 _ rfl; (with_reducible repeat (first | refine blk_drewN ?_ _ | refine blk_drew ?_ | refine blk_alloc ?_ _)); with_reducible exact BK118.out
            · exact (by with_reducible (repeat (first | exact HB.out | apply below_alloc | apply pw_below_drewN | apply below_drew1 | refine below_set ?_ GE116.out | refine below_set ?_ GE118.out)))
          clear BK116 BK118 HB
          have BK116 := Aside0.mk hW.1
          have BK118 := Aside0.mk hW.2.1
          have HB := Aside0.mk hW.2.2
          clear hW
          clear hkd_9 hzd_9 hkd_10 hzd_10 hkd_11 hzd_11
          have H := HL.out
          clear HL
          by_cases c21 : (wrap64 ((wrap64 ((wrap64 ((wrap64 (2 + a3)) + t119)) + t120)) + t121)) ≥ a1
          · rw [if_pos c21] at H
            have c21b0 : decide (a1 ≤ (wrap64 ((wrap64 ((wrap64 ((wrap64 (2 + a3)) + t119)) + t120)) + t121))) = true := decide_eq_true c21
            clear c21
            simp only [Option.some.injEq, Prod.mk.injEq] at H
            obtain ⟨rfl, rfl, rfl, rfl, rfl, rfl, rfl, rfl, rfl, rfl, rfl, rfl, rfl⟩ := H
            have hke_11 : W.cell? ⟨gb118, 11, none⟩ = some (.int .i64 (wrap64 ((wrap64 ((wrap64 ((wrap64 (2 + a3)) + t119)) + t120)) + t121))) := (blk_cell BK118.out 11).trans rfl
            have hze_11 := blk_frozen BK118.out 11
            have hkf_0 : W.cell? ⟨gb116, 0, none⟩ = some (.int .i64 0) := (blk_cell BK116.out 0).trans rfl
            have hzf_0 := blk_frozen BK116.out 0
            have hkf_1 : W.cell? ⟨gb116, 1, none⟩ = some (.int .i64 0) := (blk_cell BK116.out 1).trans rfl
            have hzf_1 := blk_frozen BK116.out 1
            have hkf_2 : W.cell? ⟨gb116, 2, none⟩ = some (.int .i64 0) := (blk_cell BK116.out 2).trans rfl
            have hzf_2 := blk_frozen BK116.out 2
            have hkf_3 : W.cell? ⟨gb116, 3, none⟩ = some (.int .i64 0) := (blk_cell BK116.out 3).trans rfl
            have hzf_3 := blk_frozen BK116.out 3
            have hkf_4 : W.cell? ⟨gb116, 4, none⟩ = some (.int .i64 0) := (blk_cell BK116.out 4).trans rfl
            have hzf_4 := blk_frozen BK116.out 4
            have hkf_5 : W.cell? ⟨gb116, 5, none⟩ = some (.int .i64 0) := (blk_cell BK116.out 5).trans rfl
            have hzf_5 := blk_frozen BK116.out 5
            have hkf_6 : W.cell? ⟨gb116, 6, none⟩ = some (.int .i64 0) := (blk_cell BK116.out 6).trans rfl
            have hzf_6 := blk_frozen BK116.out 6
            have hkf_7 : W.cell? ⟨gb116, 7, none⟩ = some (.int .i64 0) := (blk_cell BK116.out 7).trans rfl
            have hzf_7 := blk_frozen BK116.out 7
            have hkf_8 : W.cell? ⟨gb116, 8, none⟩ = some (.int .i64 0) := (blk_cell BK116.out 8).trans rfl
            have hzf_8 := blk_frozen BK116.out 8
            have hkf_9 : W.cell? ⟨gb116, 9, none⟩ = some (.int .i64 0) := (blk_cell BK116.out 9).trans rfl
            have hzf_9 := blk_frozen BK116.out 9
            have hkf_10 : W.cell? ⟨gb116, 10, none⟩ = some (.int .i64 0) := (blk_cell BK116.out 10).trans rfl
            have hzf_10 := blk_frozen BK116.out 10
            have hkf_11 : W.cell? ⟨gb116, 11, none⟩ = some (.int .i64 0) := (blk_cell BK116.out 11).trans rfl
            have hzf_11 := blk_frozen BK116.out 11
            go_wp2
            refine bodyPost_ret (results_ct rfl _ _ gb116 24 #[.int .i64 0, .int .i64 0, .int .i64 0, .int .i64 0, .int .i64 0, .int .i64 0, .int .i64 0, .int .i64 0, .int .i64 0, .int .i64 0, .int .i64 0, .int .i64 0] (0, 0) _ rfl (by (with_reducible repeat (first | refine blk_drewN ?_ _ | refine blk_drew ?_ | refine blk_alloc ?_ _)); refine blk_put (cs := #[.int .i64 0, .int .i64 0, .int .i64 0, .int .i64 0, .int .i64 0, .int .i64 0, .int .i64 0, .int .i64 0, .int .i64 0, .int .i64 0, .int .i64 0, .int .i64 0]) ?_ 11 _ rfl; (with_reducible repeat (first | refine blk_drewN ?_ _ | refine blk_drew ?_ | refine blk_alloc ?_ _)); refine blk_put (cs := #[.int .i64 0, .int .i64 0, .int .i64 0, .int .i64 0, .int .i64 0, .int .i64 0, .int .i64 0, .int .i64 0, .int .i64 0, .int .i64 0, .int .i64 0, .int .i64 0]) ?_ 10 _ rfl; (with_reducible repeat (first | refine blk_drewN ?_ _ | refine blk_drew ?_ | refine blk_alloc ?_ _)); refine blk_put (cs := #[.int .i64 0, .int .i64 0, .int .i64 0, .int .i64 0, .int .i64 0, .int .i64 0, .int .i64 0, .int .i64 0, .int .i64 0, .int .i64 0, .int .i64 0, .int .i64 0]) ?_ 9 _ rfl; (with_reducible repeat (first | refine blk_drewN ?_ _ | refine blk_drew ?_ | refine blk_alloc ?_ _)); refine blk_put (cs := #[.int .i64 0, .int .i64 0, .int .i64 0, .int .i64 0, .int .i64 0, .int .i64 0, .int .i64 0, .int .i64 0, .int .i64 0, .int .i64 0, .int .i64 0, .int .i64 0]) ?_ 8 _ rfl; (with_reducible repeat (first | refine blk_drewN ?_ _ | refine blk_drew ?_ | refine blk_alloc ?_ _)); refine blk_put (cs := #[.int .i64 0, .int .i64 0, .int .i64 0, .int .i64 0, .int .i64 0, .int .i64 0, .int .i64 0, .int .i64 0, .int .i64 0, .int .i64 0, .int .i64 0, .int .i64 0]) ?_ 7 _ rfl; (with_reducible repeat (first | refine blk_drewN ?_ _ | refine blk_drew ?_ | refine blk_alloc ?_ _)); refine blk_put (cs := #[.int .i64 0, .int .i64 0, .int .i64 0, .int .i64 0, .int .i64 0, .int .i64 0, .int .i64 0, .int .i64 0, .int .i64 0, .int .i64 0, .int .i64 0, .int .i64 0]) ?_ 6 _ rfl; (with_reducible repeat (first | refine blk_drewN ?_ _ | refine blk_drew ?_ | refine blk_alloc ?_ _)); refine blk_put (cs := #[.int .i64 0, .int .i64 0, .int .i64 0, .int .i64 0, .int .i64 0, .int .i64 0, .int .i64 0, .int .i64 0, .int .i64 0, .int .i64 0, .int .i64 0, .int .i64 0]) ?_ 5 _ rfl; (with_reducible repeat (first | refine blk_drewN ?_ _ | refine blk_drew ?_ | refine blk_alloc ?_ _)); refine blk_put (cs := #[.int .i64 0, .int .i64 0, .int .i64 0, .int .i64 0, .int .i64 0, .int .i64 0, .int .i64 0, .int .i64 0, .int .i64 0, .int .i64 0, .int .i64 0, .int .i64 0]) ?_ 4 _ rfl; (with_reducible repeat (first | refine blk_drewN ?_ _ | refine blk_drew ?_ | refine blk_alloc ?_ _)); refine blk_put (cs := #[.int .i64 0, .int .i64 0, .int .i64 0, .int .i64 0, .int .i64 0, .int .i64 0, .int .i64 0, .int .i64 0, .int .i64 0, .int .i64 0, .int .i64 0, .int .i64 0]) ?_ 3 _ rfl; (with_reducible repeat (first | refine blk_drewN ?_ _ | refine blk_drew ?_ | refine blk_alloc ?_ _)); refine blk_put (cs := #[.int .i64 0, .int .i64 0, .int .i64 0, .int .i64 0, .int .i64 0, .int .i64 0, .int .i64 0, .int .i64 0, .int .i64 0, .int .i64 0, .int .i64 0, .int .i64 0]) ?_ 2 _ rfl; (with_reducible repeat (first | refine blk_drewN ?_ _ | refine blk_drew ?_ | refine blk_alloc ?_ _)); refine blk_put (cs := #[.int .i64 0, .int .i64 0, .int .i64 0, .int .i64 0, .int .i64 0, .int .i64 0, .int .i64 0, .int .i64 0, .int .i64 0, .int .i64 0, .int .i64 0, .int .i64 0]) ?_ 1 _ rfl; (with_reducible repeat (first | refine blk_drewN ?_ _ | refine blk_drew ?_ | refine blk_alloc ?_ _)); refine blk_put (cs := #[.int .i64 0, .int .i64 0, .int .i64 0, .int .i64 0, .int .i64 0, .int .i64 0, .int .i64 0, .int .i64 0, .int .i64 0, .int .i64 0, .int .i64 0, .int .i64 0]) ?_ 0 _ rfl; repeat (first | (with_reducible exact BK116.out) | (with_reducible refine blk_drewN ?_ _) | (with_reducible refine blk_drew ?_) | refine blk_far ?_ NB116_118.out _)) Try.underlying24 rfl (by kernel_rfl)) rfl ?_
            exact ⟨rfl, (by with_reducible (repeat (first | exact HB.out | apply below_alloc | apply pw_below_drewN | apply below_drew1 | refine below_set ?_ GE116.out | refine below_set ?_ GE118.out)))⟩
          · rw [if_neg c21] at H
            have c21b0 : decide (a1 ≤ (wrap64 ((wrap64 ((wrap64 ((wrap64 (2 + a3)) + t119)) + t120)) + t121))) = false := decide_eq_false c21
            clear c21
            simp only [Option.some.injEq, Prod.mk.injEq] at H
            obtain ⟨rfl, rfl, rfl, rfl, rfl, rfl, rfl, rfl, rfl, rfl, rfl, rfl, rfl⟩ := H
            have hke_0 : W.cell? ⟨gb118, 0, none⟩ = some (.int .i64 a0) := (blk_cell BK118.out 0).trans rfl
            have hze_0 := blk_frozen BK118.out 0
            have hke_1 : W.cell? ⟨gb118, 1, none⟩ = some (.int .i64 a1) := (blk_cell BK118.out 1).trans rfl
            have hze_1 := blk_frozen BK118.out 1
            have hke_2 : W.cell? ⟨gb118, 2, none⟩ = some (.int .i64 a2) := (blk_cell BK118.out 2).trans rfl
            have hze_2 := blk_frozen BK118.out 2
            have hke_3 : W.cell? ⟨gb118, 3, none⟩ = some (.int .i64 a3) := (blk_cell BK118.out 3).trans rfl
            have hze_3 := blk_frozen BK118.out 3
            have hke_4 : W.cell? ⟨gb118, 4, none⟩ = some (.int .i64 2) := (blk_cell BK118.out 4).trans rfl
            have hze_4 := blk_frozen BK118.out 4
            have hke_5 : W.cell? ⟨gb118, 5, none⟩ = some (.int .i64 (wrap64 (2 + a3))) := (blk_cell BK118.out 5).trans rfl
            have hze_5 := blk_frozen BK118.out 5
            have hke_6 : W.cell? ⟨gb118, 6, none⟩ = some (.int .i64 t119) := (blk_cell BK118.out 6).trans rfl
            have hze_6 := blk_frozen BK118.out 6
            have hke_7 : W.cell? ⟨gb118, 7, none⟩ = some (.int .i64 (wrap64 ((wrap64 (2 + a3)) + t119))) := (blk_cell BK118.out 7).trans rfl
            have hze_7 := blk_frozen BK118.out 7
            have hke_8 : W.cell? ⟨gb118, 8, none⟩ = some (.int .i64 t120) := (blk_cell BK118.out 8).trans rfl
            have hze_8 := blk_frozen BK118.out 8
            have hke_9 : W.cell? ⟨gb118, 9, none⟩ = some (.int .i64 (wrap64 ((wrap64 ((wrap64 (2 + a3)) + t119)) + t120))) := (blk_cell BK118.out 9).trans rfl
            have hze_9 := blk_frozen BK118.out 9
            have hke_10 : W.cell? ⟨gb118, 10, none⟩ = some (.int .i64 t121) := (blk_cell BK118.out 10).trans rfl
            have hze_10 := blk_frozen BK118.out 10
            have hke_11 : W.cell? ⟨gb118, 11, none⟩ = some (.int .i64 (wrap64 ((wrap64 ((wrap64 ((wrap64 (2 + a3)) + t119)) + t120)) + t121))) := (blk_cell BK118.out 11).trans rfl
            have hze_11 := blk_frozen BK118.out 11
            have hkf_0 : W.cell? ⟨gb116, 0, none⟩ = some (.int .i64 0) := (blk_cell BK116.out 0).trans rfl
            have hzf_0 := blk_frozen BK116.out 0
            have hkf_1 : W.cell? ⟨gb116, 1, none⟩ = some (.int .i64 0) := (blk_cell BK116.out 1).trans rfl
            have hzf_1 := blk_frozen BK116.out 1
            have hkf_2 : W.cell? ⟨gb116, 2, none⟩ = some (.int .i64 0) := (blk_cell BK116.out 2).trans rfl
            have hzf_2 := blk_frozen BK116.out 2
            have hkf_3 : W.cell? ⟨gb116, 3, none⟩ = some (.int .i64 0) := (blk_cell BK116.out 3).trans rfl
            have hzf_3 := blk_frozen BK116.out 3
            have hkf_4 : W.cell? ⟨gb116, 4, none⟩ = some (.int .i64 0) := (blk_cell BK116.out 4).trans rfl
            have hzf_4 := blk_frozen BK116.out 4
            have hkf_5 : W.cell? ⟨gb116, 5, none⟩ = some (.int .i64 0) := (blk_cell BK116.out 5).trans rfl
            have hzf_5 := blk_frozen BK116.out 5
            have hkf_6 : W.cell? ⟨gb116, 6, none⟩ = some (.int .i64 0) := (blk_cell BK116.out 6).trans rfl
            have hzf_6 := blk_frozen BK116.out 6
            have hkf_7 : W.cell? ⟨gb116, 7, none⟩ = some (.int .i64 0) := (blk_cell BK116.out 7).trans rfl
            have hzf_7 := blk_frozen BK116.out 7
            have hkf_8 : W.cell? ⟨gb116, 8, none⟩ = some (.int .i64 0) := (blk_cell BK116.out 8).trans rfl
            have hzf_8 := blk_frozen BK116.out 8
            have hkf_9 : W.cell? ⟨gb116, 9, none⟩ = some (.int .i64 0) := (blk_cell BK116.out 9).trans rfl
            have hzf_9 := blk_frozen BK116.out 9
            have hkf_10 : W.cell? ⟨gb116, 10, none⟩ = some (.int .i64 0) := (blk_cell BK116.out 10).trans rfl
            have hzf_10 := blk_frozen BK116.out 10
            have hkf_11 : W.cell? ⟨gb116, 11, none⟩ = some (.int .i64 0) := (blk_cell BK116.out 11).trans rfl
            have hzf_11 := blk_frozen BK116.out 11
            go_wp2
            refine bodyPost_ret (results_ct rfl _ _ gb116 24 #[.int .i64 a0, .int .i64 a1, .int .i64 a2, .int .i64 a3, .int .i64 2, .int .i64 (wrap64 (2 + a3)), .int .i64 t119, .int .i64 (wrap64 ((wrap64 (2 + a3)) + t119)), .int .i64 t120, .int .i64 (wrap64 ((wrap64 ((wrap64 (2 + a3)) + t119)) + t120)), .int .i64 t121, .int .i64 (wrap64 ((wrap64 ((wrap64 ((wrap64 (2 + a3)) + t119)) + t120)) + t121))] (0, 0) _ rfl (by (with_reducible repeat (first | refine blk_drewN ?_ _ | refine blk_drew ?_ | refine blk_alloc ?_ _)); refine blk_put (cs := #[.int .i64 a0, .int .i64 a1, .int .i64 a2, .int .i64 a3, .int .i64 2, .int .i64 (wrap64 (2 + a3)), .int .i64 t119, .int .i64 (wrap64 ((wrap64 (2 + a3)) + t119)), .int .i64 t120, .int .i64 (wrap64 ((wrap64 ((wrap64 (2 + a3)) + t119)) + t120)), .int .i64 t121, .int .i64 0]) ?_ 11 _ rfl; (with_reducible repeat (first | refine blk_drewN ?_ _ | refine blk_drew ?_ | refine blk_alloc ?_ _)); refine blk_put (cs := #[.int .i64 a0, .int .i64 a1, .int .i64 a2, .int .i64 a3, .int .i64 2, .int .i64 (wrap64 (2 + a3)), .int .i64 t119, .int .i64 (wrap64 ((wrap64 (2 + a3)) + t119)), .int .i64 t120, .int .i64 (wrap64 ((wrap64 ((wrap64 (2 + a3)) + t119)) + t120)), .int .i64 0, .int .i64 0]) ?_ 10 _ rfl; (with_reducible repeat (first | refine blk_drewN ?_ _ | refine blk_drew ?_ | refine blk_alloc ?_ _)); refine blk_put (cs := #[.int .i64 a0, .int .i64 a1, .int .i64 a2, .int .i64 a3, .int .i64 2, .int .i64 (wrap64 (2 + a3)), .int .i64 t119, .int .i64 (wrap64 ((wrap64 (2 + a3)) + t119)), .int .i64 t120, .int .i64 0, .int .i64 0, .int .i64 0]) ?_ 9 _ rfl; (with_reducible repeat (first | refine blk_drewN ?_ _ | refine blk_drew ?_ | refine blk_alloc ?_ _)); refine blk_put (cs := #[.int .i64 a0, .int .i64 a1, .int .i64 a2, .int .i64 a3, .int .i64 2, .int .i64 (wrap64 (2 + a3)), .int .i64 t119, .int .i64 (wrap64 ((wrap64 (2 + a3)) + t119)), .int .i64 0, .int .i64 0, .int .i64 0, .int .i64 0]) ?_ 8 _ rfl; (with_reducible repeat (first | refine blk_drewN ?_ _ | refine blk_drew ?_ | refine blk_alloc ?_ _)); refine blk_put (cs := #[.int .i64 a0, .int .i64 a1, .int .i64 a2, .int .i64 a3, .int .i64 2, .int .i64 (wrap64 (2 + a3)), .int .i64 t119, .int .i64 0, .int .i64 0, .int .i64 0, .int .i64 0, .int .i64 0]) ?_ 7 _ rfl; (with_reducible repeat (first | refine blk_drewN ?_ _ | refine blk_drew ?_ | refine blk_alloc ?_ _)); refine blk_put (cs := #[.int .i64 a0, .int .i64 a1, .int .i64 a2, .int .i64 a3, .int .i64 2, .int .i64 (wrap64 (2 + a3)), .int .i64 0, .int .i64 0, .int .i64 0, .int .i64 0, .int .i64 0, .int .i64 0]) ?_ 6 _ rfl; (with_reducible repeat (first | refine blk_drewN ?_ _ | refine blk_drew ?_ | refine blk_alloc ?_ _)); refine blk_put (cs := #[.int .i64 a0, .int .i64 a1, .int .i64 a2, .int .i64 a3, .int .i64 2, .int .i64 0, .int .i64 0, .int .i64 0, .int .i64 0, .int .i64 0, .int .i64 0, .int .i64 0]) ?_ 5 _ rfl; (with_reducible repeat (first | refine blk_drewN ?_ _ | refine blk_drew ?_ | refine blk_alloc ?_ _)); refine blk_put (cs := #[.int .i64 a0, .int .i64 a1, .int .i64 a2, .int .i64 a3, .int .i64 0, .int .i64 0, .int .i64 0, .int .i64 0, .int .i64 0, .int .i64 0, .int .i64 0, .int .i64 0]) ?_ 4 _ rfl; (with_reducible repeat (first | refine blk_drewN ?_ _ | refine blk_drew ?_ | refine blk_alloc ?_ _)); refine blk_put (cs := #[.int .i64 a0, .int .i64 a1, .int .i64 a2, .int .i64 0, .int .i64 0, .int .i64 0, .int .i64 0, .int .i64 0, .int .i64 0, .int .i64 0, .int .i64 0, .int .i64 0]) ?_ 3 _ rfl; (with_reducible repeat (first | refine blk_drewN ?_ _ | refine blk_drew ?_ | refine blk_alloc ?_ _)); refine blk_put (cs := #[.int .i64 a0, .int .i64 a1, .int .i64 0, .int .i64 0, .int .i64 0, .int .i64 0, .int .i64 0, .int .i64 0, .int .i64 0, .int .i64 0, .int .i64 0, .int .i64 0]) ?_ 2 _ rfl; (with_reducible repeat (first | refine blk_drewN ?_ _ | refine blk_drew ?_ | refine blk_alloc ?_ _)); refine blk_put (cs := #[.int .i64 a0, .int .i64 0, .int .i64 0, .int .i64 0, .int .i64 0, .int .i64 0, .int .i64 0, .int .i64 0, .int .i64 0, .int .i64 0, .int .i64 0, .int .i64 0]) ?_ 1 _ rfl; (with_reducible repeat (first | refine blk_drewN ?_ _ | refine blk_drew ?_ | refine blk_alloc ?_ _)); refine blk_put (cs := #[.int .i64 0, .int .i64 0, .int .i64 0, .int .i64 0, .int .i64 0, .int .i64 0, .int .i64 0, .int .i64 0, .int .i64 0, .int .i64 0, .int .i64 0, .int .i64 0]) ?_ 0 _ rfl; repeat (first | (with_reducible exact BK116.out) | (with_reducible refine blk_drewN ?_ _) | (with_reducible refine blk_drew ?_) | refine blk_far ?_ NB116_118.out _)) Try.underlying24 rfl (by kernel_rfl)) rfl ?_
            exact ⟨rfl, (by with_reducible (repeat (first | exact HB.out | apply below_alloc | apply pw_below_drewN | apply below_drew1 | refine below_set ?_ GE116.out | refine below_set ?_ GE118.out)))⟩

/-! ### skerrylaw05_PlanMakes: function 3 -/
def skerrylaw05_PlanMakes.f (k : Nat) (a0 : Int) (a1 : Int) (a2 : Int) (a3 : Int) : Option (Bool) := (skerrylaw05_wakes.f).bind fun t116 => (if t116 = true then ((plan_Make.f a0 a1 a2 a3).bind fun bt117 => ((skerryref05_Make.f k a0 a1 a2 a3).bind fun bt131 => (if (bt117.1 == bt131.1 && (bt117.2.1 == bt131.2.1 && (bt117.2.2.1 == bt131.2.2.1 && (bt117.2.2.2.1 == bt131.2.2.2.1 && (bt117.2.2.2.2.1 == bt131.2.2.2.2.1 && (bt117.2.2.2.2.2.1 == bt131.2.2.2.2.2.1 && (bt117.2.2.2.2.2.2.1 == bt131.2.2.2.2.2.2.1 && (bt117.2.2.2.2.2.2.2.1 == bt131.2.2.2.2.2.2.2.1 && (bt117.2.2.2.2.2.2.2.2.1 == bt131.2.2.2.2.2.2.2.2.1 && (bt117.2.2.2.2.2.2.2.2.2.1 == bt131.2.2.2.2.2.2.2.2.2.1 && (bt117.2.2.2.2.2.2.2.2.2.2.1 == bt131.2.2.2.2.2.2.2.2.2.2.1 && (bt117.2.2.2.2.2.2.2.2.2.2.2.1 == bt131.2.2.2.2.2.2.2.2.2.2.2.1)))))))))))) = true then (some (bt117.2.2.2.2.2.2.2.2.2.2.2.2 == bt131.2.2.2.2.2.2.2.2.2.2.2.2)) else (some false)))) else (some false))
theorem skerrylaw05_PlanMakes.mono : ∀ a0 a1 a2 a3 k, LeO (skerrylaw05_PlanMakes.f k a0 a1 a2 a3) (skerrylaw05_PlanMakes.f (k + 1) a0 a1 a2 a3) := by
  intro a0 a1 a2 a3 k
  unfold skerrylaw05_PlanMakes.f
  repeat' first
      | (with_reducible exact skerryref05_Make.mono _ _ _ _ _)
      | (with_reducible exact LeO.refl _)
      | (with_reducible exact LeO.none _)
      | (with_reducible refine LeO.ite ?_ ?_)
      | (with_reducible refine LeO.bind ?_ (fun _ => ?_))
      | exact skerryref05_Make.mono _ _ _ _ _
      | exact LeO.none _
      | refine LeO.ite ?_ ?_
      | refine LeO.bind ?_ (fun _ => ?_)
set_option maxHeartbeats 8000000 in
set_option maxRecDepth 100000 in
theorem skerrylaw05_PlanMakes.calls (k : Nat) (a0 : Int) (a1 : Int) (a2 : Int) (a3 : Int) (r : Bool) (w : World) (h : skerrylaw05_PlanMakes.f k a0 a1 a2 a3 = some r) :
    Calls Try.prog 3 #[.int .i64 a0, .int .i64 a1, .int .i64 a2, .int .i64 a3] w fun e w' => e = .returned (.bool r) ∧ Below w.heap.size w w' := by
  have hu24 := Try.underlying24
  have HB := Aside0.mk (Below.refl w.heap.size w)
  have H : ((skerrylaw05_wakes.f).bind fun t116 => (if t116 = true then ((plan_Make.f a0 a1 a2 a3).bind fun bt117 => ((skerryref05_Make.f k a0 a1 a2 a3).bind fun bt131 => (if (bt117.1 == bt131.1 && (bt117.2.1 == bt131.2.1 && (bt117.2.2.1 == bt131.2.2.1 && (bt117.2.2.2.1 == bt131.2.2.2.1 && (bt117.2.2.2.2.1 == bt131.2.2.2.2.1 && (bt117.2.2.2.2.2.1 == bt131.2.2.2.2.2.1 && (bt117.2.2.2.2.2.2.1 == bt131.2.2.2.2.2.2.1 && (bt117.2.2.2.2.2.2.2.1 == bt131.2.2.2.2.2.2.2.1 && (bt117.2.2.2.2.2.2.2.2.1 == bt131.2.2.2.2.2.2.2.2.1 && (bt117.2.2.2.2.2.2.2.2.2.1 == bt131.2.2.2.2.2.2.2.2.2.1 && (bt117.2.2.2.2.2.2.2.2.2.2.1 == bt131.2.2.2.2.2.2.2.2.2.2.1 && (bt117.2.2.2.2.2.2.2.2.2.2.2.1 == bt131.2.2.2.2.2.2.2.2.2.2.2.1)))))))))))) = true then (some (bt117.2.2.2.2.2.2.2.2.2.2.2.2 == bt131.2.2.2.2.2.2.2.2.2.2.2.2)) else (some false)))) else (some false))) = some r := h
  clear h
  replace H := Option.bind_eq_some_iff.mp H
  obtain ⟨t116, A50, H⟩ := H
  replace H : (if t116 = true then ((plan_Make.f a0 a1 a2 a3).bind fun bt117 => ((skerryref05_Make.f k a0 a1 a2 a3).bind fun bt131 => (if (bt117.1 == bt131.1 && (bt117.2.1 == bt131.2.1 && (bt117.2.2.1 == bt131.2.2.1 && (bt117.2.2.2.1 == bt131.2.2.2.1 && (bt117.2.2.2.2.1 == bt131.2.2.2.2.1 && (bt117.2.2.2.2.2.1 == bt131.2.2.2.2.2.1 && (bt117.2.2.2.2.2.2.1 == bt131.2.2.2.2.2.2.1 && (bt117.2.2.2.2.2.2.2.1 == bt131.2.2.2.2.2.2.2.1 && (bt117.2.2.2.2.2.2.2.2.1 == bt131.2.2.2.2.2.2.2.2.1 && (bt117.2.2.2.2.2.2.2.2.2.1 == bt131.2.2.2.2.2.2.2.2.2.1 && (bt117.2.2.2.2.2.2.2.2.2.2.1 == bt131.2.2.2.2.2.2.2.2.2.2.1 && (bt117.2.2.2.2.2.2.2.2.2.2.2.1 == bt131.2.2.2.2.2.2.2.2.2.2.2.1)))))))))))) = true then (some (bt117.2.2.2.2.2.2.2.2.2.2.2.2 == bt131.2.2.2.2.2.2.2.2.2.2.2.2)) else (some false)))) else (some false)) = some r := H
  have A5 := Aside0.mk A50
  clear A50
  by_cases c6 : t116 = true
  · subst c6
    have H1 : ((plan_Make.f a0 a1 a2 a3).bind fun bt117 => ((skerryref05_Make.f k a0 a1 a2 a3).bind fun bt131 => (if (bt117.1 == bt131.1 && (bt117.2.1 == bt131.2.1 && (bt117.2.2.1 == bt131.2.2.1 && (bt117.2.2.2.1 == bt131.2.2.2.1 && (bt117.2.2.2.2.1 == bt131.2.2.2.2.1 && (bt117.2.2.2.2.2.1 == bt131.2.2.2.2.2.1 && (bt117.2.2.2.2.2.2.1 == bt131.2.2.2.2.2.2.1 && (bt117.2.2.2.2.2.2.2.1 == bt131.2.2.2.2.2.2.2.1 && (bt117.2.2.2.2.2.2.2.2.1 == bt131.2.2.2.2.2.2.2.2.1 && (bt117.2.2.2.2.2.2.2.2.2.1 == bt131.2.2.2.2.2.2.2.2.2.1 && (bt117.2.2.2.2.2.2.2.2.2.2.1 == bt131.2.2.2.2.2.2.2.2.2.2.1 && (bt117.2.2.2.2.2.2.2.2.2.2.2.1 == bt131.2.2.2.2.2.2.2.2.2.2.2.1)))))))))))) = true then (some (bt117.2.2.2.2.2.2.2.2.2.2.2.2 == bt131.2.2.2.2.2.2.2.2.2.2.2.2)) else (some false)))) = some r := by rw [if_pos rfl] at H; exact H
    clear H
    have H := H1
    clear H1
    replace H := Option.bind_eq_some_iff.mp H
    obtain ⟨⟨t117, t118, t119, t120, t121, t122, t123, t124, t125, t126, t127, t128, t129⟩, A70, H⟩ := H
    replace H : ((skerryref05_Make.f k a0 a1 a2 a3).bind fun bt131 => (if (t117 == bt131.1 && (t118 == bt131.2.1 && (t119 == bt131.2.2.1 && (t120 == bt131.2.2.2.1 && (t121 == bt131.2.2.2.2.1 && (t122 == bt131.2.2.2.2.2.1 && (t123 == bt131.2.2.2.2.2.2.1 && (t124 == bt131.2.2.2.2.2.2.2.1 && (t125 == bt131.2.2.2.2.2.2.2.2.1 && (t126 == bt131.2.2.2.2.2.2.2.2.2.1 && (t127 == bt131.2.2.2.2.2.2.2.2.2.2.1 && (t128 == bt131.2.2.2.2.2.2.2.2.2.2.2.1)))))))))))) = true then (some (t129 == bt131.2.2.2.2.2.2.2.2.2.2.2.2)) else (some false))) = some r := H
    have A7 := Aside0.mk A70
    clear A70
    replace H := Option.bind_eq_some_iff.mp H
    obtain ⟨⟨t131, t132, t133, t134, t135, t136, t137, t138, t139, t140, t141, t142, t143⟩, A80, H⟩ := H
    replace H : (if (t117 == t131 && (t118 == t132 && (t119 == t133 && (t120 == t134 && (t121 == t135 && (t122 == t136 && (t123 == t137 && (t124 == t138 && (t125 == t139 && (t126 == t140 && (t127 == t141 && (t128 == t142)))))))))))) = true then (some (t129 == t143)) else (some false)) = some r := H
    have A8 := Aside0.mk A80
    clear A80
    by_cases c9 : (t117 == t131 && (t118 == t132 && (t119 == t133 && (t120 == t134 && (t121 == t135 && (t122 == t136 && (t123 == t137 && (t124 == t138 && (t125 == t139 && (t126 == t140 && (t127 == t141 && (t128 == t142)))))))))))) = true
    · rw [if_pos c9] at H
      have c9b0 : (t117 == t131 && (t118 == t132 && (t119 == t133 && (t120 == t134 && (t121 == t135 && (t122 == t136 && (t123 == t137 && (t124 == t138 && (t125 == t139 && (t126 == t140 && (t127 == t141 && (t128 == t142)))))))))))) = true := c9
      (try (have c9b1 : decide (t117 = t131 && (t118 == t132 && (t119 == t133 && (t120 == t134 && (t121 == t135 && (t122 == t136 && (t123 == t137 && (t124 == t138 && (t125 == t139 && (t126 == t140 && (t127 == t141 && (t128 == t142)))))))))))) = true := by simpa using c9))
      (try (have c9b2 : (t117 == t131 && (t118 == t132 && (t119 == t133 && (t120 == t134 && (t121 == t135 && (t122 == t136 && (t123 == t137 && (t124 == t138 && (t125 == t139 && (t126 == t140 && (t127 == t141 && (t128 == t142)))))))))))) = true := by simpa using c9))
      clear c9
      obtain rfl := Option.some.inj H
      go_enter Try.func3, Try.ntmps3
      go_wp2_with (first | ((with_reducible refine gate_callee (f := 8) rfl ?_); refine goesL_ (some 13) rfl rfl Try.func8 (by kernel_rfl) rfl #[] rfl (by (try simp only [List.map_toArray, List.map_cons, List.map_nil]); first | done | rfl | (simp only [List.length_drop, List.length_take]; rfl) | (simp only [Int.toNat_natCast, Nat.sub_self, List.length_drop, List.length_take]; rfl)) ?_; (with_reducible refine (skerrylaw05_wakes.calls  true _ A5.out).mono ?_); rintro e w10 ⟨rfl, hb⟩; refine ⟨_, rfl, ?_⟩; have n0_ := Aside0.mk (below_step (by repeat (first | (with_reducible first | exact HB.out | apply below_alloc | apply pw_below_drewN | apply below_drew1) | exact HB.out)) hb); clear HB; have HB := n0_; clear n0_; (try clear hb); (try clear hb2); (try clear hk); (try clear hi)) | ((with_reducible refine gate_callee (f := 9) rfl ?_); refine goesL_ (some 20) rfl rfl Try.func9 (by kernel_rfl) rfl #[.int .i64 a0, .int .i64 a1, .int .i64 a2, .int .i64 a3] rfl (by (try simp only [List.map_toArray, List.map_cons, List.map_nil]); first | done | rfl | (simp only [List.length_drop, List.length_take]; rfl) | (simp only [Int.toNat_natCast, Nat.sub_self, List.length_drop, List.length_take]; rfl)) ?_; (with_reducible refine (plan_Make.calls a0 a1 a2 a3 t117 t118 t119 t120 t121 t122 t123 t124 t125 t126 t127 t128 t129 _ A7.out).mono ?_); rintro e w11 ⟨rfl, hb⟩; refine ⟨_, rfl, ?_⟩; have n0_ := Aside0.mk (below_step (by repeat (first | (with_reducible first | exact HB.out | apply below_alloc | apply pw_below_drewN | apply below_drew1) | exact HB.out)) hb); clear HB; have HB := n0_; clear n0_; (try clear hb); (try clear hb2); (try clear hk); (try clear hi)) | ((with_reducible refine gate_dst (N := 9) rfl ?_); refine box_event ?hg (N := 9) ?hd (cs := #[.int .i64 0, .int .i64 0, .int .i64 0, .int .i64 0, .int .i64 0, .int .i64 0, .int .i64 0, .int .i64 0, .int .i64 0, .int .i64 0, .int .i64 0, .int .i64 0]) (t := 24) ?hr ?_; (case hd => rfl); (case hg => rfl); (case hr => first | (go_simp; done) | (go_simp; rfl)); intro gb130 hg w12 hbox hb; have n0_ := Aside0.mk (below_step (by repeat (first | (with_reducible first | exact HB.out | apply below_alloc | apply pw_below_drewN | apply below_drew1) | exact HB.out)) hb); have n1_ := Aside0.mk (hbox); have n2_ := Aside0.mk ((by rw [hg]; exact (below_size (by repeat (first | (with_reducible first | exact HB.out | apply below_alloc | apply pw_below_drewN | apply below_drew1) | exact HB.out))) : w.heap.size ≤ gb130)); have n3_ := Aside0.mk ((by rw [hg]; exact (below_size (by repeat (first | (with_reducible first | exact HB.out | apply below_alloc | apply pw_below_drewN | apply below_drew1) | exact HB.out))) : w.heap.size ≤ gb130)); clear HB; have HB := n0_; have BK130 := n1_; have GW130 := n2_; have GE130 := n3_; clear n0_ n1_ n2_ n3_; clear hb hbox hg; have hcz13_0 : w12.cell? ⟨gb130, 0, none⟩ = some (.int .i64 0) := (blk_cell BK130.out 0).trans rfl; have hcz13_1 : w12.cell? ⟨gb130, 1, none⟩ = some (.int .i64 0) := (blk_cell BK130.out 1).trans rfl; have hcz13_2 : w12.cell? ⟨gb130, 2, none⟩ = some (.int .i64 0) := (blk_cell BK130.out 2).trans rfl; have hcz13_3 : w12.cell? ⟨gb130, 3, none⟩ = some (.int .i64 0) := (blk_cell BK130.out 3).trans rfl; have hcz13_4 : w12.cell? ⟨gb130, 4, none⟩ = some (.int .i64 0) := (blk_cell BK130.out 4).trans rfl; have hcz13_5 : w12.cell? ⟨gb130, 5, none⟩ = some (.int .i64 0) := (blk_cell BK130.out 5).trans rfl; have hcz13_6 : w12.cell? ⟨gb130, 6, none⟩ = some (.int .i64 0) := (blk_cell BK130.out 6).trans rfl; have hcz13_7 : w12.cell? ⟨gb130, 7, none⟩ = some (.int .i64 0) := (blk_cell BK130.out 7).trans rfl; have hcz13_8 : w12.cell? ⟨gb130, 8, none⟩ = some (.int .i64 0) := (blk_cell BK130.out 8).trans rfl; have hcz13_9 : w12.cell? ⟨gb130, 9, none⟩ = some (.int .i64 0) := (blk_cell BK130.out 9).trans rfl; have hcz13_10 : w12.cell? ⟨gb130, 10, none⟩ = some (.int .i64 0) := (blk_cell BK130.out 10).trans rfl; have hcz13_11 : w12.cell? ⟨gb130, 11, none⟩ = some (.int .i64 0) := (blk_cell BK130.out 11).trans rfl; have hfz13_0 := blk_frozen BK130.out 0; have hfz13_1 := blk_frozen BK130.out 1; have hfz13_2 := blk_frozen BK130.out 2; have hfz13_3 := blk_frozen BK130.out 3; have hfz13_4 := blk_frozen BK130.out 4; have hfz13_5 := blk_frozen BK130.out 5; have hfz13_6 := blk_frozen BK130.out 6; have hfz13_7 := blk_frozen BK130.out 7; have hfz13_8 := blk_frozen BK130.out 8; have hfz13_9 := blk_frozen BK130.out 9; have hfz13_10 := blk_frozen BK130.out 10; have hfz13_11 := blk_frozen BK130.out 11) | ((with_reducible refine gate_callee (f := 10) rfl ?_); refine goesL_ (some 28) rfl rfl Try.func10 (by kernel_rfl) rfl #[.int .i64 a0, .int .i64 a1, .int .i64 a2, .int .i64 a3] rfl (by (try simp only [List.map_toArray, List.map_cons, List.map_nil]); first | done | rfl | (simp only [List.length_drop, List.length_take]; rfl) | (simp only [Int.toNat_natCast, Nat.sub_self, List.length_drop, List.length_take]; rfl)) ?_; (with_reducible refine (skerryref05_Make.calls k a0 a1 a2 a3 t131 t132 t133 t134 t135 t136 t137 t138 t139 t140 t141 t142 t143 _ A8.out).mono ?_); rintro e w14 ⟨rfl, hb⟩; refine ⟨_, rfl, ?_⟩; have n0_ := Aside0.mk (blk_below (g := gb130) (o := .cells #[.int .i64 t117, .int .i64 t118, .int .i64 t119, .int .i64 t120, .int .i64 t121, .int .i64 t122, .int .i64 t123, .int .i64 t124, .int .i64 t125, .int .i64 t126, .int .i64 t127, .int .i64 t128] 24 (0, 0)) (by (with_reducible repeat (first | refine blk_drewN ?_ _ | refine blk_drew ?_ | refine blk_alloc ?_ _)); refine blk_put (cs := #[.int .i64 t117, .int .i64 t118, .int .i64 t119, .int .i64 t120, .int .i64 t121, .int .i64 t122, .int .i64 t123, .int .i64 t124, .int .i64 t125, .int .i64 t126, .int .i64 t127, .int .i64 0]) ?_ 11 _ rfl; (with_reducible repeat (first | refine blk_drewN ?_ _ | refine blk_drew ?_ | refine blk_alloc ?_ _)); refine blk_put (cs := #[.int .i64 t117, .int .i64 t118, .int .i64 t119, .int .i64 t120, .int .i64 t121, .int .i64 t122, .int .i64 t123, .int .i64 t124, .int .i64 t125, .int .i64 t126, .int .i64 0, .int .i64 0]) ?_ 10 _ rfl; (with_reducible repeat (first | refine blk_drewN ?_ _ | refine blk_drew ?_ | refine blk_alloc ?_ _)); refine blk_put (cs := #[.int .i64 t117, .int .i64 t118, .int .i64 t119, .int .i64 t120, .int .i64 t121, .int .i64 t122, .int .i64 t123, .int .i64 t124, .int .i64 t125, .int .i64 0, .int .i64 0, .int .i64 0]) ?_ 9 _ rfl; (with_reducible repeat (first | refine blk_drewN ?_ _ | refine blk_drew ?_ | refine blk_alloc ?_ _)); refine blk_put (cs := #[.int .i64 t117, .int .i64 t118, .int .i64 t119, .int .i64 t120, .int .i64 t121, .int .i64 t122, .int .i64 t123, .int .i64 t124, .int .i64 0, .int .i64 0, .int .i64 0, .int .i64 0]) ?_ 8 _ rfl; (with_reducible repeat (first | refine blk_drewN ?_ _ | refine blk_drew ?_ | refine blk_alloc ?_ _)); refine blk_put (cs := #[.int .i64 t117, .int .i64 t118, .int .i64 t119, .int .i64 t120, .int .i64 t121, .int .i64 t122, .int .i64 t123, .int .i64 0, .int .i64 0, .int .i64 0, .int .i64 0, .int .i64 0]) ?_ 7 _ rfl; (with_reducible repeat (first | refine blk_drewN ?_ _ | refine blk_drew ?_ | refine blk_alloc ?_ _)); refine blk_put (cs := #[.int .i64 t117, .int .i64 t118, .int .i64 t119, .int .i64 t120, .int .i64 t121, .int .i64 t122, .int .i64 0, .int .i64 0, .int .i64 0, .int .i64 0, .int .i64 0, .int .i64 0]) ?_ 6 _ rfl; (with_reducible repeat (first | refine blk_drewN ?_ _ | refine blk_drew ?_ | refine blk_alloc ?_ _)); refine blk_put (cs := #[.int .i64 t117, .int .i64 t118, .int .i64 t119, .int .i64 t120, .int .i64 t121, .int .i64 0, .int .i64 0, .int .i64 0, .int .i64 0, .int .i64 0, .int .i64 0, .int .i64 0]) ?_ 5 _ rfl; (with_reducible repeat (first | refine blk_drewN ?_ _ | refine blk_drew ?_ | refine blk_alloc ?_ _)); refine blk_put (cs := #[.int .i64 t117, .int .i64 t118, .int .i64 t119, .int .i64 t120, .int .i64 0, .int .i64 0, .int .i64 0, .int .i64 0, .int .i64 0, .int .i64 0, .int .i64 0, .int .i64 0]) ?_ 4 _ rfl; (with_reducible repeat (first | refine blk_drewN ?_ _ | refine blk_drew ?_ | refine blk_alloc ?_ _)); refine blk_put (cs := #[.int .i64 t117, .int .i64 t118, .int .i64 t119, .int .i64 0, .int .i64 0, .int .i64 0, .int .i64 0, .int .i64 0, .int .i64 0, .int .i64 0, .int .i64 0, .int .i64 0]) ?_ 3 _ rfl; (with_reducible repeat (first | refine blk_drewN ?_ _ | refine blk_drew ?_ | refine blk_alloc ?_ _)); refine blk_put (cs := #[.int .i64 t117, .int .i64 t118, .int .i64 0, .int .i64 0, .int .i64 0, .int .i64 0, .int .i64 0, .int .i64 0, .int .i64 0, .int .i64 0, .int .i64 0, .int .i64 0]) ?_ 2 _ rfl; (with_reducible repeat (first | refine blk_drewN ?_ _ | refine blk_drew ?_ | refine blk_alloc ?_ _)); refine blk_put (cs := #[.int .i64 t117, .int .i64 0, .int .i64 0, .int .i64 0, .int .i64 0, .int .i64 0, .int .i64 0, .int .i64 0, .int .i64 0, .int .i64 0, .int .i64 0, .int .i64 0]) ?_ 1 _ rfl; (with_reducible repeat (first | refine blk_drewN ?_ _ | refine blk_drew ?_ | refine blk_alloc ?_ _)); refine blk_put (cs := #[.int .i64 0, .int .i64 0, .int .i64 0, .int .i64 0, .int .i64 0, .int .i64 0, .int .i64 0, .int .i64 0, .int .i64 0, .int .i64 0, .int .i64 0, .int .i64 0]) ?_ 0 _ rfl; (with_reducible repeat (first | refine blk_drewN ?_ _ | refine blk_drew ?_ | refine blk_alloc ?_ _)); exact BK130.out) hb); have n1_ := Aside0.mk (below_step (by repeat (first | (with_reducible first | exact HB.out | apply below_alloc | apply pw_below_drewN | apply below_drew1 | refine below_set ?_ GE130.out) | exact HB.out)) hb); clear BK130; clear HB; have BK130 := n0_; have HB := n1_; clear n0_ n1_; (try clear hb); (try clear hb2); (try clear hk); (try clear hi)) | ((with_reducible refine gate_dst (N := 11) rfl ?_); refine box_event ?hg (N := 11) ?hd (cs := #[.int .i64 0, .int .i64 0, .int .i64 0, .int .i64 0, .int .i64 0, .int .i64 0, .int .i64 0, .int .i64 0, .int .i64 0, .int .i64 0, .int .i64 0, .int .i64 0]) (t := 24) ?hr ?_; (case hd => rfl); (case hg => rfl); (case hr => first | (go_simp; done) | (go_simp; rfl)); intro gb144 hg w15 hbox hb; have n0_ := Aside0.mk (blk_below (g := gb130) (o := .cells #[.int .i64 t117, .int .i64 t118, .int .i64 t119, .int .i64 t120, .int .i64 t121, .int .i64 t122, .int .i64 t123, .int .i64 t124, .int .i64 t125, .int .i64 t126, .int .i64 t127, .int .i64 t128] 24 (0, 0)) (by (with_reducible repeat (first | refine blk_drewN ?_ _ | refine blk_drew ?_ | refine blk_alloc ?_ _)); exact BK130.out) hb); have n1_ := Aside0.mk (below_step (by repeat (first | (with_reducible first | exact HB.out | apply below_alloc | apply pw_below_drewN | apply below_drew1 | refine below_set ?_ GE130.out) | exact HB.out)) hb); have n2_ := Aside0.mk (hbox); have n3_ := Aside0.mk ((by rw [hg]; exact (below_size (by repeat (first | (with_reducible first | exact HB.out | apply below_alloc | apply pw_below_drewN | apply below_drew1 | refine below_set ?_ GE130.out) | exact HB.out))) : w.heap.size ≤ gb144)); have n4_ := Aside0.mk ((by rw [hg]; exact (below_size (by repeat (first | (with_reducible first | exact HB.out | apply below_alloc | apply pw_below_drewN | apply below_drew1 | refine below_set ?_ GE130.out) | exact HB.out))) : w.heap.size ≤ gb144)); have n5_ := Aside0.mk ((by rw [hg]; exact Nat.ne_of_lt (blk_lt (g := gb130) (o := .cells #[.int .i64 t117, .int .i64 t118, .int .i64 t119, .int .i64 t120, .int .i64 t121, .int .i64 t122, .int .i64 t123, .int .i64 t124, .int .i64 t125, .int .i64 t126, .int .i64 t127, .int .i64 t128] 24 (0, 0)) (by (with_reducible repeat (first | refine blk_drewN ?_ _ | refine blk_drew ?_ | refine blk_alloc ?_ _)); exact BK130.out)) : gb130 ≠ gb144)); have n6_ := Aside0.mk ((by rw [hg]; exact Nat.ne_of_gt (blk_lt (g := gb130) (o := .cells #[.int .i64 t117, .int .i64 t118, .int .i64 t119, .int .i64 t120, .int .i64 t121, .int .i64 t122, .int .i64 t123, .int .i64 t124, .int .i64 t125, .int .i64 t126, .int .i64 t127, .int .i64 t128] 24 (0, 0)) (by (with_reducible repeat (first | refine blk_drewN ?_ _ | refine blk_drew ?_ | refine blk_alloc ?_ _)); exact BK130.out)) : gb144 ≠ gb130)); clear BK130; clear HB; have BK130 := n0_; have HB := n1_; have BK144 := n2_; have GW144 := n3_; have GE144 := n4_; have NB130_144 := n5_; have NB144_130 := n6_; clear n0_ n1_ n2_ n3_ n4_ n5_ n6_; clear hb hbox hg; have hnb16 := NB144_130.out; have hnc16 := NB130_144.out; have hcz17_0 : w15.cell? ⟨gb144, 0, none⟩ = some (.int .i64 0) := (blk_cell BK144.out 0).trans rfl; have hcz17_1 : w15.cell? ⟨gb144, 1, none⟩ = some (.int .i64 0) := (blk_cell BK144.out 1).trans rfl; have hcz17_2 : w15.cell? ⟨gb144, 2, none⟩ = some (.int .i64 0) := (blk_cell BK144.out 2).trans rfl; have hcz17_3 : w15.cell? ⟨gb144, 3, none⟩ = some (.int .i64 0) := (blk_cell BK144.out 3).trans rfl; have hcz17_4 : w15.cell? ⟨gb144, 4, none⟩ = some (.int .i64 0) := (blk_cell BK144.out 4).trans rfl; have hcz17_5 : w15.cell? ⟨gb144, 5, none⟩ = some (.int .i64 0) := (blk_cell BK144.out 5).trans rfl; have hcz17_6 : w15.cell? ⟨gb144, 6, none⟩ = some (.int .i64 0) := (blk_cell BK144.out 6).trans rfl; have hcz17_7 : w15.cell? ⟨gb144, 7, none⟩ = some (.int .i64 0) := (blk_cell BK144.out 7).trans rfl; have hcz17_8 : w15.cell? ⟨gb144, 8, none⟩ = some (.int .i64 0) := (blk_cell BK144.out 8).trans rfl; have hcz17_9 : w15.cell? ⟨gb144, 9, none⟩ = some (.int .i64 0) := (blk_cell BK144.out 9).trans rfl; have hcz17_10 : w15.cell? ⟨gb144, 10, none⟩ = some (.int .i64 0) := (blk_cell BK144.out 10).trans rfl; have hcz17_11 : w15.cell? ⟨gb144, 11, none⟩ = some (.int .i64 0) := (blk_cell BK144.out 11).trans rfl; have hfz17_0 := blk_frozen BK144.out 0; have hfz17_1 := blk_frozen BK144.out 1; have hfz17_2 := blk_frozen BK144.out 2; have hfz17_3 := blk_frozen BK144.out 3; have hfz17_4 := blk_frozen BK144.out 4; have hfz17_5 := blk_frozen BK144.out 5; have hfz17_6 := blk_frozen BK144.out 6; have hfz17_7 := blk_frozen BK144.out 7; have hfz17_8 := blk_frozen BK144.out 8; have hfz17_9 := blk_frozen BK144.out 9; have hfz17_10 := blk_frozen BK144.out 10; have hfz17_11 := blk_frozen BK144.out 11; have hcz18_0 : w15.cell? ⟨gb130, 0, none⟩ = some (.int .i64 t117) := (blk_cell BK130.out 0).trans rfl; have hcz18_1 : w15.cell? ⟨gb130, 1, none⟩ = some (.int .i64 t118) := (blk_cell BK130.out 1).trans rfl; have hcz18_2 : w15.cell? ⟨gb130, 2, none⟩ = some (.int .i64 t119) := (blk_cell BK130.out 2).trans rfl; have hcz18_3 : w15.cell? ⟨gb130, 3, none⟩ = some (.int .i64 t120) := (blk_cell BK130.out 3).trans rfl; have hcz18_4 : w15.cell? ⟨gb130, 4, none⟩ = some (.int .i64 t121) := (blk_cell BK130.out 4).trans rfl; have hcz18_5 : w15.cell? ⟨gb130, 5, none⟩ = some (.int .i64 t122) := (blk_cell BK130.out 5).trans rfl; have hcz18_6 : w15.cell? ⟨gb130, 6, none⟩ = some (.int .i64 t123) := (blk_cell BK130.out 6).trans rfl; have hcz18_7 : w15.cell? ⟨gb130, 7, none⟩ = some (.int .i64 t124) := (blk_cell BK130.out 7).trans rfl; have hcz18_8 : w15.cell? ⟨gb130, 8, none⟩ = some (.int .i64 t125) := (blk_cell BK130.out 8).trans rfl; have hcz18_9 : w15.cell? ⟨gb130, 9, none⟩ = some (.int .i64 t126) := (blk_cell BK130.out 9).trans rfl; have hcz18_10 : w15.cell? ⟨gb130, 10, none⟩ = some (.int .i64 t127) := (blk_cell BK130.out 10).trans rfl; have hcz18_11 : w15.cell? ⟨gb130, 11, none⟩ = some (.int .i64 t128) := (blk_cell BK130.out 11).trans rfl; have hfz18_0 := blk_frozen BK130.out 0; have hfz18_1 := blk_frozen BK130.out 1; have hfz18_2 := blk_frozen BK130.out 2; have hfz18_3 := blk_frozen BK130.out 3; have hfz18_4 := blk_frozen BK130.out 4; have hfz18_5 := blk_frozen BK130.out 5; have hfz18_6 := blk_frozen BK130.out 6; have hfz18_7 := blk_frozen BK130.out 7; have hfz18_8 := blk_frozen BK130.out 8; have hfz18_9 := blk_frozen BK130.out 9; have hfz18_10 := blk_frozen BK130.out 10; have hfz18_11 := blk_frozen BK130.out 11))
      go_ret
      exact ⟨by first | rfl | (simp [errW_none, errW_some] <;> rfl) | (simp [*, errW_none, errW_some] <;> rfl), by repeat (first | (with_reducible first | exact HB.out | apply below_alloc | apply pw_below_drewN | apply below_drew1 | refine below_set ?_ GE130.out | refine below_set ?_ GE144.out) | exact HB.out)⟩
    · rw [if_neg c9] at H
      have c9b0 : (t117 == t131 && (t118 == t132 && (t119 == t133 && (t120 == t134 && (t121 == t135 && (t122 == t136 && (t123 == t137 && (t124 == t138 && (t125 == t139 && (t126 == t140 && (t127 == t141 && (t128 == t142)))))))))))) = false := by simpa using c9
      (try (have c9b1 : decide (t117 = t131 && (t118 == t132 && (t119 == t133 && (t120 == t134 && (t121 == t135 && (t122 == t136 && (t123 == t137 && (t124 == t138 && (t125 == t139 && (t126 == t140 && (t127 == t141 && (t128 == t142)))))))))))) = false := by simpa using c9))
      (try (have c9b2 : (t117 == t131 && (t118 == t132 && (t119 == t133 && (t120 == t134 && (t121 == t135 && (t122 == t136 && (t123 == t137 && (t124 == t138 && (t125 == t139 && (t126 == t140 && (t127 == t141 && (t128 == t142)))))))))))) = false := by simpa using c9))
      (try (have c9b3 : ¬ (t117 = t131 && (t118 == t132 && (t119 == t133 && (t120 == t134 && (t121 == t135 && (t122 == t136 && (t123 == t137 && (t124 == t138 && (t125 == t139 && (t126 == t140 && (t127 == t141 && (t128 == t142)))))))))))) := by simpa using c9))
      clear c9
      obtain rfl := Option.some.inj H
      go_enter Try.func3, Try.ntmps3
      go_wp2_with (first | ((with_reducible refine gate_callee (f := 8) rfl ?_); refine goesL_ (some 13) rfl rfl Try.func8 (by kernel_rfl) rfl #[] rfl (by (try simp only [List.map_toArray, List.map_cons, List.map_nil]); first | done | rfl | (simp only [List.length_drop, List.length_take]; rfl) | (simp only [Int.toNat_natCast, Nat.sub_self, List.length_drop, List.length_take]; rfl)) ?_; (with_reducible refine (skerrylaw05_wakes.calls  true _ A5.out).mono ?_); rintro e w19 ⟨rfl, hb⟩; refine ⟨_, rfl, ?_⟩; have n0_ := Aside0.mk (below_step (by repeat (first | (with_reducible first | exact HB.out | apply below_alloc | apply pw_below_drewN | apply below_drew1) | exact HB.out)) hb); clear HB; have HB := n0_; clear n0_; (try clear hb); (try clear hb2); (try clear hk); (try clear hi)) | ((with_reducible refine gate_callee (f := 9) rfl ?_); refine goesL_ (some 20) rfl rfl Try.func9 (by kernel_rfl) rfl #[.int .i64 a0, .int .i64 a1, .int .i64 a2, .int .i64 a3] rfl (by (try simp only [List.map_toArray, List.map_cons, List.map_nil]); first | done | rfl | (simp only [List.length_drop, List.length_take]; rfl) | (simp only [Int.toNat_natCast, Nat.sub_self, List.length_drop, List.length_take]; rfl)) ?_; (with_reducible refine (plan_Make.calls a0 a1 a2 a3 t117 t118 t119 t120 t121 t122 t123 t124 t125 t126 t127 t128 t129 _ A7.out).mono ?_); rintro e w20 ⟨rfl, hb⟩; refine ⟨_, rfl, ?_⟩; have n0_ := Aside0.mk (below_step (by repeat (first | (with_reducible first | exact HB.out | apply below_alloc | apply pw_below_drewN | apply below_drew1) | exact HB.out)) hb); clear HB; have HB := n0_; clear n0_; (try clear hb); (try clear hb2); (try clear hk); (try clear hi)) | ((with_reducible refine gate_dst (N := 9) rfl ?_); refine box_event ?hg (N := 9) ?hd (cs := #[.int .i64 0, .int .i64 0, .int .i64 0, .int .i64 0, .int .i64 0, .int .i64 0, .int .i64 0, .int .i64 0, .int .i64 0, .int .i64 0, .int .i64 0, .int .i64 0]) (t := 24) ?hr ?_; (case hd => rfl); (case hg => rfl); (case hr => first | (go_simp; done) | (go_simp; rfl)); intro gb130 hg w21 hbox hb; have n0_ := Aside0.mk (below_step (by repeat (first | (with_reducible first | exact HB.out | apply below_alloc | apply pw_below_drewN | apply below_drew1) | exact HB.out)) hb); have n1_ := Aside0.mk (hbox); have n2_ := Aside0.mk ((by rw [hg]; exact (below_size (by repeat (first | (with_reducible first | exact HB.out | apply below_alloc | apply pw_below_drewN | apply below_drew1) | exact HB.out))) : w.heap.size ≤ gb130)); have n3_ := Aside0.mk ((by rw [hg]; exact (below_size (by repeat (first | (with_reducible first | exact HB.out | apply below_alloc | apply pw_below_drewN | apply below_drew1) | exact HB.out))) : w.heap.size ≤ gb130)); clear HB; have HB := n0_; have BK130 := n1_; have GW130 := n2_; have GE130 := n3_; clear n0_ n1_ n2_ n3_; clear hb hbox hg; have hcz22_0 : w21.cell? ⟨gb130, 0, none⟩ = some (.int .i64 0) := (blk_cell BK130.out 0).trans rfl; have hcz22_1 : w21.cell? ⟨gb130, 1, none⟩ = some (.int .i64 0) := (blk_cell BK130.out 1).trans rfl; have hcz22_2 : w21.cell? ⟨gb130, 2, none⟩ = some (.int .i64 0) := (blk_cell BK130.out 2).trans rfl; have hcz22_3 : w21.cell? ⟨gb130, 3, none⟩ = some (.int .i64 0) := (blk_cell BK130.out 3).trans rfl; have hcz22_4 : w21.cell? ⟨gb130, 4, none⟩ = some (.int .i64 0) := (blk_cell BK130.out 4).trans rfl; have hcz22_5 : w21.cell? ⟨gb130, 5, none⟩ = some (.int .i64 0) := (blk_cell BK130.out 5).trans rfl; have hcz22_6 : w21.cell? ⟨gb130, 6, none⟩ = some (.int .i64 0) := (blk_cell BK130.out 6).trans rfl; have hcz22_7 : w21.cell? ⟨gb130, 7, none⟩ = some (.int .i64 0) := (blk_cell BK130.out 7).trans rfl; have hcz22_8 : w21.cell? ⟨gb130, 8, none⟩ = some (.int .i64 0) := (blk_cell BK130.out 8).trans rfl; have hcz22_9 : w21.cell? ⟨gb130, 9, none⟩ = some (.int .i64 0) := (blk_cell BK130.out 9).trans rfl; have hcz22_10 : w21.cell? ⟨gb130, 10, none⟩ = some (.int .i64 0) := (blk_cell BK130.out 10).trans rfl; have hcz22_11 : w21.cell? ⟨gb130, 11, none⟩ = some (.int .i64 0) := (blk_cell BK130.out 11).trans rfl; have hfz22_0 := blk_frozen BK130.out 0; have hfz22_1 := blk_frozen BK130.out 1; have hfz22_2 := blk_frozen BK130.out 2; have hfz22_3 := blk_frozen BK130.out 3; have hfz22_4 := blk_frozen BK130.out 4; have hfz22_5 := blk_frozen BK130.out 5; have hfz22_6 := blk_frozen BK130.out 6; have hfz22_7 := blk_frozen BK130.out 7; have hfz22_8 := blk_frozen BK130.out 8; have hfz22_9 := blk_frozen BK130.out 9; have hfz22_10 := blk_frozen BK130.out 10; have hfz22_11 := blk_frozen BK130.out 11) | ((with_reducible refine gate_callee (f := 10) rfl ?_); refine goesL_ (some 28) rfl rfl Try.func10 (by kernel_rfl) rfl #[.int .i64 a0, .int .i64 a1, .int .i64 a2, .int .i64 a3] rfl (by (try simp only [List.map_toArray, List.map_cons, List.map_nil]); first | done | rfl | (simp only [List.length_drop, List.length_take]; rfl) | (simp only [Int.toNat_natCast, Nat.sub_self, List.length_drop, List.length_take]; rfl)) ?_; (with_reducible refine (skerryref05_Make.calls k a0 a1 a2 a3 t131 t132 t133 t134 t135 t136 t137 t138 t139 t140 t141 t142 t143 _ A8.out).mono ?_); rintro e w23 ⟨rfl, hb⟩; refine ⟨_, rfl, ?_⟩; have n0_ := Aside0.mk (blk_below (g := gb130) (o := .cells #[.int .i64 t117, .int .i64 t118, .int .i64 t119, .int .i64 t120, .int .i64 t121, .int .i64 t122, .int .i64 t123, .int .i64 t124, .int .i64 t125, .int .i64 t126, .int .i64 t127, .int .i64 t128] 24 (0, 0)) (by (with_reducible repeat (first | refine blk_drewN ?_ _ | refine blk_drew ?_ | refine blk_alloc ?_ _)); refine blk_put (cs := #[.int .i64 t117, .int .i64 t118, .int .i64 t119, .int .i64 t120, .int .i64 t121, .int .i64 t122, .int .i64 t123, .int .i64 t124, .int .i64 t125, .int .i64 t126, .int .i64 t127, .int .i64 0]) ?_ 11 _ rfl; (with_reducible repeat (first | refine blk_drewN ?_ _ | refine blk_drew ?_ | refine blk_alloc ?_ _)); refine blk_put (cs := #[.int .i64 t117, .int .i64 t118, .int .i64 t119, .int .i64 t120, .int .i64 t121, .int .i64 t122, .int .i64 t123, .int .i64 t124, .int .i64 t125, .int .i64 t126, .int .i64 0, .int .i64 0]) ?_ 10 _ rfl; (with_reducible repeat (first | refine blk_drewN ?_ _ | refine blk_drew ?_ | refine blk_alloc ?_ _)); refine blk_put (cs := #[.int .i64 t117, .int .i64 t118, .int .i64 t119, .int .i64 t120, .int .i64 t121, .int .i64 t122, .int .i64 t123, .int .i64 t124, .int .i64 t125, .int .i64 0, .int .i64 0, .int .i64 0]) ?_ 9 _ rfl; (with_reducible repeat (first | refine blk_drewN ?_ _ | refine blk_drew ?_ | refine blk_alloc ?_ _)); refine blk_put (cs := #[.int .i64 t117, .int .i64 t118, .int .i64 t119, .int .i64 t120, .int .i64 t121, .int .i64 t122, .int .i64 t123, .int .i64 t124, .int .i64 0, .int .i64 0, .int .i64 0, .int .i64 0]) ?_ 8 _ rfl; (with_reducible repeat (first | refine blk_drewN ?_ _ | refine blk_drew ?_ | refine blk_alloc ?_ _)); refine blk_put (cs := #[.int .i64 t117, .int .i64 t118, .int .i64 t119, .int .i64 t120, .int .i64 t121, .int .i64 t122, .int .i64 t123, .int .i64 0, .int .i64 0, .int .i64 0, .int .i64 0, .int .i64 0]) ?_ 7 _ rfl; (with_reducible repeat (first | refine blk_drewN ?_ _ | refine blk_drew ?_ | refine blk_alloc ?_ _)); refine blk_put (cs := #[.int .i64 t117, .int .i64 t118, .int .i64 t119, .int .i64 t120, .int .i64 t121, .int .i64 t122, .int .i64 0, .int .i64 0, .int .i64 0, .int .i64 0, .int .i64 0, .int .i64 0]) ?_ 6 _ rfl; (with_reducible repeat (first | refine blk_drewN ?_ _ | refine blk_drew ?_ | refine blk_alloc ?_ _)); refine blk_put (cs := #[.int .i64 t117, .int .i64 t118, .int .i64 t119, .int .i64 t120, .int .i64 t121, .int .i64 0, .int .i64 0, .int .i64 0, .int .i64 0, .int .i64 0, .int .i64 0, .int .i64 0]) ?_ 5 _ rfl; (with_reducible repeat (first | refine blk_drewN ?_ _ | refine blk_drew ?_ | refine blk_alloc ?_ _)); refine blk_put (cs := #[.int .i64 t117, .int .i64 t118, .int .i64 t119, .int .i64 t120, .int .i64 0, .int .i64 0, .int .i64 0, .int .i64 0, .int .i64 0, .int .i64 0, .int .i64 0, .int .i64 0]) ?_ 4 _ rfl; (with_reducible repeat (first | refine blk_drewN ?_ _ | refine blk_drew ?_ | refine blk_alloc ?_ _)); refine blk_put (cs := #[.int .i64 t117, .int .i64 t118, .int .i64 t119, .int .i64 0, .int .i64 0, .int .i64 0, .int .i64 0, .int .i64 0, .int .i64 0, .int .i64 0, .int .i64 0, .int .i64 0]) ?_ 3 _ rfl; (with_reducible repeat (first | refine blk_drewN ?_ _ | refine blk_drew ?_ | refine blk_alloc ?_ _)); refine blk_put (cs := #[.int .i64 t117, .int .i64 t118, .int .i64 0, .int .i64 0, .int .i64 0, .int .i64 0, .int .i64 0, .int .i64 0, .int .i64 0, .int .i64 0, .int .i64 0, .int .i64 0]) ?_ 2 _ rfl; (with_reducible repeat (first | refine blk_drewN ?_ _ | refine blk_drew ?_ | refine blk_alloc ?_ _)); refine blk_put (cs := #[.int .i64 t117, .int .i64 0, .int .i64 0, .int .i64 0, .int .i64 0, .int .i64 0, .int .i64 0, .int .i64 0, .int .i64 0, .int .i64 0, .int .i64 0, .int .i64 0]) ?_ 1 _ rfl; (with_reducible repeat (first | refine blk_drewN ?_ _ | refine blk_drew ?_ | refine blk_alloc ?_ _)); refine blk_put (cs := #[.int .i64 0, .int .i64 0, .int .i64 0, .int .i64 0, .int .i64 0, .int .i64 0, .int .i64 0, .int .i64 0, .int .i64 0, .int .i64 0, .int .i64 0, .int .i64 0]) ?_ 0 _ rfl; (with_reducible repeat (first | refine blk_drewN ?_ _ | refine blk_drew ?_ | refine blk_alloc ?_ _)); exact BK130.out) hb); have n1_ := Aside0.mk (below_step (by repeat (first | (with_reducible first | exact HB.out | apply below_alloc | apply pw_below_drewN | apply below_drew1 | refine below_set ?_ GE130.out) | exact HB.out)) hb); clear BK130; clear HB; have BK130 := n0_; have HB := n1_; clear n0_ n1_; (try clear hb); (try clear hb2); (try clear hk); (try clear hi)) | ((with_reducible refine gate_dst (N := 11) rfl ?_); refine box_event ?hg (N := 11) ?hd (cs := #[.int .i64 0, .int .i64 0, .int .i64 0, .int .i64 0, .int .i64 0, .int .i64 0, .int .i64 0, .int .i64 0, .int .i64 0, .int .i64 0, .int .i64 0, .int .i64 0]) (t := 24) ?hr ?_; (case hd => rfl); (case hg => rfl); (case hr => first | (go_simp; done) | (go_simp; rfl)); intro gb144 hg w24 hbox hb; have n0_ := Aside0.mk (blk_below (g := gb130) (o := .cells #[.int .i64 t117, .int .i64 t118, .int .i64 t119, .int .i64 t120, .int .i64 t121, .int .i64 t122, .int .i64 t123, .int .i64 t124, .int .i64 t125, .int .i64 t126, .int .i64 t127, .int .i64 t128] 24 (0, 0)) (by (with_reducible repeat (first | refine blk_drewN ?_ _ | refine blk_drew ?_ | refine blk_alloc ?_ _)); exact BK130.out) hb); have n1_ := Aside0.mk (below_step (by repeat (first | (with_reducible first | exact HB.out | apply below_alloc | apply pw_below_drewN | apply below_drew1 | refine below_set ?_ GE130.out) | exact HB.out)) hb); have n2_ := Aside0.mk (hbox); have n3_ := Aside0.mk ((by rw [hg]; exact (below_size (by repeat (first | (with_reducible first | exact HB.out | apply below_alloc | apply pw_below_drewN | apply below_drew1 | refine below_set ?_ GE130.out) | exact HB.out))) : w.heap.size ≤ gb144)); have n4_ := Aside0.mk ((by rw [hg]; exact (below_size (by repeat (first | (with_reducible first | exact HB.out | apply below_alloc | apply pw_below_drewN | apply below_drew1 | refine below_set ?_ GE130.out) | exact HB.out))) : w.heap.size ≤ gb144)); have n5_ := Aside0.mk ((by rw [hg]; exact Nat.ne_of_lt (blk_lt (g := gb130) (o := .cells #[.int .i64 t117, .int .i64 t118, .int .i64 t119, .int .i64 t120, .int .i64 t121, .int .i64 t122, .int .i64 t123, .int .i64 t124, .int .i64 t125, .int .i64 t126, .int .i64 t127, .int .i64 t128] 24 (0, 0)) (by (with_reducible repeat (first | refine blk_drewN ?_ _ | refine blk_drew ?_ | refine blk_alloc ?_ _)); exact BK130.out)) : gb130 ≠ gb144)); have n6_ := Aside0.mk ((by rw [hg]; exact Nat.ne_of_gt (blk_lt (g := gb130) (o := .cells #[.int .i64 t117, .int .i64 t118, .int .i64 t119, .int .i64 t120, .int .i64 t121, .int .i64 t122, .int .i64 t123, .int .i64 t124, .int .i64 t125, .int .i64 t126, .int .i64 t127, .int .i64 t128] 24 (0, 0)) (by (with_reducible repeat (first | refine blk_drewN ?_ _ | refine blk_drew ?_ | refine blk_alloc ?_ _)); exact BK130.out)) : gb144 ≠ gb130)); clear BK130; clear HB; have BK130 := n0_; have HB := n1_; have BK144 := n2_; have GW144 := n3_; have GE144 := n4_; have NB130_144 := n5_; have NB144_130 := n6_; clear n0_ n1_ n2_ n3_ n4_ n5_ n6_; clear hb hbox hg; have hnb25 := NB144_130.out; have hnc25 := NB130_144.out; have hcz26_0 : w24.cell? ⟨gb144, 0, none⟩ = some (.int .i64 0) := (blk_cell BK144.out 0).trans rfl; have hcz26_1 : w24.cell? ⟨gb144, 1, none⟩ = some (.int .i64 0) := (blk_cell BK144.out 1).trans rfl; have hcz26_2 : w24.cell? ⟨gb144, 2, none⟩ = some (.int .i64 0) := (blk_cell BK144.out 2).trans rfl; have hcz26_3 : w24.cell? ⟨gb144, 3, none⟩ = some (.int .i64 0) := (blk_cell BK144.out 3).trans rfl; have hcz26_4 : w24.cell? ⟨gb144, 4, none⟩ = some (.int .i64 0) := (blk_cell BK144.out 4).trans rfl; have hcz26_5 : w24.cell? ⟨gb144, 5, none⟩ = some (.int .i64 0) := (blk_cell BK144.out 5).trans rfl; have hcz26_6 : w24.cell? ⟨gb144, 6, none⟩ = some (.int .i64 0) := (blk_cell BK144.out 6).trans rfl; have hcz26_7 : w24.cell? ⟨gb144, 7, none⟩ = some (.int .i64 0) := (blk_cell BK144.out 7).trans rfl; have hcz26_8 : w24.cell? ⟨gb144, 8, none⟩ = some (.int .i64 0) := (blk_cell BK144.out 8).trans rfl; have hcz26_9 : w24.cell? ⟨gb144, 9, none⟩ = some (.int .i64 0) := (blk_cell BK144.out 9).trans rfl; have hcz26_10 : w24.cell? ⟨gb144, 10, none⟩ = some (.int .i64 0) := (blk_cell BK144.out 10).trans rfl; have hcz26_11 : w24.cell? ⟨gb144, 11, none⟩ = some (.int .i64 0) := (blk_cell BK144.out 11).trans rfl; have hfz26_0 := blk_frozen BK144.out 0; have hfz26_1 := blk_frozen BK144.out 1; have hfz26_2 := blk_frozen BK144.out 2; have hfz26_3 := blk_frozen BK144.out 3; have hfz26_4 := blk_frozen BK144.out 4; have hfz26_5 := blk_frozen BK144.out 5; have hfz26_6 := blk_frozen BK144.out 6; have hfz26_7 := blk_frozen BK144.out 7; have hfz26_8 := blk_frozen BK144.out 8; have hfz26_9 := blk_frozen BK144.out 9; have hfz26_10 := blk_frozen BK144.out 10; have hfz26_11 := blk_frozen BK144.out 11; have hcz27_0 : w24.cell? ⟨gb130, 0, none⟩ = some (.int .i64 t117) := (blk_cell BK130.out 0).trans rfl; have hcz27_1 : w24.cell? ⟨gb130, 1, none⟩ = some (.int .i64 t118) := (blk_cell BK130.out 1).trans rfl; have hcz27_2 : w24.cell? ⟨gb130, 2, none⟩ = some (.int .i64 t119) := (blk_cell BK130.out 2).trans rfl; have hcz27_3 : w24.cell? ⟨gb130, 3, none⟩ = some (.int .i64 t120) := (blk_cell BK130.out 3).trans rfl; have hcz27_4 : w24.cell? ⟨gb130, 4, none⟩ = some (.int .i64 t121) := (blk_cell BK130.out 4).trans rfl; have hcz27_5 : w24.cell? ⟨gb130, 5, none⟩ = some (.int .i64 t122) := (blk_cell BK130.out 5).trans rfl; have hcz27_6 : w24.cell? ⟨gb130, 6, none⟩ = some (.int .i64 t123) := (blk_cell BK130.out 6).trans rfl; have hcz27_7 : w24.cell? ⟨gb130, 7, none⟩ = some (.int .i64 t124) := (blk_cell BK130.out 7).trans rfl; have hcz27_8 : w24.cell? ⟨gb130, 8, none⟩ = some (.int .i64 t125) := (blk_cell BK130.out 8).trans rfl; have hcz27_9 : w24.cell? ⟨gb130, 9, none⟩ = some (.int .i64 t126) := (blk_cell BK130.out 9).trans rfl; have hcz27_10 : w24.cell? ⟨gb130, 10, none⟩ = some (.int .i64 t127) := (blk_cell BK130.out 10).trans rfl; have hcz27_11 : w24.cell? ⟨gb130, 11, none⟩ = some (.int .i64 t128) := (blk_cell BK130.out 11).trans rfl; have hfz27_0 := blk_frozen BK130.out 0; have hfz27_1 := blk_frozen BK130.out 1; have hfz27_2 := blk_frozen BK130.out 2; have hfz27_3 := blk_frozen BK130.out 3; have hfz27_4 := blk_frozen BK130.out 4; have hfz27_5 := blk_frozen BK130.out 5; have hfz27_6 := blk_frozen BK130.out 6; have hfz27_7 := blk_frozen BK130.out 7; have hfz27_8 := blk_frozen BK130.out 8; have hfz27_9 := blk_frozen BK130.out 9; have hfz27_10 := blk_frozen BK130.out 10; have hfz27_11 := blk_frozen BK130.out 11))
      go_ret
      exact ⟨by first | rfl | (simp [errW_none, errW_some] <;> rfl) | (simp [*, errW_none, errW_some] <;> rfl), by repeat (first | (with_reducible first | exact HB.out | apply below_alloc | apply pw_below_drewN | apply below_drew1 | refine below_set ?_ GE130.out | refine below_set ?_ GE144.out) | exact HB.out)⟩
  · replace c6 := Bool.eq_false_iff.mpr c6
    subst c6
    have H1 : (some false) = some r := by rw [if_neg (show ¬ (false = true) by decide)] at H; exact H
    clear H
    have H := H1
    clear H1
    obtain rfl := Option.some.inj H
    go_enter Try.func3, Try.ntmps3
    go_wp2_with (first | ((with_reducible refine gate_callee (f := 8) rfl ?_); refine goesL_ (some 13) rfl rfl Try.func8 (by kernel_rfl) rfl #[] rfl (by (try simp only [List.map_toArray, List.map_cons, List.map_nil]); first | done | rfl | (simp only [List.length_drop, List.length_take]; rfl) | (simp only [Int.toNat_natCast, Nat.sub_self, List.length_drop, List.length_take]; rfl)) ?_; (with_reducible refine (skerrylaw05_wakes.calls  false _ A5.out).mono ?_); rintro e w28 ⟨rfl, hb⟩; refine ⟨_, rfl, ?_⟩; have n0_ := Aside0.mk (below_step (by repeat (first | (with_reducible first | exact HB.out | apply below_alloc | apply pw_below_drewN | apply below_drew1) | exact HB.out)) hb); clear HB; have HB := n0_; clear n0_; (try clear hb); (try clear hb2); (try clear hk); (try clear hi)))
    go_ret
    exact ⟨by first | rfl | (simp [errW_none, errW_some] <;> rfl) | (simp [*, errW_none, errW_some] <;> rfl), by repeat (first | (with_reducible first | exact HB.out | apply below_alloc | apply pw_below_drewN | apply below_drew1) | exact HB.out)⟩

/-- THE ONE PURE STATEMENT of skerrylaw05_PlanMakes: yours. -/
def skerrylaw05_PlanMakes.Pure : Prop := ∀ (a0 : Int) (a1 : Int) (a2 : Int) (a3 : Int), (Lit.int .i64 a0).wf = true → (Lit.int .i64 a1).wf = true → (Lit.int .i64 a2).wf = true → (Lit.int .i64 a3).wf = true → ∃ k, skerrylaw05_PlanMakes.f k a0 a1 a2 a3 = some true
theorem skerrylaw05_PlanMakes.walk (P : skerrylaw05_PlanMakes.Pure) (a0 : Int) (a1 : Int) (a2 : Int) (a3 : Int) (w : World) (w0 : (Lit.int .i64 a0).wf = true) (w1 : (Lit.int .i64 a1).wf = true) (w2 : (Lit.int .i64 a2).wf = true) (w3 : (Lit.int .i64 a3).wf = true) :
    Calls Try.prog 3 #[.int .i64 a0, .int .i64 a1, .int .i64 a2, .int .i64 a3] w fun e w' => e = .returned (.bool true) ∧ Below w.heap.size w w' := by
  obtain ⟨k, h⟩ := P a0 a1 a2 a3 w0 w1 w2 w3
  refine (skerrylaw05_PlanMakes.calls k a0 a1 a2 a3 true w h).mono ?_
  rintro e w' ⟨rfl, hd⟩
  exact ⟨rfl, hd⟩

end Go.Proofs.Ytobkdcokickodaa.PPlanMakes
