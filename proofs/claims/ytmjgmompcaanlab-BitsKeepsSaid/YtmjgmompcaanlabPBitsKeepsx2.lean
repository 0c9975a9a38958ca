-- Written by this session's own tool (prn.py) over the kit's printer; its templates are the session's own. Lean checks it.
import Derived.Test.YtmjgmompcaanlabPBitsKeepsx0
import Derived.Test.YtmjgmompcaanlabPBitsKeepsx1
namespace Go.Proofs.Ytmjgmompcaanlab.PBitsKeeps
open Go.RowKit Go.Proofs.YtmjgmompcaanlabW.PrintWords Go.Proofs.YtmjgmompcaanlabW.PrintLast Go.Proofs.YtmjgmompcaanlabW.PrintMore
attribute [local go_sem] max2_int min2_int max_two min_two max_three min_three max_four min_four   -- for this text's walks alone
set_option linter.unusedVariables false
set_option linter.unusedSimpArgs false

/-! ### bits_Set: function 15 -/
def bits_Set.j0 : Nat → List Int → Int → Bool → Bool → Option (List Int × Int)
  | 0, _, _, _, _ => none
  | k + 1, x0, x1, x2, x17 => if x17 = true then (some (([] : List Int), 2)) else ((slices_Clone_byte_byte.f x0).bind fun t117 => (if x2 = true then (if 0 ≤ (wrap64 (Int.tdiv x1 8)) then (if (wrap64 (Int.tdiv x1 8)) < (t117.length : Int) then (if 0 ≤ (Int.tmod x1 8) then (some ((t117.set ((wrap64 (Int.tdiv x1 8)) : Int).toNat (Go.bits .or .u8 (rd t117 (wrap64 (Int.tdiv x1 8))) (shl .u8 1 (Int.tmod x1 8)))), 0)) else (none)) else (none)) else (none)) else (if 0 ≤ (wrap64 (Int.tdiv x1 8)) then (if (wrap64 (Int.tdiv x1 8)) < (t117.length : Int) then (if 0 ≤ (Int.tmod x1 8) then (some ((t117.set ((wrap64 (Int.tdiv x1 8)) : Int).toNat (Go.bits .andNot .u8 (rd t117 (wrap64 (Int.tdiv x1 8))) (shl .u8 1 (Int.tmod x1 8)))), 0)) else (none)) else (none)) else (none))))
def bits_Set.f (k : Nat) (l0 : List Int) (a1 : Int) (a2 : Bool) : Option (List Int × Int) := if a1 < 0 then (bits_Set.j0 k l0 a1 a2 true) else (bits_Set.j0 k l0 a1 a2 (decide ((wrap64 (Int.tdiv a1 8)) ≥ (l0.length : Int))))
theorem bits_Set.mono_l : ∀ k, (∀ y0 y1 y2 y3, LeO (bits_Set.j0 k y0 y1 y2 y3) (bits_Set.j0 (k + 1) y0 y1 y2 y3))
  | 0 => fun _ _ _ _ r h => by simp [bits_Set.j0] at h
  | k + 1 => by
    have ih0 := bits_Set.mono_l k
    · intro y0 y1 y2 y3
      unfold bits_Set.j0
      repeat' first
      | (with_reducible exact ih0 _ _ _ _)
      | (with_reducible exact LeO.refl _)
      | (with_reducible exact LeO.none _)
      | (with_reducible refine LeO.ite ?_ ?_)
      | (with_reducible refine LeO.bind ?_ (fun _ => ?_))
      | exact ih0 _ _ _ _
      | exact LeO.none _
      | refine LeO.ite ?_ ?_
      | refine LeO.bind ?_ (fun _ => ?_)
theorem bits_Set.mono : ∀ a0 a1 a2 k, LeO (bits_Set.f k a0 a1 a2) (bits_Set.f (k + 1) a0 a1 a2) := by
  intro a0 a1 a2 k
  have ih0 := bits_Set.mono_l k
  unfold bits_Set.f
  repeat' first
      | (with_reducible exact ih0 _ _ _ _)
      | (with_reducible exact LeO.refl _)
      | (with_reducible exact LeO.none _)
      | (with_reducible refine LeO.ite ?_ ?_)
      | (with_reducible refine LeO.bind ?_ (fun _ => ?_))
      | exact ih0 _ _ _ _
      | exact LeO.none _
      | refine LeO.ite ?_ ?_
      | refine LeO.bind ?_ (fun _ => ?_)
def bits_Set.T5 : Bool × List (List Nat × List Nat) := (true, [([], []), ([], []), ([1], [1]), ([0, 2], [0, 2]), ([3], [3]), ([], []), ([5], [5]), ([6], [6]), ([4, 7], [4, 7]), ([0, 2, 0, 1, 2, 3, 4, 5, 6, 7, 8], [0, 2]), ([9, 8, 0, 1, 2, 3, 4, 5, 6, 7, 8], [8, 9])])
def bits_Set.B5 : List Nat := [0, 0, 2, 7, 15, 0, 32, 96, 255, 511, 1023]
theorem bits_Set.tab5 : rtab .any (opsOf Try.f15 5) = bits_Set.T5 := by kernel_rfl
theorem bits_Set.bits5 : waitsOk bits_Set.T5.2 bits_Set.B5 = true := by kernel_rfl
def bits_Set.T6 : Bool × List (List Nat × List Nat) := (true, [([], []), ([], []), ([1], [1]), ([0, 2], [0, 2]), ([3], [3]), ([], []), ([5], [5]), ([6], [6]), ([4, 7], [4, 7]), ([0, 2, 0, 1, 2, 3, 4, 5, 6, 7, 8], [0, 2]), ([9, 8, 0, 1, 2, 3, 4, 5, 6, 7, 8], [8, 9])])
def bits_Set.B6 : List Nat := [0, 0, 2, 7, 15, 0, 32, 96, 255, 511, 1023]
theorem bits_Set.tab6 : rtab .any (opsOf Try.f15 6) = bits_Set.T6 := by kernel_rfl
theorem bits_Set.bits6 : waitsOk bits_Set.T6.2 bits_Set.B6 = true := by kernel_rfl
set_option maxHeartbeats 8000000 in
set_option maxRecDepth 100000 in
theorem bits_Set.calls (k : Nat) (A0 : Option Addr) (c0 : Nat) (l0 : List Int) (a1 : Int) (a2 : Bool) (r1 : List Int) (r2 : Int) (w : World) (hr0 : Kd.C (Kd.int .u8) w A0 l0.length l0) (hc0 : l0.length ≤ c0) (h : bits_Set.f k l0 a1 a2 = some (r1, r2)) :
    Calls Try.prog 15 #[.slice A0 l0.length c0, .int .i64 a1, .bool a2] w fun e w' => ∃ v0_ : Value, e = .returned (.tuple #[v0_, .int .i64 r2]) ∧ Kd.R (Kd.int .u8) 5 w' w.heap.size (fun _ => True) v0_ r1 ∧ Below w.heap.size w w' := by
  have HR0 := Aside0.mk hr0
  have HC0 := Aside0.mk hc0
  clear hr0 hc0
  have HB := Aside0.mk (Below.refl w.heap.size w)
  have H : (if a1 < 0 then (bits_Set.j0 k l0 a1 a2 true) else (bits_Set.j0 k l0 a1 a2 (decide ((wrap64 (Int.tdiv a1 8)) ≥ (l0.length : Int))))) = some (r1, r2) := h
  clear h
  have HC4 := Aside0.mk H
  clear H
  go_enter Try.func15, Try.ntmps15
  go_upto_region 1 with (fail)
  go_cut [17] (fun v17 wc => ∃ (kq : Nat) (x17_3 : Bool), v17 = .bool x17_3 ∧ Aside0 (bits_Set.j0 kq l0 a1 a2 x17_3 = some (r1, r2)) ∧ Aside0 (kq ≤ k) ∧ Aside0 (Below w.heap.size w wc))
  case first =>
    have H := HC4.out
    clear HC4
    by_cases c5 : a1 < 0
    · rw [if_pos c5] at H
      have c5b0 : decide (a1 < 0) = true := decide_eq_true c5
      clear c5
      (first | rw [c5b0] | (simp only [i64_w, i32_w]; rw [c5b0]) | rw [c5b1] | skip)
      have H' := Aside0.mk H
      clear H
      go_wp2
      go_meet
      case rel => exact ⟨_, (true), (by first | rfl | (simp; done) | (simp [*]; done)), H', ⟨by first | omega | exact Nat.le_refl _⟩, ⟨by repeat (first | (with_reducible first | exact HB.out | apply below_alloc | apply pw_below_drewN | apply below_drew1) | with_reducible_and_instances exact HB.out)⟩⟩
    · rw [if_neg c5] at H
      have c5b0 : decide (a1 < 0) = false := decide_eq_false c5
      clear c5
      (first | rw [c5b0] | (simp only [i64_w, i32_w]; rw [c5b0]) | rw [c5b1] | skip)
      have H' := Aside0.mk H
      clear H
      go_wp2
      go_meet
      case rel => exact ⟨_, (decide ((wrap64 (Int.tdiv a1 8)) ≥ (l0.length : Int))), (by first | rfl | (simp; done) | (simp [*]; done)), H', ⟨by first | omega | exact Nat.le_refl _⟩, ⟨by repeat (first | (with_reducible first | exact HB.out | apply below_alloc | apply pw_below_drewN | apply below_drew1) | with_reducible_and_instances exact HB.out)⟩⟩
  case rest =>
    clear HC4
    try clear c1
    try clear p2
    try clear c5
    try clear c5b0
    try clear c5b1
    obtain ⟨kq, x17_3, rfl, HA, HJ3, HB⟩ := hcut
    cases kq with
    | zero => exact absurd HA.out (by simp [bits_Set.j0])
    | succ kj3 =>
      have H := HA.out
      clear HA
      simp only [bits_Set.j0] at H
      by_cases c6 : x17_3 = true
      · subst c6
        have H1 : (some (([] : List Int), 2)) = some (r1, r2) := by rw [if_pos rfl] at H; exact H
        clear H
        have H := H1
        clear H1
        simp only [Option.some.injEq, Prod.mk.injEq] at H
        obtain ⟨rfl, rfl⟩ := H
        go_wp2
        go_ret2
        exact ⟨_, by first | rfl | (simp [errW_none, errW_some] <;> rfl) | (simp [*, errW_none, errW_some] <;> rfl), by first | exact Kd.R_nil _ _ _ _ _ | exact Kd.N_nil _ _ _ _ _ | exact Kd.V_nil _ _ _ _ _ | exact Kd.Q_nil _ _ _ _ _ | exact Kd.S_nil _ _ _ _ _, by repeat (first | (with_reducible first | exact HB.out | apply below_alloc | apply pw_below_drewN | apply below_drew1) | with_reducible_and_instances exact HB.out)⟩
      · replace c6 := Bool.eq_false_iff.mpr c6
        subst c6
        have H1 : ((slices_Clone_byte_byte.f l0).bind fun t117 => (if a2 = true then (if 0 ≤ (wrap64 (Int.tdiv a1 8)) then (if (wrap64 (Int.tdiv a1 8)) < (t117.length : Int) then (if 0 ≤ (Int.tmod a1 8) then (some ((t117.set ((wrap64 (Int.tdiv a1 8)) : Int).toNat (Go.bits .or .u8 (rd t117 (wrap64 (Int.tdiv a1 8))) (shl .u8 1 (Int.tmod a1 8)))), 0)) else (none)) else (none)) else (none)) else (if 0 ≤ (wrap64 (Int.tdiv a1 8)) then (if (wrap64 (Int.tdiv a1 8)) < (t117.length : Int) then (if 0 ≤ (Int.tmod a1 8) then (some ((t117.set ((wrap64 (Int.tdiv a1 8)) : Int).toNat (Go.bits .andNot .u8 (rd t117 (wrap64 (Int.tdiv a1 8))) (shl .u8 1 (Int.tmod a1 8)))), 0)) else (none)) else (none)) else (none)))) = some (r1, r2) := by rw [if_neg (show ¬ (false = true) by decide)] at H; exact H
        clear H
        have H := H1
        clear H1
        replace H := Option.bind_eq_some_iff.mp H
        obtain ⟨t117, A70, H⟩ := H
        replace H : (if a2 = true then (if 0 ≤ (wrap64 (Int.tdiv a1 8)) then (if (wrap64 (Int.tdiv a1 8)) < (t117.length : Int) then (if 0 ≤ (Int.tmod a1 8) then (some ((t117.set ((wrap64 (Int.tdiv a1 8)) : Int).toNat (Go.bits .or .u8 (rd t117 (wrap64 (Int.tdiv a1 8))) (shl .u8 1 (Int.tmod a1 8)))), 0)) else (none)) else (none)) else (none)) else (if 0 ≤ (wrap64 (Int.tdiv a1 8)) then (if (wrap64 (Int.tdiv a1 8)) < (t117.length : Int) then (if 0 ≤ (Int.tmod a1 8) then (some ((t117.set ((wrap64 (Int.tdiv a1 8)) : Int).toNat (Go.bits .andNot .u8 (rd t117 (wrap64 (Int.tdiv a1 8))) (shl .u8 1 (Int.tmod a1 8)))), 0)) else (none)) else (none)) else (none))) = some (r1, r2) := H
        have A7 := Aside0.mk A70
        clear A70
        by_cases c8 : a2 = true
        · subst c8
          have H1 : (if 0 ≤ (wrap64 (Int.tdiv a1 8)) then (if (wrap64 (Int.tdiv a1 8)) < (t117.length : Int) then (if 0 ≤ (Int.tmod a1 8) then (some ((t117.set ((wrap64 (Int.tdiv a1 8)) : Int).toNat (Go.bits .or .u8 (rd t117 (wrap64 (Int.tdiv a1 8))) (shl .u8 1 (Int.tmod a1 8)))), 0)) else (none)) else (none)) else (none)) = some (r1, r2) := by rw [if_pos rfl] at H; exact H
          clear H
          have H := H1
          clear H1
          obtain ⟨ji9, hji9⟩ : ∃ j_ : Int, (wrap64 (Int.tdiv a1 8)) = j_ := ⟨_, rfl⟩
          replace H : (if 0 ≤ (ji9) then (if (ji9) < (t117.length : Int) then (if 0 ≤ (Int.tmod a1 8) then (some ((t117.set ((ji9) : Int).toNat (Go.bits .or .u8 (rd t117 (ji9)) (shl .u8 1 (Int.tmod a1 8)))), 0)) else (none)) else (none)) else (none)) = some (r1, r2) := by first | (rw [hji9] at H; exact H) | (simp only [hji9] at H ⊢; exact H)
          (try rw [hji9] at A7)
          have hji9w : (IntKind.i64.wrap (Int.tdiv a1 8)) = ji9 := (i64_w _).trans hji9
          by_cases c10 : 0 ≤ (ji9)
          · rw [if_pos c10] at H
            have c10b0 : decide (0 ≤ (ji9)) = true := decide_eq_true c10
            clear c10
            by_cases c11 : (ji9) < (t117.length : Int)
            · rw [if_pos c11] at H
              have c11b0 : decide ((ji9) < (t117.length : Int)) = true := decide_eq_true c11
              clear c11
              obtain ⟨ji12, hji12⟩ : ∃ j_ : Int, (Int.tmod a1 8) = j_ := ⟨_, rfl⟩
              replace H : (if 0 ≤ (ji12) then (some ((t117.set ((ji9) : Int).toNat (Go.bits .or .u8 (rd t117 (ji9)) (shl .u8 1 (ji12)))), 0)) else (none)) = some (r1, r2) := by first | (rw [hji12] at H; exact H) | (simp only [hji12] at H ⊢; exact H)
              (try rw [hji12] at A7)
              by_cases c13 : 0 ≤ (ji12)
              · rw [if_pos c13] at H
                have c13b0 := eq_true c13
                have c13b1 : decide (0 ≤ (ji12)) = true := decide_eq_true c13
                clear c13
                obtain ⟨ji14, hji14⟩ : ∃ j_ : Int, (shl .u8 1 (ji12)) = j_ := ⟨_, rfl⟩
                replace H : (some ((t117.set ((ji9) : Int).toNat (Go.bits .or .u8 (rd t117 (ji9)) (ji14))), 0)) = some (r1, r2) := by first | (rw [hji14] at H; exact H) | (simp only [hji14] at H ⊢; exact H)
                (try rw [hji14] at A7)
                have hji14_ : (IntKind.u8.wrap (1 * 2 ^ min (ji12).toNat 8)) = ji14 := hji14
                have hji14z : (ji12) ≤ 8 → (IntKind.u8.wrap (1 * 2 ^ (ji12).toNat)) = ji14 := shl_small hji14
                have hji14u : (IntKind.u8.wrap (2 ^ min (ji12).toNat 8)) = ji14 := by have h_ := hji14_; rw [Int.one_mul] at h_; exact h_
                have hji14v : (ji12) ≤ 8 → (IntKind.u8.wrap (2 ^ (ji12).toNat)) = ji14 := fun hle_ => by have h_ := hji14z hle_; rw [Int.one_mul] at h_; exact h_
                obtain ⟨y121, hy121⟩ : ∃ y_ : List Int, y_ = (t117.set ((ji9) : Int).toNat (Go.bits .or .u8 (rd t117 (ji9)) (ji14))) := ⟨_, rfl⟩
                replace H : (some (y121, 0)) = some (r1, r2) := by first | (rw [hy121]; with_reducible exact H) | (have H2_ := (Option.bind_some _ _).symm.trans H; rw [hy121]; with_reducible exact H2_) | (have H2_ := (Option.bind_some _ _).symm.trans H; with_reducible exact H2_) | with_reducible exact H | (rw [hy121]; exact H) | exact H
                have Ny121 := Aside0.mk hy121
                clear hy121
                simp only [Option.some.injEq, Prod.mk.injEq] at H
                obtain ⟨rfl, rfl⟩ := H
                try go_wp2_with (first | ((with_reducible refine gate_callee (f := 26) rfl ?_); refine goesL_ (some 19) rfl rfl Try.func26 (by kernel_rfl) rfl #[.slice A0 l0.length c0] rfl (by (try simp only [List.map_toArray, List.map_cons, List.map_nil]); first | done | rfl | (simp only [List.length_drop, List.length_take]; rfl) | (simp only [Int.toNat_natCast, Nat.sub_self, List.length_drop, List.length_take]; rfl)) ?_; (with_reducible refine (slices_Clone_byte_byte.calls _ _ l0 t117 _ ?side1 ?side2 A7.out).mono ?_); (case side1 => repeat (first | exact (Kd.C_below HR0.out HB.out) | (with_reducible refine Kd.C_alloc ?_ _) | (with_reducible refine Kd.C_drewN ?_ _) | (with_reducible refine Kd.C_drew ?_))); (case side2 => exact HC0.out); rintro e w16 ⟨v118, rfl, ho0, hb⟩; refine ⟨_, rfl, ?_⟩; have n0_ := Aside0.mk (Kd.R_lower ho0 (below_size (by repeat (first | (with_reducible first | exact HB.out | apply below_alloc | apply pw_below_drewN | apply below_drew1) | with_reducible_and_instances exact HB.out)))); have n1_ := Aside0.mk (below_step (by repeat (first | (with_reducible first | exact HB.out | apply below_alloc | apply pw_below_drewN | apply below_drew1) | with_reducible_and_instances exact HB.out)) hb); clear HB; have HO119 := n0_; have HB := n1_; clear n0_ n1_; (try clear hb); (try clear hb2); (try clear hk); (try clear hi); (try clear ho0)))
                have n0_ := Aside0.mk (Kd.R_drew HO119.out)
                have n1_ := Aside0.mk (below_drew1 HB.out)
                clear HO119
                clear HB
                have HO119 := n0_
                have HB := n1_
                clear n0_ n1_
                obtain ⟨Ao18, co18, eo18⟩ := Kd.R_slice HO119.out
                (first | subst eo18 | (injection eo18 with f1_ f2_ f3_; have f4_ := f1_.symm; have f5_ := f3_.symm; clear f1_ f2_ f3_; subst f4_; subst f5_))
                have p120 : 0 ≤ ((ji9) : Int) := of_decide_eq_true (by first | (with_reducible assumption) | assumption)
                have q120 : (ji9) < (t117.length : Int) := of_decide_eq_true (by first | (with_reducible assumption) | assumption)
                obtain ⟨ad120, e120, hx120_0⟩ := Kd.at_int (Kd.R_reads' HO119.out).2.2 (ji9) p120 q120
                cases e120
                replace p120 := eq_true p120
                replace q120 := eq_true q120
                have p15 : 0 ≤ ((ji9) : Int) := of_decide_eq_true (by first | (with_reducible assumption) | assumption)
                have q15 : ((ji9) : Int) < ((t117.length : Int) : Int) := of_decide_eq_true (by first | (with_reducible assumption) | assumption)
                obtain ⟨go15, co15, eo15, gb15, gl15, cl15, HG15⟩ := Kd.R_form HO119.out (by omega)
                (first | cases eo15 | (injection eo15 with ea_ en_ ec_; (first | subst ea_ | (injection ea_ with ea_; subst ea_)); subst ec_; clear en_))
                have GB15 := Aside0.mk gb15
                have GG15 := Aside0.mk HG15
                clear gb15 gl15 HG15
                (first | simp only [add_plain] at hx120_0 | skip)
                obtain ⟨hx15_0, hf15_0⟩ := Kd.R_celln 0 HO119.out ((ji9) : Int) p15 q15
                replace p15 := eq_true p15
                replace q15 := eq_true q15
                have HP19 := Kd.R_putn HO119.out ((ji9) : Int) (Go.bits .or .u8 (rd t117 (ji9)) (ji14))
                rw [← Ny121.out] at HP19
                have HQ19 := Aside0.mk HP19
                clear HP19
                refine start_ (n := 11) (S := fun w' => w'.cell? ⟨go15, ((ji9)).toNat, none⟩ = some (.int .u8 (rd t117 (ji9)))) (ds := [10]) #[false, false, false, false, false, false, false, false, false, false, false] (by kernel_rfl) rfl rfl (hx120_0) (fun hHeld => ?_); refine with_tabW bits_Set.tab5 bits_Set.bits5 (fun HT_ HW_ => ?_)
                generalize w16.drew = w17 at HO119 HB GG15 HQ19 hf15_0 hx120_0 hx15_0 hHeld ⊢
                refine pure_ (i := 0) (N := some 21) (v := ?_) (a' := ?_) #[true, false, false, false, false, false, false, false, false, false, false] rfl rfl (any_of HT_.out (by kernel_rfl)) (fun _ _ _ h => h) (Or.inl ⟨by rfl, ?_⟩) ?_ ?_
                rotate_left
                · intro w'
                  go_simp
                  with_reducible rfl
                rotate_left
                · simp only [Act.put, List.setIfInBounds_toArray, List.set_cons_zero, List.set_cons_succ, i64_w, i32_w]
                  rfl
                refine pure_ (i := 1) (N := some 22) (v := ?_) (a' := ?_) #[true, true, false, false, false, false, false, false, false, false, false] rfl rfl (any_of HT_.out (by kernel_rfl)) (fun _ _ _ h => h) (Or.inl ⟨by rfl, ?_⟩) ?_ ?_
                rotate_left
                · intro w'
                  go_simp
                  with_reducible rfl
                rotate_left
                · simp only [Act.put, List.setIfInBounds_toArray, List.set_cons_zero, List.set_cons_succ, i64_w, i32_w]
                  rfl
                refine pure_ (i := 2) (N := some 23) (v := ?_) (a' := ?_) #[true, true, true, false, false, false, false, false, false, false, false] rfl rfl (any_of HT_.out (by kernel_rfl)) (fun _ _ _ h => h) (Or.inl ⟨by rfl, ?_⟩) ?_ ?_
                rotate_left
                · intro w'
                  go_simp
                  with_reducible rfl
                rotate_left
                · simp only [Act.put, List.setIfInBounds_toArray, List.set_cons_zero, List.set_cons_succ, i64_w, i32_w]
                  rfl
                refine pure_ (i := 3) (N := some 24) (v := ?_) (a' := ?_) #[true, true, true, true, false, false, false, false, false, false, false] rfl rfl (any_of HT_.out (by kernel_rfl)) (fun _ _ _ h => h) (Or.inl ⟨by rfl, ?_⟩) ?_ ?_
                rotate_left
                · intro w'
                  go_simp
                  with_reducible rfl
                rotate_left
                · simp only [Act.put, List.setIfInBounds_toArray, List.set_cons_zero, List.set_cons_succ, i64_w, i32_w]
                  rfl
                refine pure_ (i := 5) (N := some 26) (v := ?_) (a' := ?_) #[true, true, true, true, false, true, false, false, false, false, false] rfl rfl (any_of HT_.out (by kernel_rfl)) (fun _ _ _ h => h) (Or.inl ⟨by rfl, ?_⟩) ?_ ?_
                rotate_left
                · intro w'
                  go_simp
                  with_reducible rfl
                rotate_left
                · simp only [Act.put, List.setIfInBounds_toArray, List.set_cons_zero, List.set_cons_succ, i64_w, i32_w]
                  rfl
                refine pure_ (i := 6) (N := some 27) (v := ?_) (a' := ?_) #[true, true, true, true, false, true, true, false, false, false, false] rfl rfl (any_of HT_.out (by kernel_rfl)) (fun _ _ _ h => h) (Or.inl ⟨by rfl, ?_⟩) ?_ ?_
                rotate_left
                · intro w'
                  go_simp
                  with_reducible rfl
                rotate_left
                · simp only [Act.put, List.setIfInBounds_toArray, List.set_cons_zero, List.set_cons_succ, i64_w, i32_w]
                  rfl
                refine pure_ (i := 7) (N := some 28) (v := ?_) (a' := ?_) #[true, true, true, true, false, true, true, true, false, false, false] rfl rfl (any_of HT_.out (by kernel_rfl)) (fun _ _ _ h => h) (Or.inl ⟨by rfl, ?_⟩) ?_ ?_
                rotate_left
                · intro w'
                  go_simp
                  with_reducible rfl
                rotate_left
                · simp only [Act.put, List.setIfInBounds_toArray, List.set_cons_zero, List.set_cons_succ, i64_w, i32_w]
                  rfl
                refine take_ (i := 4) (N := some 25) (v := ?_) (a' := ?_) #[true, true, true, true, true, true, true, true, false, false, false] rfl rfl (take_ofW HT_.out HW_.out (by kernel_rfl)) (fun _ _ _ h => h) (Or.inl ⟨by rfl, ?_⟩) hHeld ?_ ?_
                rotate_left
                · intro w' s0
                  go_simp
                  with_reducible rfl
                rotate_left
                · simp only [Act.put, List.setIfInBounds_toArray, List.set_cons_zero, List.set_cons_succ, i64_w, i32_w]
                  rfl
                refine pure_ (i := 8) (N := some 29) (v := ?_) (a' := ?_) #[true, true, true, true, true, true, true, true, true, false, false] rfl rfl (any_of HT_.out (by kernel_rfl)) (fun _ _ _ h => h) (Or.inl ⟨by rfl, ?_⟩) ?_ ?_
                rotate_left
                · intro w'
                  go_simp
                  with_reducible rfl
                rotate_left
                · simp only [Act.put, List.setIfInBounds_toArray, List.set_cons_zero, List.set_cons_succ, i64_w, i32_w]
                  rfl
                refine pure_ (i := 9) (N := some 30) (v := ?_) (a' := ?_) #[true, true, true, true, true, true, true, true, true, true, false] rfl rfl (any_of HT_.out (by kernel_rfl)) (fun _ _ _ h => h) (Or.inl ⟨by rfl, ?_⟩) ?_ ?_
                rotate_left
                · intro w'
                  go_simp
                  with_reducible rfl
                rotate_left
                · simp only [Act.put, List.setIfInBounds_toArray, List.set_cons_zero, List.set_cons_succ, i64_w, i32_w]
                  rfl
                refine last_ (i := 10) (N := none) #[true, true, true, true, true, true, true, true, true, true, true] rfl rfl (one_of HT_.out (by kernel_rfl)) (by decide) (fun K hK => ?_)
                refine skip_ (w1 := ?_) (by rfl) rfl ?_ ?_
                rotate_left
                · go_simp
                  rfl
                refine hK.out _ _ ?_
                clear hK K
                refine done_ (done_of HT_.out (by kernel_rfl)) ?_
                try go_wp2
                go_ret2
                exact ⟨_, by first | rfl | (simp [errW_none, errW_some] <;> rfl) | (simp only [← hji9, ← hji12, ← hji14]; first | rfl | (simp [errW_none, errW_some] <;> rfl)) | (simp [*, errW_none, errW_some] <;> rfl), by (with_reducible repeat (first | apply Kd.R_alloc | apply Kd.R_drewN | apply Kd.R_drew)); exact HQ19.out, by repeat (first | (with_reducible first | exact HB.out | apply below_alloc | apply pw_below_drewN | apply below_drew1 | refine below_set ?_ GB15.out) | with_reducible_and_instances exact HB.out)⟩
              · rw [if_neg c13] at H
                exact absurd H (by simp)
            · rw [if_neg c11] at H
              exact absurd H (by simp)
          · rw [if_neg c10] at H
            exact absurd H (by simp)
        · replace c8 := Bool.eq_false_iff.mpr c8
          subst c8
          have H1 : (if 0 ≤ (wrap64 (Int.tdiv a1 8)) then (if (wrap64 (Int.tdiv a1 8)) < (t117.length : Int) then (if 0 ≤ (Int.tmod a1 8) then (some ((t117.set ((wrap64 (Int.tdiv a1 8)) : Int).toNat (Go.bits .andNot .u8 (rd t117 (wrap64 (Int.tdiv a1 8))) (shl .u8 1 (Int.tmod a1 8)))), 0)) else (none)) else (none)) else (none)) = some (r1, r2) := by rw [if_neg (show ¬ (false = true) by decide)] at H; exact H
          clear H
          have H := H1
          clear H1
          obtain ⟨ji20, hji20⟩ : ∃ j_ : Int, (wrap64 (Int.tdiv a1 8)) = j_ := ⟨_, rfl⟩
          replace H : (if 0 ≤ (ji20) then (if (ji20) < (t117.length : Int) then (if 0 ≤ (Int.tmod a1 8) then (some ((t117.set ((ji20) : Int).toNat (Go.bits .andNot .u8 (rd t117 (ji20)) (shl .u8 1 (Int.tmod a1 8)))), 0)) else (none)) else (none)) else (none)) = some (r1, r2) := by first | (rw [hji20] at H; exact H) | (simp only [hji20] at H ⊢; exact H)
          (try rw [hji20] at A7)
          have hji20w : (IntKind.i64.wrap (Int.tdiv a1 8)) = ji20 := (i64_w _).trans hji20
          by_cases c21 : 0 ≤ (ji20)
          · rw [if_pos c21] at H
            have c21b0 : decide (0 ≤ (ji20)) = true := decide_eq_true c21
            clear c21
            by_cases c22 : (ji20) < (t117.length : Int)
            · rw [if_pos c22] at H
              have c22b0 : decide ((ji20) < (t117.length : Int)) = true := decide_eq_true c22
              clear c22
              obtain ⟨ji23, hji23⟩ : ∃ j_ : Int, (Int.tmod a1 8) = j_ := ⟨_, rfl⟩
              replace H : (if 0 ≤ (ji23) then (some ((t117.set ((ji20) : Int).toNat (Go.bits .andNot .u8 (rd t117 (ji20)) (shl .u8 1 (ji23)))), 0)) else (none)) = some (r1, r2) := by first | (rw [hji23] at H; exact H) | (simp only [hji23] at H ⊢; exact H)
              (try rw [hji23] at A7)
              by_cases c24 : 0 ≤ (ji23)
              · rw [if_pos c24] at H
                have c24b0 := eq_true c24
                have c24b1 : decide (0 ≤ (ji23)) = true := decide_eq_true c24
                clear c24
                obtain ⟨ji25, hji25⟩ : ∃ j_ : Int, (shl .u8 1 (ji23)) = j_ := ⟨_, rfl⟩
                replace H : (some ((t117.set ((ji20) : Int).toNat (Go.bits .andNot .u8 (rd t117 (ji20)) (ji25))), 0)) = some (r1, r2) := by first | (rw [hji25] at H; exact H) | (simp only [hji25] at H ⊢; exact H)
                (try rw [hji25] at A7)
                have hji25_ : (IntKind.u8.wrap (1 * 2 ^ min (ji23).toNat 8)) = ji25 := hji25
                have hji25z : (ji23) ≤ 8 → (IntKind.u8.wrap (1 * 2 ^ (ji23).toNat)) = ji25 := shl_small hji25
                have hji25u : (IntKind.u8.wrap (2 ^ min (ji23).toNat 8)) = ji25 := by have h_ := hji25_; rw [Int.one_mul] at h_; exact h_
                have hji25v : (ji23) ≤ 8 → (IntKind.u8.wrap (2 ^ (ji23).toNat)) = ji25 := fun hle_ => by have h_ := hji25z hle_; rw [Int.one_mul] at h_; exact h_
                obtain ⟨y123, hy123⟩ : ∃ y_ : List Int, y_ = (t117.set ((ji20) : Int).toNat (Go.bits .andNot .u8 (rd t117 (ji20)) (ji25))) := ⟨_, rfl⟩
                replace H : (some (y123, 0)) = some (r1, r2) := by first | (rw [hy123]; with_reducible exact H) | (have H2_ := (Option.bind_some _ _).symm.trans H; rw [hy123]; with_reducible exact H2_) | (have H2_ := (Option.bind_some _ _).symm.trans H; with_reducible exact H2_) | with_reducible exact H | (rw [hy123]; exact H) | exact H
                have Ny123 := Aside0.mk hy123
                clear hy123
                simp only [Option.some.injEq, Prod.mk.injEq] at H
                obtain ⟨rfl, rfl⟩ := H
                try go_wp2_with (first | ((with_reducible refine gate_callee (f := 26) rfl ?_); refine goesL_ (some 19) rfl rfl Try.func26 (by kernel_rfl) rfl #[.slice A0 l0.length c0] rfl (by (try simp only [List.map_toArray, List.map_cons, List.map_nil]); first | done | rfl | (simp only [List.length_drop, List.length_take]; rfl) | (simp only [Int.toNat_natCast, Nat.sub_self, List.length_drop, List.length_take]; rfl)) ?_; (with_reducible refine (slices_Clone_byte_byte.calls _ _ l0 t117 _ ?side1 ?side2 A7.out).mono ?_); (case side1 => repeat (first | exact (Kd.C_below HR0.out HB.out) | (with_reducible refine Kd.C_alloc ?_ _) | (with_reducible refine Kd.C_drewN ?_ _) | (with_reducible refine Kd.C_drew ?_))); (case side2 => exact HC0.out); rintro e w27 ⟨v118, rfl, ho0, hb⟩; refine ⟨_, rfl, ?_⟩; have n0_ := Aside0.mk (Kd.R_lower ho0 (below_size (by repeat (first | (with_reducible first | exact HB.out | apply below_alloc | apply pw_below_drewN | apply below_drew1) | with_reducible_and_instances exact HB.out)))); have n1_ := Aside0.mk (below_step (by repeat (first | (with_reducible first | exact HB.out | apply below_alloc | apply pw_below_drewN | apply below_drew1) | with_reducible_and_instances exact HB.out)) hb); clear HB; have HO119 := n0_; have HB := n1_; clear n0_ n1_; (try clear hb); (try clear hb2); (try clear hk); (try clear hi); (try clear ho0)))
                have n0_ := Aside0.mk (Kd.R_drew HO119.out)
                have n1_ := Aside0.mk (below_drew1 HB.out)
                clear HO119
                clear HB
                have HO119 := n0_
                have HB := n1_
                clear n0_ n1_
                obtain ⟨Ao29, co29, eo29⟩ := Kd.R_slice HO119.out
                (first | subst eo29 | (injection eo29 with f1_ f2_ f3_; have f4_ := f1_.symm; have f5_ := f3_.symm; clear f1_ f2_ f3_; subst f4_; subst f5_))
                have p122 : 0 ≤ ((ji20) : Int) := of_decide_eq_true (by first | (with_reducible assumption) | assumption)
                have q122 : (ji20) < (t117.length : Int) := of_decide_eq_true (by first | (with_reducible assumption) | assumption)
                obtain ⟨ad122, e122, hx122_0⟩ := Kd.at_int (Kd.R_reads' HO119.out).2.2 (ji20) p122 q122
                cases e122
                replace p122 := eq_true p122
                replace q122 := eq_true q122
                have p26 : 0 ≤ ((ji20) : Int) := of_decide_eq_true (by first | (with_reducible assumption) | assumption)
                have q26 : ((ji20) : Int) < ((t117.length : Int) : Int) := of_decide_eq_true (by first | (with_reducible assumption) | assumption)
                obtain ⟨go26, co26, eo26, gb26, gl26, cl26, HG26⟩ := Kd.R_form HO119.out (by omega)
                (first | cases eo26 | (injection eo26 with ea_ en_ ec_; (first | subst ea_ | (injection ea_ with ea_; subst ea_)); subst ec_; clear en_))
                have GB26 := Aside0.mk gb26
                have GG26 := Aside0.mk HG26
                clear gb26 gl26 HG26
                (first | simp only [add_plain] at hx122_0 | skip)
                obtain ⟨hx26_0, hf26_0⟩ := Kd.R_celln 0 HO119.out ((ji20) : Int) p26 q26
                replace p26 := eq_true p26
                replace q26 := eq_true q26
                have HP30 := Kd.R_putn HO119.out ((ji20) : Int) (Go.bits .andNot .u8 (rd t117 (ji20)) (ji25))
                rw [← Ny123.out] at HP30
                have HQ30 := Aside0.mk HP30
                clear HP30
                refine start_ (n := 11) (S := fun w' => w'.cell? ⟨go26, ((ji20)).toNat, none⟩ = some (.int .u8 (rd t117 (ji20)))) (ds := [10]) #[false, false, false, false, false, false, false, false, false, false, false] (by kernel_rfl) rfl rfl (hx122_0) (fun hHeld => ?_); refine with_tabW bits_Set.tab6 bits_Set.bits6 (fun HT_ HW_ => ?_)
                generalize w27.drew = w28 at HO119 HB GG26 HQ30 hf26_0 hx122_0 hx26_0 hHeld ⊢
                refine pure_ (i := 0) (N := some 31) (v := ?_) (a' := ?_) #[true, false, false, false, false, false, false, false, false, false, false] rfl rfl (any_of HT_.out (by kernel_rfl)) (fun _ _ _ h => h) (Or.inl ⟨by rfl, ?_⟩) ?_ ?_
                rotate_left
                · intro w'
                  go_simp
                  with_reducible rfl
                rotate_left
                · simp only [Act.put, List.setIfInBounds_toArray, List.set_cons_zero, List.set_cons_succ, i64_w, i32_w]
                  rfl
                refine pure_ (i := 1) (N := some 32) (v := ?_) (a' := ?_) #[true, true, false, false, false, false, false, false, false, false, false] rfl rfl (any_of HT_.out (by kernel_rfl)) (fun _ _ _ h => h) (Or.inl ⟨by rfl, ?_⟩) ?_ ?_
                rotate_left
                · intro w'
                  go_simp
                  with_reducible rfl
                rotate_left
                · simp only [Act.put, List.setIfInBounds_toArray, List.set_cons_zero, List.set_cons_succ, i64_w, i32_w]
                  rfl
                refine pure_ (i := 2) (N := some 33) (v := ?_) (a' := ?_) #[true, true, true, false, false, false, false, false, false, false, false] rfl rfl (any_of HT_.out (by kernel_rfl)) (fun _ _ _ h => h) (Or.inl ⟨by rfl, ?_⟩) ?_ ?_
                rotate_left
                · intro w'
                  go_simp
                  with_reducible rfl
                rotate_left
                · simp only [Act.put, List.setIfInBounds_toArray, List.set_cons_zero, List.set_cons_succ, i64_w, i32_w]
                  rfl
                refine pure_ (i := 3) (N := some 34) (v := ?_) (a' := ?_) #[true, true, true, true, false, false, false, false, false, false, false] rfl rfl (any_of HT_.out (by kernel_rfl)) (fun _ _ _ h => h) (Or.inl ⟨by rfl, ?_⟩) ?_ ?_
                rotate_left
                · intro w'
                  go_simp
                  with_reducible rfl
                rotate_left
                · simp only [Act.put, List.setIfInBounds_toArray, List.set_cons_zero, List.set_cons_succ, i64_w, i32_w]
                  rfl
                refine pure_ (i := 5) (N := some 36) (v := ?_) (a' := ?_) #[true, true, true, true, false, true, false, false, false, false, false] rfl rfl (any_of HT_.out (by kernel_rfl)) (fun _ _ _ h => h) (Or.inl ⟨by rfl, ?_⟩) ?_ ?_
                rotate_left
                · intro w'
                  go_simp
                  with_reducible rfl
                rotate_left
                · simp only [Act.put, List.setIfInBounds_toArray, List.set_cons_zero, List.set_cons_succ, i64_w, i32_w]
                  rfl
                refine pure_ (i := 6) (N := some 37) (v := ?_) (a' := ?_) #[true, true, true, true, false, true, true, false, false, false, false] rfl rfl (any_of HT_.out (by kernel_rfl)) (fun _ _ _ h => h) (Or.inl ⟨by rfl, ?_⟩) ?_ ?_
                rotate_left
                · intro w'
                  go_simp
                  with_reducible rfl
                rotate_left
                · simp only [Act.put, List.setIfInBounds_toArray, List.set_cons_zero, List.set_cons_succ, i64_w, i32_w]
                  rfl
                refine pure_ (i := 7) (N := some 38) (v := ?_) (a' := ?_) #[true, true, true, true, false, true, true, true, false, false, false] rfl rfl (any_of HT_.out (by kernel_rfl)) (fun _ _ _ h => h) (Or.inl ⟨by rfl, ?_⟩) ?_ ?_
                rotate_left
                · intro w'
                  go_simp
                  with_reducible rfl
                rotate_left
                · simp only [Act.put, List.setIfInBounds_toArray, List.set_cons_zero, List.set_cons_succ, i64_w, i32_w]
                  rfl
                refine take_ (i := 4) (N := some 35) (v := ?_) (a' := ?_) #[true, true, true, true, true, true, true, true, false, false, false] rfl rfl (take_ofW HT_.out HW_.out (by kernel_rfl)) (fun _ _ _ h => h) (Or.inl ⟨by rfl, ?_⟩) hHeld ?_ ?_
                rotate_left
                · intro w' s0
                  go_simp
                  with_reducible rfl
                rotate_left
                · simp only [Act.put, List.setIfInBounds_toArray, List.set_cons_zero, List.set_cons_succ, i64_w, i32_w]
                  rfl
                refine pure_ (i := 8) (N := some 39) (v := ?_) (a' := ?_) #[true, true, true, true, true, true, true, true, true, false, false] rfl rfl (any_of HT_.out (by kernel_rfl)) (fun _ _ _ h => h) (Or.inl ⟨by rfl, ?_⟩) ?_ ?_
                rotate_left
                · intro w'
                  go_simp
                  with_reducible rfl
                rotate_left
                · simp only [Act.put, List.setIfInBounds_toArray, List.set_cons_zero, List.set_cons_succ, i64_w, i32_w]
                  rfl
                refine pure_ (i := 9) (N := some 40) (v := ?_) (a' := ?_) #[true, true, true, true, true, true, true, true, true, true, false] rfl rfl (any_of HT_.out (by kernel_rfl)) (fun _ _ _ h => h) (Or.inl ⟨by rfl, ?_⟩) ?_ ?_
                rotate_left
                · intro w'
                  go_simp
                  with_reducible rfl
                rotate_left
                · simp only [Act.put, List.setIfInBounds_toArray, List.set_cons_zero, List.set_cons_succ, i64_w, i32_w]
                  rfl
                refine last_ (i := 10) (N := none) #[true, true, true, true, true, true, true, true, true, true, true] rfl rfl (one_of HT_.out (by kernel_rfl)) (by decide) (fun K hK => ?_)
                refine skip_ (w1 := ?_) (by rfl) rfl ?_ ?_
                rotate_left
                · go_simp
                  rfl
                refine hK.out _ _ ?_
                clear hK K
                refine done_ (done_of HT_.out (by kernel_rfl)) ?_
                try go_wp2
                go_ret2
                exact ⟨_, by first | rfl | (simp [errW_none, errW_some] <;> rfl) | (simp only [← hji20, ← hji23, ← hji25]; first | rfl | (simp [errW_none, errW_some] <;> rfl)) | (simp [*, errW_none, errW_some] <;> rfl), by (with_reducible repeat (first | apply Kd.R_alloc | apply Kd.R_drewN | apply Kd.R_drew)); exact HQ30.out, by repeat (first | (with_reducible first | exact HB.out | apply below_alloc | apply pw_below_drewN | apply below_drew1 | refine below_set ?_ GB26.out) | with_reducible_and_instances exact HB.out)⟩
              · rw [if_neg c24] at H
                exact absurd H (by simp)
            · rw [if_neg c22] at H
              exact absurd H (by simp)
          · rw [if_neg c21] at H
            exact absurd H (by simp)

/-! ### bits_part: function 27 -/
def bits_part.f (l0 : List Int) (a1 : Int) (a2 : Int) : Option (Bool) := if a1 ≥ 0 then (if a1 ≤ a2 then (some (decide (a2 ≤ (wrap64 (8 * (l0.length : Int)))))) else (some false)) else (some false)
set_option maxHeartbeats 8000000 in
set_option maxRecDepth 100000 in
theorem bits_part.calls (A0 : Option Addr) (c0 : Nat) (l0 : List Int) (a1 : Int) (a2 : Int) (r : Bool) (w : World) (hr0 : Kd.C (Kd.int .u8) w A0 l0.length l0) (hc0 : l0.length ≤ c0) (h : bits_part.f l0 a1 a2 = some r) :
    Calls Try.prog 27 #[.slice A0 l0.length c0, .int .i64 a1, .int .i64 a2] w fun e w' => e = .returned (.bool r) ∧ Drawn0 w w' := by
  have HR0 := Aside0.mk hr0
  have HC0 := Aside0.mk hc0
  clear hr0 hc0
  have H : (if a1 ≥ 0 then (if a1 ≤ a2 then (some (decide (a2 ≤ (wrap64 (8 * (l0.length : Int)))))) else (some false)) else (some false)) = some r := h
  clear h
  by_cases c4 : a1 ≥ 0
  · rw [if_pos c4] at H
    have c4b0 : decide (0 ≤ a1) = true := decide_eq_true c4
    clear c4
    by_cases c5 : a1 ≤ a2
    · rw [if_pos c5] at H
      have c5b0 : decide (a1 ≤ a2) = true := decide_eq_true c5
      clear c5
      obtain rfl := Option.some.inj H
      go_enter Try.func27, Try.ntmps27
      go_wp2
      go_ret
      exact ⟨by first | rfl | (simp; done) | (simp [*]; done), by repeat (first | exact Drawn0.refl _ | apply Drawn0.step)⟩
    · rw [if_neg c5] at H
      have c5b0 : decide (a1 ≤ a2) = false := decide_eq_false c5
      clear c5
      obtain rfl := Option.some.inj H
      go_enter Try.func27, Try.ntmps27
      go_wp2
      go_ret
      exact ⟨by first | rfl | (simp; done) | (simp [*]; done), by repeat (first | exact Drawn0.refl _ | apply Drawn0.step)⟩
  · rw [if_neg c4] at H
    have c4b0 : decide (0 ≤ a1) = false := decide_eq_false c4
    clear c4
    obtain rfl := Option.some.inj H
    go_enter Try.func27, Try.ntmps27
    go_wp2
    go_ret
    exact ⟨by first | rfl | (simp; done) | (simp [*]; done), by repeat (first | exact Drawn0.refl _ | apply Drawn0.step)⟩

/-! ### bits_OnesCount8: function 28 -/
/-- How many bits of a byte are 1. -/
def bits_OnesCount8.pop (x : Int) : Int := x % 2 + x / 2 % 2 + x / 4 % 2 + x / 8 % 2 + x / 16 % 2 + x / 32 % 2 + x / 64 % 2 + x / 128 % 2
theorem bits_OnesCount8.ret {a b : Int} (h : a = b) : Ending.returned (.int .i64 a) = .returned (.int .i64 b) := by rw [h]
def bits_OnesCount8.f (a0 : Int) : Option Int := if 0 ≤ a0 then (if a0 ≤ 255 then some (bits_OnesCount8.pop a0) else none) else none
set_option maxRecDepth 100000 in
set_option maxHeartbeats 2000000 in
theorem bits_OnesCount8.calls (a0 : Int) (r : Int) (w : World) (h : bits_OnesCount8.f a0 = some r) :
    Calls Try.prog 28 #[.int .u8 a0] w fun e w' => e = .returned (.int .i64 r) ∧ Drawn0 w w' := by
  unfold bits_OnesCount8.f at h
  by_cases h0 : 0 ≤ a0
  · by_cases h1 : a0 ≤ 255
    · rw [if_pos h0, if_pos h1] at h
      obtain rfl := Option.some.inj h
      clear h
      go_enter Try.func28, Try.ntmps28
      go_wp2
      go_ret
      refine ⟨bits_OnesCount8.ret ?_, Drawn0.refl _⟩
      simp only [bt_at]
      obtain ⟨n, rfl⟩ : ∃ n : Fin 256, a0 = (n.val : Int) := ⟨⟨a0.toNat, by omega⟩, by simp; omega⟩
      clear h0 h1
      revert n
      decide +kernel
    · rw [if_pos h0, if_neg h1] at h
      exact absurd h (by simp)
  · rw [if_neg h0] at h
    exact absurd h (by simp)

/-! ### bits_Count: function 17 -/
/-- How many of n bits from i on are 1. -/
def bits_Count.cnt (l : List Int) : Nat → Int → Int
  | 0, _ => 0
  | n + 1, i => rd l (i / 8) / 2 ^ (i % 8).toNat % 2 + bits_Count.cnt l n (i + 1)
def bits_Count.f (l0 : List Int) (a1 : Int) (a2 : Int) : Option (Int × Int) :=
  if ∀ x ∈ l0, 0 ≤ x ∧ x < 256 then (if l0.length ≤ 140737488351232 then some (if 0 ≤ a1 ∧ a1 ≤ a2 ∧ a2 ≤ 8 * (l0.length : Int) then (bits_Count.cnt l0 (a2 - a1).toNat a1, 0) else (0, 2)) else none) else none
theorem bits_Count.rd_byte {l : List Int} (h : ∀ x ∈ l, 0 ≤ x ∧ x < 256) (i : Int) : 0 ≤ rd l i ∧ rd l i < 256 := by
  unfold rd
  by_cases h1 : i.toNat < l.length
  · rw [List.getD_eq_getElem?_getD, List.getElem?_eq_getElem h1]
    exact h _ (List.getElem_mem h1)
  · rw [List.getD_eq_getElem?_getD, List.getElem?_eq_none (by omega)]
    simp
theorem bits_Count.shr_byte {x : Int} (h0 : 0 ≤ x) (h1 : x < 256) (n : Nat) : 0 ≤ x / 2 ^ n ∧ x / 2 ^ n < 256 :=
  ⟨Int.ediv_nonneg h0 (Int.le_of_lt (Int.pow_pos (by decide))), Int.lt_of_le_of_lt (Int.ediv_le_self _ h0) h1⟩
theorem bits_Count.and1 {x : Int} (h0 : 0 ≤ x) (h1 : x < 256) : Go.bits .and .u8 x 1 = x % 2 := bits_mask .u8 8 (by decide) wraps_u8 1 (by decide) x h0 h1
theorem bits_Count.cnt_range (l : List Int) : ∀ (n : Nat) (i : Int), 0 ≤ bits_Count.cnt l n i ∧ bits_Count.cnt l n i ≤ n := by
  intro n
  induction n with
  | zero => intro i; exact ⟨Int.le_refl _, Int.le_refl _⟩
  | succ n ih =>
    intro i
    have := ih (i + 1)
    unfold bits_Count.cnt
    omega
theorem bits_Count.cnt_byte {l : List Int} {i : Int} (hi : 0 ≤ i) (h8 : i % 8 = 0) (n : Nat) : bits_Count.cnt l (n + 8) i = bits_OnesCount8.pop (rd l (i / 8)) + bits_Count.cnt l n (i + 8) := by
  have e : ∀ j : Nat, j < 8 → ∀ m, bits_Count.cnt l (m + 1) (i + j) = rd l (i / 8) / 2 ^ j % 2 + bits_Count.cnt l m (i + (j + 1 : Nat)) := by
    intro j hj m
    show rd l ((i + j) / 8) / 2 ^ ((i + j) % 8).toNat % 2 + bits_Count.cnt l m (i + j + 1) = _
    rw [show (i + (j : Int)) / 8 = i / 8 by omega, show ((i + (j : Int)) % 8).toNat = j by omega, show i + (j : Int) + 1 = i + ((j + 1 : Nat) : Int) by omega]
  have e0 := e 0 (by omega) (n + 7)
  rw [e 1 (by omega) (n + 6), e 2 (by omega) (n + 5), e 3 (by omega) (n + 4), e 4 (by omega) (n + 3), e 5 (by omega) (n + 2), e 6 (by omega) (n + 1), e 7 (by omega) n] at e0
  simp only [Int.natCast_zero, Int.add_zero] at e0
  rw [show n + 8 = n + 7 + 1 by omega, e0]
  unfold bits_OnesCount8.pop
  simp only [show ((8 : Nat) : Int) = 8 from rfl, show ((7 + 1 : Nat) : Int) = 8 from rfl]
  have p : (2 : Int) ^ 0 = 1 ∧ (2 : Int) ^ 1 = 2 ∧ (2 : Int) ^ 2 = 4 ∧ (2 : Int) ^ 3 = 8 ∧ (2 : Int) ^ 4 = 16 ∧ (2 : Int) ^ 5 = 32 ∧ (2 : Int) ^ 6 = 64 ∧ (2 : Int) ^ 7 = 128 := by decide
  obtain ⟨p0, p1, p2, p3, p4, p5, p6, p7⟩ := p
  rw [p0, p1, p2, p3, p4, p5, p6, p7, Int.ediv_one]
  omega
set_option maxRecDepth 100000 in
set_option maxHeartbeats 4000000 in
theorem bits_Count.calls (A0 : Option Addr) (c0 : Nat) (l0 : List Int) (a1 : Int) (a2 : Int) (r1 : Int) (r2 : Int) (w : World) (hr0 : Kd.C (Kd.int .u8) w A0 l0.length l0) (hc0 : l0.length ≤ c0) (h : bits_Count.f l0 a1 a2 = some (r1, r2)) :
    Calls Try.prog 17 #[.slice A0 l0.length c0, .int .i64 a1, .int .i64 a2] w fun e w' => e = .returned (.tuple #[.int .i64 r1, .int .i64 r2]) ∧ Drawn0 w w' := by
  unfold bits_Count.f at h
  by_cases hb : ∀ x ∈ l0, 0 ≤ x ∧ x < 256
  · by_cases hl : l0.length ≤ 140737488351232
    · rw [if_pos hb, if_pos hl] at h
      replace h := Option.some.inj h
      have hp : bits_part.f l0 a1 a2 = some (decide (0 ≤ a1 ∧ a1 ≤ a2 ∧ a2 ≤ 8 * (l0.length : Int))) := by
        unfold bits_part.f
        have hw : wrap64 (8 * (l0.length : Int)) = 8 * (l0.length : Int) := by unfold wrap64; omega
        rw [hw]
        by_cases h1 : a1 ≥ 0 <;> by_cases h2 : a1 ≤ a2 <;> by_cases h3 : a2 ≤ 8 * (l0.length : Int) <;> simp [h1, h2, h3]
        all_goals omega
      have HB := Aside0.mk hb
      have HR0 := Aside0.mk hr0
      have HC0 := Aside0.mk hc0
      by_cases hin : 0 ≤ a1 ∧ a1 ≤ a2 ∧ a2 ≤ 8 * (l0.length : Int)
      · rw [if_pos hin] at h
        have hp' : bits_part.f l0 a1 a2 = some true := by rw [hp, decide_eq_true hin]
        obtain ⟨h1, h2, h3⟩ := hin
        obtain ⟨hr1, rfl⟩ := Prod.mk.inj h
        have H := Aside0.mk hr1
        have HP := Aside0.mk hp'
        clear h hp hp' hb hr0 hc0 hr1
        go_enter Try.func17, Try.ntmps17
        go_wp2_with (go_at_call 27; (with_reducible refine (bits_part.calls _ _ l0 a1 a2 true _ HR0.out HC0.out HP.out).mono ?_); rintro e w' ⟨rfl, ⟨nd, rfl⟩⟩)
        go_loopg [8, 9] ((a2 - a1).toNat + 1) (fun kq v8 v9 w' => ∃ (x i : Int), v8 = .int .i64 x ∧ v9 = .int .i64 i ∧ 0 ≤ x ∧ x ≤ i ∧ a1 ≤ i ∧ i ≤ a2 ∧ Aside0 (x + bits_Count.cnt l0 (a2 - i).toNat i = r1) ∧ Aside0 ((a2 - i).toNat < kq) ∧ Drawn0 w w')
        case atStart => exact ⟨0, a1, rfl, rfl, by omega, by omega, by omega, by omega, ⟨by rw [Int.zero_add]; exact H.out⟩, ⟨by omega⟩, by repeat (first | exact Drawn0.refl _ | apply Drawn0.step)⟩
        case round =>
          obtain ⟨x, i, rfl, rfl, hx0, hx1, hi1, hi2, HT, HK, ⟨m1, rfl⟩⟩ := hrel
          clear H
          cases gk with
          | zero => exact absurd HK.out (by omega)
          | succ k1 =>
            by_cases c6 : i < a2
            · obtain ⟨j, hj⟩ : ∃ j : Int, i / 8 = j := ⟨_, rfl⟩
              obtain ⟨ad, e, hx⟩ := Kd.at_int HR0.out j (by omega) (by omega)
              cases e
              have hby := bits_Count.rd_byte HB.out j
              obtain ⟨m, hm⟩ : ∃ m : Int, i % 8 = m := ⟨_, rfl⟩
              have hm0 : 0 ≤ m := by omega
              have hm1 : m ≤ 7 := by omega
              have hj0 : 0 ≤ j := by omega
              have hj1 : j < (l0.length : Int) := by omega
              by_cases c8 : m = 0 ∧ 8 ≤ a2 - i
              · obtain ⟨c7, c8⟩ := c8
                have E1 : Aside0 (x + bits_OnesCount8.pop (rd l0 j) + bits_Count.cnt l0 (a2 - (i + 8)).toNat (i + 8) = r1) := ⟨by
                  have h1 := HT.out
                  rw [show (a2 - i).toNat = (a2 - (i + 8)).toNat + 8 by omega, bits_Count.cnt_byte (by omega) (by omega), hj] at h1
                  omega⟩
                have hpop : 0 ≤ bits_OnesCount8.pop (rd l0 j) ∧ bits_OnesCount8.pop (rd l0 j) ≤ 8 := by unfold bits_OnesCount8.pop; omega
                obtain ⟨p, hpp⟩ : ∃ p, bits_OnesCount8.pop (rd l0 j) = p := ⟨_, rfl⟩
                have HPP := Aside0.mk hpp
                rw [hpp] at E1 hpop
                have hone : bits_OnesCount8.f (rd l0 j) = some p := by unfold bits_OnesCount8.f; rw [if_pos hby.1, if_pos (by omega), hpp]
                have HO := Aside0.mk hone
                obtain ⟨q0, q1⟩ := hpop
                have c7b : (m == 0) = true := beq_iff_eq.mpr c7
                have c8b : decide (8 ≤ a2 - i) = true := decide_eq_true c8
                clear hone hpp hby HT c7
                go_wp2_with (go_at_call 28; (with_reducible refine (bits_OnesCount8.calls (rd l0 j) p _ HO.out).mono ?_); rintro e w' ⟨rfl, ⟨nd, rfl⟩⟩)
                go_roundg k1
                case measure => have := HK.out; omega
                case rel => exact ⟨x + p, i + 8, rfl, rfl, by omega, by omega, by omega, by omega, E1, ⟨by have := HK.out; omega⟩, by repeat (first | exact Drawn0.refl _ | apply Drawn0.step)⟩
              · obtain ⟨q, hq⟩ : ∃ q : Int, rd l0 j / 2 ^ m.toNat = q := ⟨_, rfl⟩
                have hqb := bits_Count.shr_byte hby.1 hby.2 m.toNat
                rw [hq] at hqb
                obtain ⟨b, hbit⟩ : ∃ b : Int, Go.bits .and .u8 q 1 = b := ⟨_, rfl⟩
                have hb2 : b = q % 2 := by rw [← hbit]; exact bits_Count.and1 hqb.1 hqb.2
                have hb0 : 0 ≤ b := by omega
                have hb1 : b ≤ 1 := by omega
                have E1 : Aside0 (x + b + bits_Count.cnt l0 (a2 - (i + 1)).toNat (i + 1) = r1) := ⟨by
                  have h1 := HT.out
                  rw [show (a2 - i).toNat = (a2 - (i + 1)).toNat + 1 by omega] at h1
                  unfold bits_Count.cnt at h1
                  rw [hj, hm, hq] at h1
                  omega⟩
                clear hb2 hqb HT
                by_cases c7 : m = 0
                · have c8' : ¬ 8 ≤ a2 - i := fun h => c8 ⟨c7, h⟩
                  have c7b : (m == 0) = true := beq_iff_eq.mpr c7
                  have c8b : decide (8 ≤ a2 - i) = false := decide_eq_false c8'
                  clear c8
                  have C7 := Aside0.mk c7
                  clear c7
                  go_wp2
                  go_roundg k1
                  case measure => have := HK.out; omega
                  case rel => exact ⟨x + b, i + 1, rfl, rfl, by omega, by omega, by omega, by omega, E1, ⟨by have := HK.out; omega⟩, by repeat (first | exact Drawn0.refl _ | apply Drawn0.step)⟩
                · have c7b : (m == 0) = false := beq_eq_false_iff_ne.mpr c7
                  clear c8
                  go_wp2
                  go_roundg k1
                  case measure => have := HK.out; omega
                  case rel => exact ⟨x + b, i + 1, rfl, rfl, by omega, by omega, by omega, by omega, E1, ⟨by have := HK.out; omega⟩, by repeat (first | exact Drawn0.refl _ | apply Drawn0.step)⟩
            · have hi : i = a2 := by omega
              subst hi
              have hr : x = r1 := by
                have h1 := HT.out
                rw [show (i - i).toNat = 0 by omega] at h1
                unfold bits_Count.cnt at h1
                omega
              subst hr
              clear HT
              go_wp2
              go_ret2
              exact ⟨rfl, by repeat (first | exact Drawn0.refl _ | apply Drawn0.step)⟩
      · rw [if_neg hin] at h
        have hp' : bits_part.f l0 a1 a2 = some false := by rw [hp, decide_eq_false hin]
        obtain ⟨rfl, rfl⟩ := Prod.mk.inj h
        have HP := Aside0.mk hp'
        clear h hp hp' hb hr0 hc0
        go_enter Try.func17, Try.ntmps17
        go_wp2_with (go_at_call 27; (with_reducible refine (bits_part.calls _ _ l0 a1 a2 false _ HR0.out HC0.out HP.out).mono ?_); rintro e w' ⟨rfl, ⟨nd, rfl⟩⟩)
        go_ret2
        exact ⟨rfl, by repeat (first | exact Drawn0.refl _ | apply Drawn0.step)⟩
    · rw [if_pos hb, if_neg hl] at h
      exact absurd h (by simp)
  · rw [if_neg hb] at h
    exact absurd h (by simp)

end Go.Proofs.Ytmjgmompcaanlab.PBitsKeeps
