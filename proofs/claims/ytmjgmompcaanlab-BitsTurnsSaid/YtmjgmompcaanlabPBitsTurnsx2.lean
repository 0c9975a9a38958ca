-- Written by this session's own tool (prn.py) over the kit's printer; its templates are the session's own. Lean checks it.
import Derived.Test.YtmjgmompcaanlabPBitsTurnsx0
import Derived.Test.YtmjgmompcaanlabPBitsTurnsx1
namespace Go.Proofs.Ytmjgmompcaanlab.PBitsTurns
open Go.RowKit Go.Proofs.YtmjgmompcaanlabW.PrintWords Go.Proofs.YtmjgmompcaanlabW.PrintLast Go.Proofs.YtmjgmompcaanlabW.PrintMore
attribute [local go_sem] max2_int min2_int max_two min_two max_three min_three max_four min_four   -- for this text's walks alone
set_option linter.unusedVariables false
set_option linter.unusedSimpArgs false

/-! ### bits_Set: function 15 -/
def bits_Set.j0 : Nat → List Int → Int → Bool → Bool → Option (List Int × Int)
  | 0, _, _, _, _ => none
  | k + 1, x0, x1, x2, x17 => if x17 = true then (some (([] : List Int), 2)) else ((slices_Clone_byte_byte.f x0).bind fun t117 => (if x2 = true then (if 0 ≤ (wrap64 (Int.tdiv x1 8)) then (if (wrap64 (Int.tdiv x1 8)) < (t117.length : Int) then (if 0 ≤ (Int.tmod x1 8) then (some ((t117.set ((wrap64 (Int.tdiv x1 8)) : Int).toNat (Go.bits .or .u8 (rd t117 (wrap64 (Int.tdiv x1 8))) (shl .u8 1 (Int.tmod x1 8)))), 0)) else (none)) else (none)) else (none)) else (if 0 ≤ (wrap64 (Int.tdiv x1 8)) then (if (wrap64 (Int.tdiv x1 8)) < (t117.length : Int) then (if 0 ≤ (Int.tmod x1 8) then (some ((t117.set ((wrap64 (Int.tdiv x1 8)) : Int).toNat (Go.bits .andNot .u8 (rd t117 (wrap64 (Int.tdiv x1 8))) (shl .u8 1 (Int.tmod x1 8)))), 0)) else (none)) else (none)) else (none))))
def bits_Set.f (k : Nat) (l0 : List Int) (a1 : Int) (a2 : Bool) : Option (List Int × Int) := if a1 < 0 then (bits_Set.j0 k l0 a1 a2 true) else (bits_Set.j0 k l0 a1 a2 (decide ((wrap64 (Int.tdiv a1 8)) ≥ (l0.length : Int))))
theorem bits_Set.mono_l : ∀ k, (∀ y0 y1 y2 y3, LeO (bits_Set.j0 k y0 y1 y2 y3) (bits_Set.j0 (k + 1) y0 y1 y2 y3))
  | 0 => fun _ _ _ _ r h => by simp [bits_Set.j0] at h
  | k + 1 => by
    have ih0 := bits_Set.mono_l k
    · intro y0 y1 y2 y3
      unfold bits_Set.j0
      repeat' first
      | (with_reducible exact ih0 _ _ _ _)
      | (with_reducible exact LeO.refl _)
      | (with_reducible exact LeO.none _)
      | (with_reducible refine LeO.ite ?_ ?_)
      | (with_reducible refine LeO.bind ?_ (fun _ => ?_))
      | exact ih0 _ _ _ _
      | exact LeO.none _
      | refine LeO.ite ?_ ?_
      | refine LeO.bind ?_ (fun _ => ?_)
theorem bits_Set.mono : ∀ a0 a1 a2 k, LeO (bits_Set.f k a0 a1 a2) (bits_Set.f (k + 1) a0 a1 a2) := by
  intro a0 a1 a2 k
  have ih0 := bits_Set.mono_l k
  unfold bits_Set.f
  repeat' first
      | (with_reducible exact ih0 _ _ _ _)
      | (with_reducible exact LeO.refl _)
      | (with_reducible exact LeO.none _)
      | (with_reducible refine LeO.ite ?_ ?_)
      | (with_reducible refine LeO.bind ?_ (fun _ => ?_))
      | exact ih0 _ _ _ _
      | exact LeO.none _
      | refine LeO.ite ?_ ?_
      | refine LeO.bind ?_ (fun _ => ?_)
def bits_Set.T5 : Bool × List (List Nat × List Nat) := (true, [([], []), ([], []), ([1], [1]), ([0, 2], [0, 2]), ([3], [3]), ([], []), ([5], [5]), ([6], [6]), ([4, 7], [4, 7]), ([0, 2, 0, 1, 2, 3, 4, 5, 6, 7, 8], [0, 2]), ([9, 8, 0, 1, 2, 3, 4, 5, 6, 7, 8], [8, 9])])
def bits_Set.B5 : List Nat := [0, 0, 2, 7, 15, 0, 32, 96, 255, 511, 1023]
theorem bits_Set.tab5 : rtab .any (opsOf Try.f15 5) = bits_Set.T5 := by kernel_rfl
theorem bits_Set.bits5 : waitsOk bits_Set.T5.2 bits_Set.B5 = true := by kernel_rfl
def bits_Set.T6 : Bool × List (List Nat × List Nat) := (true, [([], []), ([], []), ([1], [1]), ([0, 2], [0, 2]), ([3], [3]), ([], []), ([5], [5]), ([6], [6]), ([4, 7], [4, 7]), ([0, 2, 0, 1, 2, 3, 4, 5, 6, 7, 8], [0, 2]), ([9, 8, 0, 1, 2, 3, 4, 5, 6, 7, 8], [8, 9])])
def bits_Set.B6 : List Nat := [0, 0, 2, 7, 15, 0, 32, 96, 255, 511, 1023]
theorem bits_Set.tab6 : rtab .any (opsOf Try.f15 6) = bits_Set.T6 := by kernel_rfl
theorem bits_Set.bits6 : waitsOk bits_Set.T6.2 bits_Set.B6 = true := by kernel_rfl
set_option maxHeartbeats 8000000 in
set_option maxRecDepth 100000 in
theorem bits_Set.calls (k : Nat) (A0 : Option Addr) (c0 : Nat) (l0 : List Int) (a1 : Int) (a2 : Bool) (r1 : List Int) (r2 : Int) (w : World) (hr0 : Kd.C (Kd.int .u8) w A0 l0.length l0) (hc0 : l0.length ≤ c0) (h : bits_Set.f k l0 a1 a2 = some (r1, r2)) :
    Calls Try.prog 15 #[.slice A0 l0.length c0, .int .i64 a1, .bool a2] w fun e w' => ∃ v0_ : Value, e = .returned (.tuple #[v0_, .int .i64 r2]) ∧ Kd.R (Kd.int .u8) 5 w' w.heap.size (fun _ => True) v0_ r1 ∧ Below w.heap.size w w' := by
  have HR0 := Aside0.mk hr0
  have HC0 := Aside0.mk hc0
  clear hr0 hc0
  have HB := Aside0.mk (Below.refl w.heap.size w)
  have H : (if a1 < 0 then (bits_Set.j0 k l0 a1 a2 true) else (bits_Set.j0 k l0 a1 a2 (decide ((wrap64 (Int.tdiv a1 8)) ≥ (l0.length : Int))))) = some (r1, r2) := h
  clear h
  have HC4 := Aside0.mk H
  clear H
  go_enter Try.func15, Try.ntmps15
  go_upto_region 1 with (fail)
  go_cut [17] (fun v17 wc => ∃ (kq : Nat) (x17_3 : Bool), v17 = .bool x17_3 ∧ Aside0 (bits_Set.j0 kq l0 a1 a2 x17_3 = some (r1, r2)) ∧ Aside0 (kq ≤ k) ∧ Aside0 (Below w.heap.size w wc))
  case first =>
    have H := HC4.out
    clear HC4
    by_cases c5 : a1 < 0
    · rw [if_pos c5] at H
      have c5b0 : decide (a1 < 0) = true := decide_eq_true c5
      clear c5
      (first | rw [c5b0] | (simp only [i64_w, i32_w]; rw [c5b0]) | skip)
      have H' := Aside0.mk H
      clear H
      go_wp2
      go_meet
      case rel => exact ⟨_, (true), (by first | rfl | (simp; done) | (simp [*]; done)), H', ⟨by first | omega | exact Nat.le_refl _⟩, ⟨by repeat (first | (with_reducible first | exact HB.out | apply below_alloc | apply pw_below_drewN | apply below_drew1) | exact HB.out)⟩⟩
    · rw [if_neg c5] at H
      have c5b0 : decide (a1 < 0) = false := decide_eq_false c5
      clear c5
      (first | rw [c5b0] | (simp only [i64_w, i32_w]; rw [c5b0]) | skip)
      have H' := Aside0.mk H
      clear H
      go_wp2
      go_meet
      case rel => exact ⟨_, (decide ((wrap64 (Int.tdiv a1 8)) ≥ (l0.length : Int))), (by first | rfl | (simp; done) | (simp [*]; done)), H', ⟨by first | omega | exact Nat.le_refl _⟩, ⟨by repeat (first | (with_reducible first | exact HB.out | apply below_alloc | apply pw_below_drewN | apply below_drew1) | exact HB.out)⟩⟩
  case rest =>
    clear HC4
    try clear c1
    try clear p2
    try clear c5
    try clear c5b0
    obtain ⟨kq, x17_3, rfl, HA, HJ3, HB⟩ := hcut
    cases kq with
    | zero => exact absurd HA.out (by simp [bits_Set.j0])
    | succ kj3 =>
      have H := HA.out
      clear HA
      simp only [bits_Set.j0] at H
      by_cases c6 : x17_3 = true
      · subst c6
        have H1 : (some (([] : List Int), 2)) = some (r1, r2) := by rw [if_pos rfl] at H; exact H
        clear H
        have H := H1
        clear H1
        simp only [Option.some.injEq, Prod.mk.injEq] at H
        obtain ⟨rfl, rfl⟩ := H
        go_wp2
        go_ret2
        exact ⟨_, by first | rfl | (simp [errW_none, errW_some] <;> rfl) | (simp [*, errW_none, errW_some] <;> rfl), by first | exact Kd.R_nil _ _ _ _ _ | exact Kd.N_nil _ _ _ _ _ | exact Kd.V_nil _ _ _ _ _ | exact Kd.Q_nil _ _ _ _ _ | exact Kd.S_nil _ _ _ _ _, by repeat (first | (with_reducible first | exact HB.out | apply below_alloc | apply pw_below_drewN | apply below_drew1) | exact HB.out)⟩
      · replace c6 := Bool.eq_false_iff.mpr c6
        subst c6
        have H1 : ((slices_Clone_byte_byte.f l0).bind fun t117 => (if a2 = true then (if 0 ≤ (wrap64 (Int.tdiv a1 8)) then (if (wrap64 (Int.tdiv a1 8)) < (t117.length : Int) then (if 0 ≤ (Int.tmod a1 8) then (some ((t117.set ((wrap64 (Int.tdiv a1 8)) : Int).toNat (Go.bits .or .u8 (rd t117 (wrap64 (Int.tdiv a1 8))) (shl .u8 1 (Int.tmod a1 8)))), 0)) else (none)) else (none)) else (none)) else (if 0 ≤ (wrap64 (Int.tdiv a1 8)) then (if (wrap64 (Int.tdiv a1 8)) < (t117.length : Int) then (if 0 ≤ (Int.tmod a1 8) then (some ((t117.set ((wrap64 (Int.tdiv a1 8)) : Int).toNat (Go.bits .andNot .u8 (rd t117 (wrap64 (Int.tdiv a1 8))) (shl .u8 1 (Int.tmod a1 8)))), 0)) else (none)) else (none)) else (none)))) = some (r1, r2) := by rw [if_neg (show ¬ (false = true) by decide)] at H; exact H
        clear H
        have H := H1
        clear H1
        replace H := Option.bind_eq_some_iff.mp H
        obtain ⟨t117, A70, H⟩ := H
        replace H : (if a2 = true then (if 0 ≤ (wrap64 (Int.tdiv a1 8)) then (if (wrap64 (Int.tdiv a1 8)) < (t117.length : Int) then (if 0 ≤ (Int.tmod a1 8) then (some ((t117.set ((wrap64 (Int.tdiv a1 8)) : Int).toNat (Go.bits .or .u8 (rd t117 (wrap64 (Int.tdiv a1 8))) (shl .u8 1 (Int.tmod a1 8)))), 0)) else (none)) else (none)) else (none)) else (if 0 ≤ (wrap64 (Int.tdiv a1 8)) then (if (wrap64 (Int.tdiv a1 8)) < (t117.length : Int) then (if 0 ≤ (Int.tmod a1 8) then (some ((t117.set ((wrap64 (Int.tdiv a1 8)) : Int).toNat (Go.bits .andNot .u8 (rd t117 (wrap64 (Int.tdiv a1 8))) (shl .u8 1 (Int.tmod a1 8)))), 0)) else (none)) else (none)) else (none))) = some (r1, r2) := H
        have A7 := Aside0.mk A70
        clear A70
        by_cases c8 : a2 = true
        · subst c8
          have H1 : (if 0 ≤ (wrap64 (Int.tdiv a1 8)) then (if (wrap64 (Int.tdiv a1 8)) < (t117.length : Int) then (if 0 ≤ (Int.tmod a1 8) then (some ((t117.set ((wrap64 (Int.tdiv a1 8)) : Int).toNat (Go.bits .or .u8 (rd t117 (wrap64 (Int.tdiv a1 8))) (shl .u8 1 (Int.tmod a1 8)))), 0)) else (none)) else (none)) else (none)) = some (r1, r2) := by rw [if_pos rfl] at H; exact H
          clear H
          have H := H1
          clear H1
          obtain ⟨ji9, hji9⟩ : ∃ j_ : Int, (wrap64 (Int.tdiv a1 8)) = j_ := ⟨_, rfl⟩
          replace H : (if 0 ≤ (ji9) then (if (ji9) < (t117.length : Int) then (if 0 ≤ (Int.tmod a1 8) then (some ((t117.set ((ji9) : Int).toNat (Go.bits .or .u8 (rd t117 (ji9)) (shl .u8 1 (Int.tmod a1 8)))), 0)) else (none)) else (none)) else (none)) = some (r1, r2) := by first | (rw [hji9] at H; exact H) | (simp only [hji9] at H ⊢; exact H)
          (try rw [hji9] at A7)
          have hji9w : (IntKind.i64.wrap (Int.tdiv a1 8)) = ji9 := (i64_w _).trans hji9
          by_cases c10 : 0 ≤ (ji9)
          · rw [if_pos c10] at H
            have c10b0 : decide (0 ≤ (ji9)) = true := decide_eq_true c10
            clear c10
            by_cases c11 : (ji9) < (t117.length : Int)
            · rw [if_pos c11] at H
              have c11b0 : decide ((ji9) < (t117.length : Int)) = true := decide_eq_true c11
              clear c11
              obtain ⟨ji12, hji12⟩ : ∃ j_ : Int, (Int.tmod a1 8) = j_ := ⟨_, rfl⟩
              replace H : (if 0 ≤ (ji12) then (some ((t117.set ((ji9) : Int).toNat (Go.bits .or .u8 (rd t117 (ji9)) (shl .u8 1 (ji12)))), 0)) else (none)) = some (r1, r2) := by first | (rw [hji12] at H; exact H) | (simp only [hji12] at H ⊢; exact H)
              (try rw [hji12] at A7)
              by_cases c13 : 0 ≤ (ji12)
              · rw [if_pos c13] at H
                have c13b0 := eq_true c13
                have c13b1 : decide (0 ≤ (ji12)) = true := decide_eq_true c13
                clear c13
                obtain ⟨ji14, hji14⟩ : ∃ j_ : Int, (shl .u8 1 (ji12)) = j_ := ⟨_, rfl⟩
                replace H : (some ((t117.set ((ji9) : Int).toNat (Go.bits .or .u8 (rd t117 (ji9)) (ji14))), 0)) = some (r1, r2) := by first | (rw [hji14] at H; exact H) | (simp only [hji14] at H ⊢; exact H)
                (try rw [hji14] at A7)
                have hji14_ : (IntKind.u8.wrap (1 * 2 ^ min (ji12).toNat 8)) = ji14 := hji14
                have hji14z : (ji12) ≤ 8 → (IntKind.u8.wrap (1 * 2 ^ (ji12).toNat)) = ji14 := shl_small hji14
                have hji14u : (IntKind.u8.wrap (2 ^ min (ji12).toNat 8)) = ji14 := by have h_ := hji14_; rw [Int.one_mul] at h_; exact h_
                have hji14v : (ji12) ≤ 8 → (IntKind.u8.wrap (2 ^ (ji12).toNat)) = ji14 := fun hle_ => by have h_ := hji14z hle_; rw [Int.one_mul] at h_; exact h_
                obtain ⟨y121, hy121⟩ : ∃ y_ : List Int, y_ = (t117.set ((ji9) : Int).toNat (Go.bits .or .u8 (rd t117 (ji9)) (ji14))) := ⟨_, rfl⟩
                replace H : (some (y121, 0)) = some (r1, r2) := by first | (rw [hy121]; with_reducible exact H) | (have H2_ := (Option.bind_some _ _).symm.trans H; rw [hy121]; with_reducible exact H2_) | (have H2_ := (Option.bind_some _ _).symm.trans H; with_reducible exact H2_) | with_reducible exact H | (rw [hy121]; exact H) | exact H
                have Ny121 := Aside0.mk hy121
                clear hy121
                simp only [Option.some.injEq, Prod.mk.injEq] at H
                obtain ⟨rfl, rfl⟩ := H
                try go_wp2_with (first | ((with_reducible refine gate_callee (f := 26) rfl ?_); refine goesL_ (some 19) rfl rfl Try.func26 (by kernel_rfl) rfl #[.slice A0 l0.length c0] rfl (by (try simp only [List.map_toArray, List.map_cons, List.map_nil]); first | done | rfl | (simp only [List.length_drop, List.length_take]; rfl)) ?_; (with_reducible refine (slices_Clone_byte_byte.calls _ _ l0 t117 _ ?side1 ?side2 A7.out).mono ?_); (case side1 => repeat (first | exact (Kd.C_below HR0.out HB.out) | (with_reducible refine Kd.C_alloc ?_ _) | (with_reducible refine Kd.C_drewN ?_ _) | (with_reducible refine Kd.C_drew ?_))); (case side2 => exact HC0.out); rintro e w16 ⟨v118, rfl, ho0, hb⟩; refine ⟨_, rfl, ?_⟩; have n0_ := Aside0.mk (Kd.R_lower ho0 (below_size (by repeat (first | (with_reducible first | exact HB.out | apply below_alloc | apply pw_below_drewN | apply below_drew1) | exact HB.out)))); have n1_ := Aside0.mk (below_step (by repeat (first | (with_reducible first | exact HB.out | apply below_alloc | apply pw_below_drewN | apply below_drew1) | exact HB.out)) hb); clear HB; have HO119 := n0_; have HB := n1_; clear n0_ n1_; (try clear hb); (try clear hb2); (try clear hk); (try clear hi); (try clear ho0)))
                have n0_ := Aside0.mk (Kd.R_drew HO119.out)
                have n1_ := Aside0.mk (below_drew1 HB.out)
                clear HO119
                clear HB
                have HO119 := n0_
                have HB := n1_
                clear n0_ n1_
                obtain ⟨Ao18, co18, eo18⟩ := Kd.R_slice HO119.out
                (first | subst eo18 | (injection eo18 with f1_ f2_ f3_; have f4_ := f1_.symm; have f5_ := f3_.symm; clear f1_ f2_ f3_; subst f4_; subst f5_))
                have p120 : 0 ≤ ((ji9) : Int) := of_decide_eq_true (by first | (with_reducible assumption) | assumption)
                have q120 : (ji9) < (t117.length : Int) := of_decide_eq_true (by first | (with_reducible assumption) | assumption)
                obtain ⟨ad120, e120, hx120_0⟩ := Kd.at_int (Kd.R_reads' HO119.out).2.2 (ji9) p120 q120
                cases e120
                replace p120 := eq_true p120
                replace q120 := eq_true q120
                have p15 : 0 ≤ ((ji9) : Int) := of_decide_eq_true (by first | (with_reducible assumption) | assumption)
                have q15 : ((ji9) : Int) < ((t117.length : Int) : Int) := of_decide_eq_true (by first | (with_reducible assumption) | assumption)
                obtain ⟨go15, co15, eo15, gb15, gl15, cl15, HG15⟩ := Kd.R_form HO119.out (by omega)
                (first | cases eo15 | (injection eo15 with ea_ en_ ec_; (first | subst ea_ | (injection ea_ with ea_; subst ea_)); subst ec_; clear en_))
                have GB15 := Aside0.mk gb15
                have GG15 := Aside0.mk HG15
                clear gb15 gl15 HG15
                (first | simp only [add_plain] at hx120_0 | skip)
                obtain ⟨hx15_0, hf15_0⟩ := Kd.R_celln 0 HO119.out ((ji9) : Int) p15 q15
                replace p15 := eq_true p15
                replace q15 := eq_true q15
                have HP19 := Kd.R_putn HO119.out ((ji9) : Int) (Go.bits .or .u8 (rd t117 (ji9)) (ji14))
                rw [← Ny121.out] at HP19
                have HQ19 := Aside0.mk HP19
                clear HP19
                refine start_ (n := 11) (S := fun w' => w'.cell? ⟨go15, ((ji9)).toNat, none⟩ = some (.int .u8 (rd t117 (ji9)))) (ds := [10]) #[false, false, false, false, false, false, false, false, false, false, false] (by kernel_rfl) rfl rfl (hx120_0) (fun hHeld => ?_); refine with_tabW bits_Set.tab5 bits_Set.bits5 (fun HT_ HW_ => ?_)
                generalize w16.drew = w17 at HO119 HB GG15 HQ19 hf15_0 hx120_0 hx15_0 hHeld ⊢
                refine pure_ (i := 0) (N := some 21) (v := ?_) (a' := ?_) #[true, false, false, false, false, false, false, false, false, false, false] rfl rfl (any_of HT_.out (by kernel_rfl)) (fun _ _ _ h => h) (Or.inl ⟨by rfl, ?_⟩) ?_ ?_
                rotate_left
                · intro w'
                  go_simp
                  with_reducible rfl
                rotate_left
                · simp only [Act.put, List.setIfInBounds_toArray, List.set_cons_zero, List.set_cons_succ, i64_w, i32_w]
                  rfl
                refine pure_ (i := 1) (N := some 22) (v := ?_) (a' := ?_) #[true, true, false, false, false, false, false, false, false, false, false] rfl rfl (any_of HT_.out (by kernel_rfl)) (fun _ _ _ h => h) (Or.inl ⟨by rfl, ?_⟩) ?_ ?_
                rotate_left
                · intro w'
                  go_simp
                  with_reducible rfl
                rotate_left
                · simp only [Act.put, List.setIfInBounds_toArray, List.set_cons_zero, List.set_cons_succ, i64_w, i32_w]
                  rfl
                refine pure_ (i := 2) (N := some 23) (v := ?_) (a' := ?_) #[true, true, true, false, false, false, false, false, false, false, false] rfl rfl (any_of HT_.out (by kernel_rfl)) (fun _ _ _ h => h) (Or.inl ⟨by rfl, ?_⟩) ?_ ?_
                rotate_left
                · intro w'
                  go_simp
                  with_reducible rfl
                rotate_left
                · simp only [Act.put, List.setIfInBounds_toArray, List.set_cons_zero, List.set_cons_succ, i64_w, i32_w]
                  rfl
                refine pure_ (i := 3) (N := some 24) (v := ?_) (a' := ?_) #[true, true, true, true, false, false, false, false, false, false, false] rfl rfl (any_of HT_.out (by kernel_rfl)) (fun _ _ _ h => h) (Or.inl ⟨by rfl, ?_⟩) ?_ ?_
                rotate_left
                · intro w'
                  go_simp
                  with_reducible rfl
                rotate_left
                · simp only [Act.put, List.setIfInBounds_toArray, List.set_cons_zero, List.set_cons_succ, i64_w, i32_w]
                  rfl
                refine pure_ (i := 5) (N := some 26) (v := ?_) (a' := ?_) #[true, true, true, true, false, true, false, false, false, false, false] rfl rfl (any_of HT_.out (by kernel_rfl)) (fun _ _ _ h => h) (Or.inl ⟨by rfl, ?_⟩) ?_ ?_
                rotate_left
                · intro w'
                  go_simp
                  with_reducible rfl
                rotate_left
                · simp only [Act.put, List.setIfInBounds_toArray, List.set_cons_zero, List.set_cons_succ, i64_w, i32_w]
                  rfl
                refine pure_ (i := 6) (N := some 27) (v := ?_) (a' := ?_) #[true, true, true, true, false, true, true, false, false, false, false] rfl rfl (any_of HT_.out (by kernel_rfl)) (fun _ _ _ h => h) (Or.inl ⟨by rfl, ?_⟩) ?_ ?_
                rotate_left
                · intro w'
                  go_simp
                  with_reducible rfl
                rotate_left
                · simp only [Act.put, List.setIfInBounds_toArray, List.set_cons_zero, List.set_cons_succ, i64_w, i32_w]
                  rfl
                refine pure_ (i := 7) (N := some 28) (v := ?_) (a' := ?_) #[true, true, true, true, false, true, true, true, false, false, false] rfl rfl (any_of HT_.out (by kernel_rfl)) (fun _ _ _ h => h) (Or.inl ⟨by rfl, ?_⟩) ?_ ?_
                rotate_left
                · intro w'
                  go_simp
                  with_reducible rfl
                rotate_left
                · simp only [Act.put, List.setIfInBounds_toArray, List.set_cons_zero, List.set_cons_succ, i64_w, i32_w]
                  rfl
                refine take_ (i := 4) (N := some 25) (v := ?_) (a' := ?_) #[true, true, true, true, true, true, true, true, false, false, false] rfl rfl (take_ofW HT_.out HW_.out (by kernel_rfl)) (fun _ _ _ h => h) (Or.inl ⟨by rfl, ?_⟩) hHeld ?_ ?_
                rotate_left
                · intro w' s0
                  go_simp
                  with_reducible rfl
                rotate_left
                · simp only [Act.put, List.setIfInBounds_toArray, List.set_cons_zero, List.set_cons_succ, i64_w, i32_w]
                  rfl
                refine pure_ (i := 8) (N := some 29) (v := ?_) (a' := ?_) #[true, true, true, true, true, true, true, true, true, false, false] rfl rfl (any_of HT_.out (by kernel_rfl)) (fun _ _ _ h => h) (Or.inl ⟨by rfl, ?_⟩) ?_ ?_
                rotate_left
                · intro w'
                  go_simp
                  with_reducible rfl
                rotate_left
                · simp only [Act.put, List.setIfInBounds_toArray, List.set_cons_zero, List.set_cons_succ, i64_w, i32_w]
                  rfl
                refine pure_ (i := 9) (N := some 30) (v := ?_) (a' := ?_) #[true, true, true, true, true, true, true, true, true, true, false] rfl rfl (any_of HT_.out (by kernel_rfl)) (fun _ _ _ h => h) (Or.inl ⟨by rfl, ?_⟩) ?_ ?_
                rotate_left
                · intro w'
                  go_simp
                  with_reducible rfl
                rotate_left
                · simp only [Act.put, List.setIfInBounds_toArray, List.set_cons_zero, List.set_cons_succ, i64_w, i32_w]
                  rfl
                refine last_ (i := 10) (N := none) #[true, true, true, true, true, true, true, true, true, true, true] rfl rfl (one_of HT_.out (by kernel_rfl)) (by decide) (fun K hK => ?_)
                refine skip_ (w1 := ?_) (by rfl) rfl ?_ ?_
                rotate_left
                · go_simp
                  rfl
                refine hK.out _ _ ?_
                clear hK K
                refine done_ (done_of HT_.out (by kernel_rfl)) ?_
                try go_wp2
                go_ret2
                exact ⟨_, by first | rfl | (simp [errW_none, errW_some] <;> rfl) | (simp only [← hji9, ← hji12, ← hji14]; first | rfl | (simp [errW_none, errW_some] <;> rfl)) | (simp [*, errW_none, errW_some] <;> rfl), by (with_reducible repeat (first | apply Kd.R_alloc | apply Kd.R_drewN | apply Kd.R_drew)); exact HQ19.out, by repeat (first | (with_reducible first | exact HB.out | apply below_alloc | apply pw_below_drewN | apply below_drew1 | refine below_set ?_ GB15.out) | exact HB.out)⟩
              · rw [if_neg c13] at H
                exact absurd H (by simp)
            · rw [if_neg c11] at H
              exact absurd H (by simp)
          · rw [if_neg c10] at H
            exact absurd H (by simp)
        · replace c8 := Bool.eq_false_iff.mpr c8
          subst c8
          have H1 : (if 0 ≤ (wrap64 (Int.tdiv a1 8)) then (if (wrap64 (Int.tdiv a1 8)) < (t117.length : Int) then (if 0 ≤ (Int.tmod a1 8) then (some ((t117.set ((wrap64 (Int.tdiv a1 8)) : Int).toNat (Go.bits .andNot .u8 (rd t117 (wrap64 (Int.tdiv a1 8))) (shl .u8 1 (Int.tmod a1 8)))), 0)) else (none)) else (none)) else (none)) = some (r1, r2) := by rw [if_neg (show ¬ (false = true) by decide)] at H; exact H
          clear H
          have H := H1
          clear H1
          obtain ⟨ji20, hji20⟩ : ∃ j_ : Int, (wrap64 (Int.tdiv a1 8)) = j_ := ⟨_, rfl⟩
          replace H : (if 0 ≤ (ji20) then (if (ji20) < (t117.length : Int) then (if 0 ≤ (Int.tmod a1 8) then (some ((t117.set ((ji20) : Int).toNat (Go.bits .andNot .u8 (rd t117 (ji20)) (shl .u8 1 (Int.tmod a1 8)))), 0)) else (none)) else (none)) else (none)) = some (r1, r2) := by first | (rw [hji20] at H; exact H) | (simp only [hji20] at H ⊢; exact H)
          (try rw [hji20] at A7)
          have hji20w : (IntKind.i64.wrap (Int.tdiv a1 8)) = ji20 := (i64_w _).trans hji20
          by_cases c21 : 0 ≤ (ji20)
          · rw [if_pos c21] at H
            have c21b0 : decide (0 ≤ (ji20)) = true := decide_eq_true c21
            clear c21
            by_cases c22 : (ji20) < (t117.length : Int)
            · rw [if_pos c22] at H
              have c22b0 : decide ((ji20) < (t117.length : Int)) = true := decide_eq_true c22
              clear c22
              obtain ⟨ji23, hji23⟩ : ∃ j_ : Int, (Int.tmod a1 8) = j_ := ⟨_, rfl⟩
              replace H : (if 0 ≤ (ji23) then (some ((t117.set ((ji20) : Int).toNat (Go.bits .andNot .u8 (rd t117 (ji20)) (shl .u8 1 (ji23)))), 0)) else (none)) = some (r1, r2) := by first | (rw [hji23] at H; exact H) | (simp only [hji23] at H ⊢; exact H)
              (try rw [hji23] at A7)
              by_cases c24 : 0 ≤ (ji23)
              · rw [if_pos c24] at H
                have c24b0 := eq_true c24
                have c24b1 : decide (0 ≤ (ji23)) = true := decide_eq_true c24
                clear c24
                obtain ⟨ji25, hji25⟩ : ∃ j_ : Int, (shl .u8 1 (ji23)) = j_ := ⟨_, rfl⟩
                replace H : (some ((t117.set ((ji20) : Int).toNat (Go.bits .andNot .u8 (rd t117 (ji20)) (ji25))), 0)) = some (r1, r2) := by first | (rw [hji25] at H; exact H) | (simp only [hji25] at H ⊢; exact H)
                (try rw [hji25] at A7)
                have hji25_ : (IntKind.u8.wrap (1 * 2 ^ min (ji23).toNat 8)) = ji25 := hji25
                have hji25z : (ji23) ≤ 8 → (IntKind.u8.wrap (1 * 2 ^ (ji23).toNat)) = ji25 := shl_small hji25
                have hji25u : (IntKind.u8.wrap (2 ^ min (ji23).toNat 8)) = ji25 := by have h_ := hji25_; rw [Int.one_mul] at h_; exact h_
                have hji25v : (ji23) ≤ 8 → (IntKind.u8.wrap (2 ^ (ji23).toNat)) = ji25 := fun hle_ => by have h_ := hji25z hle_; rw [Int.one_mul] at h_; exact h_
                obtain ⟨y123, hy123⟩ : ∃ y_ : List Int, y_ = (t117.set ((ji20) : Int).toNat (Go.bits .andNot .u8 (rd t117 (ji20)) (ji25))) := ⟨_, rfl⟩
                replace H : (some (y123, 0)) = some (r1, r2) := by first | (rw [hy123]; with_reducible exact H) | (have H2_ := (Option.bind_some _ _).symm.trans H; rw [hy123]; with_reducible exact H2_) | (have H2_ := (Option.bind_some _ _).symm.trans H; with_reducible exact H2_) | with_reducible exact H | (rw [hy123]; exact H) | exact H
                have Ny123 := Aside0.mk hy123
                clear hy123
                simp only [Option.some.injEq, Prod.mk.injEq] at H
                obtain ⟨rfl, rfl⟩ := H
                try go_wp2_with (first | ((with_reducible refine gate_callee (f := 26) rfl ?_); refine goesL_ (some 19) rfl rfl Try.func26 (by kernel_rfl) rfl #[.slice A0 l0.length c0] rfl (by (try simp only [List.map_toArray, List.map_cons, List.map_nil]); first | done | rfl | (simp only [List.length_drop, List.length_take]; rfl)) ?_; (with_reducible refine (slices_Clone_byte_byte.calls _ _ l0 t117 _ ?side1 ?side2 A7.out).mono ?_); (case side1 => repeat (first | exact (Kd.C_below HR0.out HB.out) | (with_reducible refine Kd.C_alloc ?_ _) | (with_reducible refine Kd.C_drewN ?_ _) | (with_reducible refine Kd.C_drew ?_))); (case side2 => exact HC0.out); rintro e w27 ⟨v118, rfl, ho0, hb⟩; refine ⟨_, rfl, ?_⟩; have n0_ := Aside0.mk (Kd.R_lower ho0 (below_size (by repeat (first | (with_reducible first | exact HB.out | apply below_alloc | apply pw_below_drewN | apply below_drew1) | exact HB.out)))); have n1_ := Aside0.mk (below_step (by repeat (first | (with_reducible first | exact HB.out | apply below_alloc | apply pw_below_drewN | apply below_drew1) | exact HB.out)) hb); clear HB; have HO119 := n0_; have HB := n1_; clear n0_ n1_; (try clear hb); (try clear hb2); (try clear hk); (try clear hi); (try clear ho0)))
                have n0_ := Aside0.mk (Kd.R_drew HO119.out)
                have n1_ := Aside0.mk (below_drew1 HB.out)
                clear HO119
                clear HB
                have HO119 := n0_
                have HB := n1_
                clear n0_ n1_
                obtain ⟨Ao29, co29, eo29⟩ := Kd.R_slice HO119.out
                (first | subst eo29 | (injection eo29 with f1_ f2_ f3_; have f4_ := f1_.symm; have f5_ := f3_.symm; clear f1_ f2_ f3_; subst f4_; subst f5_))
                have p122 : 0 ≤ ((ji20) : Int) := of_decide_eq_true (by first | (with_reducible assumption) | assumption)
                have q122 : (ji20) < (t117.length : Int) := of_decide_eq_true (by first | (with_reducible assumption) | assumption)
                obtain ⟨ad122, e122, hx122_0⟩ := Kd.at_int (Kd.R_reads' HO119.out).2.2 (ji20) p122 q122
                cases e122
                replace p122 := eq_true p122
                replace q122 := eq_true q122
                have p26 : 0 ≤ ((ji20) : Int) := of_decide_eq_true (by first | (with_reducible assumption) | assumption)
                have q26 : ((ji20) : Int) < ((t117.length : Int) : Int) := of_decide_eq_true (by first | (with_reducible assumption) | assumption)
                obtain ⟨go26, co26, eo26, gb26, gl26, cl26, HG26⟩ := Kd.R_form HO119.out (by omega)
                (first | cases eo26 | (injection eo26 with ea_ en_ ec_; (first | subst ea_ | (injection ea_ with ea_; subst ea_)); subst ec_; clear en_))
                have GB26 := Aside0.mk gb26
                have GG26 := Aside0.mk HG26
                clear gb26 gl26 HG26
                (first | simp only [add_plain] at hx122_0 | skip)
                obtain ⟨hx26_0, hf26_0⟩ := Kd.R_celln 0 HO119.out ((ji20) : Int) p26 q26
                replace p26 := eq_true p26
                replace q26 := eq_true q26
                have HP30 := Kd.R_putn HO119.out ((ji20) : Int) (Go.bits .andNot .u8 (rd t117 (ji20)) (ji25))
                rw [← Ny123.out] at HP30
                have HQ30 := Aside0.mk HP30
                clear HP30
                refine start_ (n := 11) (S := fun w' => w'.cell? ⟨go26, ((ji20)).toNat, none⟩ = some (.int .u8 (rd t117 (ji20)))) (ds := [10]) #[false, false, false, false, false, false, false, false, false, false, false] (by kernel_rfl) rfl rfl (hx122_0) (fun hHeld => ?_); refine with_tabW bits_Set.tab6 bits_Set.bits6 (fun HT_ HW_ => ?_)
                generalize w27.drew = w28 at HO119 HB GG26 HQ30 hf26_0 hx122_0 hx26_0 hHeld ⊢
                refine pure_ (i := 0) (N := some 31) (v := ?_) (a' := ?_) #[true, false, false, false, false, false, false, false, false, false, false] rfl rfl (any_of HT_.out (by kernel_rfl)) (fun _ _ _ h => h) (Or.inl ⟨by rfl, ?_⟩) ?_ ?_
                rotate_left
                · intro w'
                  go_simp
                  with_reducible rfl
                rotate_left
                · simp only [Act.put, List.setIfInBounds_toArray, List.set_cons_zero, List.set_cons_succ, i64_w, i32_w]
                  rfl
                refine pure_ (i := 1) (N := some 32) (v := ?_) (a' := ?_) #[true, true, false, false, false, false, false, false, false, false, false] rfl rfl (any_of HT_.out (by kernel_rfl)) (fun _ _ _ h => h) (Or.inl ⟨by rfl, ?_⟩) ?_ ?_
                rotate_left
                · intro w'
                  go_simp
                  with_reducible rfl
                rotate_left
                · simp only [Act.put, List.setIfInBounds_toArray, List.set_cons_zero, List.set_cons_succ, i64_w, i32_w]
                  rfl
                refine pure_ (i := 2) (N := some 33) (v := ?_) (a' := ?_) #[true, true, true, false, false, false, false, false, false, false, false] rfl rfl (any_of HT_.out (by kernel_rfl)) (fun _ _ _ h => h) (Or.inl ⟨by rfl, ?_⟩) ?_ ?_
                rotate_left
                · intro w'
                  go_simp
                  with_reducible rfl
                rotate_left
                · simp only [Act.put, List.setIfInBounds_toArray, List.set_cons_zero, List.set_cons_succ, i64_w, i32_w]
                  rfl
                refine pure_ (i := 3) (N := some 34) (v := ?_) (a' := ?_) #[true, true, true, true, false, false, false, false, false, false, false] rfl rfl (any_of HT_.out (by kernel_rfl)) (fun _ _ _ h => h) (Or.inl ⟨by rfl, ?_⟩) ?_ ?_
                rotate_left
                · intro w'
                  go_simp
                  with_reducible rfl
                rotate_left
                · simp only [Act.put, List.setIfInBounds_toArray, List.set_cons_zero, List.set_cons_succ, i64_w, i32_w]
                  rfl
                refine pure_ (i := 5) (N := some 36) (v := ?_) (a' := ?_) #[true, true, true, true, false, true, false, false, false, false, false] rfl rfl (any_of HT_.out (by kernel_rfl)) (fun _ _ _ h => h) (Or.inl ⟨by rfl, ?_⟩) ?_ ?_
                rotate_left
                · intro w'
                  go_simp
                  with_reducible rfl
                rotate_left
                · simp only [Act.put, List.setIfInBounds_toArray, List.set_cons_zero, List.set_cons_succ, i64_w, i32_w]
                  rfl
                refine pure_ (i := 6) (N := some 37) (v := ?_) (a' := ?_) #[true, true, true, true, false, true, true, false, false, false, false] rfl rfl (any_of HT_.out (by kernel_rfl)) (fun _ _ _ h => h) (Or.inl ⟨by rfl, ?_⟩) ?_ ?_
                rotate_left
                · intro w'
                  go_simp
                  with_reducible rfl
                rotate_left
                · simp only [Act.put, List.setIfInBounds_toArray, List.set_cons_zero, List.set_cons_succ, i64_w, i32_w]
                  rfl
                refine pure_ (i := 7) (N := some 38) (v := ?_) (a' := ?_) #[true, true, true, true, false, true, true, true, false, false, false] rfl rfl (any_of HT_.out (by kernel_rfl)) (fun _ _ _ h => h) (Or.inl ⟨by rfl, ?_⟩) ?_ ?_
                rotate_left
                · intro w'
                  go_simp
                  with_reducible rfl
                rotate_left
                · simp only [Act.put, List.setIfInBounds_toArray, List.set_cons_zero, List.set_cons_succ, i64_w, i32_w]
                  rfl
                refine take_ (i := 4) (N := some 35) (v := ?_) (a' := ?_) #[true, true, true, true, true, true, true, true, false, false, false] rfl rfl (take_ofW HT_.out HW_.out (by kernel_rfl)) (fun _ _ _ h => h) (Or.inl ⟨by rfl, ?_⟩) hHeld ?_ ?_
                rotate_left
                · intro w' s0
                  go_simp
                  with_reducible rfl
                rotate_left
                · simp only [Act.put, List.setIfInBounds_toArray, List.set_cons_zero, List.set_cons_succ, i64_w, i32_w]
                  rfl
                refine pure_ (i := 8) (N := some 39) (v := ?_) (a' := ?_) #[true, true, true, true, true, true, true, true, true, false, false] rfl rfl (any_of HT_.out (by kernel_rfl)) (fun _ _ _ h => h) (Or.inl ⟨by rfl, ?_⟩) ?_ ?_
                rotate_left
                · intro w'
                  go_simp
                  with_reducible rfl
                rotate_left
                · simp only [Act.put, List.setIfInBounds_toArray, List.set_cons_zero, List.set_cons_succ, i64_w, i32_w]
                  rfl
                refine pure_ (i := 9) (N := some 40) (v := ?_) (a' := ?_) #[true, true, true, true, true, true, true, true, true, true, false] rfl rfl (any_of HT_.out (by kernel_rfl)) (fun _ _ _ h => h) (Or.inl ⟨by rfl, ?_⟩) ?_ ?_
                rotate_left
                · intro w'
                  go_simp
                  with_reducible rfl
                rotate_left
                · simp only [Act.put, List.setIfInBounds_toArray, List.set_cons_zero, List.set_cons_succ, i64_w, i32_w]
                  rfl
                refine last_ (i := 10) (N := none) #[true, true, true, true, true, true, true, true, true, true, true] rfl rfl (one_of HT_.out (by kernel_rfl)) (by decide) (fun K hK => ?_)
                refine skip_ (w1 := ?_) (by rfl) rfl ?_ ?_
                rotate_left
                · go_simp
                  rfl
                refine hK.out _ _ ?_
                clear hK K
                refine done_ (done_of HT_.out (by kernel_rfl)) ?_
                try go_wp2
                go_ret2
                exact ⟨_, by first | rfl | (simp [errW_none, errW_some] <;> rfl) | (simp only [← hji20, ← hji23, ← hji25]; first | rfl | (simp [errW_none, errW_some] <;> rfl)) | (simp [*, errW_none, errW_some] <;> rfl), by (with_reducible repeat (first | apply Kd.R_alloc | apply Kd.R_drewN | apply Kd.R_drew)); exact HQ30.out, by repeat (first | (with_reducible first | exact HB.out | apply below_alloc | apply pw_below_drewN | apply below_drew1 | refine below_set ?_ GB26.out) | exact HB.out)⟩
              · rw [if_neg c24] at H
                exact absurd H (by simp)
            · rw [if_neg c22] at H
              exact absurd H (by simp)
          · rw [if_neg c21] at H
            exact absurd H (by simp)

/-! ### skerrylaw04_BitsTurns: function 5 -/
mutual
def skerrylaw04_BitsTurns.j0 : Nat → List Int → Int → Int → List Int → Bool → Option (Bool)
  | 0, _, _, _, _, _ => none
  | k + 1, x0, x1, x2, x9, x56 => if x56 = true then (some false) else ((bits_Get.f x9 x2).bind fun bt131 => ((bits_Get.f x0 x2).bind fun bt133 => (if bt131.2 = bt133.2 then (if x1 = x2 then (skerrylaw04_BitsTurns.j1 k x0 x1 x9 false) else (skerrylaw04_BitsTurns.j1 k x0 x1 x9 (bt131.1 != bt133.1))) else (skerrylaw04_BitsTurns.j1 k x0 x1 x9 true))))
def skerrylaw04_BitsTurns.j1 : Nat → List Int → Int → List Int → Bool → Option (Bool)
  | 0, _, _, _, _ => none
  | k + 1, x0, x1, x9, x81 => if x81 = true then (some false) else ((bits_Get.f x0 x1).bind fun bt135 => ((bits_Set.f k x9 x1 bt135.1).bind fun bt137 => (if bt137.2 = 0 then ((skerryref01_SameBytes.f bt137.1 x0).bind fun t141 => (some t141)) else (some false))))
end
def skerrylaw04_BitsTurns.f (k : Nat) (l0 : List Int) (a1 : Int) (a2 : Int) (a3 : Bool) : Option (Bool) := (skerrylaw04_wakes.f k).bind fun t124 => (if t124 = true then ((bits_Set.f k l0 a1 a3).bind fun bt125 => (if bt125.2 = 0 then ((bits_Get.f bt125.1 a1).bind fun bt129 => (if bt129.2 = 0 then (if (bt129.1 != a3) = true then (skerrylaw04_BitsTurns.j0 k l0 a1 a2 bt125.1 true) else (skerrylaw04_BitsTurns.j0 k l0 a1 a2 bt125.1 ((bt125.1.length : Int) != (l0.length : Int)))) else (skerrylaw04_BitsTurns.j0 k l0 a1 a2 bt125.1 true))) else (if bt125.2 = 2 then (some ((bt125.1.length : Int) == 0)) else (some false)))) else (some false))
theorem skerrylaw04_BitsTurns.mono_l : ∀ k, (∀ y0 y1 y2 y3 y4, LeO (skerrylaw04_BitsTurns.j0 k y0 y1 y2 y3 y4) (skerrylaw04_BitsTurns.j0 (k + 1) y0 y1 y2 y3 y4)) ∧ (∀ y0 y1 y2 y3, LeO (skerrylaw04_BitsTurns.j1 k y0 y1 y2 y3) (skerrylaw04_BitsTurns.j1 (k + 1) y0 y1 y2 y3))
  | 0 => ⟨fun _ _ _ _ _ r h => by simp [skerrylaw04_BitsTurns.j0] at h, fun _ _ _ _ r h => by simp [skerrylaw04_BitsTurns.j1] at h⟩
  | k + 1 => by
    obtain ⟨ih0, ih1⟩ := skerrylaw04_BitsTurns.mono_l k
    refine ⟨?_, ?_⟩
    · intro y0 y1 y2 y3 y4
      unfold skerrylaw04_BitsTurns.j0
      repeat' first
      | (with_reducible exact ih0 _ _ _ _ _)
      | (with_reducible exact ih1 _ _ _ _)
      | (with_reducible exact bits_Set.mono _ _ _ _)
      | (with_reducible exact skerrylaw04_wakes.mono _)
      | (with_reducible exact LeO.refl _)
      | (with_reducible exact LeO.none _)
      | (with_reducible refine LeO.ite ?_ ?_)
      | (with_reducible refine LeO.bind ?_ (fun _ => ?_))
      | exact ih0 _ _ _ _ _
      | exact ih1 _ _ _ _
      | exact bits_Set.mono _ _ _ _
      | exact skerrylaw04_wakes.mono _
      | exact LeO.none _
      | refine LeO.ite ?_ ?_
      | refine LeO.bind ?_ (fun _ => ?_)
    · intro y0 y1 y2 y3
      unfold skerrylaw04_BitsTurns.j1
      repeat' first
      | (with_reducible exact ih0 _ _ _ _ _)
      | (with_reducible exact ih1 _ _ _ _)
      | (with_reducible exact bits_Set.mono _ _ _ _)
      | (with_reducible exact skerrylaw04_wakes.mono _)
      | (with_reducible exact LeO.refl _)
      | (with_reducible exact LeO.none _)
      | (with_reducible refine LeO.ite ?_ ?_)
      | (with_reducible refine LeO.bind ?_ (fun _ => ?_))
      | exact ih0 _ _ _ _ _
      | exact ih1 _ _ _ _
      | exact bits_Set.mono _ _ _ _
      | exact skerrylaw04_wakes.mono _
      | exact LeO.none _
      | refine LeO.ite ?_ ?_
      | refine LeO.bind ?_ (fun _ => ?_)
theorem skerrylaw04_BitsTurns.mono : ∀ a0 a1 a2 a3 k, LeO (skerrylaw04_BitsTurns.f k a0 a1 a2 a3) (skerrylaw04_BitsTurns.f (k + 1) a0 a1 a2 a3) := by
  intro a0 a1 a2 a3 k
  obtain ⟨ih0, ih1⟩ := skerrylaw04_BitsTurns.mono_l k
  unfold skerrylaw04_BitsTurns.f
  repeat' first
      | (with_reducible exact ih0 _ _ _ _ _)
      | (with_reducible exact ih1 _ _ _ _)
      | (with_reducible exact bits_Set.mono _ _ _ _)
      | (with_reducible exact skerrylaw04_wakes.mono _)
      | (with_reducible exact LeO.refl _)
      | (with_reducible exact LeO.none _)
      | (with_reducible refine LeO.ite ?_ ?_)
      | (with_reducible refine LeO.bind ?_ (fun _ => ?_))
      | exact ih0 _ _ _ _ _
      | exact ih1 _ _ _ _
      | exact bits_Set.mono _ _ _ _
      | exact skerrylaw04_wakes.mono _
      | exact LeO.none _
      | refine LeO.ite ?_ ?_
      | refine LeO.bind ?_ (fun _ => ?_)
set_option maxHeartbeats 8000000 in
set_option maxRecDepth 100000 in
theorem skerrylaw04_BitsTurns.calls (k : Nat) (A0 : Option Addr) (c0 : Nat) (l0 : List Int) (a1 : Int) (a2 : Int) (a3 : Bool) (r : Bool) (w : World) (hr0 : Kd.C (Kd.int .u8) w A0 l0.length l0) (hc0 : l0.length ≤ c0) (h : skerrylaw04_BitsTurns.f k l0 a1 a2 a3 = some r) :
    Calls Try.prog 5 #[.slice A0 l0.length c0, .int .i64 a1, .int .i64 a2, .bool a3] w fun e w' => e = .returned (.bool r) ∧ Below w.heap.size w w' := by
  have HR0 := Aside0.mk hr0
  have HC0 := Aside0.mk hc0
  clear hr0 hc0
  have HB := Aside0.mk (Below.refl w.heap.size w)
  have H : ((skerrylaw04_wakes.f k).bind fun t124 => (if t124 = true then ((bits_Set.f k l0 a1 a3).bind fun bt125 => (if bt125.2 = 0 then ((bits_Get.f bt125.1 a1).bind fun bt129 => (if bt129.2 = 0 then (if (bt129.1 != a3) = true then (skerrylaw04_BitsTurns.j0 k l0 a1 a2 bt125.1 true) else (skerrylaw04_BitsTurns.j0 k l0 a1 a2 bt125.1 ((bt125.1.length : Int) != (l0.length : Int)))) else (skerrylaw04_BitsTurns.j0 k l0 a1 a2 bt125.1 true))) else (if bt125.2 = 2 then (some ((bt125.1.length : Int) == 0)) else (some false)))) else (some false))) = some r := h
  clear h
  replace H := Option.bind_eq_some_iff.mp H
  obtain ⟨t124, A50, H⟩ := H
  replace H : (if t124 = true then ((bits_Set.f k l0 a1 a3).bind fun bt125 => (if bt125.2 = 0 then ((bits_Get.f bt125.1 a1).bind fun bt129 => (if bt129.2 = 0 then (if (bt129.1 != a3) = true then (skerrylaw04_BitsTurns.j0 k l0 a1 a2 bt125.1 true) else (skerrylaw04_BitsTurns.j0 k l0 a1 a2 bt125.1 ((bt125.1.length : Int) != (l0.length : Int)))) else (skerrylaw04_BitsTurns.j0 k l0 a1 a2 bt125.1 true))) else (if bt125.2 = 2 then (some ((bt125.1.length : Int) == 0)) else (some false)))) else (some false)) = some r := H
  have A5 := Aside0.mk A50
  clear A50
  by_cases c6 : t124 = true
  · subst c6
    have H1 : ((bits_Set.f k l0 a1 a3).bind fun bt125 => (if bt125.2 = 0 then ((bits_Get.f bt125.1 a1).bind fun bt129 => (if bt129.2 = 0 then (if (bt129.1 != a3) = true then (skerrylaw04_BitsTurns.j0 k l0 a1 a2 bt125.1 true) else (skerrylaw04_BitsTurns.j0 k l0 a1 a2 bt125.1 ((bt125.1.length : Int) != (l0.length : Int)))) else (skerrylaw04_BitsTurns.j0 k l0 a1 a2 bt125.1 true))) else (if bt125.2 = 2 then (some ((bt125.1.length : Int) == 0)) else (some false)))) = some r := by rw [if_pos rfl] at H; exact H
    clear H
    have H := H1
    clear H1
    replace H := Option.bind_eq_some_iff.mp H
    obtain ⟨⟨t125, t126⟩, A70, H⟩ := H
    replace H : (if t126 = 0 then ((bits_Get.f t125 a1).bind fun bt129 => (if bt129.2 = 0 then (if (bt129.1 != a3) = true then (skerrylaw04_BitsTurns.j0 k l0 a1 a2 t125 true) else (skerrylaw04_BitsTurns.j0 k l0 a1 a2 t125 ((t125.length : Int) != (l0.length : Int)))) else (skerrylaw04_BitsTurns.j0 k l0 a1 a2 t125 true))) else (if t126 = 2 then (some ((t125.length : Int) == 0)) else (some false))) = some r := H
    have A7 := Aside0.mk A70
    clear A70
    by_cases c8 : t126 = 0
    · rw [if_pos c8] at H
      have c8b0 : (t126 == 0) = true := beq_iff_eq.mpr c8
      have c8b1 : (t126 != 0) = false := bne_eq_false_iff_eq.mpr c8
      clear c8
      replace H := Option.bind_eq_some_iff.mp H
      obtain ⟨⟨t129, t130⟩, A90, H⟩ := H
      replace H : (if t130 = 0 then (if (t129 != a3) = true then (skerrylaw04_BitsTurns.j0 k l0 a1 a2 t125 true) else (skerrylaw04_BitsTurns.j0 k l0 a1 a2 t125 ((t125.length : Int) != (l0.length : Int)))) else (skerrylaw04_BitsTurns.j0 k l0 a1 a2 t125 true)) = some r := H
      have A9 := Aside0.mk A90
      clear A90
      have HC10 := Aside0.mk H
      clear H
      go_enter Try.func5, Try.ntmps5
      go_upto_region 7 with (first | ((with_reducible refine gate_callee (f := 9) rfl ?_); refine goesL_ (some 19) rfl rfl Try.func9 (by kernel_rfl) rfl #[] rfl (by (try simp only [List.map_toArray, List.map_cons, List.map_nil]); first | done | rfl | (simp only [List.length_drop, List.length_take]; rfl)) ?_; (with_reducible refine (skerrylaw04_wakes.calls k  true _ A5.out).mono ?_); rintro e w11 ⟨rfl, hb⟩; refine ⟨_, rfl, ?_⟩; have n0_ := Aside0.mk (below_step (by repeat (first | (with_reducible first | exact HB.out | apply below_alloc | apply pw_below_drewN | apply below_drew1) | exact HB.out)) hb); clear HB; have HB := n0_; clear n0_; (try clear hb); (try clear hb2); (try clear hk); (try clear hi)) | ((with_reducible refine gate_callee (f := 15) rfl ?_); refine goesL_ (some 25) rfl rfl Try.func15 (by kernel_rfl) rfl #[.slice A0 l0.length c0, .int .i64 a1, .bool a3] rfl (by (try simp only [List.map_toArray, List.map_cons, List.map_nil]); first | done | rfl | (simp only [List.length_drop, List.length_take]; rfl)) ?_; (with_reducible refine (bits_Set.calls k _ _ l0 a1 a3 t125 t126 _ ?side1 ?side2 A7.out).mono ?_); (case side1 => repeat (first | exact (Kd.C_below HR0.out HB.out) | (with_reducible refine Kd.C_alloc ?_ _) | (with_reducible refine Kd.C_drewN ?_ _) | (with_reducible refine Kd.C_drew ?_))); (case side2 => exact HC0.out); rintro e w12 ⟨v127, rfl, ho0, hb⟩; refine ⟨_, rfl, ?_⟩; have n0_ := Aside0.mk (Kd.R_lower ho0 (below_size (by repeat (first | (with_reducible first | exact HB.out | apply below_alloc | apply pw_below_drewN | apply below_drew1) | exact HB.out)))); have n1_ := Aside0.mk (below_step (by repeat (first | (with_reducible first | exact HB.out | apply below_alloc | apply pw_below_drewN | apply below_drew1) | exact HB.out)) hb); clear HB; have HO128 := n0_; have HB := n1_; clear n0_ n1_; (try clear hb); (try clear hb2); (try clear hk); (try clear hi); (try clear ho0); obtain ⟨Ao13, co13, eo13⟩ := Kd.R_slice HO128.out; subst eo13) | ((with_reducible refine gate_callee (f := 13) rfl ?_); refine goesL_ (some 40) rfl rfl Try.func13 (by kernel_rfl) rfl #[.slice Ao13 t125.length co13, .int .i64 a1] rfl (by (try simp only [List.map_toArray, List.map_cons, List.map_nil]); first | done | rfl | (simp only [List.length_drop, List.length_take]; rfl)) ?_; (with_reducible refine (bits_Get.calls _ _ t125 a1 t129 t130 _ ?side1 ?side2 A9.out).mono ?_); (case side1 => repeat (first | exact (Kd.R_reads' HO128.out).2.2 | (with_reducible refine Kd.C_alloc ?_ _) | (with_reducible refine Kd.C_drewN ?_ _) | (with_reducible refine Kd.C_drew ?_))); (case side2 => exact (Kd.R_reads' HO128.out).2.1); rintro e w' ⟨rfl, ⟨nd, rfl⟩⟩; refine ⟨_, rfl, ?_⟩))
      (try simp only [Act.put, List.setIfInBounds_toArray, List.set_cons_zero, List.set_cons_succ])
      go_cut [56] (fun v56 wc => ∃ (kq : Nat) (x56_9 : Bool), v56 = .bool x56_9 ∧ Aside0 (skerrylaw04_BitsTurns.j0 kq l0 a1 a2 t125 x56_9 = some r) ∧ Aside0 (kq ≤ k) ∧ Aside0 (Kd.R (Kd.int .u8) 5 wc w.heap.size (fun _ => True) (.slice Ao13 t125.length co13) t125) ∧ Aside0 (Below w.heap.size w wc))
      case first =>
        have H := HC10.out
        clear HC10
        by_cases c14 : t130 = 0
        · rw [if_pos c14] at H
          have c14b0 : (t130 == 0) = true := beq_iff_eq.mpr c14
          have c14b1 : (t130 != 0) = false := bne_eq_false_iff_eq.mpr c14
          clear c14
          (first | rw [c14b0] | (simp only [i64_w, i32_w]; rw [c14b0]) | skip)
          by_cases c15 : (t129 != a3) = true
          · rw [if_pos c15] at H
            have c15b0 : (t129 != a3) = true := c15
            (try (have c15b1 : decide (t129 = a3) = false := by simpa using c15))
            (try (have c15b2 : (t129 == a3) = false := by simpa using c15))
            (try (have c15b3 : ¬ (t129 = a3) := by simpa using c15))
            clear c15
            have H' := Aside0.mk H
            clear H
            go_wp2
            go_meet
            case rel => exact ⟨_, (true), (by first | rfl | (simp; done) | (simp [*]; done)), H', ⟨by first | omega | exact Nat.le_refl _⟩, ⟨by (with_reducible repeat (first | apply Kd.R_alloc | apply Kd.R_drewN | apply Kd.R_drew)); exact HO128.out⟩, ⟨by repeat (first | (with_reducible first | exact HB.out | apply below_alloc | apply pw_below_drewN | apply below_drew1) | exact HB.out)⟩⟩
          · rw [if_neg c15] at H
            have c15b0 : (t129 != a3) = false := by simpa using c15
            (try (have c15b1 : decide (t129 = a3) = true := by simpa using c15))
            (try (have c15b2 : (t129 == a3) = true := by simpa using c15))
            clear c15
            have H' := Aside0.mk H
            clear H
            go_wp2
            go_meet
            case rel => exact ⟨_, (((t125.length : Int) != (l0.length : Int))), (by first | rfl | (simp; done) | (simp [*]; done)), H', ⟨by first | omega | exact Nat.le_refl _⟩, ⟨by (with_reducible repeat (first | apply Kd.R_alloc | apply Kd.R_drewN | apply Kd.R_drew)); exact HO128.out⟩, ⟨by repeat (first | (with_reducible first | exact HB.out | apply below_alloc | apply pw_below_drewN | apply below_drew1) | exact HB.out)⟩⟩
        · rw [if_neg c14] at H
          have c14b0 : (t130 == 0) = false := beq_eq_false_iff_ne.mpr c14
          have c14b1 : (t130 != 0) = true := bne_iff_ne.mpr c14
          (first | rw [c14b0] | (simp only [i64_w, i32_w]; rw [c14b0]) | skip)
          have H' := Aside0.mk H
          clear H
          go_wp2
          go_meet
          case rel => exact ⟨_, (true), (by first | rfl | (simp; done) | (simp [*]; done)), H', ⟨by first | omega | exact Nat.le_refl _⟩, ⟨by (with_reducible repeat (first | apply Kd.R_alloc | apply Kd.R_drewN | apply Kd.R_drew)); exact HO128.out⟩, ⟨by repeat (first | (with_reducible first | exact HB.out | apply below_alloc | apply pw_below_drewN | apply below_drew1) | exact HB.out)⟩⟩
      case rest =>
        clear HC10
        try clear c1
        try clear p2
        try clear c5
        try clear c6
        try clear c8
        try clear c8b0
        try clear c8b1
        try clear c9
        try clear c13
        try clear c14
        try clear c14b0
        try clear c14b1
        try clear c15
        try clear c15b0
        try clear c15b1
        try clear c15b2
        obtain ⟨kq, x56_9, rfl, HA, HJ9, HO_9, HB⟩ := hcut
        cases kq with
        | zero => exact absurd HA.out (by simp [skerrylaw04_BitsTurns.j0])
        | succ kj9 =>
          have H := HA.out
          clear HA
          simp only [skerrylaw04_BitsTurns.j0] at H
          by_cases c16 : x56_9 = true
          · subst c16
            have H1 : (some false) = some r := by rw [if_pos rfl] at H; exact H
            clear H
            have H := H1
            clear H1
            obtain rfl := Option.some.inj H
            go_wp2
            go_ret
            exact ⟨by first | rfl | (simp [errW_none, errW_some] <;> rfl) | (simp [*, errW_none, errW_some] <;> rfl), by repeat (first | (with_reducible first | exact HB.out | apply below_alloc | apply pw_below_drewN | apply below_drew1) | exact HB.out)⟩
          · replace c16 := Bool.eq_false_iff.mpr c16
            subst c16
            have H1 : ((bits_Get.f t125 a2).bind fun bt131 => ((bits_Get.f l0 a2).bind fun bt133 => (if bt131.2 = bt133.2 then (if a1 = a2 then (skerrylaw04_BitsTurns.j1 kj9 l0 a1 t125 false) else (skerrylaw04_BitsTurns.j1 kj9 l0 a1 t125 (bt131.1 != bt133.1))) else (skerrylaw04_BitsTurns.j1 kj9 l0 a1 t125 true)))) = some r := by rw [if_neg (show ¬ (false = true) by decide)] at H; exact H
            clear H
            have H := H1
            clear H1
            replace H := Option.bind_eq_some_iff.mp H
            obtain ⟨⟨t131, t132⟩, A170, H⟩ := H
            replace H : ((bits_Get.f l0 a2).bind fun bt133 => (if t132 = bt133.2 then (if a1 = a2 then (skerrylaw04_BitsTurns.j1 kj9 l0 a1 t125 false) else (skerrylaw04_BitsTurns.j1 kj9 l0 a1 t125 (t131 != bt133.1))) else (skerrylaw04_BitsTurns.j1 kj9 l0 a1 t125 true))) = some r := H
            have A17 := Aside0.mk A170
            clear A170
            replace H := Option.bind_eq_some_iff.mp H
            obtain ⟨⟨t133, t134⟩, A180, H⟩ := H
            replace H : (if t132 = t134 then (if a1 = a2 then (skerrylaw04_BitsTurns.j1 kj9 l0 a1 t125 false) else (skerrylaw04_BitsTurns.j1 kj9 l0 a1 t125 (t131 != t133))) else (skerrylaw04_BitsTurns.j1 kj9 l0 a1 t125 true)) = some r := H
            have A18 := Aside0.mk A180
            clear A180
            have HC19 := Aside0.mk H
            clear H
            go_upto_region 11 with (first | ((with_reducible refine gate_callee (f := 13) rfl ?_); refine goesL_ (some 60) rfl rfl Try.func13 (by kernel_rfl) rfl #[.slice Ao13 t125.length co13, .int .i64 a2] rfl (by (try simp only [List.map_toArray, List.map_cons, List.map_nil]); first | done | rfl | (simp only [List.length_drop, List.length_take]; rfl)) ?_; (with_reducible refine (bits_Get.calls _ _ t125 a2 t131 t132 _ ?side1 ?side2 A17.out).mono ?_); (case side1 => repeat (first | exact (Kd.R_reads' HO_9.out).2.2 | (with_reducible refine Kd.C_alloc ?_ _) | (with_reducible refine Kd.C_drewN ?_ _) | (with_reducible refine Kd.C_drew ?_))); (case side2 => exact (Kd.R_reads' HO_9.out).2.1); rintro e w' ⟨rfl, ⟨nd, rfl⟩⟩; refine ⟨_, rfl, ?_⟩) | ((with_reducible refine gate_callee (f := 13) rfl ?_); refine goesL_ (some 66) rfl rfl Try.func13 (by kernel_rfl) rfl #[.slice A0 l0.length c0, .int .i64 a2] rfl (by (try simp only [List.map_toArray, List.map_cons, List.map_nil]); first | done | rfl | (simp only [List.length_drop, List.length_take]; rfl)) ?_; (with_reducible refine (bits_Get.calls _ _ l0 a2 t133 t134 _ ?side1 ?side2 A18.out).mono ?_); (case side1 => repeat (first | exact (Kd.C_below HR0.out (by repeat (first | (with_reducible first | exact HB.out | apply below_alloc | apply pw_below_drewN | apply below_drew1) | exact HB.out))) | (with_reducible refine Kd.C_alloc ?_ _) | (with_reducible refine Kd.C_drewN ?_ _) | (with_reducible refine Kd.C_drew ?_))); (case side2 => exact HC0.out); rintro e w' ⟨rfl, ⟨nd, rfl⟩⟩; refine ⟨_, rfl, ?_⟩))
            (try simp only [Act.put, List.setIfInBounds_toArray, List.set_cons_zero, List.set_cons_succ])
            go_cut [81] (fun v81 wc => ∃ (kq : Nat) (x81_18 : Bool), v81 = .bool x81_18 ∧ Aside0 (skerrylaw04_BitsTurns.j1 kq l0 a1 t125 x81_18 = some r) ∧ Aside0 (kq ≤ kj9) ∧ Aside0 (Kd.R (Kd.int .u8) 5 wc w.heap.size (fun _ => True) (.slice Ao13 t125.length co13) t125) ∧ Aside0 (Below w.heap.size w wc))
            case first =>
              have H := HC19.out
              clear HC19
              by_cases c20 : t132 = t134
              · rw [if_pos c20] at H
                have c20b0 : (t132 == t134) = true := beq_iff_eq.mpr c20
                have c20b1 : (t132 != t134) = false := bne_eq_false_iff_eq.mpr c20
                clear c20
                (first | rw [c20b0] | (simp only [i64_w, i32_w]; rw [c20b0]) | skip)
                by_cases c21 : a1 = a2
                · rw [if_pos c21] at H
                  have c21b0 : (a1 == a2) = true := beq_iff_eq.mpr c21
                  have c21b1 : (a1 != a2) = false := bne_eq_false_iff_eq.mpr c21
                  clear c21
                  have H' := Aside0.mk H
                  clear H
                  go_wp2
                  go_meet
                  case rel => exact ⟨_, (false), (by first | rfl | (simp; done) | (simp [*]; done)), H', ⟨by have := HJ9.out; first | omega | exact Nat.le_refl _⟩, ⟨by (with_reducible repeat (first | apply Kd.R_alloc | apply Kd.R_drewN | apply Kd.R_drew)); exact HO_9.out⟩, ⟨by repeat (first | (with_reducible first | exact HB.out | apply below_alloc | apply pw_below_drewN | apply below_drew1) | exact HB.out)⟩⟩
                · rw [if_neg c21] at H
                  have c21b0 : (a1 == a2) = false := beq_eq_false_iff_ne.mpr c21
                  have c21b1 : (a1 != a2) = true := bne_iff_ne.mpr c21
                  have H' := Aside0.mk H
                  clear H
                  go_wp2
                  go_meet
                  case rel => exact ⟨_, ((t131 != t133)), (by first | rfl | (simp; done) | (simp [*]; done)), H', ⟨by have := HJ9.out; first | omega | exact Nat.le_refl _⟩, ⟨by (with_reducible repeat (first | apply Kd.R_alloc | apply Kd.R_drewN | apply Kd.R_drew)); exact HO_9.out⟩, ⟨by repeat (first | (with_reducible first | exact HB.out | apply below_alloc | apply pw_below_drewN | apply below_drew1) | exact HB.out)⟩⟩
              · rw [if_neg c20] at H
                have c20b0 : (t132 == t134) = false := beq_eq_false_iff_ne.mpr c20
                have c20b1 : (t132 != t134) = true := bne_iff_ne.mpr c20
                (first | rw [c20b0] | (simp only [i64_w, i32_w]; rw [c20b0]) | skip)
                have H' := Aside0.mk H
                clear H
                go_wp2
                go_meet
                case rel => exact ⟨_, (true), (by first | rfl | (simp; done) | (simp [*]; done)), H', ⟨by have := HJ9.out; first | omega | exact Nat.le_refl _⟩, ⟨by (with_reducible repeat (first | apply Kd.R_alloc | apply Kd.R_drewN | apply Kd.R_drew)); exact HO_9.out⟩, ⟨by repeat (first | (with_reducible first | exact HB.out | apply below_alloc | apply pw_below_drewN | apply below_drew1) | exact HB.out)⟩⟩
            case rest =>
              clear HC19
              try clear c1
              try clear c2
              try clear p2
              try clear c5
              try clear c6
              try clear c8
              try clear c8b0
              try clear c8b1
              try clear c9
              try clear c13
              try clear c14
              try clear c14b0
              try clear c14b1
              try clear c15
              try clear c15b0
              try clear c15b1
              try clear c15b2
              try clear c16
              try clear c20
              try clear c20b0
              try clear c20b1
              try clear c21
              try clear c21b0
              try clear c21b1
              try clear p2
              obtain ⟨kq, x81_18, rfl, HA, HJ18, HO_9, HB⟩ := hcut
              cases kq with
              | zero => exact absurd HA.out (by simp [skerrylaw04_BitsTurns.j1])
              | succ kj18 =>
                have H := HA.out
                clear HA
                simp only [skerrylaw04_BitsTurns.j1] at H
                by_cases c22 : x81_18 = true
                · subst c22
                  have H1 : (some false) = some r := by rw [if_pos rfl] at H; exact H
                  clear H
                  have H := H1
                  clear H1
                  obtain rfl := Option.some.inj H
                  go_wp2
                  go_ret
                  exact ⟨by first | rfl | (simp [errW_none, errW_some] <;> rfl) | (simp [*, errW_none, errW_some] <;> rfl), by repeat (first | (with_reducible first | exact HB.out | apply below_alloc | apply pw_below_drewN | apply below_drew1) | exact HB.out)⟩
                · replace c22 := Bool.eq_false_iff.mpr c22
                  subst c22
                  have H1 : ((bits_Get.f l0 a1).bind fun bt135 => ((bits_Set.f kj18 t125 a1 bt135.1).bind fun bt137 => (if bt137.2 = 0 then ((skerryref01_SameBytes.f bt137.1 l0).bind fun t141 => (some t141)) else (some false)))) = some r := by rw [if_neg (show ¬ (false = true) by decide)] at H; exact H
                  clear H
                  have H := H1
                  clear H1
                  replace H := Option.bind_eq_some_iff.mp H
                  obtain ⟨⟨t135, t136⟩, A230, H⟩ := H
                  replace H : ((bits_Set.f kj18 t125 a1 t135).bind fun bt137 => (if bt137.2 = 0 then ((skerryref01_SameBytes.f bt137.1 l0).bind fun t141 => (some t141)) else (some false))) = some r := H
                  have A23 := Aside0.mk A230
                  clear A230
                  replace H := Option.bind_eq_some_iff.mp H
                  obtain ⟨⟨t137, t138⟩, A240, H⟩ := H
                  replace H : (if t138 = 0 then ((skerryref01_SameBytes.f t137 l0).bind fun t141 => (some t141)) else (some false)) = some r := H
                  have A24 := Aside0.mk A240
                  clear A240
                  by_cases c25 : t138 = 0
                  · rw [if_pos c25] at H
                    have c25b0 : (t138 == 0) = true := beq_iff_eq.mpr c25
                    have c25b1 : (t138 != 0) = false := bne_eq_false_iff_eq.mpr c25
                    clear c25
                    replace H := Option.bind_eq_some_iff.mp H
                    obtain ⟨t141, A260, H⟩ := H
                    replace H : (some t141) = some r := H
                    have A26 := Aside0.mk A260
                    clear A260
                    obtain rfl := Option.some.inj H
                    go_wp2_with (first | ((with_reducible refine gate_callee (f := 13) rfl ?_); refine goesL_ (some 85) rfl rfl Try.func13 (by kernel_rfl) rfl #[.slice A0 l0.length c0, .int .i64 a1] rfl (by (try simp only [List.map_toArray, List.map_cons, List.map_nil]); first | done | rfl | (simp only [List.length_drop, List.length_take]; rfl)) ?_; (with_reducible refine (bits_Get.calls _ _ l0 a1 t135 t136 _ ?side1 ?side2 A23.out).mono ?_); (case side1 => repeat (first | exact (Kd.C_below HR0.out HB.out) | (with_reducible refine Kd.C_alloc ?_ _) | (with_reducible refine Kd.C_drewN ?_ _) | (with_reducible refine Kd.C_drew ?_))); (case side2 => exact HC0.out); rintro e w' ⟨rfl, ⟨nd, rfl⟩⟩; refine ⟨_, rfl, ?_⟩) | ((with_reducible refine gate_callee (f := 15) rfl ?_); refine goesL_ (some 92) rfl rfl Try.func15 (by kernel_rfl) rfl #[.slice Ao13 t125.length co13, .int .i64 a1, .bool t135] rfl (by (try simp only [List.map_toArray, List.map_cons, List.map_nil]); first | done | rfl | (simp only [List.length_drop, List.length_take]; rfl)) ?_; (with_reducible refine (bits_Set.calls kj18 _ _ t125 a1 t135 t137 t138 _ ?side1 ?side2 A24.out).mono ?_); (case side1 => repeat (first | exact (Kd.R_reads' HO_9.out).2.2 | (with_reducible refine Kd.C_alloc ?_ _) | (with_reducible refine Kd.C_drewN ?_ _) | (with_reducible refine Kd.C_drew ?_))); (case side2 => exact (Kd.R_reads' HO_9.out).2.1); rintro e w27 ⟨v139, rfl, ho0, hb⟩; refine ⟨_, rfl, ?_⟩; have n0_ := Aside0.mk (Kd.R_elder' (by (with_reducible repeat (first | apply Kd.R_alloc | apply Kd.R_drewN | apply Kd.R_drew)); exact HO_9.out) (Kd.R_base ho0) hb); have n1_ := Aside0.mk (Kd.R_lower (Kd.R_new' ho0 (Kd.R_lt (by (with_reducible repeat (first | apply Kd.R_alloc | apply Kd.R_drewN | apply Kd.R_drew)); exact HO_9.out))) (below_size (by repeat (first | (with_reducible first | exact HB.out | apply below_alloc | apply pw_below_drewN | apply below_drew1) | exact HB.out)))); have n2_ := Aside0.mk (below_step (by repeat (first | (with_reducible first | exact HB.out | apply below_alloc | apply pw_below_drewN | apply below_drew1) | exact HB.out)) hb); clear HO_9; clear HB; have HO_9 := n0_; have HO140 := n1_; have HB := n2_; clear n0_ n1_ n2_; (try clear hb); (try clear hb2); (try clear hk); (try clear hi); (try clear ho0); obtain ⟨Ao28, co28, eo28⟩ := Kd.R_slice HO140.out; subst eo28) | (go_at_call 12; (with_reducible refine (skerryref01_SameBytes.calls _ _ t137 _ _ l0 t141 _ ?side1 ?side2 ?side3 ?side4 A26.out).mono ?_); (case side1 => repeat (first | exact (Kd.R_reads' HO140.out).2.2 | (with_reducible refine Kd.C_alloc ?_ _) | (with_reducible refine Kd.C_drewN ?_ _) | (with_reducible refine Kd.C_drew ?_))); (case side2 => exact (Kd.R_reads' HO140.out).2.1); (case side3 => repeat (first | exact (Kd.C_below HR0.out HB.out) | (with_reducible refine Kd.C_alloc ?_ _) | (with_reducible refine Kd.C_drewN ?_ _) | (with_reducible refine Kd.C_drew ?_))); (case side4 => exact HC0.out); rintro e w' ⟨rfl, ⟨nd, rfl⟩⟩))
                    go_ret
                    exact ⟨by first | rfl | (simp [errW_none, errW_some] <;> rfl) | (simp [*, errW_none, errW_some] <;> rfl), by repeat (first | (with_reducible first | exact HB.out | apply below_alloc | apply pw_below_drewN | apply below_drew1) | exact HB.out)⟩
                  · rw [if_neg c25] at H
                    have c25b0 : (t138 == 0) = false := beq_eq_false_iff_ne.mpr c25
                    have c25b1 : (t138 != 0) = true := bne_iff_ne.mpr c25
                    obtain rfl := Option.some.inj H
                    go_wp2_with (first | ((with_reducible refine gate_callee (f := 13) rfl ?_); refine goesL_ (some 85) rfl rfl Try.func13 (by kernel_rfl) rfl #[.slice A0 l0.length c0, .int .i64 a1] rfl (by (try simp only [List.map_toArray, List.map_cons, List.map_nil]); first | done | rfl | (simp only [List.length_drop, List.length_take]; rfl)) ?_; (with_reducible refine (bits_Get.calls _ _ l0 a1 t135 t136 _ ?side1 ?side2 A23.out).mono ?_); (case side1 => repeat (first | exact (Kd.C_below HR0.out HB.out) | (with_reducible refine Kd.C_alloc ?_ _) | (with_reducible refine Kd.C_drewN ?_ _) | (with_reducible refine Kd.C_drew ?_))); (case side2 => exact HC0.out); rintro e w' ⟨rfl, ⟨nd, rfl⟩⟩; refine ⟨_, rfl, ?_⟩) | ((with_reducible refine gate_callee (f := 15) rfl ?_); refine goesL_ (some 92) rfl rfl Try.func15 (by kernel_rfl) rfl #[.slice Ao13 t125.length co13, .int .i64 a1, .bool t135] rfl (by (try simp only [List.map_toArray, List.map_cons, List.map_nil]); first | done | rfl | (simp only [List.length_drop, List.length_take]; rfl)) ?_; (with_reducible refine (bits_Set.calls kj18 _ _ t125 a1 t135 t137 t138 _ ?side1 ?side2 A24.out).mono ?_); (case side1 => repeat (first | exact (Kd.R_reads' HO_9.out).2.2 | (with_reducible refine Kd.C_alloc ?_ _) | (with_reducible refine Kd.C_drewN ?_ _) | (with_reducible refine Kd.C_drew ?_))); (case side2 => exact (Kd.R_reads' HO_9.out).2.1); rintro e w29 ⟨v139, rfl, ho0, hb⟩; refine ⟨_, rfl, ?_⟩; have n0_ := Aside0.mk (Kd.R_elder' (by (with_reducible repeat (first | apply Kd.R_alloc | apply Kd.R_drewN | apply Kd.R_drew)); exact HO_9.out) (Kd.R_base ho0) hb); have n1_ := Aside0.mk (Kd.R_lower (Kd.R_new' ho0 (Kd.R_lt (by (with_reducible repeat (first | apply Kd.R_alloc | apply Kd.R_drewN | apply Kd.R_drew)); exact HO_9.out))) (below_size (by repeat (first | (with_reducible first | exact HB.out | apply below_alloc | apply pw_below_drewN | apply below_drew1) | exact HB.out)))); have n2_ := Aside0.mk (below_step (by repeat (first | (with_reducible first | exact HB.out | apply below_alloc | apply pw_below_drewN | apply below_drew1) | exact HB.out)) hb); clear HO_9; clear HB; have HO_9 := n0_; have HO140 := n1_; have HB := n2_; clear n0_ n1_ n2_; (try clear hb); (try clear hb2); (try clear hk); (try clear hi); (try clear ho0)))
                    go_ret
                    exact ⟨by first | rfl | (simp [errW_none, errW_some] <;> rfl) | (simp [*, errW_none, errW_some] <;> rfl), by repeat (first | (with_reducible first | exact HB.out | apply below_alloc | apply pw_below_drewN | apply below_drew1) | exact HB.out)⟩
    · rw [if_neg c8] at H
      have c8b0 : (t126 == 0) = false := beq_eq_false_iff_ne.mpr c8
      have c8b1 : (t126 != 0) = true := bne_iff_ne.mpr c8
      by_cases c30 : t126 = 2
      · rw [if_pos c30] at H
        have c30b0 : (t126 == 2) = true := beq_iff_eq.mpr c30
        have c30b1 : (t126 != 2) = false := bne_eq_false_iff_eq.mpr c30
        clear c30
        obtain rfl := Option.some.inj H
        go_enter Try.func5, Try.ntmps5
        go_wp2_with (first | ((with_reducible refine gate_callee (f := 9) rfl ?_); refine goesL_ (some 19) rfl rfl Try.func9 (by kernel_rfl) rfl #[] rfl (by (try simp only [List.map_toArray, List.map_cons, List.map_nil]); first | done | rfl | (simp only [List.length_drop, List.length_take]; rfl)) ?_; (with_reducible refine (skerrylaw04_wakes.calls k  true _ A5.out).mono ?_); rintro e w31 ⟨rfl, hb⟩; refine ⟨_, rfl, ?_⟩; have n0_ := Aside0.mk (below_step (by repeat (first | (with_reducible first | exact HB.out | apply below_alloc | apply pw_below_drewN | apply below_drew1) | exact HB.out)) hb); clear HB; have HB := n0_; clear n0_; (try clear hb); (try clear hb2); (try clear hk); (try clear hi)) | ((with_reducible refine gate_callee (f := 15) rfl ?_); refine goesL_ (some 25) rfl rfl Try.func15 (by kernel_rfl) rfl #[.slice A0 l0.length c0, .int .i64 a1, .bool a3] rfl (by (try simp only [List.map_toArray, List.map_cons, List.map_nil]); first | done | rfl | (simp only [List.length_drop, List.length_take]; rfl)) ?_; (with_reducible refine (bits_Set.calls k _ _ l0 a1 a3 t125 t126 _ ?side1 ?side2 A7.out).mono ?_); (case side1 => repeat (first | exact (Kd.C_below HR0.out HB.out) | (with_reducible refine Kd.C_alloc ?_ _) | (with_reducible refine Kd.C_drewN ?_ _) | (with_reducible refine Kd.C_drew ?_))); (case side2 => exact HC0.out); rintro e w32 ⟨v127, rfl, ho0, hb⟩; refine ⟨_, rfl, ?_⟩; have n0_ := Aside0.mk (Kd.R_lower ho0 (below_size (by repeat (first | (with_reducible first | exact HB.out | apply below_alloc | apply pw_below_drewN | apply below_drew1) | exact HB.out)))); have n1_ := Aside0.mk (below_step (by repeat (first | (with_reducible first | exact HB.out | apply below_alloc | apply pw_below_drewN | apply below_drew1) | exact HB.out)) hb); clear HB; have HO128 := n0_; have HB := n1_; clear n0_ n1_; (try clear hb); (try clear hb2); (try clear hk); (try clear hi); (try clear ho0); obtain ⟨Ao33, co33, eo33⟩ := Kd.R_slice HO128.out; subst eo33))
        go_ret
        exact ⟨by first | rfl | (simp [errW_none, errW_some] <;> rfl) | (simp [*, errW_none, errW_some] <;> rfl), by repeat (first | (with_reducible first | exact HB.out | apply below_alloc | apply pw_below_drewN | apply below_drew1) | exact HB.out)⟩
      · rw [if_neg c30] at H
        have c30b0 : (t126 == 2) = false := beq_eq_false_iff_ne.mpr c30
        have c30b1 : (t126 != 2) = true := bne_iff_ne.mpr c30
        obtain rfl := Option.some.inj H
        go_enter Try.func5, Try.ntmps5
        go_wp2_with (first | ((with_reducible refine gate_callee (f := 9) rfl ?_); refine goesL_ (some 19) rfl rfl Try.func9 (by kernel_rfl) rfl #[] rfl (by (try simp only [List.map_toArray, List.map_cons, List.map_nil]); first | done | rfl | (simp only [List.length_drop, List.length_take]; rfl)) ?_; (with_reducible refine (skerrylaw04_wakes.calls k  true _ A5.out).mono ?_); rintro e w34 ⟨rfl, hb⟩; refine ⟨_, rfl, ?_⟩; have n0_ := Aside0.mk (below_step (by repeat (first | (with_reducible first | exact HB.out | apply below_alloc | apply pw_below_drewN | apply below_drew1) | exact HB.out)) hb); clear HB; have HB := n0_; clear n0_; (try clear hb); (try clear hb2); (try clear hk); (try clear hi)) | ((with_reducible refine gate_callee (f := 15) rfl ?_); refine goesL_ (some 25) rfl rfl Try.func15 (by kernel_rfl) rfl #[.slice A0 l0.length c0, .int .i64 a1, .bool a3] rfl (by (try simp only [List.map_toArray, List.map_cons, List.map_nil]); first | done | rfl | (simp only [List.length_drop, List.length_take]; rfl)) ?_; (with_reducible refine (bits_Set.calls k _ _ l0 a1 a3 t125 t126 _ ?side1 ?side2 A7.out).mono ?_); (case side1 => repeat (first | exact (Kd.C_below HR0.out HB.out) | (with_reducible refine Kd.C_alloc ?_ _) | (with_reducible refine Kd.C_drewN ?_ _) | (with_reducible refine Kd.C_drew ?_))); (case side2 => exact HC0.out); rintro e w35 ⟨v127, rfl, ho0, hb⟩; refine ⟨_, rfl, ?_⟩; have n0_ := Aside0.mk (Kd.R_lower ho0 (below_size (by repeat (first | (with_reducible first | exact HB.out | apply below_alloc | apply pw_below_drewN | apply below_drew1) | exact HB.out)))); have n1_ := Aside0.mk (below_step (by repeat (first | (with_reducible first | exact HB.out | apply below_alloc | apply pw_below_drewN | apply below_drew1) | exact HB.out)) hb); clear HB; have HO128 := n0_; have HB := n1_; clear n0_ n1_; (try clear hb); (try clear hb2); (try clear hk); (try clear hi); (try clear ho0)))
        go_ret
        exact ⟨by first | rfl | (simp [errW_none, errW_some] <;> rfl) | (simp [*, errW_none, errW_some] <;> rfl), by repeat (first | (with_reducible first | exact HB.out | apply below_alloc | apply pw_below_drewN | apply below_drew1) | exact HB.out)⟩
  · replace c6 := Bool.eq_false_iff.mpr c6
    subst c6
    have H1 : (some false) = some r := by rw [if_neg (show ¬ (false = true) by decide)] at H; exact H
    clear H
    have H := H1
    clear H1
    obtain rfl := Option.some.inj H
    go_enter Try.func5, Try.ntmps5
    go_wp2_with (first | ((with_reducible refine gate_callee (f := 9) rfl ?_); refine goesL_ (some 19) rfl rfl Try.func9 (by kernel_rfl) rfl #[] rfl (by (try simp only [List.map_toArray, List.map_cons, List.map_nil]); first | done | rfl | (simp only [List.length_drop, List.length_take]; rfl)) ?_; (with_reducible refine (skerrylaw04_wakes.calls k  false _ A5.out).mono ?_); rintro e w36 ⟨rfl, hb⟩; refine ⟨_, rfl, ?_⟩; have n0_ := Aside0.mk (below_step (by repeat (first | (with_reducible first | exact HB.out | apply below_alloc | apply pw_below_drewN | apply below_drew1) | exact HB.out)) hb); clear HB; have HB := n0_; clear n0_; (try clear hb); (try clear hb2); (try clear hk); (try clear hi)))
    go_ret
    exact ⟨by first | rfl | (simp [errW_none, errW_some] <;> rfl) | (simp [*, errW_none, errW_some] <;> rfl), by repeat (first | (with_reducible first | exact HB.out | apply below_alloc | apply pw_below_drewN | apply below_drew1) | exact HB.out)⟩

/-- THE ONE PURE STATEMENT of skerrylaw04_BitsTurns: yours. -/
def skerrylaw04_BitsTurns.Pure : Prop := ∀ (l0 : List Int) (a1 : Int) (a2 : Int) (a3 : Bool), l0.length ≤ maxLen → l0.length * 1 ≤ 140737488351232 → (∀ x ∈ l0, (Lit.int .u8 x).wf = true) → (Lit.int .i64 a1).wf = true → (Lit.int .i64 a2).wf = true → ∃ k, skerrylaw04_BitsTurns.f k l0 a1 a2 a3 = some true
theorem skerrylaw04_BitsTurns.walk (P : skerrylaw04_BitsTurns.Pure) (a0 : Option Addr) (len0 cap0 : Nat) (z0 : List Int) (a1 : Int) (a2 : Int) (a3 : Bool) (w : World) (w0 : (a0 = none ∧ len0 = 0 ∧ cap0 = 0 ∧ z0 = []) ∨ ∃ x, a0 = some x ∧ len0 ≤ cap0 ∧ cap0 ≤ maxLen ∧ z0.length = cap0 ∧ (∀ i, i < z0.length → w.cell? (x.add i) = some (.int .u8 (z0.getD i 0))) ∧ ∀ n ∈ z0, (Lit.int .u8 n).wf = true) (y0 : len0 * 1 ≤ 140737488351232) (w1 : (Lit.int .i64 a1).wf = true) (w2 : (Lit.int .i64 a2).wf = true) :
    Calls Try.prog 5 #[.slice a0 len0 cap0, .int .i64 a1, .int .i64 a2, .bool a3] w fun e w' => e = .returned (.bool true) ∧ Below w.heap.size w w' := by
  obtain ⟨l0, rfl, hr0, hm0, hw0, hc0⟩ := ReadsInt.ofRowC w0
  obtain ⟨k, h⟩ := P l0 a1 a2 a3 hm0 y0 hw0 w1 w2
  refine (skerrylaw04_BitsTurns.calls k _ _ l0 a1 a2 a3 true w (Kd.C_of_reads (d := (0 : Int)) (h1 := fun _ => rfl) hr0) hc0 h).mono ?_
  rintro e w' ⟨rfl, hd⟩
  exact ⟨rfl, hd⟩

end Go.Proofs.Ytmjgmompcaanlab.PBitsTurns
