-- Written by this session's own tool (prn.py) over the kit's printer; its templates are the session's own. Lean checks it.
import Derived.Test.YtmjgmompcaanlacPCrcBackx0
import Derived.Test.YtmjgmompcaanlacPCrcBackx1
import Derived.Test.YtmjgmompcaanlacPCrcBackx2
import Derived.Test.YtmjgmompcaanlacPCrcBackx3
namespace Go.Proofs.Ytmjgmompcaanlac.PCrcBack
open Go.RowKit Go.Proofs.YtmjgmompcaanlacW.PrintWords Go.Proofs.YtmjgmompcaanlacW.PrintLast Go.Proofs.YtmjgmompcaanlacW.PrintMore
attribute [local go_sem] max2_int min2_int max_two min_two max_three min_three max_four min_four   -- for this text's walks alone
set_option linter.unusedVariables false
set_option linter.unusedSimpArgs false

/-! ### skerrylaw02_CrcBack: function 7 -/
mutual
def skerrylaw02_CrcBack.j0 : Nat → List Int → List Int → Int → Int → List Int → List Int → Bool → Option (Bool)
  | 0, _, _, _, _, _, _, _ => none
  | k + 1, x0, x1, x2, x3, x9, x11, x36 => if x36 = true then (if (x0.length : Int) > 65535 then (some true) else (some (decide ((x1.length : Int) > 65535)))) else ((some (([] : List Int) : List Int)).bind fun y149 => (if y149.length + x9.length < 140737488355328 then ((some (y149 ++ x9 : List Int)).bind fun y152 => (if y152.length + x11.length < 140737488355328 then ((some (y152 ++ x11 : List Int)).bind fun y155 => ((crc_Unframe.f k y155 0).bind fun bt158 => ((crc_Unframe.f k y155 (x9.length : Int)).bind fun bt163 => (if bt158.2.2 = 0 then (if bt163.2.2 = 0 then (if bt158.2.1 = (x9.length : Int) then (if bt163.2.1 = (y155.length : Int) then ((skerryref01_SameBytes.f bt158.1 x0).bind fun t168 => (if t168 = true then ((skerryref01_SameBytes.f bt163.1 x1).bind fun t169 => (if t169 = true then (skerrylaw02_CrcBack.j1 k x2 x3 x9 ((x9.length : Int) != (wrap64 ((x0.length : Int) + 6)))) else (skerrylaw02_CrcBack.j1 k x2 x3 x9 true))) else (skerrylaw02_CrcBack.j1 k x2 x3 x9 true))) else (skerrylaw02_CrcBack.j1 k x2 x3 x9 true)) else (skerrylaw02_CrcBack.j1 k x2 x3 x9 true)) else (skerrylaw02_CrcBack.j1 k x2 x3 x9 true)) else (skerrylaw02_CrcBack.j1 k x2 x3 x9 true))))) else (none))) else (none)))
def skerrylaw02_CrcBack.j1 : Nat → Int → Int → List Int → Bool → Option (Bool)
  | 0, _, _, _, _ => none
  | k + 1, x2, x3, x9, x101 => if x101 = true then (some false) else (if x2 < 0 then (skerrylaw02_CrcBack.j2 k x2 x3 x9 true) else (skerrylaw02_CrcBack.j2 k x2 x3 x9 (decide (x2 ≥ (x9.length : Int)))))
def skerrylaw02_CrcBack.j2 : Nat → Int → Int → List Int → Bool → Option (Bool)
  | 0, _, _, _, _ => none
  | k + 1, x2, x3, x9, x109 => if x109 = true then (some true) else (if 0 ≤ x2 then (if x2 ≤ (x9.length : Int) then ((crc_Unframe.f k (x9.take (x2 : Int).toNat) 0).bind fun bt174 => (if bt174.2.2 = 21 then (if x3 = 0 then (some true) else (if x2 < 2 then (some true) else ((some (([] : List Int) : List Int)).bind fun y179 => (if y179.length + x9.length < 140737488355328 then ((some (y179 ++ x9 : List Int)).bind fun y182 => (if x2 < (y182.length : Int) then ((crc_Unframe.f k (y182.set (x2 : Int).toNat (Go.bits .xor .u8 (rd y182 x2) x3)) 0).bind fun bt187 => (some (bt187.2.2 == 20))) else (none))) else (none))))) else (some false))) else (none)) else (none))
end
def skerrylaw02_CrcBack.f (k : Nat) (l0 : List Int) (l1 : List Int) (a2 : Int) (a3 : Int) : Option (Bool) := (skerrylaw02_wakes.f).bind fun t140 => (if t140 = true then ((crc_Frame.f l0).bind fun bt141 => ((crc_Frame.f l1).bind fun bt145 => (if bt141.2 = 0 then (skerrylaw02_CrcBack.j0 k l0 l1 a2 a3 bt141.1 bt145.1 (bt145.2 != 0)) else (skerrylaw02_CrcBack.j0 k l0 l1 a2 a3 bt141.1 bt145.1 true)))) else (some false))
theorem skerrylaw02_CrcBack.mono_l : ∀ k, (∀ y0 y1 y2 y3 y4 y5 y6, LeO (skerrylaw02_CrcBack.j0 k y0 y1 y2 y3 y4 y5 y6) (skerrylaw02_CrcBack.j0 (k + 1) y0 y1 y2 y3 y4 y5 y6)) ∧ (∀ y0 y1 y2 y3, LeO (skerrylaw02_CrcBack.j1 k y0 y1 y2 y3) (skerrylaw02_CrcBack.j1 (k + 1) y0 y1 y2 y3)) ∧ (∀ y0 y1 y2 y3, LeO (skerrylaw02_CrcBack.j2 k y0 y1 y2 y3) (skerrylaw02_CrcBack.j2 (k + 1) y0 y1 y2 y3))
  | 0 => ⟨fun _ _ _ _ _ _ _ r h => by simp [skerrylaw02_CrcBack.j0] at h, fun _ _ _ _ r h => by simp [skerrylaw02_CrcBack.j1] at h, fun _ _ _ _ r h => by simp [skerrylaw02_CrcBack.j2] at h⟩
  | k + 1 => by
    obtain ⟨ih0, ih1, ih2⟩ := skerrylaw02_CrcBack.mono_l k
    refine ⟨?_, ?_, ?_⟩
    · intro y0 y1 y2 y3 y4 y5 y6
      unfold skerrylaw02_CrcBack.j0
      repeat' first
      | (with_reducible exact ih0 _ _ _ _ _ _ _)
      | (with_reducible exact ih1 _ _ _ _)
      | (with_reducible exact ih2 _ _ _ _)
      | (with_reducible exact crc_Unframe.mono _ _ _)
      | (with_reducible exact LeO.refl _)
      | (with_reducible exact LeO.none _)
      | (with_reducible refine LeO.ite ?_ ?_)
      | (with_reducible refine LeO.bind ?_ (fun _ => ?_))
      | exact ih0 _ _ _ _ _ _ _
      | exact ih1 _ _ _ _
      | exact ih2 _ _ _ _
      | exact crc_Unframe.mono _ _ _
      | exact LeO.none _
      | refine LeO.ite ?_ ?_
      | refine LeO.bind ?_ (fun _ => ?_)
    · intro y0 y1 y2 y3
      unfold skerrylaw02_CrcBack.j1
      repeat' first
      | (with_reducible exact ih0 _ _ _ _ _ _ _)
      | (with_reducible exact ih1 _ _ _ _)
      | (with_reducible exact ih2 _ _ _ _)
      | (with_reducible exact crc_Unframe.mono _ _ _)
      | (with_reducible exact LeO.refl _)
      | (with_reducible exact LeO.none _)
      | (with_reducible refine LeO.ite ?_ ?_)
      | (with_reducible refine LeO.bind ?_ (fun _ => ?_))
      | exact ih0 _ _ _ _ _ _ _
      | exact ih1 _ _ _ _
      | exact ih2 _ _ _ _
      | exact crc_Unframe.mono _ _ _
      | exact LeO.none _
      | refine LeO.ite ?_ ?_
      | refine LeO.bind ?_ (fun _ => ?_)
    · intro y0 y1 y2 y3
      unfold skerrylaw02_CrcBack.j2
      repeat' first
      | (with_reducible exact ih0 _ _ _ _ _ _ _)
      | (with_reducible exact ih1 _ _ _ _)
      | (with_reducible exact ih2 _ _ _ _)
      | (with_reducible exact crc_Unframe.mono _ _ _)
      | (with_reducible exact LeO.refl _)
      | (with_reducible exact LeO.none _)
      | (with_reducible refine LeO.ite ?_ ?_)
      | (with_reducible refine LeO.bind ?_ (fun _ => ?_))
      | exact ih0 _ _ _ _ _ _ _
      | exact ih1 _ _ _ _
      | exact ih2 _ _ _ _
      | exact crc_Unframe.mono _ _ _
      | exact LeO.none _
      | refine LeO.ite ?_ ?_
      | refine LeO.bind ?_ (fun _ => ?_)
theorem skerrylaw02_CrcBack.mono : ∀ a0 a1 a2 a3 k, LeO (skerrylaw02_CrcBack.f k a0 a1 a2 a3) (skerrylaw02_CrcBack.f (k + 1) a0 a1 a2 a3) := by
  intro a0 a1 a2 a3 k
  obtain ⟨ih0, ih1, ih2⟩ := skerrylaw02_CrcBack.mono_l k
  unfold skerrylaw02_CrcBack.f
  repeat' first
      | (with_reducible exact ih0 _ _ _ _ _ _ _)
      | (with_reducible exact ih1 _ _ _ _)
      | (with_reducible exact ih2 _ _ _ _)
      | (with_reducible exact crc_Unframe.mono _ _ _)
      | (with_reducible exact LeO.refl _)
      | (with_reducible exact LeO.none _)
      | (with_reducible refine LeO.ite ?_ ?_)
      | (with_reducible refine LeO.bind ?_ (fun _ => ?_))
      | exact ih0 _ _ _ _ _ _ _
      | exact ih1 _ _ _ _
      | exact ih2 _ _ _ _
      | exact crc_Unframe.mono _ _ _
      | exact LeO.none _
      | refine LeO.ite ?_ ?_
      | refine LeO.bind ?_ (fun _ => ?_)
set_option maxHeartbeats 8000000 in
set_option maxRecDepth 100000 in
theorem skerrylaw02_CrcBack.calls (k : Nat) (A0 : Option Addr) (c0 : Nat) (l0 : List Int) (A1 : Option Addr) (c1 : Nat) (l1 : List Int) (a2 : Int) (a3 : Int) (r : Bool) (w : World) (hr0 : Kd.C (Kd.int .u8) w A0 l0.length l0) (hc0 : l0.length ≤ c0) (hr1 : Kd.C (Kd.int .u8) w A1 l1.length l1) (hc1 : l1.length ≤ c1) (h : skerrylaw02_CrcBack.f k l0 l1 a2 a3 = some r) :
    Calls Try.prog 7 #[.slice A0 l0.length c0, .slice A1 l1.length c1, .int .i64 a2, .int .u8 a3] w fun e w' => e = .returned (.bool r) ∧ Below w.heap.size w w' := by
  have HR0 := Aside0.mk hr0
  have HC0 := Aside0.mk hc0
  clear hr0 hc0
  have HR1 := Aside0.mk hr1
  have HC1 := Aside0.mk hc1
  clear hr1 hc1
  have HB := Aside0.mk (Below.refl w.heap.size w)
  have H : ((skerrylaw02_wakes.f).bind fun t140 => (if t140 = true then ((crc_Frame.f l0).bind fun bt141 => ((crc_Frame.f l1).bind fun bt145 => (if bt141.2 = 0 then (skerrylaw02_CrcBack.j0 k l0 l1 a2 a3 bt141.1 bt145.1 (bt145.2 != 0)) else (skerrylaw02_CrcBack.j0 k l0 l1 a2 a3 bt141.1 bt145.1 true)))) else (some false))) = some r := h
  clear h
  replace H := Option.bind_eq_some_iff.mp H
  obtain ⟨t140, A50, H⟩ := H
  replace H : (if t140 = true then ((crc_Frame.f l0).bind fun bt141 => ((crc_Frame.f l1).bind fun bt145 => (if bt141.2 = 0 then (skerrylaw02_CrcBack.j0 k l0 l1 a2 a3 bt141.1 bt145.1 (bt145.2 != 0)) else (skerrylaw02_CrcBack.j0 k l0 l1 a2 a3 bt141.1 bt145.1 true)))) else (some false)) = some r := H
  have A5 := Aside0.mk A50
  clear A50
  by_cases c6 : t140 = true
  · subst c6
    have H1 : ((crc_Frame.f l0).bind fun bt141 => ((crc_Frame.f l1).bind fun bt145 => (if bt141.2 = 0 then (skerrylaw02_CrcBack.j0 k l0 l1 a2 a3 bt141.1 bt145.1 (bt145.2 != 0)) else (skerrylaw02_CrcBack.j0 k l0 l1 a2 a3 bt141.1 bt145.1 true)))) = some r := by rw [if_pos rfl] at H; exact H
    clear H
    have H := H1
    clear H1
    replace H := Option.bind_eq_some_iff.mp H
    obtain ⟨⟨t141, t144⟩, A70, H⟩ := H
    replace H : ((crc_Frame.f l1).bind fun bt145 => (if t144 = 0 then (skerrylaw02_CrcBack.j0 k l0 l1 a2 a3 t141 bt145.1 (bt145.2 != 0)) else (skerrylaw02_CrcBack.j0 k l0 l1 a2 a3 t141 bt145.1 true))) = some r := H
    have A7 := Aside0.mk A70
    clear A70
    replace H := Option.bind_eq_some_iff.mp H
    obtain ⟨⟨t145, t148⟩, A80, H⟩ := H
    replace H : (if t144 = 0 then (skerrylaw02_CrcBack.j0 k l0 l1 a2 a3 t141 t145 (t148 != 0)) else (skerrylaw02_CrcBack.j0 k l0 l1 a2 a3 t141 t145 true)) = some r := H
    have A8 := Aside0.mk A80
    clear A80
    have HC9 := Aside0.mk H
    clear H
    go_enter Try.func7, Try.ntmps7
    go_upto_region 5 with (first | ((with_reducible refine gate_callee (f := 9) rfl ?_); refine goesL_ (some 19) rfl rfl Try.func9 (by kernel_rfl) rfl #[] rfl (by (try simp only [List.map_toArray, List.map_cons, List.map_nil]); first | done | rfl | (simp only [List.length_drop, List.length_take]; rfl) | (simp only [Int.toNat_natCast, Nat.sub_self, List.length_drop, List.length_take]; rfl)) ?_; (with_reducible refine (skerrylaw02_wakes.calls  true _ A5.out).mono ?_); rintro e w10 ⟨rfl, hb⟩; refine ⟨_, rfl, ?_⟩; have n0_ := Aside0.mk (below_step (by repeat (first | (with_reducible first | exact HB.out | apply below_alloc | apply pw_below_drewN | apply below_drew1) | exact HB.out)) hb); clear HB; have HB := n0_; clear n0_; (try clear hb); (try clear hb2); (try clear hk); (try clear hi)) | ((with_reducible refine gate_callee (f := 14) rfl ?_); refine goesL_ (some 23) rfl rfl Try.func14 (by kernel_rfl) rfl #[.slice A0 l0.length c0] rfl (by (try simp only [List.map_toArray, List.map_cons, List.map_nil]); first | done | rfl | (simp only [List.length_drop, List.length_take]; rfl) | (simp only [Int.toNat_natCast, Nat.sub_self, List.length_drop, List.length_take]; rfl)) ?_; (with_reducible refine (crc_Frame.calls (fun k_ => k_ < w.heap.size) _ _ l0 t141 t144 _ ?side1 A7.out).mono ?_); (case side1 => exact Kd.V_mk HC0.out (Kd.F_below (Kd.C_F (Kd.heap_int .u8) HR0.out) (by repeat (first | (with_reducible first | exact HB.out | apply below_alloc | apply pw_below_drewN | apply below_drew1) | exact HB.out)))); rintro e w11 ⟨v142, rfl, ho0, hb⟩; refine ⟨_, rfl, ?_⟩; have n0_ := Aside0.mk (Kd.R_lower (Kd.R_mono (ok' := fun k_ => True) ho0 (fun _ hk_ => trivial)) (below_size (by repeat (first | (with_reducible first | exact HB.out | apply below_alloc | apply pw_below_drewN | apply below_drew1) | exact HB.out)))); have n1_ := Aside0.mk (below_step (by repeat (first | (with_reducible first | exact HB.out | apply below_alloc | apply pw_below_drewN | apply below_drew1) | exact HB.out)) hb); clear HB; have HO143 := n0_; have HB := n1_; clear n0_ n1_; (try clear hb); (try clear hb2); (try clear hk); (try clear hi); (try clear ho0)) | ((with_reducible refine gate_callee (f := 14) rfl ?_); refine goesL_ (some 28) rfl rfl Try.func14 (by kernel_rfl) rfl #[.slice A1 l1.length c1] rfl (by (try simp only [List.map_toArray, List.map_cons, List.map_nil]); first | done | rfl | (simp only [List.length_drop, List.length_take]; rfl) | (simp only [Int.toNat_natCast, Nat.sub_self, List.length_drop, List.length_take]; rfl)) ?_; (with_reducible refine (crc_Frame.calls (fun k_ => k_ < w.heap.size) _ _ l1 t145 t148 _ ?side1 A8.out).mono ?_); (case side1 => exact Kd.V_mk HC1.out (Kd.F_below (Kd.C_F (Kd.heap_int .u8) HR1.out) (by repeat (first | (with_reducible first | exact HB.out | apply below_alloc | apply pw_below_drewN | apply below_drew1) | exact HB.out)))); rintro e w12 ⟨v146, rfl, ho0, hb⟩; refine ⟨_, rfl, ?_⟩; have n0_ := Aside0.mk (Kd.R_elder' (by (with_reducible repeat (first | apply Kd.R_alloc | apply Kd.R_drewN | apply Kd.R_drew)); exact HO143.out) (Kd.R_base ho0) hb); have n1_ := Aside0.mk (Kd.R_lower (Kd.R_new' (Kd.R_mono (ok' := fun k_ => True) ho0 (fun _ hk_ => trivial)) (Kd.R_lt (by (with_reducible repeat (first | apply Kd.R_alloc | apply Kd.R_drewN | apply Kd.R_drew)); exact HO143.out))) (below_size (by repeat (first | (with_reducible first | exact HB.out | apply below_alloc | apply pw_below_drewN | apply below_drew1) | exact HB.out)))); have n2_ := Aside0.mk (below_step (by repeat (first | (with_reducible first | exact HB.out | apply below_alloc | apply pw_below_drewN | apply below_drew1) | exact HB.out)) hb); clear HO143; clear HB; have HO143 := n0_; have HO147 := n1_; have HB := n2_; clear n0_ n1_ n2_; (try clear hb); (try clear hb2); (try clear hk); (try clear hi); (try clear ho0)))
    (try simp only [Act.put, List.setIfInBounds_toArray, List.set_cons_zero, List.set_cons_succ])
    go_cut [36] (fun v36 wc => ∃ (kq : Nat) (x36_8 : Bool), v36 = .bool x36_8 ∧ Aside0 (skerrylaw02_CrcBack.j0 kq l0 l1 a2 a3 t141 t145 x36_8 = some r) ∧ Aside0 (kq ≤ k) ∧ Aside0 (Kd.R (Kd.int .u8) 5 wc w.heap.size (fun k_ => some k_ ≠ (v146 : Value).ownBlock) v142 t141) ∧ Aside0 (Kd.R (Kd.int .u8) 5 wc w.heap.size (fun k_ => some k_ ≠ (v142 : Value).ownBlock) v146 t145) ∧ Aside0 (Below w.heap.size w wc))
    case first =>
      have H := HC9.out
      clear HC9
      by_cases c13 : t144 = 0
      · rw [if_pos c13] at H
        have c13b0 : (t144 == 0) = true := beq_iff_eq.mpr c13
        have c13b1 : (t144 != 0) = false := bne_eq_false_iff_eq.mpr c13
        clear c13
        (first | rw [c13b0] | (simp only [i64_w, i32_w]; rw [c13b0]) | rw [c13b1] | skip)
        have H' := Aside0.mk H
        clear H
        go_wp2
        go_meet
        case rel => exact ⟨_, ((t148 != 0)), (by first | rfl | (simp; done) | (simp [*]; done)), H', ⟨by first | omega | exact Nat.le_refl _⟩, ⟨by (with_reducible repeat (first | apply Kd.R_alloc | apply Kd.R_drewN | apply Kd.R_drew)); exact Kd.R_mono HO143.out (fun _ hk => hk.2)⟩, ⟨by (with_reducible repeat (first | apply Kd.R_alloc | apply Kd.R_drewN | apply Kd.R_drew)); exact Kd.R_mono HO147.out (fun _ hk => hk.2)⟩, ⟨by repeat (first | (with_reducible first | exact HB.out | apply below_alloc | apply pw_below_drewN | apply below_drew1) | exact HB.out)⟩⟩
      · rw [if_neg c13] at H
        have c13b0 : (t144 == 0) = false := beq_eq_false_iff_ne.mpr c13
        have c13b1 : (t144 != 0) = true := bne_iff_ne.mpr c13
        (first | rw [c13b0] | (simp only [i64_w, i32_w]; rw [c13b0]) | rw [c13b1] | skip)
        have H' := Aside0.mk H
        clear H
        go_wp2
        go_meet
        case rel => exact ⟨_, (true), (by first | rfl | (simp; done) | (simp [*]; done)), H', ⟨by first | omega | exact Nat.le_refl _⟩, ⟨by (with_reducible repeat (first | apply Kd.R_alloc | apply Kd.R_drewN | apply Kd.R_drew)); exact Kd.R_mono HO143.out (fun _ hk => hk.2)⟩, ⟨by (with_reducible repeat (first | apply Kd.R_alloc | apply Kd.R_drewN | apply Kd.R_drew)); exact Kd.R_mono HO147.out (fun _ hk => hk.2)⟩, ⟨by repeat (first | (with_reducible first | exact HB.out | apply below_alloc | apply pw_below_drewN | apply below_drew1) | exact HB.out)⟩⟩
    case rest =>
      clear HC9
      try clear c1
      try clear p2
      try clear c6
      try clear c7
      try clear c9
      try clear c13
      try clear c13b0
      try clear c13b1
      obtain ⟨kq, x36_8, rfl, HA, HJ8, HO_9, HO_11, HB⟩ := hcut
      cases kq with
      | zero => exact absurd HA.out (by simp [skerrylaw02_CrcBack.j0])
      | succ kj8 =>
        have H := HA.out
        clear HA
        simp only [skerrylaw02_CrcBack.j0] at H
        by_cases c14 : x36_8 = true
        · subst c14
          have H1 : (if (l0.length : Int) > 65535 then (some true) else (some (decide ((l1.length : Int) > 65535)))) = some r := by rw [if_pos rfl] at H; exact H
          clear H
          have H := H1
          clear H1
          by_cases c15 : (l0.length : Int) > 65535
          · rw [if_pos c15] at H
            have c15b0 : decide (65535 < (l0.length : Int)) = true := decide_eq_true c15
            have c15b1 : decide (65535 < l0.length) = true := decide_eq_true (by omega)
            clear c15
            obtain rfl := Option.some.inj H
            go_wp2
            go_ret
            exact ⟨by first | rfl | (simp [errW_none, errW_some] <;> rfl) | (simp [*, errW_none, errW_some] <;> rfl), by repeat (first | (with_reducible first | exact HB.out | apply below_alloc | apply pw_below_drewN | apply below_drew1) | exact HB.out)⟩
          · rw [if_neg c15] at H
            have c15b0 : decide (65535 < (l0.length : Int)) = false := decide_eq_false c15
            have c15b1 : decide (65535 < l0.length) = false := decide_eq_false (by omega)
            clear c15
            obtain rfl := Option.some.inj H
            go_wp2
            go_ret
            exact ⟨by first | rfl | (simp [errW_none, errW_some] <;> rfl) | (simp [*, errW_none, errW_some] <;> rfl), by repeat (first | (with_reducible first | exact HB.out | apply below_alloc | apply pw_below_drewN | apply below_drew1) | exact HB.out)⟩
        · replace c14 := Bool.eq_false_iff.mpr c14
          subst c14
          have H1 : ((some (([] : List Int) : List Int)).bind fun y149 => (if y149.length + t141.length < 140737488355328 then ((some (y149 ++ t141 : List Int)).bind fun y152 => (if y152.length + t145.length < 140737488355328 then ((some (y152 ++ t145 : List Int)).bind fun y155 => ((crc_Unframe.f kj8 y155 0).bind fun bt158 => ((crc_Unframe.f kj8 y155 (t141.length : Int)).bind fun bt163 => (if bt158.2.2 = 0 then (if bt163.2.2 = 0 then (if bt158.2.1 = (t141.length : Int) then (if bt163.2.1 = (y155.length : Int) then ((skerryref01_SameBytes.f bt158.1 l0).bind fun t168 => (if t168 = true then ((skerryref01_SameBytes.f bt163.1 l1).bind fun t169 => (if t169 = true then (skerrylaw02_CrcBack.j1 kj8 a2 a3 t141 ((t141.length : Int) != (wrap64 ((l0.length : Int) + 6)))) else (skerrylaw02_CrcBack.j1 kj8 a2 a3 t141 true))) else (skerrylaw02_CrcBack.j1 kj8 a2 a3 t141 true))) else (skerrylaw02_CrcBack.j1 kj8 a2 a3 t141 true)) else (skerrylaw02_CrcBack.j1 kj8 a2 a3 t141 true)) else (skerrylaw02_CrcBack.j1 kj8 a2 a3 t141 true)) else (skerrylaw02_CrcBack.j1 kj8 a2 a3 t141 true))))) else (none))) else (none))) = some r := by rw [if_neg (show ¬ (false = true) by decide)] at H; exact H
          clear H
          have H := H1
          clear H1
          obtain ⟨y149, hy149⟩ : ∃ y_ : List Int, y_ = (([] : List Int)) := ⟨_, rfl⟩
          replace H : (if y149.length + t141.length < 140737488355328 then ((some (y149 ++ t141 : List Int)).bind fun y152 => (if y152.length + t145.length < 140737488355328 then ((some (y152 ++ t145 : List Int)).bind fun y155 => ((crc_Unframe.f kj8 y155 0).bind fun bt158 => ((crc_Unframe.f kj8 y155 (t141.length : Int)).bind fun bt163 => (if bt158.2.2 = 0 then (if bt163.2.2 = 0 then (if bt158.2.1 = (t141.length : Int) then (if bt163.2.1 = (y155.length : Int) then ((skerryref01_SameBytes.f bt158.1 l0).bind fun t168 => (if t168 = true then ((skerryref01_SameBytes.f bt163.1 l1).bind fun t169 => (if t169 = true then (skerrylaw02_CrcBack.j1 kj8 a2 a3 t141 ((t141.length : Int) != (wrap64 ((l0.length : Int) + 6)))) else (skerrylaw02_CrcBack.j1 kj8 a2 a3 t141 true))) else (skerrylaw02_CrcBack.j1 kj8 a2 a3 t141 true))) else (skerrylaw02_CrcBack.j1 kj8 a2 a3 t141 true)) else (skerrylaw02_CrcBack.j1 kj8 a2 a3 t141 true)) else (skerrylaw02_CrcBack.j1 kj8 a2 a3 t141 true)) else (skerrylaw02_CrcBack.j1 kj8 a2 a3 t141 true))))) else (none))) else (none)) = some r := by first | (rw [hy149]; with_reducible exact H) | (have H2_ := (Option.bind_some _ _).symm.trans H; rw [hy149]; with_reducible exact H2_) | (have H2_ := (Option.bind_some _ _).symm.trans H; with_reducible exact H2_) | with_reducible exact H | (rw [hy149]; exact H) | exact H
          have Ny149 := Aside0.mk hy149
          clear hy149
          by_cases c16 : y149.length + t141.length < 140737488355328
          · rw [if_pos c16] at H
            have LMc16 := Aside0.mk c16
            clear c16
            obtain ⟨y152, hy152⟩ : ∃ y_ : List Int, y_ = (y149 ++ t141) := ⟨_, rfl⟩
            replace H : (if y152.length + t145.length < 140737488355328 then ((some (y152 ++ t145 : List Int)).bind fun y155 => ((crc_Unframe.f kj8 y155 0).bind fun bt158 => ((crc_Unframe.f kj8 y155 (t141.length : Int)).bind fun bt163 => (if bt158.2.2 = 0 then (if bt163.2.2 = 0 then (if bt158.2.1 = (t141.length : Int) then (if bt163.2.1 = (y155.length : Int) then ((skerryref01_SameBytes.f bt158.1 l0).bind fun t168 => (if t168 = true then ((skerryref01_SameBytes.f bt163.1 l1).bind fun t169 => (if t169 = true then (skerrylaw02_CrcBack.j1 kj8 a2 a3 t141 ((t141.length : Int) != (wrap64 ((l0.length : Int) + 6)))) else (skerrylaw02_CrcBack.j1 kj8 a2 a3 t141 true))) else (skerrylaw02_CrcBack.j1 kj8 a2 a3 t141 true))) else (skerrylaw02_CrcBack.j1 kj8 a2 a3 t141 true)) else (skerrylaw02_CrcBack.j1 kj8 a2 a3 t141 true)) else (skerrylaw02_CrcBack.j1 kj8 a2 a3 t141 true)) else (skerrylaw02_CrcBack.j1 kj8 a2 a3 t141 true))))) else (none)) = some r := by first | (rw [hy152]; with_reducible exact H) | (have H2_ := (Option.bind_some _ _).symm.trans H; rw [hy152]; with_reducible exact H2_) | (have H2_ := (Option.bind_some _ _).symm.trans H; with_reducible exact H2_) | with_reducible exact H | (rw [hy152]; exact H) | exact H
            have Ny152 := Aside0.mk hy152
            clear hy152
            by_cases c17 : y152.length + t145.length < 140737488355328
            · rw [if_pos c17] at H
              have LMc17 := Aside0.mk c17
              clear c17
              obtain ⟨y155, hy155⟩ : ∃ y_ : List Int, y_ = (y152 ++ t145) := ⟨_, rfl⟩
              replace H : ((crc_Unframe.f kj8 y155 0).bind fun bt158 => ((crc_Unframe.f kj8 y155 (t141.length : Int)).bind fun bt163 => (if bt158.2.2 = 0 then (if bt163.2.2 = 0 then (if bt158.2.1 = (t141.length : Int) then (if bt163.2.1 = (y155.length : Int) then ((skerryref01_SameBytes.f bt158.1 l0).bind fun t168 => (if t168 = true then ((skerryref01_SameBytes.f bt163.1 l1).bind fun t169 => (if t169 = true then (skerrylaw02_CrcBack.j1 kj8 a2 a3 t141 ((t141.length : Int) != (wrap64 ((l0.length : Int) + 6)))) else (skerrylaw02_CrcBack.j1 kj8 a2 a3 t141 true))) else (skerrylaw02_CrcBack.j1 kj8 a2 a3 t141 true))) else (skerrylaw02_CrcBack.j1 kj8 a2 a3 t141 true)) else (skerrylaw02_CrcBack.j1 kj8 a2 a3 t141 true)) else (skerrylaw02_CrcBack.j1 kj8 a2 a3 t141 true)) else (skerrylaw02_CrcBack.j1 kj8 a2 a3 t141 true)))) = some r := by first | (rw [hy155]; with_reducible exact H) | (have H2_ := (Option.bind_some _ _).symm.trans H; rw [hy155]; with_reducible exact H2_) | (have H2_ := (Option.bind_some _ _).symm.trans H; with_reducible exact H2_) | with_reducible exact H | (rw [hy155]; exact H) | exact H
              have Ny155 := Aside0.mk hy155
              clear hy155
              replace H := Option.bind_eq_some_iff.mp H
              obtain ⟨⟨t158, t159, t160⟩, A180, H⟩ := H
              replace H : ((crc_Unframe.f kj8 y155 (t141.length : Int)).bind fun bt163 => (if t160 = 0 then (if bt163.2.2 = 0 then (if t159 = (t141.length : Int) then (if bt163.2.1 = (y155.length : Int) then ((skerryref01_SameBytes.f t158 l0).bind fun t168 => (if t168 = true then ((skerryref01_SameBytes.f bt163.1 l1).bind fun t169 => (if t169 = true then (skerrylaw02_CrcBack.j1 kj8 a2 a3 t141 ((t141.length : Int) != (wrap64 ((l0.length : Int) + 6)))) else (skerrylaw02_CrcBack.j1 kj8 a2 a3 t141 true))) else (skerrylaw02_CrcBack.j1 kj8 a2 a3 t141 true))) else (skerrylaw02_CrcBack.j1 kj8 a2 a3 t141 true)) else (skerrylaw02_CrcBack.j1 kj8 a2 a3 t141 true)) else (skerrylaw02_CrcBack.j1 kj8 a2 a3 t141 true)) else (skerrylaw02_CrcBack.j1 kj8 a2 a3 t141 true))) = some r := H
              have A18 := Aside0.mk A180
              clear A180
              replace H := Option.bind_eq_some_iff.mp H
              obtain ⟨⟨t163, t164, t165⟩, A190, H⟩ := H
              replace H : (if t160 = 0 then (if t165 = 0 then (if t159 = (t141.length : Int) then (if t164 = (y155.length : Int) then ((skerryref01_SameBytes.f t158 l0).bind fun t168 => (if t168 = true then ((skerryref01_SameBytes.f t163 l1).bind fun t169 => (if t169 = true then (skerrylaw02_CrcBack.j1 kj8 a2 a3 t141 ((t141.length : Int) != (wrap64 ((l0.length : Int) + 6)))) else (skerrylaw02_CrcBack.j1 kj8 a2 a3 t141 true))) else (skerrylaw02_CrcBack.j1 kj8 a2 a3 t141 true))) else (skerrylaw02_CrcBack.j1 kj8 a2 a3 t141 true)) else (skerrylaw02_CrcBack.j1 kj8 a2 a3 t141 true)) else (skerrylaw02_CrcBack.j1 kj8 a2 a3 t141 true)) else (skerrylaw02_CrcBack.j1 kj8 a2 a3 t141 true)) = some r := H
              have A19 := Aside0.mk A190
              clear A190
              have HC20 := Aside0.mk H
              clear H
              go_upto_region 10 with (first | ((with_reducible refine gate_dst (N := 45) rfl ?_); (try (refine gate_guard (by rfl) ?_; dsimp only)); refine Kd.R_lit (Kd.int .u8) _ 5 ?hg (N := 45) ?hd (xs := ([] : List Int)) (inner := []) (ok := fun _ => True) (okp := fun _ => True) ?hr ?hp (fun _ hk => hk) trivial (Below.refl _ _) (Nat.le_refl _) (by simp) ?_; (case hd => rfl); (case hg => rfl); (case hr => first | (go_simp; done) | (go_simp; rfl)); (case hp => exact (Reps.none _ _)); intro v150 w21 ho22 hb hg_ hnew_; clear hg_ hnew_; (first | rw [← Ny149.out] at ho22 | (simp only [Int.reduceToNat] at ho22; rw [← Ny149.out] at ho22)); have n0_ := Aside0.mk (Kd.R_elder' (by (with_reducible repeat (first | apply Kd.R_alloc | apply Kd.R_drewN | apply Kd.R_drew)); exact HO_9.out) (Kd.R_base ho22) hb); have n1_ := Aside0.mk (Kd.R_elder' (by (with_reducible repeat (first | apply Kd.R_alloc | apply Kd.R_drewN | apply Kd.R_drew)); exact HO_11.out) (Kd.R_base ho22) hb); have n2_ := Aside0.mk (Kd.R_lower (Kd.R_new' (Kd.R_new' ho22 (Kd.R_lt (by (with_reducible repeat (first | apply Kd.R_alloc | apply Kd.R_drewN | apply Kd.R_drew)); exact HO_9.out))) (Kd.R_lt (by (with_reducible repeat (first | apply Kd.R_alloc | apply Kd.R_drewN | apply Kd.R_drew)); exact HO_11.out))) (below_size (by repeat (first | (with_reducible first | exact HB.out | apply below_alloc | apply pw_below_drewN | apply below_drew1) | exact HB.out)))); have n3_ := Aside0.mk (below_step (by repeat (first | (with_reducible first | exact HB.out | apply below_alloc | apply pw_below_drewN | apply below_drew1) | exact HB.out)) hb); clear HO_9; clear HO_11; clear HB; have HO_9 := n0_; have HO_11 := n1_; have HO151 := n2_; have HB := n3_; clear n0_ n1_ n2_ n3_; clear hb ho22; obtain ⟨Ao24, co24, eo24⟩ := Kd.R_slice HO_9.out; subst eo24) | ((with_reducible refine gate_builtin (b := .append) (xs := #[.tmp 45, .tmp 46]) rfl ?_); (try (refine gate_guard (by rfl) ?_; dsimp only)); at_builtin; refine Kd.R_append_rows (Kd.int .u8) (w0 := w) w.heap.size rfl (.tmp 45) (.tmp 46) 22 5 (.int .u8 0) 1 rfl Try.underlying22 info5 rfl (by decide) (by omega) v150 y149 t141 _ _ _ (fun k_ => some k_ ≠ (.slice Ao24 t141.length co24 : Value).ownBlock ∧ some k_ ≠ (v146 : Value).ownBlock) (fun _ => False) rfl rfl ?aO ?aR (fun _ _ h => h) (fun _ h => h.elim) ?aF ?aB ?aS ?aL ?_; (case aR => repeat (first | exact (Kd.R_reads' HO_9.out).2.2 | (with_reducible refine Kd.C_alloc ?_ _) | (with_reducible refine Kd.C_drewN ?_ _) | (with_reducible refine Kd.C_drew ?_))); (case aB => exact (by repeat (first | (with_reducible first | exact HB.out | apply below_alloc | apply pw_below_drewN | apply below_drew1) | exact HB.out))); (case aF => exact (fun k_ hk => ⟨Kd.fresh' (Kd.R_lt (by (with_reducible repeat (first | apply Kd.R_alloc | apply Kd.R_drewN | apply Kd.R_drew)); exact HO_9.out)) k_ hk, Kd.fresh' (Kd.R_lt (by (with_reducible repeat (first | apply Kd.R_alloc | apply Kd.R_drewN | apply Kd.R_drew)); exact HO_11.out)) k_ hk⟩)); (case aO => exact (by (with_reducible repeat (first | apply Kd.R_alloc | apply Kd.R_drewN | apply Kd.R_drew)); exact Kd.R_mono HO151.out (fun _ hk => ⟨hk.1.2, hk.2⟩))); (case aS => exact (below_size (by repeat (first | (with_reducible first | exact HB.out | apply below_alloc | apply pw_below_drewN | apply below_drew1) | exact HB.out)))); (case aL => have := LMc16.out; omega); intro v153 w23 ho hb hg hat; rw [← Ny152.out] at ho; have n0_ := Aside0.mk (Kd.R_after (ok := (fun k_ => some k_ ≠ (v146 : Value).ownBlock)) (by (with_reducible repeat (first | apply Kd.R_alloc | apply Kd.R_drewN | apply Kd.R_drew)); exact HO_9.out) hg hat); have n1_ := Aside0.mk (Kd.R_after (ok := (fun k_ => some k_ ≠ (.slice Ao24 t141.length co24 : Value).ownBlock)) (by (with_reducible repeat (first | apply Kd.R_alloc | apply Kd.R_drewN | apply Kd.R_drew)); exact HO_11.out) hg hat); have n2_ := Aside0.mk (hb); have n3_ := Aside0.mk (ho); clear HO_9; clear HO_11; clear HB; clear HO151; have HO_9 := n0_; have HO_11 := n1_; have HB := n2_; have HO154 := n3_; clear n0_ n1_ n2_ n3_; clear ho hb hg hat; obtain ⟨Ao26, co26, eo26⟩ := Kd.R_slice HO_11.out; subst eo26) | ((with_reducible refine gate_builtin (b := .append) (xs := #[.tmp 47, .tmp 48]) rfl ?_); (try (refine gate_guard (by rfl) ?_; dsimp only)); at_builtin; refine Kd.R_append_rows (Kd.int .u8) (w0 := w) w.heap.size rfl (.tmp 47) (.tmp 48) 22 5 (.int .u8 0) 1 rfl Try.underlying22 info5 rfl (by decide) (by omega) v153 y152 t145 _ _ _ (fun k_ => some k_ ≠ (.slice Ao24 t141.length co24 : Value).ownBlock ∧ some k_ ≠ (.slice Ao26 t145.length co26 : Value).ownBlock) (fun _ => False) rfl rfl ?aO ?aR (fun _ _ h => h) (fun _ h => h.elim) ?aF ?aB ?aS ?aL ?_; (case aR => repeat (first | exact (Kd.R_reads' HO_11.out).2.2 | (with_reducible refine Kd.C_alloc ?_ _) | (with_reducible refine Kd.C_drewN ?_ _) | (with_reducible refine Kd.C_drew ?_))); (case aB => exact (by repeat (first | (with_reducible first | exact HB.out | apply below_alloc | apply pw_below_drewN | apply below_drew1) | exact HB.out))); (case aF => exact (fun k_ hk => ⟨Kd.fresh' (Kd.R_lt (by (with_reducible repeat (first | apply Kd.R_alloc | apply Kd.R_drewN | apply Kd.R_drew)); exact HO_9.out)) k_ hk, Kd.fresh' (Kd.R_lt (by (with_reducible repeat (first | apply Kd.R_alloc | apply Kd.R_drewN | apply Kd.R_drew)); exact HO_11.out)) k_ hk⟩)); (case aO => exact (by (with_reducible repeat (first | apply Kd.R_alloc | apply Kd.R_drewN | apply Kd.R_drew)); exact HO154.out)); (case aS => exact (below_size (by repeat (first | (with_reducible first | exact HB.out | apply below_alloc | apply pw_below_drewN | apply below_drew1) | exact HB.out)))); (case aL => have := LMc17.out; omega); intro v156 w25 ho hb hg hat; rw [← Ny155.out] at ho; have n0_ := Aside0.mk (Kd.R_after (ok := (fun k_ => some k_ ≠ (.slice Ao26 t145.length co26 : Value).ownBlock)) (by (with_reducible repeat (first | apply Kd.R_alloc | apply Kd.R_drewN | apply Kd.R_drew)); exact HO_9.out) hg hat); have n1_ := Aside0.mk (Kd.R_after (ok := (fun k_ => some k_ ≠ (.slice Ao24 t141.length co24 : Value).ownBlock)) (by (with_reducible repeat (first | apply Kd.R_alloc | apply Kd.R_drewN | apply Kd.R_drew)); exact HO_11.out) hg hat); have n2_ := Aside0.mk (hb); have n3_ := Aside0.mk (ho); clear HO_9; clear HO_11; clear HB; clear HO154; have HO_9 := n0_; have HO_11 := n1_; have HB := n2_; have HO157 := n3_; clear n0_ n1_ n2_ n3_; clear ho hb hg hat; obtain ⟨Ao27, co27, eo27⟩ := Kd.R_slice HO157.out; subst eo27) | ((with_reducible refine gate_callee (f := 16) rfl ?_); refine goesL_ (some 52) rfl rfl Try.func16 (by kernel_rfl) rfl #[.slice Ao27 y155.length co27, .int .i64 0] rfl (by (try simp only [List.map_toArray, List.map_cons, List.map_nil]); first | done | rfl | (simp only [List.length_drop, List.length_take]; rfl) | (simp only [Int.toNat_natCast, Nat.sub_self, List.length_drop, List.length_take]; rfl)) ?_; (with_reducible refine (crc_Unframe.calls kj8 _ _ y155 0 t158 t159 t160 _ ?side1 ?side2 A18.out).mono ?_); (case side1 => repeat (first | exact (Kd.R_reads' HO157.out).2.2 | (with_reducible refine Kd.C_alloc ?_ _) | (with_reducible refine Kd.C_drewN ?_ _) | (with_reducible refine Kd.C_drew ?_))); (case side2 => exact (Kd.R_reads' HO157.out).2.1); rintro e w28 ⟨v161, rfl, ho0, hb⟩; refine ⟨_, rfl, ?_⟩; have n0_ := Aside0.mk (Kd.R_elder' (by (with_reducible repeat (first | apply Kd.R_alloc | apply Kd.R_drewN | apply Kd.R_drew)); exact HO_9.out) (Kd.R_base ho0) hb); have n1_ := Aside0.mk (Kd.R_elder' (by (with_reducible repeat (first | apply Kd.R_alloc | apply Kd.R_drewN | apply Kd.R_drew)); exact HO_11.out) (Kd.R_base ho0) hb); have n2_ := Aside0.mk (Kd.R_elder' (by (with_reducible repeat (first | apply Kd.R_alloc | apply Kd.R_drewN | apply Kd.R_drew)); exact HO157.out) (Kd.R_base ho0) hb); have n3_ := Aside0.mk (Kd.R_lower (Kd.R_new' (Kd.R_new' (Kd.R_new' ho0 (Kd.R_lt (by (with_reducible repeat (first | apply Kd.R_alloc | apply Kd.R_drewN | apply Kd.R_drew)); exact HO_9.out))) (Kd.R_lt (by (with_reducible repeat (first | apply Kd.R_alloc | apply Kd.R_drewN | apply Kd.R_drew)); exact HO_11.out))) (Kd.R_lt (by (with_reducible repeat (first | apply Kd.R_alloc | apply Kd.R_drewN | apply Kd.R_drew)); exact HO157.out))) (below_size (by repeat (first | (with_reducible first | exact HB.out | apply below_alloc | apply pw_below_drewN | apply below_drew1) | exact HB.out)))); have n4_ := Aside0.mk (below_step (by repeat (first | (with_reducible first | exact HB.out | apply below_alloc | apply pw_below_drewN | apply below_drew1) | exact HB.out)) hb); clear HO_9; clear HO_11; clear HO157; clear HB; have HO_9 := n0_; have HO_11 := n1_; have HO157 := n2_; have HO162 := n3_; have HB := n4_; clear n0_ n1_ n2_ n3_ n4_; (try clear hb); (try clear hb2); (try clear hk); (try clear hi); (try clear ho0)) | ((with_reducible refine gate_callee (f := 16) rfl ?_); refine goesL_ (some 60) rfl rfl Try.func16 (by kernel_rfl) rfl #[.slice Ao27 y155.length co27, .int .i64 (t141.length : Int)] rfl (by (try simp only [List.map_toArray, List.map_cons, List.map_nil]); first | done | rfl | (simp only [List.length_drop, List.length_take]; rfl) | (simp only [Int.toNat_natCast, Nat.sub_self, List.length_drop, List.length_take]; rfl)) ?_; (with_reducible refine (crc_Unframe.calls kj8 _ _ y155 (t141.length : Int) t163 t164 t165 _ ?side1 ?side2 A19.out).mono ?_); (case side1 => repeat (first | exact (Kd.R_reads' HO157.out).2.2 | (with_reducible refine Kd.C_alloc ?_ _) | (with_reducible refine Kd.C_drewN ?_ _) | (with_reducible refine Kd.C_drew ?_))); (case side2 => exact (Kd.R_reads' HO157.out).2.1); rintro e w29 ⟨v166, rfl, ho0, hb⟩; refine ⟨_, rfl, ?_⟩; have n0_ := Aside0.mk (Kd.R_elder' (by (with_reducible repeat (first | apply Kd.R_alloc | apply Kd.R_drewN | apply Kd.R_drew)); exact HO_9.out) (Kd.R_base ho0) hb); have n1_ := Aside0.mk (Kd.R_elder' (by (with_reducible repeat (first | apply Kd.R_alloc | apply Kd.R_drewN | apply Kd.R_drew)); exact HO_11.out) (Kd.R_base ho0) hb); have n2_ := Aside0.mk (Kd.R_elder' (by (with_reducible repeat (first | apply Kd.R_alloc | apply Kd.R_drewN | apply Kd.R_drew)); exact HO157.out) (Kd.R_base ho0) hb); have n3_ := Aside0.mk (Kd.R_elder' (by (with_reducible repeat (first | apply Kd.R_alloc | apply Kd.R_drewN | apply Kd.R_drew)); exact HO162.out) (Kd.R_base ho0) hb); have n4_ := Aside0.mk (Kd.R_lower (Kd.R_new' (Kd.R_new' (Kd.R_new' (Kd.R_new' ho0 (Kd.R_lt (by (with_reducible repeat (first | apply Kd.R_alloc | apply Kd.R_drewN | apply Kd.R_drew)); exact HO_9.out))) (Kd.R_lt (by (with_reducible repeat (first | apply Kd.R_alloc | apply Kd.R_drewN | apply Kd.R_drew)); exact HO_11.out))) (Kd.R_lt (by (with_reducible repeat (first | apply Kd.R_alloc | apply Kd.R_drewN | apply Kd.R_drew)); exact HO157.out))) (Kd.R_lt (by (with_reducible repeat (first | apply Kd.R_alloc | apply Kd.R_drewN | apply Kd.R_drew)); exact HO162.out))) (below_size (by repeat (first | (with_reducible first | exact HB.out | apply below_alloc | apply pw_below_drewN | apply below_drew1) | exact HB.out)))); have n5_ := Aside0.mk (below_step (by repeat (first | (with_reducible first | exact HB.out | apply below_alloc | apply pw_below_drewN | apply below_drew1) | exact HB.out)) hb); clear HO_9; clear HO_11; clear HO157; clear HO162; clear HB; have HO_9 := n0_; have HO_11 := n1_; have HO157 := n2_; have HO162 := n3_; have HO167 := n4_; have HB := n5_; clear n0_ n1_ n2_ n3_ n4_ n5_; (try clear hb); (try clear hb2); (try clear hk); (try clear hi); (try clear ho0)))
              (try simp only [Act.put, List.setIfInBounds_toArray, List.set_cons_zero, List.set_cons_succ])
              go_cut [101] (fun v101 wc => ∃ (kq : Nat) (x101_19 : Bool), v101 = .bool x101_19 ∧ Aside0 (skerrylaw02_CrcBack.j1 kq a2 a3 t141 x101_19 = some r) ∧ Aside0 (kq ≤ kj8) ∧ Aside0 (Kd.R (Kd.int .u8) 5 wc w.heap.size (fun _ => True) (.slice Ao24 t141.length co24) t141) ∧ Aside0 (Below w.heap.size w wc))
              case first =>
                have H := HC20.out
                clear HC20
                by_cases c30 : t160 = 0
                · rw [if_pos c30] at H
                  have c30b0 : (t160 == 0) = true := beq_iff_eq.mpr c30
                  have c30b1 : (t160 != 0) = false := bne_eq_false_iff_eq.mpr c30
                  clear c30
                  (first | rw [c30b0] | (simp only [i64_w, i32_w]; rw [c30b0]) | rw [c30b1] | skip)
                  by_cases c31 : t165 = 0
                  · rw [if_pos c31] at H
                    have c31b0 : (t165 == 0) = true := beq_iff_eq.mpr c31
                    have c31b1 : (t165 != 0) = false := bne_eq_false_iff_eq.mpr c31
                    clear c31
                    by_cases c32 : t159 = (t141.length : Int)
                    · rw [if_pos c32] at H
                      have c32b0 : (t159 == (t141.length : Int)) = true := beq_iff_eq.mpr c32
                      have c32b1 : (t159 != (t141.length : Int)) = false := bne_eq_false_iff_eq.mpr c32
                      clear c32
                      by_cases c33 : t164 = (y155.length : Int)
                      · rw [if_pos c33] at H
                        have c33b0 : (t164 == (y155.length : Int)) = true := beq_iff_eq.mpr c33
                        have c33b1 : (t164 != (y155.length : Int)) = false := bne_eq_false_iff_eq.mpr c33
                        clear c33
                        replace H := Option.bind_eq_some_iff.mp H
                        obtain ⟨t168, A340, H⟩ := H
                        replace H : (if t168 = true then ((skerryref01_SameBytes.f t163 l1).bind fun t169 => (if t169 = true then (skerrylaw02_CrcBack.j1 kj8 a2 a3 t141 ((t141.length : Int) != (wrap64 ((l0.length : Int) + 6)))) else (skerrylaw02_CrcBack.j1 kj8 a2 a3 t141 true))) else (skerrylaw02_CrcBack.j1 kj8 a2 a3 t141 true)) = some r := H
                        have A34 := Aside0.mk A340
                        clear A340
                        by_cases c35 : t168 = true
                        · subst c35
                          have H1 : ((skerryref01_SameBytes.f t163 l1).bind fun t169 => (if t169 = true then (skerrylaw02_CrcBack.j1 kj8 a2 a3 t141 ((t141.length : Int) != (wrap64 ((l0.length : Int) + 6)))) else (skerrylaw02_CrcBack.j1 kj8 a2 a3 t141 true))) = some r := by rw [if_pos rfl] at H; exact H
                          clear H
                          have H := H1
                          clear H1
                          replace H := Option.bind_eq_some_iff.mp H
                          obtain ⟨t169, A360, H⟩ := H
                          replace H : (if t169 = true then (skerrylaw02_CrcBack.j1 kj8 a2 a3 t141 ((t141.length : Int) != (wrap64 ((l0.length : Int) + 6)))) else (skerrylaw02_CrcBack.j1 kj8 a2 a3 t141 true)) = some r := H
                          have A36 := Aside0.mk A360
                          clear A360
                          by_cases c37 : t169 = true
                          · subst c37
                            have H1 : (skerrylaw02_CrcBack.j1 kj8 a2 a3 t141 ((t141.length : Int) != (wrap64 ((l0.length : Int) + 6)))) = some r := by rw [if_pos rfl] at H; exact H
                            clear H
                            have H := H1
                            clear H1
                            have H' := Aside0.mk H
                            clear H
                            obtain ⟨Ao38, co38, eo38⟩ := Kd.R_slice HO162.out
                            subst eo38
                            go_wp2_with (first | (go_at_call 18; (with_reducible refine (skerryref01_SameBytes.calls _ _ t158 _ _ l0 true _ ?side1 ?side2 ?side3 ?side4 A34.out).mono ?_); (case side1 => repeat (first | exact (Kd.R_reads' HO162.out).2.2 | (with_reducible refine Kd.C_alloc ?_ _) | (with_reducible refine Kd.C_drewN ?_ _) | (with_reducible refine Kd.C_drew ?_))); (case side2 => exact (Kd.R_reads' HO162.out).2.1); (case side3 => repeat (first | exact (Kd.C_below HR0.out HB.out) | (with_reducible refine Kd.C_alloc ?_ _) | (with_reducible refine Kd.C_drewN ?_ _) | (with_reducible refine Kd.C_drew ?_))); (case side4 => exact HC0.out); rintro e w' ⟨rfl, ⟨nd, rfl⟩⟩; obtain ⟨Ao39, co39, eo39⟩ := Kd.R_slice HO167.out; subst eo39) | (go_at_call 18; (with_reducible refine (skerryref01_SameBytes.calls _ _ t163 _ _ l1 true _ ?side1 ?side2 ?side3 ?side4 A36.out).mono ?_); (case side1 => repeat (first | exact (Kd.R_reads' HO167.out).2.2 | (with_reducible refine Kd.C_alloc ?_ _) | (with_reducible refine Kd.C_drewN ?_ _) | (with_reducible refine Kd.C_drew ?_))); (case side2 => exact (Kd.R_reads' HO167.out).2.1); (case side3 => repeat (first | exact (Kd.C_below HR1.out (by repeat (first | (with_reducible first | exact HB.out | apply below_alloc | apply pw_below_drewN | apply below_drew1) | exact HB.out))) | (with_reducible refine Kd.C_alloc ?_ _) | (with_reducible refine Kd.C_drewN ?_ _) | (with_reducible refine Kd.C_drew ?_))); (case side4 => exact HC1.out); rintro e w' ⟨rfl, ⟨nd, rfl⟩⟩))
                            go_meet
                            case rel => exact ⟨_, (((t141.length : Int) != (wrap64 ((l0.length : Int) + 6)))), (by first | rfl | (simp; done) | (simp [*]; done)), H', ⟨by have := HJ8.out; first | omega | exact Nat.le_refl _⟩, ⟨by (with_reducible repeat (first | apply Kd.R_alloc | apply Kd.R_drewN | apply Kd.R_drew)); exact Kd.R_mono HO_9.out (fun _ hk => trivial)⟩, ⟨by repeat (first | (with_reducible first | exact HB.out | apply below_alloc | apply pw_below_drewN | apply below_drew1) | exact HB.out)⟩⟩
                          · replace c37 := Bool.eq_false_iff.mpr c37
                            subst c37
                            have H1 : (skerrylaw02_CrcBack.j1 kj8 a2 a3 t141 true) = some r := by rw [if_neg (show ¬ (false = true) by decide)] at H; exact H
                            clear H
                            have H := H1
                            clear H1
                            have H' := Aside0.mk H
                            clear H
                            obtain ⟨Ao40, co40, eo40⟩ := Kd.R_slice HO162.out
                            subst eo40
                            go_wp2_with (first | (go_at_call 18; (with_reducible refine (skerryref01_SameBytes.calls _ _ t158 _ _ l0 true _ ?side1 ?side2 ?side3 ?side4 A34.out).mono ?_); (case side1 => repeat (first | exact (Kd.R_reads' HO162.out).2.2 | (with_reducible refine Kd.C_alloc ?_ _) | (with_reducible refine Kd.C_drewN ?_ _) | (with_reducible refine Kd.C_drew ?_))); (case side2 => exact (Kd.R_reads' HO162.out).2.1); (case side3 => repeat (first | exact (Kd.C_below HR0.out HB.out) | (with_reducible refine Kd.C_alloc ?_ _) | (with_reducible refine Kd.C_drewN ?_ _) | (with_reducible refine Kd.C_drew ?_))); (case side4 => exact HC0.out); rintro e w' ⟨rfl, ⟨nd, rfl⟩⟩; obtain ⟨Ao41, co41, eo41⟩ := Kd.R_slice HO167.out; subst eo41) | (go_at_call 18; (with_reducible refine (skerryref01_SameBytes.calls _ _ t163 _ _ l1 false _ ?side1 ?side2 ?side3 ?side4 A36.out).mono ?_); (case side1 => repeat (first | exact (Kd.R_reads' HO167.out).2.2 | (with_reducible refine Kd.C_alloc ?_ _) | (with_reducible refine Kd.C_drewN ?_ _) | (with_reducible refine Kd.C_drew ?_))); (case side2 => exact (Kd.R_reads' HO167.out).2.1); (case side3 => repeat (first | exact (Kd.C_below HR1.out (by repeat (first | (with_reducible first | exact HB.out | apply below_alloc | apply pw_below_drewN | apply below_drew1) | exact HB.out))) | (with_reducible refine Kd.C_alloc ?_ _) | (with_reducible refine Kd.C_drewN ?_ _) | (with_reducible refine Kd.C_drew ?_))); (case side4 => exact HC1.out); rintro e w' ⟨rfl, ⟨nd, rfl⟩⟩))
                            go_meet
                            case rel => exact ⟨_, (true), (by first | rfl | (simp; done) | (simp [*]; done)), H', ⟨by have := HJ8.out; first | omega | exact Nat.le_refl _⟩, ⟨by (with_reducible repeat (first | apply Kd.R_alloc | apply Kd.R_drewN | apply Kd.R_drew)); exact Kd.R_mono HO_9.out (fun _ hk => trivial)⟩, ⟨by repeat (first | (with_reducible first | exact HB.out | apply below_alloc | apply pw_below_drewN | apply below_drew1) | exact HB.out)⟩⟩
                        · replace c35 := Bool.eq_false_iff.mpr c35
                          subst c35
                          have H1 : (skerrylaw02_CrcBack.j1 kj8 a2 a3 t141 true) = some r := by rw [if_neg (show ¬ (false = true) by decide)] at H; exact H
                          clear H
                          have H := H1
                          clear H1
                          have H' := Aside0.mk H
                          clear H
                          obtain ⟨Ao42, co42, eo42⟩ := Kd.R_slice HO162.out
                          subst eo42
                          go_wp2_with (first | (go_at_call 18; (with_reducible refine (skerryref01_SameBytes.calls _ _ t158 _ _ l0 false _ ?side1 ?side2 ?side3 ?side4 A34.out).mono ?_); (case side1 => repeat (first | exact (Kd.R_reads' HO162.out).2.2 | (with_reducible refine Kd.C_alloc ?_ _) | (with_reducible refine Kd.C_drewN ?_ _) | (with_reducible refine Kd.C_drew ?_))); (case side2 => exact (Kd.R_reads' HO162.out).2.1); (case side3 => repeat (first | exact (Kd.C_below HR0.out HB.out) | (with_reducible refine Kd.C_alloc ?_ _) | (with_reducible refine Kd.C_drewN ?_ _) | (with_reducible refine Kd.C_drew ?_))); (case side4 => exact HC0.out); rintro e w' ⟨rfl, ⟨nd, rfl⟩⟩))
                          go_meet
                          case rel => exact ⟨_, (true), (by first | rfl | (simp; done) | (simp [*]; done)), H', ⟨by have := HJ8.out; first | omega | exact Nat.le_refl _⟩, ⟨by (with_reducible repeat (first | apply Kd.R_alloc | apply Kd.R_drewN | apply Kd.R_drew)); exact Kd.R_mono HO_9.out (fun _ hk => trivial)⟩, ⟨by repeat (first | (with_reducible first | exact HB.out | apply below_alloc | apply pw_below_drewN | apply below_drew1) | exact HB.out)⟩⟩
                      · rw [if_neg c33] at H
                        have c33b0 : (t164 == (y155.length : Int)) = false := beq_eq_false_iff_ne.mpr c33
                        have c33b1 : (t164 != (y155.length : Int)) = true := bne_iff_ne.mpr c33
                        have H' := Aside0.mk H
                        clear H
                        go_wp2
                        go_meet
                        case rel => exact ⟨_, (true), (by first | rfl | (simp; done) | (simp [*]; done)), H', ⟨by have := HJ8.out; first | omega | exact Nat.le_refl _⟩, ⟨by (with_reducible repeat (first | apply Kd.R_alloc | apply Kd.R_drewN | apply Kd.R_drew)); exact Kd.R_mono HO_9.out (fun _ hk => trivial)⟩, ⟨by repeat (first | (with_reducible first | exact HB.out | apply below_alloc | apply pw_below_drewN | apply below_drew1) | exact HB.out)⟩⟩
                    · rw [if_neg c32] at H
                      have c32b0 : (t159 == (t141.length : Int)) = false := beq_eq_false_iff_ne.mpr c32
                      have c32b1 : (t159 != (t141.length : Int)) = true := bne_iff_ne.mpr c32
                      have H' := Aside0.mk H
                      clear H
                      go_wp2
                      go_meet
                      case rel => exact ⟨_, (true), (by first | rfl | (simp; done) | (simp [*]; done)), H', ⟨by have := HJ8.out; first | omega | exact Nat.le_refl _⟩, ⟨by (with_reducible repeat (first | apply Kd.R_alloc | apply Kd.R_drewN | apply Kd.R_drew)); exact Kd.R_mono HO_9.out (fun _ hk => trivial)⟩, ⟨by repeat (first | (with_reducible first | exact HB.out | apply below_alloc | apply pw_below_drewN | apply below_drew1) | exact HB.out)⟩⟩
                  · rw [if_neg c31] at H
                    have c31b0 : (t165 == 0) = false := beq_eq_false_iff_ne.mpr c31
                    have c31b1 : (t165 != 0) = true := bne_iff_ne.mpr c31
                    have H' := Aside0.mk H
                    clear H
                    go_wp2
                    go_meet
                    case rel => exact ⟨_, (true), (by first | rfl | (simp; done) | (simp [*]; done)), H', ⟨by have := HJ8.out; first | omega | exact Nat.le_refl _⟩, ⟨by (with_reducible repeat (first | apply Kd.R_alloc | apply Kd.R_drewN | apply Kd.R_drew)); exact Kd.R_mono HO_9.out (fun _ hk => trivial)⟩, ⟨by repeat (first | (with_reducible first | exact HB.out | apply below_alloc | apply pw_below_drewN | apply below_drew1) | exact HB.out)⟩⟩
                · rw [if_neg c30] at H
                  have c30b0 : (t160 == 0) = false := beq_eq_false_iff_ne.mpr c30
                  have c30b1 : (t160 != 0) = true := bne_iff_ne.mpr c30
                  (first | rw [c30b0] | (simp only [i64_w, i32_w]; rw [c30b0]) | rw [c30b1] | skip)
                  have H' := Aside0.mk H
                  clear H
                  go_wp2
                  go_meet
                  case rel => exact ⟨_, (true), (by first | rfl | (simp; done) | (simp [*]; done)), H', ⟨by have := HJ8.out; first | omega | exact Nat.le_refl _⟩, ⟨by (with_reducible repeat (first | apply Kd.R_alloc | apply Kd.R_drewN | apply Kd.R_drew)); exact Kd.R_mono HO_9.out (fun _ hk => trivial)⟩, ⟨by repeat (first | (with_reducible first | exact HB.out | apply below_alloc | apply pw_below_drewN | apply below_drew1) | exact HB.out)⟩⟩
              case rest =>
                clear HC20
                try clear c1
                try clear p2
                try clear c3
                try clear c6
                try clear p6
                try clear c7
                try clear c9
                try clear c13
                try clear c13b0
                try clear c13b1
                try clear c14
                try clear c15
                try clear c15b0
                try clear c15b1
                try clear c16
                try clear c17
                try clear c30
                try clear c30b0
                try clear c30b1
                try clear c31
                try clear c31b0
                try clear c31b1
                try clear c32
                try clear c32b0
                try clear c32b1
                try clear c33
                try clear c33b0
                try clear c33b1
                try clear c35
                try clear c37
                try clear p2
                obtain ⟨kq, x101_19, rfl, HA, HJ19, HO_9, HB⟩ := hcut
                cases kq with
                | zero => exact absurd HA.out (by simp [skerrylaw02_CrcBack.j1])
                | succ kj19 =>
                  have H := HA.out
                  clear HA
                  simp only [skerrylaw02_CrcBack.j1] at H
                  by_cases c43 : x101_19 = true
                  · subst c43
                    have H1 : (some false) = some r := by rw [if_pos rfl] at H; exact H
                    clear H
                    have H := H1
                    clear H1
                    obtain rfl := Option.some.inj H
                    go_wp2
                    go_ret
                    exact ⟨by first | rfl | (simp [errW_none, errW_some] <;> rfl) | (simp [*, errW_none, errW_some] <;> rfl), by repeat (first | (with_reducible first | exact HB.out | apply below_alloc | apply pw_below_drewN | apply below_drew1) | exact HB.out)⟩
                  · replace c43 := Bool.eq_false_iff.mpr c43
                    subst c43
                    have H1 : (if a2 < 0 then (skerrylaw02_CrcBack.j2 kj19 a2 a3 t141 true) else (skerrylaw02_CrcBack.j2 kj19 a2 a3 t141 (decide (a2 ≥ (t141.length : Int))))) = some r := by rw [if_neg (show ¬ (false = true) by decide)] at H; exact H
                    clear H
                    have H := H1
                    clear H1
                    have HC44 := Aside0.mk H
                    clear H
                    go_upto_region 12 with (fail)
                    go_cut [109] (fun v109 wc => ∃ (kq : Nat) (x109_43 : Bool), v109 = .bool x109_43 ∧ Aside0 (skerrylaw02_CrcBack.j2 kq a2 a3 t141 x109_43 = some r) ∧ Aside0 (kq ≤ kj19) ∧ Aside0 (Kd.R (Kd.int .u8) 5 wc w.heap.size (fun _ => True) (.slice Ao24 t141.length co24) t141) ∧ Aside0 (Below w.heap.size w wc))
                    case first =>
                      have H := HC44.out
                      clear HC44
                      by_cases c45 : a2 < 0
                      · rw [if_pos c45] at H
                        have c45b0 : decide (a2 < 0) = true := decide_eq_true c45
                        clear c45
                        (first | rw [c45b0] | (simp only [i64_w, i32_w]; rw [c45b0]) | rw [c45b1] | skip)
                        have H' := Aside0.mk H
                        clear H
                        go_wp2
                        go_meet
                        case rel => exact ⟨_, (true), (by first | rfl | (simp; done) | (simp [*]; done)), H', ⟨by have := HJ8.out; have := HJ19.out; first | omega | exact Nat.le_refl _⟩, ⟨by (with_reducible repeat (first | apply Kd.R_alloc | apply Kd.R_drewN | apply Kd.R_drew)); exact HO_9.out⟩, ⟨by repeat (first | (with_reducible first | exact HB.out | apply below_alloc | apply pw_below_drewN | apply below_drew1) | exact HB.out)⟩⟩
                      · rw [if_neg c45] at H
                        have c45b0 : decide (a2 < 0) = false := decide_eq_false c45
                        clear c45
                        (first | rw [c45b0] | (simp only [i64_w, i32_w]; rw [c45b0]) | rw [c45b1] | skip)
                        have H' := Aside0.mk H
                        clear H
                        go_wp2
                        go_meet
                        case rel => exact ⟨_, (decide (a2 ≥ (t141.length : Int))), (by first | rfl | (simp; done) | (simp [*]; done)), H', ⟨by have := HJ8.out; have := HJ19.out; first | omega | exact Nat.le_refl _⟩, ⟨by (with_reducible repeat (first | apply Kd.R_alloc | apply Kd.R_drewN | apply Kd.R_drew)); exact HO_9.out⟩, ⟨by repeat (first | (with_reducible first | exact HB.out | apply below_alloc | apply pw_below_drewN | apply below_drew1) | exact HB.out)⟩⟩
                    case rest =>
                      clear HC44
                      try clear c1
                      try clear p2
                      try clear c3
                      try clear c4
                      try clear c6
                      try clear p6
                      try clear c7
                      try clear c9
                      try clear c13
                      try clear c13b0
                      try clear c13b1
                      try clear c14
                      try clear c15
                      try clear c15b0
                      try clear c15b1
                      try clear c16
                      try clear c17
                      try clear c30
                      try clear c30b0
                      try clear c30b1
                      try clear c31
                      try clear c31b0
                      try clear c31b1
                      try clear c32
                      try clear c32b0
                      try clear c32b1
                      try clear c33
                      try clear c33b0
                      try clear c33b1
                      try clear c35
                      try clear c37
                      try clear c43
                      try clear c45
                      try clear c45b0
                      try clear c45b1
                      try clear p2
                      try clear p6
                      obtain ⟨kq, x109_43, rfl, HA, HJ43, HO_9, HB⟩ := hcut
                      cases kq with
                      | zero => exact absurd HA.out (by simp [skerrylaw02_CrcBack.j2])
                      | succ kj43 =>
                        have H := HA.out
                        clear HA
                        simp only [skerrylaw02_CrcBack.j2] at H
                        by_cases c46 : x109_43 = true
                        · subst c46
                          have H1 : (some true) = some r := by rw [if_pos rfl] at H; exact H
                          clear H
                          have H := H1
                          clear H1
                          obtain rfl := Option.some.inj H
                          go_wp2
                          go_ret
                          exact ⟨by first | rfl | (simp [errW_none, errW_some] <;> rfl) | (simp [*, errW_none, errW_some] <;> rfl), by repeat (first | (with_reducible first | exact HB.out | apply below_alloc | apply pw_below_drewN | apply below_drew1) | exact HB.out)⟩
                        · replace c46 := Bool.eq_false_iff.mpr c46
                          subst c46
                          have H1 : (if 0 ≤ a2 then (if a2 ≤ (t141.length : Int) then ((crc_Unframe.f kj43 (t141.take (a2 : Int).toNat) 0).bind fun bt174 => (if bt174.2.2 = 21 then (if a3 = 0 then (some true) else (if a2 < 2 then (some true) else ((some (([] : List Int) : List Int)).bind fun y179 => (if y179.length + t141.length < 140737488355328 then ((some (y179 ++ t141 : List Int)).bind fun y182 => (if a2 < (y182.length : Int) then ((crc_Unframe.f kj43 (y182.set (a2 : Int).toNat (Go.bits .xor .u8 (rd y182 a2) a3)) 0).bind fun bt187 => (some (bt187.2.2 == 20))) else (none))) else (none))))) else (some false))) else (none)) else (none)) = some r := by rw [if_neg (show ¬ (false = true) by decide)] at H; exact H
                          clear H
                          have H := H1
                          clear H1
                          by_cases c47 : 0 ≤ a2
                          · rw [if_pos c47] at H
                            have c47b0 := eq_true c47
                            have c47b1 : decide (0 ≤ a2) = true := decide_eq_true c47
                            clear c47
                            by_cases c48 : a2 ≤ (t141.length : Int)
                            · rw [if_pos c48] at H
                              have c48b0 := eq_true c48
                              have c48b1 : decide (a2 ≤ (t141.length : Int)) = true := decide_eq_true c48
                              clear c48
                              obtain ⟨y170, hy170⟩ : ∃ y_ : List Int, y_ = (t141.take (a2 : Int).toNat) := ⟨_, rfl⟩
                              replace H : ((crc_Unframe.f kj43 y170 0).bind fun bt174 => (if bt174.2.2 = 21 then (if a3 = 0 then (some true) else (if a2 < 2 then (some true) else ((some (([] : List Int) : List Int)).bind fun y179 => (if y179.length + t141.length < 140737488355328 then ((some (y179 ++ t141 : List Int)).bind fun y182 => (if a2 < (y182.length : Int) then ((crc_Unframe.f kj43 (y182.set (a2 : Int).toNat (Go.bits .xor .u8 (rd y182 a2) a3)) 0).bind fun bt187 => (some (bt187.2.2 == 20))) else (none))) else (none))))) else (some false))) = some r := by first | (rw [hy170]; with_reducible exact H) | (have H2_ := (Option.bind_some _ _).symm.trans H; rw [hy170]; with_reducible exact H2_) | (have H2_ := (Option.bind_some _ _).symm.trans H; with_reducible exact H2_) | with_reducible exact H | (rw [hy170]; exact H) | exact H
                              have Ny170 := Aside0.mk hy170
                              clear hy170
                              replace H := Option.bind_eq_some_iff.mp H
                              obtain ⟨⟨t174, t175, t176⟩, A490, H⟩ := H
                              replace H : (if t176 = 21 then (if a3 = 0 then (some true) else (if a2 < 2 then (some true) else ((some (([] : List Int) : List Int)).bind fun y179 => (if y179.length + t141.length < 140737488355328 then ((some (y179 ++ t141 : List Int)).bind fun y182 => (if a2 < (y182.length : Int) then ((crc_Unframe.f kj43 (y182.set (a2 : Int).toNat (Go.bits .xor .u8 (rd y182 a2) a3)) 0).bind fun bt187 => (some (bt187.2.2 == 20))) else (none))) else (none))))) else (some false)) = some r := H
                              have A49 := Aside0.mk A490
                              clear A490
                              by_cases c50 : t176 = 21
                              · rw [if_pos c50] at H
                                have c50b0 : (t176 == 21) = true := beq_iff_eq.mpr c50
                                have c50b1 : (t176 != 21) = false := bne_eq_false_iff_eq.mpr c50
                                clear c50
                                by_cases c51 : a3 = 0
                                · rw [if_pos c51] at H
                                  have c51b0 : (a3 == 0) = true := beq_iff_eq.mpr c51
                                  have c51b1 : (a3 != 0) = false := bne_eq_false_iff_eq.mpr c51
                                  clear c51
                                  obtain rfl := Option.some.inj H
                                  have q52 : (a2 : Int) ≤ ((t141.length : Int) : Int) := of_decide_eq_true (by first | (with_reducible assumption) | assumption)
                                  obtain ⟨i052, hi052, _, hsz52, _⟩ := info_parts info5
                                  have hroom52 : t141.length ≤ co24 := (Kd.R_reads' HO_9.out).2.1
                                  have hC52 : Kd.C (Kd.int .u8) _ Ao24 t141.length t141 := (Kd.R_reads' HO_9.out).2.2
                                  have hcut52 := cut_to (P := Try.prog) 22 5 .i64 Try.underlying22 hi052 Ao24 t141.length co24 a2 (of_decide_eq_true (by first | (with_reducible assumption) | assumption)) q52 hroom52
                                  have hr52 := Kd.C_take (m := (a2 : Int).toNat) hC52 (by omega)
                                  have hy52 : y170.length = (a2 : Int).toNat := (by rw [Ny170.out, List.length_take]; omega)
                                  rw [← Ny170.out] at hr52
                                  rw [← hy52] at hcut52
                                  have HR173 := Aside0.mk hr52
                                  have HC173 := Aside0.mk (show y170.length ≤ co24 from by omega)
                                  clear hr52 hC52 hroom52 hi052 hsz52
                                  have KY52 := Aside0.mk hy52
                                  clear hy52
                                  have KL52 := Aside0.mk (show (a2 : Int).toNat ≤ t141.length from by omega)
                                  replace q52 := eq_true q52
                                  go_wp2_with (first | ((with_reducible refine gate_callee (f := 16) rfl ?_); refine goesL_ (some 114) rfl rfl Try.func16 (by kernel_rfl) rfl #[.slice Ao24 y170.length co24, .int .i64 0] rfl (by (try simp only [List.map_toArray, List.map_cons, List.map_nil]); first | done | rfl | (simp only [List.length_drop, List.length_take]; rfl) | (simp only [Int.toNat_natCast, Nat.sub_self, List.length_drop, List.length_take]; rfl)) ?_; (with_reducible refine (crc_Unframe.calls kj43 _ _ y170 0 t174 t175 t176 _ ?side1 ?side2 A49.out).mono ?_); (case side1 => repeat (first | exact (by repeat (first | (with_reducible exact HR173.out) | (with_reducible refine Kd.C_alloc ?_ _) | (with_reducible refine Kd.C_drewN ?_ _) | (with_reducible refine Kd.C_drew ?_) | exact HR173.out)) | (with_reducible refine Kd.C_alloc ?_ _) | (with_reducible refine Kd.C_drewN ?_ _) | (with_reducible refine Kd.C_drew ?_))); (case side2 => exact HC173.out); rintro e w53 ⟨v177, rfl, ho0, hb⟩; refine ⟨_, rfl, ?_⟩; have n0_ := Aside0.mk (Kd.R_elder' (by (with_reducible repeat (first | apply Kd.R_alloc | apply Kd.R_drewN | apply Kd.R_drew)); exact HO_9.out) (Kd.R_base ho0) hb); have n1_ := Aside0.mk (Kd.R_lower (Kd.R_new' ho0 (Kd.R_lt (by (with_reducible repeat (first | apply Kd.R_alloc | apply Kd.R_drewN | apply Kd.R_drew)); exact HO_9.out))) (below_size (by repeat (first | (with_reducible first | exact HB.out | apply below_alloc | apply pw_below_drewN | apply below_drew1) | exact HB.out)))); have n2_ := Aside0.mk (Kd.C_below (by repeat (first | (with_reducible exact HR173.out) | (with_reducible refine Kd.C_alloc ?_ _) | (with_reducible refine Kd.C_drewN ?_ _) | (with_reducible refine Kd.C_drew ?_) | exact HR173.out)) hb); have n3_ := Aside0.mk (below_step (by repeat (first | (with_reducible first | exact HB.out | apply below_alloc | apply pw_below_drewN | apply below_drew1) | exact HB.out)) hb); clear HO_9; clear HR173; clear HB; have HO_9 := n0_; have HO178 := n1_; have HR173 := n2_; have HB := n3_; clear n0_ n1_ n2_ n3_; (try clear hb); (try clear hb2); (try clear hk); (try clear hi); (try clear ho0)))
                                  go_ret
                                  exact ⟨by first | rfl | (simp [errW_none, errW_some] <;> rfl) | (simp [*, errW_none, errW_some] <;> rfl), by repeat (first | (with_reducible first | exact HB.out | apply below_alloc | apply pw_below_drewN | apply below_drew1) | exact HB.out)⟩
                                · rw [if_neg c51] at H
                                  have c51b0 : (a3 == 0) = false := beq_eq_false_iff_ne.mpr c51
                                  have c51b1 : (a3 != 0) = true := bne_iff_ne.mpr c51
                                  by_cases c54 : a2 < 2
                                  · rw [if_pos c54] at H
                                    have c54b0 : decide (a2 < 2) = true := decide_eq_true c54
                                    clear c54
                                    obtain rfl := Option.some.inj H
                                    have q55 : (a2 : Int) ≤ ((t141.length : Int) : Int) := of_decide_eq_true (by first | (with_reducible assumption) | assumption)
                                    obtain ⟨i055, hi055, _, hsz55, _⟩ := info_parts info5
                                    have hroom55 : t141.length ≤ co24 := (Kd.R_reads' HO_9.out).2.1
                                    have hC55 : Kd.C (Kd.int .u8) _ Ao24 t141.length t141 := (Kd.R_reads' HO_9.out).2.2
                                    have hcut55 := cut_to (P := Try.prog) 22 5 .i64 Try.underlying22 hi055 Ao24 t141.length co24 a2 (of_decide_eq_true (by first | (with_reducible assumption) | assumption)) q55 hroom55
                                    have hr55 := Kd.C_take (m := (a2 : Int).toNat) hC55 (by omega)
                                    have hy55 : y170.length = (a2 : Int).toNat := (by rw [Ny170.out, List.length_take]; omega)
                                    rw [← Ny170.out] at hr55
                                    rw [← hy55] at hcut55
                                    have HR173 := Aside0.mk hr55
                                    have HC173 := Aside0.mk (show y170.length ≤ co24 from by omega)
                                    clear hr55 hC55 hroom55 hi055 hsz55
                                    have KY55 := Aside0.mk hy55
                                    clear hy55
                                    have KL55 := Aside0.mk (show (a2 : Int).toNat ≤ t141.length from by omega)
                                    replace q55 := eq_true q55
                                    go_wp2_with (first | ((with_reducible refine gate_callee (f := 16) rfl ?_); refine goesL_ (some 114) rfl rfl Try.func16 (by kernel_rfl) rfl #[.slice Ao24 y170.length co24, .int .i64 0] rfl (by (try simp only [List.map_toArray, List.map_cons, List.map_nil]); first | done | rfl | (simp only [List.length_drop, List.length_take]; rfl) | (simp only [Int.toNat_natCast, Nat.sub_self, List.length_drop, List.length_take]; rfl)) ?_; (with_reducible refine (crc_Unframe.calls kj43 _ _ y170 0 t174 t175 t176 _ ?side1 ?side2 A49.out).mono ?_); (case side1 => repeat (first | exact (by repeat (first | (with_reducible exact HR173.out) | (with_reducible refine Kd.C_alloc ?_ _) | (with_reducible refine Kd.C_drewN ?_ _) | (with_reducible refine Kd.C_drew ?_) | exact HR173.out)) | (with_reducible refine Kd.C_alloc ?_ _) | (with_reducible refine Kd.C_drewN ?_ _) | (with_reducible refine Kd.C_drew ?_))); (case side2 => exact HC173.out); rintro e w56 ⟨v177, rfl, ho0, hb⟩; refine ⟨_, rfl, ?_⟩; have n0_ := Aside0.mk (Kd.R_elder' (by (with_reducible repeat (first | apply Kd.R_alloc | apply Kd.R_drewN | apply Kd.R_drew)); exact HO_9.out) (Kd.R_base ho0) hb); have n1_ := Aside0.mk (Kd.R_lower (Kd.R_new' ho0 (Kd.R_lt (by (with_reducible repeat (first | apply Kd.R_alloc | apply Kd.R_drewN | apply Kd.R_drew)); exact HO_9.out))) (below_size (by repeat (first | (with_reducible first | exact HB.out | apply below_alloc | apply pw_below_drewN | apply below_drew1) | exact HB.out)))); have n2_ := Aside0.mk (Kd.C_below (by repeat (first | (with_reducible exact HR173.out) | (with_reducible refine Kd.C_alloc ?_ _) | (with_reducible refine Kd.C_drewN ?_ _) | (with_reducible refine Kd.C_drew ?_) | exact HR173.out)) hb); have n3_ := Aside0.mk (below_step (by repeat (first | (with_reducible first | exact HB.out | apply below_alloc | apply pw_below_drewN | apply below_drew1) | exact HB.out)) hb); clear HO_9; clear HR173; clear HB; have HO_9 := n0_; have HO178 := n1_; have HR173 := n2_; have HB := n3_; clear n0_ n1_ n2_ n3_; (try clear hb); (try clear hb2); (try clear hk); (try clear hi); (try clear ho0)))
                                    go_ret
                                    exact ⟨by first | rfl | (simp [errW_none, errW_some] <;> rfl) | (simp [*, errW_none, errW_some] <;> rfl), by repeat (first | (with_reducible first | exact HB.out | apply below_alloc | apply pw_below_drewN | apply below_drew1) | exact HB.out)⟩
                                  · rw [if_neg c54] at H
                                    have c54b0 : decide (a2 < 2) = false := decide_eq_false c54
                                    clear c54
                                    obtain ⟨y179, hy179⟩ : ∃ y_ : List Int, y_ = (([] : List Int)) := ⟨_, rfl⟩
                                    replace H : (if y179.length + t141.length < 140737488355328 then ((some (y179 ++ t141 : List Int)).bind fun y182 => (if a2 < (y182.length : Int) then ((crc_Unframe.f kj43 (y182.set (a2 : Int).toNat (Go.bits .xor .u8 (rd y182 a2) a3)) 0).bind fun bt187 => (some (bt187.2.2 == 20))) else (none))) else (none)) = some r := by first | (rw [hy179]; with_reducible exact H) | (have H2_ := (Option.bind_some _ _).symm.trans H; rw [hy179]; with_reducible exact H2_) | (have H2_ := (Option.bind_some _ _).symm.trans H; with_reducible exact H2_) | with_reducible exact H | (rw [hy179]; exact H) | exact H
                                    have Ny179 := Aside0.mk hy179
                                    clear hy179
                                    by_cases c57 : y179.length + t141.length < 140737488355328
                                    · rw [if_pos c57] at H
                                      have LMc57 := Aside0.mk c57
                                      clear c57
                                      obtain ⟨y182, hy182⟩ : ∃ y_ : List Int, y_ = (y179 ++ t141) := ⟨_, rfl⟩
                                      replace H : (if a2 < (y182.length : Int) then ((crc_Unframe.f kj43 (y182.set (a2 : Int).toNat (Go.bits .xor .u8 (rd y182 a2) a3)) 0).bind fun bt187 => (some (bt187.2.2 == 20))) else (none)) = some r := by first | (rw [hy182]; with_reducible exact H) | (have H2_ := (Option.bind_some _ _).symm.trans H; rw [hy182]; with_reducible exact H2_) | (have H2_ := (Option.bind_some _ _).symm.trans H; with_reducible exact H2_) | with_reducible exact H | (rw [hy182]; exact H) | exact H
                                      have Ny182 := Aside0.mk hy182
                                      clear hy182
                                      by_cases c58 : a2 < (y182.length : Int)
                                      · rw [if_pos c58] at H
                                        have c58b0 : decide (a2 < (y182.length : Int)) = true := decide_eq_true c58
                                        clear c58
                                        obtain ⟨y186, hy186⟩ : ∃ y_ : List Int, y_ = (y182.set (a2 : Int).toNat (Go.bits .xor .u8 (rd y182 a2) a3)) := ⟨_, rfl⟩
                                        replace H : ((crc_Unframe.f kj43 y186 0).bind fun bt187 => (some (bt187.2.2 == 20))) = some r := by first | (rw [hy186]; with_reducible exact H) | (have H2_ := (Option.bind_some _ _).symm.trans H; rw [hy186]; with_reducible exact H2_) | (have H2_ := (Option.bind_some _ _).symm.trans H; with_reducible exact H2_) | with_reducible exact H | (rw [hy186]; exact H) | exact H
                                        have Ny186 := Aside0.mk hy186
                                        clear hy186
                                        replace H := Option.bind_eq_some_iff.mp H
                                        obtain ⟨⟨t187, t188, t189⟩, A600, H⟩ := H
                                        replace H : (some (t189 == 20)) = some r := H
                                        have A60 := Aside0.mk A600
                                        clear A600
                                        obtain rfl := Option.some.inj H
                                        have q61 : (a2 : Int) ≤ ((t141.length : Int) : Int) := of_decide_eq_true (by first | (with_reducible assumption) | assumption)
                                        obtain ⟨i061, hi061, _, hsz61, _⟩ := info_parts info5
                                        have hroom61 : t141.length ≤ co24 := (Kd.R_reads' HO_9.out).2.1
                                        have hC61 : Kd.C (Kd.int .u8) _ Ao24 t141.length t141 := (Kd.R_reads' HO_9.out).2.2
                                        have hcut61 := cut_to (P := Try.prog) 22 5 .i64 Try.underlying22 hi061 Ao24 t141.length co24 a2 (of_decide_eq_true (by first | (with_reducible assumption) | assumption)) q61 hroom61
                                        have hr61 := Kd.C_take (m := (a2 : Int).toNat) hC61 (by omega)
                                        have hy61 : y170.length = (a2 : Int).toNat := (by rw [Ny170.out, List.length_take]; omega)
                                        rw [← Ny170.out] at hr61
                                        rw [← hy61] at hcut61
                                        have HR173 := Aside0.mk hr61
                                        have HC173 := Aside0.mk (show y170.length ≤ co24 from by omega)
                                        clear hr61 hC61 hroom61 hi061 hsz61
                                        have KY61 := Aside0.mk hy61
                                        clear hy61
                                        have KL61 := Aside0.mk (show (a2 : Int).toNat ≤ t141.length from by omega)
                                        replace q61 := eq_true q61
                                        go_wp2_with (first | ((with_reducible refine gate_callee (f := 16) rfl ?_); refine goesL_ (some 114) rfl rfl Try.func16 (by kernel_rfl) rfl #[.slice Ao24 y170.length co24, .int .i64 0] rfl (by (try simp only [List.map_toArray, List.map_cons, List.map_nil]); first | done | rfl | (simp only [List.length_drop, List.length_take]; rfl) | (simp only [Int.toNat_natCast, Nat.sub_self, List.length_drop, List.length_take]; rfl)) ?_; (with_reducible refine (crc_Unframe.calls kj43 _ _ y170 0 t174 t175 t176 _ ?side1 ?side2 A49.out).mono ?_); (case side1 => repeat (first | exact (by repeat (first | (with_reducible exact HR173.out) | (with_reducible refine Kd.C_alloc ?_ _) | (with_reducible refine Kd.C_drewN ?_ _) | (with_reducible refine Kd.C_drew ?_) | exact HR173.out)) | (with_reducible refine Kd.C_alloc ?_ _) | (with_reducible refine Kd.C_drewN ?_ _) | (with_reducible refine Kd.C_drew ?_))); (case side2 => exact HC173.out); rintro e w62 ⟨v177, rfl, ho0, hb⟩; refine ⟨_, rfl, ?_⟩; have n0_ := Aside0.mk (Kd.R_elder' (by (with_reducible repeat (first | apply Kd.R_alloc | apply Kd.R_drewN | apply Kd.R_drew)); exact HO_9.out) (Kd.R_base ho0) hb); have n1_ := Aside0.mk (Kd.R_lower (Kd.R_new' ho0 (Kd.R_lt (by (with_reducible repeat (first | apply Kd.R_alloc | apply Kd.R_drewN | apply Kd.R_drew)); exact HO_9.out))) (below_size (by repeat (first | (with_reducible first | exact HB.out | apply below_alloc | apply pw_below_drewN | apply below_drew1) | exact HB.out)))); have n2_ := Aside0.mk (Kd.C_below (by repeat (first | (with_reducible exact HR173.out) | (with_reducible refine Kd.C_alloc ?_ _) | (with_reducible refine Kd.C_drewN ?_ _) | (with_reducible refine Kd.C_drew ?_) | exact HR173.out)) hb); have n3_ := Aside0.mk (below_step (by repeat (first | (with_reducible first | exact HB.out | apply below_alloc | apply pw_below_drewN | apply below_drew1) | exact HB.out)) hb); clear HO_9; clear HR173; clear HB; have HO_9 := n0_; have HO178 := n1_; have HR173 := n2_; have HB := n3_; clear n0_ n1_ n2_ n3_; (try clear hb); (try clear hb2); (try clear hk); (try clear hi); (try clear ho0)) | ((with_reducible refine gate_dst (N := 126) rfl ?_); (try (refine gate_guard (by rfl) ?_; dsimp only)); refine Kd.R_lit (Kd.int .u8) _ 5 ?hg (N := 126) ?hd (xs := ([] : List Int)) (inner := []) (ok := fun _ => True) (okp := fun _ => True) ?hr ?hp (fun _ hk => hk) trivial (Below.refl _ _) (Nat.le_refl _) (by simp) ?_; (case hd => rfl); (case hg => rfl); (case hr => first | (go_simp; done) | (go_simp; rfl)); (case hp => exact (Reps.none _ _)); intro v180 w63 ho64 hb hg_ hnew_; clear hg_ hnew_; (first | rw [← Ny179.out] at ho64 | (simp only [Int.reduceToNat] at ho64; rw [← Ny179.out] at ho64)); have n0_ := Aside0.mk (Kd.R_elder' (by (with_reducible repeat (first | apply Kd.R_alloc | apply Kd.R_drewN | apply Kd.R_drew)); exact HO_9.out) (Kd.R_base ho64) hb); have n1_ := Aside0.mk (Kd.R_elder' (by (with_reducible repeat (first | apply Kd.R_alloc | apply Kd.R_drewN | apply Kd.R_drew)); exact HO178.out) (Kd.R_base ho64) hb); have n2_ := Aside0.mk (Kd.R_lower (Kd.R_new' (Kd.R_new' ho64 (Kd.R_lt (by (with_reducible repeat (first | apply Kd.R_alloc | apply Kd.R_drewN | apply Kd.R_drew)); exact HO_9.out))) (Kd.R_lt (by (with_reducible repeat (first | apply Kd.R_alloc | apply Kd.R_drewN | apply Kd.R_drew)); exact HO178.out))) (below_size (by repeat (first | (with_reducible first | exact HB.out | apply below_alloc | apply pw_below_drewN | apply below_drew1) | exact HB.out)))); have n3_ := Aside0.mk (Kd.C_below (by repeat (first | (with_reducible exact HR173.out) | (with_reducible refine Kd.C_alloc ?_ _) | (with_reducible refine Kd.C_drewN ?_ _) | (with_reducible refine Kd.C_drew ?_) | exact HR173.out)) hb); have n4_ := Aside0.mk (below_step (by repeat (first | (with_reducible first | exact HB.out | apply below_alloc | apply pw_below_drewN | apply below_drew1) | exact HB.out)) hb); clear HO_9; clear HO178; clear HR173; clear HB; have HO_9 := n0_; have HO178 := n1_; have HO181 := n2_; have HR173 := n3_; have HB := n4_; clear n0_ n1_ n2_ n3_ n4_; clear hb ho64) | ((with_reducible refine gate_builtin (b := .append) (xs := #[.tmp 126, .tmp 127]) rfl ?_); (try (refine gate_guard (by rfl) ?_; dsimp only)); at_builtin; refine Kd.R_append_rows (Kd.int .u8) (w0 := w) w.heap.size rfl (.tmp 126) (.tmp 127) 22 5 (.int .u8 0) 1 rfl Try.underlying22 info5 rfl (by decide) (by omega) v180 y179 t141 _ _ _ (fun k_ => some k_ ≠ (.slice Ao24 t141.length co24 : Value).ownBlock ∧ some k_ ≠ (v177 : Value).ownBlock) (fun _ => False) rfl rfl ?aO ?aR (fun _ _ h => h) (fun _ h => h.elim) ?aF ?aB ?aS ?aL ?_; (case aR => repeat (first | exact (Kd.R_reads' HO_9.out).2.2 | (with_reducible refine Kd.C_alloc ?_ _) | (with_reducible refine Kd.C_drewN ?_ _) | (with_reducible refine Kd.C_drew ?_))); (case aB => exact (by repeat (first | (with_reducible first | exact HB.out | apply below_alloc | apply pw_below_drewN | apply below_drew1) | exact HB.out))); (case aF => exact (fun k_ hk => ⟨Kd.fresh' (Kd.R_lt (by (with_reducible repeat (first | apply Kd.R_alloc | apply Kd.R_drewN | apply Kd.R_drew)); exact HO_9.out)) k_ hk, Kd.fresh' (Kd.R_lt (by (with_reducible repeat (first | apply Kd.R_alloc | apply Kd.R_drewN | apply Kd.R_drew)); exact HO178.out)) k_ hk⟩)); (case aO => exact (by (with_reducible repeat (first | apply Kd.R_alloc | apply Kd.R_drewN | apply Kd.R_drew)); exact Kd.R_mono HO181.out (fun _ hk => ⟨hk.1.2, hk.2⟩))); (case aS => exact (below_size (by repeat (first | (with_reducible first | exact HB.out | apply below_alloc | apply pw_below_drewN | apply below_drew1) | exact HB.out)))); (case aL => have := LMc57.out; omega); intro v183 w65 ho hb hg hat; rw [← Ny182.out] at ho; have n0_ := Aside0.mk (Kd.R_after (ok := (fun k_ => some k_ ≠ (v177 : Value).ownBlock)) (by (with_reducible repeat (first | apply Kd.R_alloc | apply Kd.R_drewN | apply Kd.R_drew)); exact Kd.R_mono HO_9.out (fun _ hk => ⟨hk.1.2, hk.2⟩)) hg hat); have n1_ := Aside0.mk (Kd.R_after (ok := (fun k_ => some k_ ≠ (.slice Ao24 t141.length co24 : Value).ownBlock)) (by (with_reducible repeat (first | apply Kd.R_alloc | apply Kd.R_drewN | apply Kd.R_drew)); exact Kd.R_mono HO178.out (fun _ hk => ⟨hk.1.2, hk.2⟩)) hg hat); have n2_ := Aside0.mk (hb); have n3_ := Aside0.mk ((show Kd.C (Kd.int .u8) w65 Ao24 y170.length y170 from by rw [Ny170.out]; exact Kd.C_take (m := (a2 : Int).toNat) ((Kd.R_reads' (Kd.R_after (ok := (fun k_ => some k_ ≠ (v177 : Value).ownBlock)) (by (with_reducible repeat (first | apply Kd.R_alloc | apply Kd.R_drewN | apply Kd.R_drew)); exact Kd.R_mono HO_9.out (fun _ hk => ⟨hk.1.2, hk.2⟩)) hg hat)).2.2) KL61.out)); have n4_ := Aside0.mk (ho); clear HO_9; clear HO178; clear HB; clear HR173; clear HO181; have HO_9 := n0_; have HO178 := n1_; have HB := n2_; have HR173 := n3_; have HO184 := n4_; clear n0_ n1_ n2_ n3_ n4_; clear ho hb hg hat; obtain ⟨Ao66, co66, eo66⟩ := Kd.R_slice HO184.out; subst eo66; have p185 : 0 ≤ (a2 : Int) := of_decide_eq_true (by first | (with_reducible assumption) | assumption); have q185 : a2 < (y182.length : Int) := of_decide_eq_true (by first | (with_reducible assumption) | assumption); obtain ⟨ad185, e185, hx185_0⟩ := Kd.at_int (Kd.R_reads' HO184.out).2.2 a2 p185 q185; cases e185; replace p185 := eq_true p185; replace q185 := eq_true q185; have p59 : 0 ≤ (a2 : Int) := of_decide_eq_true (by first | (with_reducible assumption) | assumption); have q59 : (a2 : Int) < ((y182.length : Int) : Int) := of_decide_eq_true (by first | (with_reducible assumption) | assumption); obtain ⟨go59, co59, eo59, gb59, gl59, cl59, HG59⟩ := Kd.R_form HO184.out (by omega); (first | cases eo59 | (injection eo59 with ea_ en_ ec_; (first | subst ea_ | (injection ea_ with ea_; subst ea_)); subst ec_; clear en_)); have GB59 := Aside0.mk gb59; have GG59 := Aside0.mk HG59; clear gb59 gl59 HG59; (first | simp only [add_plain] at hx185_0 | skip); obtain ⟨hx59_0, hf59_0⟩ := Kd.R_celln 0 HO184.out (a2 : Int) p59 q59; replace p59 := eq_true p59; replace q59 := eq_true q59; obtain ⟨hy67_, hz67_⟩ := Kd.R_celln 0 HO184.out (a2 : Int) (of_decide_eq_true (by first | (with_reducible assumption) | assumption)) (of_decide_eq_true (by first | (with_reducible assumption) | assumption)); have HP67 := Kd.R_putg HO184.out (a2 : Int) (Go.bits .xor .u8 (rd y182 a2) a3)) | ((with_reducible refine gate_store (t := 5) (p := 137) rfl ?_); refine store_event (t := 5) (p := 137) (v := ?vo_w68) (w1 := (w65.setCell ⟨go59, (a2 : Int).toNat, none⟩ (.int .u8 (Go.bits .xor .u8 (rd y182 a2) a3)))) ?hg ?ho ?hn ?hr ?_; (case ho => rfl); (case hg => rfl); (case hn => rfl); (case hr => first | (go_simp; done) | (go_simp; rfl)); intro w68 hw; have hg : w65.grownBy w68 (some go59) := (by rw [hw]; exact HP67.2); have hp_ : Kd.R (Kd.int .u8) 5 w68 w.heap.size (fun k_ => some k_ ≠ (.slice Ao24 t141.length co24 : Value).ownBlock ∧ some k_ ≠ (v177 : Value).ownBlock) (.slice (some ⟨go59, 0, none⟩) y182.length co66) y186 := (by rw [hw, Ny186.out]; exact HP67.1); clear HP67; have n0_ := Aside0.mk (Kd.R_after (v := (.slice (some ⟨go59, 0, none⟩) y182.length co66)) (v1 := (.slice (some ⟨go59, 0, none⟩) y182.length co66)) (ok := (fun k_ => some k_ ≠ (v177 : Value).ownBlock)) (by (with_reducible repeat (first | apply Kd.R_alloc | apply Kd.R_drewN | apply Kd.R_drew)); exact HO_9.out) hg (.inl rfl)); have n1_ := Aside0.mk (Kd.R_after (v := (.slice (some ⟨go59, 0, none⟩) y182.length co66)) (v1 := (.slice (some ⟨go59, 0, none⟩) y182.length co66)) (ok := (fun k_ => some k_ ≠ (.slice Ao24 t141.length co24 : Value).ownBlock)) (by (with_reducible repeat (first | apply Kd.R_alloc | apply Kd.R_drewN | apply Kd.R_drew)); exact HO178.out) hg (.inl rfl)); have n2_ := Aside0.mk (hp_); have n3_ := Aside0.mk ((by rw [hw]; exact below_set (HB.out) GB59.out : Below w.heap.size w w68)); have n4_ := Aside0.mk ((show Kd.C (Kd.int .u8) w68 Ao24 y170.length y170 from by rw [Ny170.out]; exact Kd.C_take (m := (a2 : Int).toNat) ((Kd.R_reads' (Kd.R_after (v := (.slice (some ⟨go59, 0, none⟩) y182.length co66)) (v1 := (.slice (some ⟨go59, 0, none⟩) y182.length co66)) (ok := (fun k_ => some k_ ≠ (v177 : Value).ownBlock)) (by (with_reducible repeat (first | apply Kd.R_alloc | apply Kd.R_drewN | apply Kd.R_drew)); exact HO_9.out) hg (.inl rfl))).2.2) KL61.out)); clear HO_9; clear HO178; clear HO184; clear HB; clear HR173; have HO_9 := n0_; have HO178 := n1_; have HO184 := n2_; have HB := n3_; have HR173 := n4_; clear n0_ n1_ n2_ n3_ n4_; clear hg hw hp_) | ((with_reducible refine gate_callee (f := 16) rfl ?_); refine goesL_ (some 140) rfl rfl Try.func16 (by kernel_rfl) rfl #[.slice (some ⟨go59, 0, none⟩) y186.length co66, .int .i64 0] rfl (by (try simp only [List.map_toArray, List.map_cons, List.map_nil]); first | done | (rw [show y186.length = y182.length from (Kd.R_reads' HO184.out).1.symm] <;> rfl) | rfl | (simp only [List.length_drop, List.length_take]; rfl) | (simp only [Int.toNat_natCast, Nat.sub_self, List.length_drop, List.length_take]; rfl)) ?_; (with_reducible refine (crc_Unframe.calls kj43 _ _ y186 0 t187 t188 t189 _ ?side1 ?side2 A60.out).mono ?_); (case side1 => repeat (first | exact (Kd.R_reads' HO184.out).2.2 | (with_reducible refine Kd.C_alloc ?_ _) | (with_reducible refine Kd.C_drewN ?_ _) | (with_reducible refine Kd.C_drew ?_))); (case side2 => rw [show y186.length = y182.length from (Kd.R_reads' HO184.out).1.symm]; exact (Kd.R_reads' HO184.out).2.1); rintro e w69 ⟨v190, rfl, ho0, hb⟩; refine ⟨_, rfl, ?_⟩; have n0_ := Aside0.mk (Kd.R_elder' (by (with_reducible repeat (first | apply Kd.R_alloc | apply Kd.R_drewN | apply Kd.R_drew)); exact HO_9.out) (Kd.R_base ho0) hb); have n1_ := Aside0.mk (Kd.R_elder' (by (with_reducible repeat (first | apply Kd.R_alloc | apply Kd.R_drewN | apply Kd.R_drew)); exact HO178.out) (Kd.R_base ho0) hb); have n2_ := Aside0.mk (Kd.R_elder' (by (with_reducible repeat (first | apply Kd.R_alloc | apply Kd.R_drewN | apply Kd.R_drew)); exact HO184.out) (Kd.R_base ho0) hb); have n3_ := Aside0.mk (Kd.R_lower (Kd.R_new' (Kd.R_new' (Kd.R_new' ho0 (Kd.R_lt (by (with_reducible repeat (first | apply Kd.R_alloc | apply Kd.R_drewN | apply Kd.R_drew)); exact HO_9.out))) (Kd.R_lt (by (with_reducible repeat (first | apply Kd.R_alloc | apply Kd.R_drewN | apply Kd.R_drew)); exact HO178.out))) (Kd.R_lt (by (with_reducible repeat (first | apply Kd.R_alloc | apply Kd.R_drewN | apply Kd.R_drew)); exact HO184.out))) (below_size (by repeat (first | (with_reducible first | exact HB.out | apply below_alloc | apply pw_below_drewN | apply below_drew1) | exact HB.out)))); have n4_ := Aside0.mk (Kd.C_below (by repeat (first | (with_reducible exact HR173.out) | (with_reducible refine Kd.C_alloc ?_ _) | (with_reducible refine Kd.C_drewN ?_ _) | (with_reducible refine Kd.C_drew ?_) | exact HR173.out)) hb); have n5_ := Aside0.mk (below_step (by repeat (first | (with_reducible first | exact HB.out | apply below_alloc | apply pw_below_drewN | apply below_drew1) | exact HB.out)) hb); clear HO_9; clear HO178; clear HO184; clear HR173; clear HB; have HO_9 := n0_; have HO178 := n1_; have HO184 := n2_; have HO191 := n3_; have HR173 := n4_; have HB := n5_; clear n0_ n1_ n2_ n3_ n4_ n5_; (try clear hb); (try clear hb2); (try clear hk); (try clear hi); (try clear ho0)))
                                        go_ret
                                        exact ⟨by first | rfl | (simp [errW_none, errW_some] <;> rfl) | (simp [*, errW_none, errW_some] <;> rfl), by repeat (first | (with_reducible first | exact HB.out | apply below_alloc | apply pw_below_drewN | apply below_drew1) | exact HB.out)⟩
                                      · rw [if_neg c58] at H
                                        exact absurd H (by simp)
                                    · rw [if_neg c57] at H
                                      exact absurd H (by simp)
                              · rw [if_neg c50] at H
                                have c50b0 : (t176 == 21) = false := beq_eq_false_iff_ne.mpr c50
                                have c50b1 : (t176 != 21) = true := bne_iff_ne.mpr c50
                                obtain rfl := Option.some.inj H
                                have q70 : (a2 : Int) ≤ ((t141.length : Int) : Int) := of_decide_eq_true (by first | (with_reducible assumption) | assumption)
                                obtain ⟨i070, hi070, _, hsz70, _⟩ := info_parts info5
                                have hroom70 : t141.length ≤ co24 := (Kd.R_reads' HO_9.out).2.1
                                have hC70 : Kd.C (Kd.int .u8) _ Ao24 t141.length t141 := (Kd.R_reads' HO_9.out).2.2
                                have hcut70 := cut_to (P := Try.prog) 22 5 .i64 Try.underlying22 hi070 Ao24 t141.length co24 a2 (of_decide_eq_true (by first | (with_reducible assumption) | assumption)) q70 hroom70
                                have hr70 := Kd.C_take (m := (a2 : Int).toNat) hC70 (by omega)
                                have hy70 : y170.length = (a2 : Int).toNat := (by rw [Ny170.out, List.length_take]; omega)
                                rw [← Ny170.out] at hr70
                                rw [← hy70] at hcut70
                                have HR173 := Aside0.mk hr70
                                have HC173 := Aside0.mk (show y170.length ≤ co24 from by omega)
                                clear hr70 hC70 hroom70 hi070 hsz70
                                have KY70 := Aside0.mk hy70
                                clear hy70
                                have KL70 := Aside0.mk (show (a2 : Int).toNat ≤ t141.length from by omega)
                                replace q70 := eq_true q70
                                go_wp2_with (first | ((with_reducible refine gate_callee (f := 16) rfl ?_); refine goesL_ (some 114) rfl rfl Try.func16 (by kernel_rfl) rfl #[.slice Ao24 y170.length co24, .int .i64 0] rfl (by (try simp only [List.map_toArray, List.map_cons, List.map_nil]); first | done | rfl | (simp only [List.length_drop, List.length_take]; rfl) | (simp only [Int.toNat_natCast, Nat.sub_self, List.length_drop, List.length_take]; rfl)) ?_; (with_reducible refine (crc_Unframe.calls kj43 _ _ y170 0 t174 t175 t176 _ ?side1 ?side2 A49.out).mono ?_); (case side1 => repeat (first | exact (by repeat (first | (with_reducible exact HR173.out) | (with_reducible refine Kd.C_alloc ?_ _) | (with_reducible refine Kd.C_drewN ?_ _) | (with_reducible refine Kd.C_drew ?_) | exact HR173.out)) | (with_reducible refine Kd.C_alloc ?_ _) | (with_reducible refine Kd.C_drewN ?_ _) | (with_reducible refine Kd.C_drew ?_))); (case side2 => exact HC173.out); rintro e w71 ⟨v177, rfl, ho0, hb⟩; refine ⟨_, rfl, ?_⟩; have n0_ := Aside0.mk (Kd.R_elder' (by (with_reducible repeat (first | apply Kd.R_alloc | apply Kd.R_drewN | apply Kd.R_drew)); exact HO_9.out) (Kd.R_base ho0) hb); have n1_ := Aside0.mk (Kd.R_lower (Kd.R_new' ho0 (Kd.R_lt (by (with_reducible repeat (first | apply Kd.R_alloc | apply Kd.R_drewN | apply Kd.R_drew)); exact HO_9.out))) (below_size (by repeat (first | (with_reducible first | exact HB.out | apply below_alloc | apply pw_below_drewN | apply below_drew1) | exact HB.out)))); have n2_ := Aside0.mk (Kd.C_below (by repeat (first | (with_reducible exact HR173.out) | (with_reducible refine Kd.C_alloc ?_ _) | (with_reducible refine Kd.C_drewN ?_ _) | (with_reducible refine Kd.C_drew ?_) | exact HR173.out)) hb); have n3_ := Aside0.mk (below_step (by repeat (first | (with_reducible first | exact HB.out | apply below_alloc | apply pw_below_drewN | apply below_drew1) | exact HB.out)) hb); clear HO_9; clear HR173; clear HB; have HO_9 := n0_; have HO178 := n1_; have HR173 := n2_; have HB := n3_; clear n0_ n1_ n2_ n3_; (try clear hb); (try clear hb2); (try clear hk); (try clear hi); (try clear ho0)))
                                go_ret
                                exact ⟨by first | rfl | (simp [errW_none, errW_some] <;> rfl) | (simp [*, errW_none, errW_some] <;> rfl), by repeat (first | (with_reducible first | exact HB.out | apply below_alloc | apply pw_below_drewN | apply below_drew1) | exact HB.out)⟩
                            · rw [if_neg c48] at H
                              exact absurd H (by simp)
                          · rw [if_neg c47] at H
                            exact absurd H (by simp)
            · rw [if_neg c17] at H
              exact absurd H (by simp)
          · rw [if_neg c16] at H
            exact absurd H (by simp)
  · replace c6 := Bool.eq_false_iff.mpr c6
    subst c6
    have H1 : (some false) = some r := by rw [if_neg (show ¬ (false = true) by decide)] at H; exact H
    clear H
    have H := H1
    clear H1
    obtain rfl := Option.some.inj H
    go_enter Try.func7, Try.ntmps7
    go_wp2_with (first | ((with_reducible refine gate_callee (f := 9) rfl ?_); refine goesL_ (some 19) rfl rfl Try.func9 (by kernel_rfl) rfl #[] rfl (by (try simp only [List.map_toArray, List.map_cons, List.map_nil]); first | done | rfl | (simp only [List.length_drop, List.length_take]; rfl) | (simp only [Int.toNat_natCast, Nat.sub_self, List.length_drop, List.length_take]; rfl)) ?_; (with_reducible refine (skerrylaw02_wakes.calls  false _ A5.out).mono ?_); rintro e w72 ⟨rfl, hb⟩; refine ⟨_, rfl, ?_⟩; have n0_ := Aside0.mk (below_step (by repeat (first | (with_reducible first | exact HB.out | apply below_alloc | apply pw_below_drewN | apply below_drew1) | exact HB.out)) hb); clear HB; have HB := n0_; clear n0_; (try clear hb); (try clear hb2); (try clear hk); (try clear hi)))
    go_ret
    exact ⟨by first | rfl | (simp [errW_none, errW_some] <;> rfl) | (simp [*, errW_none, errW_some] <;> rfl), by repeat (first | (with_reducible first | exact HB.out | apply below_alloc | apply pw_below_drewN | apply below_drew1) | exact HB.out)⟩

/-- THE ONE PURE STATEMENT of skerrylaw02_CrcBack: yours. -/
def skerrylaw02_CrcBack.Pure : Prop := ∀ (l0 : List Int) (l1 : List Int) (a2 : Int) (a3 : Int), l0.length ≤ maxLen → l0.length * 1 ≤ 140737488351232 → (∀ x ∈ l0, (Lit.int .u8 x).wf = true) → l1.length ≤ maxLen → l1.length * 1 ≤ 140737488351232 → (∀ x ∈ l1, (Lit.int .u8 x).wf = true) → (Lit.int .i64 a2).wf = true → (Lit.int .u8 a3).wf = true → ∃ k, skerrylaw02_CrcBack.f k l0 l1 a2 a3 = some true
theorem skerrylaw02_CrcBack.walk (P : skerrylaw02_CrcBack.Pure) (a0 : Option Addr) (len0 cap0 : Nat) (z0 : List Int) (a1 : Option Addr) (len1 cap1 : Nat) (z1 : List Int) (a2 : Int) (a3 : Int) (w : World) (w0 : (a0 = none ∧ len0 = 0 ∧ cap0 = 0 ∧ z0 = []) ∨ ∃ x, a0 = some x ∧ len0 ≤ cap0 ∧ cap0 ≤ maxLen ∧ z0.length = cap0 ∧ (∀ i, i < z0.length → w.cell? (x.add i) = some (.int .u8 (z0.getD i 0))) ∧ ∀ n ∈ z0, (Lit.int .u8 n).wf = true) (y0 : len0 * 1 ≤ 140737488351232) (w1 : (a1 = none ∧ len1 = 0 ∧ cap1 = 0 ∧ z1 = []) ∨ ∃ x, a1 = some x ∧ len1 ≤ cap1 ∧ cap1 ≤ maxLen ∧ z1.length = cap1 ∧ (∀ i, i < z1.length → w.cell? (x.add i) = some (.int .u8 (z1.getD i 0))) ∧ ∀ n ∈ z1, (Lit.int .u8 n).wf = true) (y1 : len1 * 1 ≤ 140737488351232) (w2 : (Lit.int .i64 a2).wf = true) (w3 : (Lit.int .u8 a3).wf = true) :
    Calls Try.prog 7 #[.slice a0 len0 cap0, .slice a1 len1 cap1, .int .i64 a2, .int .u8 a3] w fun e w' => e = .returned (.bool true) ∧ Below w.heap.size w w' := by
  obtain ⟨l0, rfl, hr0, hm0, hw0, hc0⟩ := ReadsInt.ofRowC w0
  obtain ⟨l1, rfl, hr1, hm1, hw1, hc1⟩ := ReadsInt.ofRowC w1
  obtain ⟨k, h⟩ := P l0 l1 a2 a3 hm0 y0 hw0 hm1 y1 hw1 w2 w3
  refine (skerrylaw02_CrcBack.calls k _ _ l0 _ _ l1 a2 a3 true w (Kd.C_of_reads (d := (0 : Int)) (h1 := fun _ => rfl) hr0) hc0 (Kd.C_of_reads (d := (0 : Int)) (h1 := fun _ => rfl) hr1) hc1 h).mono ?_
  rintro e w' ⟨rfl, hd⟩
  exact ⟨rfl, hd⟩

end Go.Proofs.Ytmjgmompcaanlac.PCrcBack
