-- Written by this session's own tool (prn.py) over the kit's printer; its templates are the session's own. Lean checks it.
import Derived.Test.YtacecaacpagokaaPSwapGoesx0
namespace Go.Proofs.Ytacecaacpagokaa.PSwapGoes
open Go.RowKit Go.Proofs.YtacecaacpagokaaW.PrintWords Go.Proofs.YtacecaacpagokaaW.PrintLast Go.Proofs.YtacecaacpagokaaW.PrintMore
attribute [local go_sem] max2_int min2_int max_two min_two max_three min_three max_four min_four   -- for this text's walks alone
set_option linter.unusedVariables false
set_option linter.unusedSimpArgs false

/-! ### swap_Most: function 28 -/
def swap_Most.f (a0 : Int) : Option (Int × Int) := if a0 < 64 then (some (0, 1)) else (if a0 > 4096 then (some (0, 1)) else (if (Go.bits .and .i64 a0 (wrap64 (a0 - 1))) = 0 then (some (wrap64 (a0 - 30), 0)) else (some (0, 1))))
set_option maxHeartbeats 8000000 in
set_option maxRecDepth 100000 in
theorem swap_Most.calls (a0 : Int) (r1 : Int) (r2 : Int) (w : World) (h : swap_Most.f a0 = some (r1, r2)) :
    Calls Try.prog 28 #[.int .i64 a0] w fun e w' => e = .returned (.tuple #[.int .i64 r1, .int .i64 r2]) ∧ Drawn0 w w' := by
  have H : (if a0 < 64 then (some (0, 1)) else (if a0 > 4096 then (some (0, 1)) else (if (Go.bits .and .i64 a0 (wrap64 (a0 - 1))) = 0 then (some (wrap64 (a0 - 30), 0)) else (some (0, 1))))) = some (r1, r2) := h
  clear h
  by_cases c2 : a0 < 64
  · rw [if_pos c2] at H
    have c2b0 : decide (a0 < 64) = true := decide_eq_true c2
    clear c2
    simp only [Option.some.injEq, Prod.mk.injEq] at H
    obtain ⟨rfl, rfl⟩ := H
    go_enter Try.func28, Try.ntmps28
    go_wp2
    go_ret2
    exact ⟨by first | rfl | (simp; done) | (simp [*]; done), by repeat (first | exact Drawn0.refl _ | apply Drawn0.step)⟩
  · rw [if_neg c2] at H
    have c2b0 : decide (a0 < 64) = false := decide_eq_false c2
    clear c2
    by_cases c3 : a0 > 4096
    · rw [if_pos c3] at H
      have c3b0 : decide (4096 < a0) = true := decide_eq_true c3
      clear c3
      simp only [Option.some.injEq, Prod.mk.injEq] at H
      obtain ⟨rfl, rfl⟩ := H
      go_enter Try.func28, Try.ntmps28
      go_wp2
      go_ret2
      exact ⟨by first | rfl | (simp; done) | (simp [*]; done), by repeat (first | exact Drawn0.refl _ | apply Drawn0.step)⟩
    · rw [if_neg c3] at H
      have c3b0 : decide (4096 < a0) = false := decide_eq_false c3
      clear c3
      by_cases c4 : (Go.bits .and .i64 a0 (wrap64 (a0 - 1))) = 0
      · rw [if_pos c4] at H
        have c4b0 : ((Go.bits .and .i64 a0 (wrap64 (a0 - 1))) == 0) = true := beq_iff_eq.mpr c4
        have c4b1 : ((Go.bits .and .i64 a0 (wrap64 (a0 - 1))) != 0) = false := bne_eq_false_iff_eq.mpr c4
        clear c4
        simp only [Option.some.injEq, Prod.mk.injEq] at H
        obtain ⟨rfl, rfl⟩ := H
        go_enter Try.func28, Try.ntmps28
        go_wp2
        go_ret2
        exact ⟨by first | rfl | (simp; done) | (simp [*]; done), by repeat (first | exact Drawn0.refl _ | apply Drawn0.step)⟩
      · rw [if_neg c4] at H
        have c4b0 : ((Go.bits .and .i64 a0 (wrap64 (a0 - 1))) == 0) = false := beq_eq_false_iff_ne.mpr c4
        have c4b1 : ((Go.bits .and .i64 a0 (wrap64 (a0 - 1))) != 0) = true := bne_iff_ne.mpr c4
        simp only [Option.some.injEq, Prod.mk.injEq] at H
        obtain ⟨rfl, rfl⟩ := H
        go_enter Try.func28, Try.ntmps28
        go_wp2
        go_ret2
        exact ⟨by first | rfl | (simp; done) | (simp [*]; done), by repeat (first | exact Drawn0.refl _ | apply Drawn0.step)⟩

/-! ### swap_file: function 18 -/
def swap_file.f (a0 : Int) (a1 : Int) : Option (Int × Int) := (swap_Most.f a0).bind fun bt101 => (if bt101.2 = 0 then (if a1 < 0 then (some (bt101.1, 3)) else (if (a1 / 4294967296) = 0 then (some (bt101.1, bt101.2)) else (some (bt101.1, 3)))) else (some (bt101.1, bt101.2)))
set_option maxHeartbeats 8000000 in
set_option maxRecDepth 100000 in
theorem swap_file.calls (a0 : Int) (a1 : Int) (r1 : Int) (r2 : Int) (w : World) (h : swap_file.f a0 a1 = some (r1, r2)) :
    Calls Try.prog 18 #[.int .i64 a0, .int .i64 a1] w fun e w' => e = .returned (.tuple #[.int .i64 r1, .int .i64 r2]) ∧ Drawn0 w w' := by
  have H : ((swap_Most.f a0).bind fun bt101 => (if bt101.2 = 0 then (if a1 < 0 then (some (bt101.1, 3)) else (if (a1 / 4294967296) = 0 then (some (bt101.1, bt101.2)) else (some (bt101.1, 3)))) else (some (bt101.1, bt101.2)))) = some (r1, r2) := h
  clear h
  replace H := Option.bind_eq_some_iff.mp H
  obtain ⟨⟨t101, t102⟩, A30, H⟩ := H
  replace H : (if t102 = 0 then (if a1 < 0 then (some (t101, 3)) else (if (a1 / 4294967296) = 0 then (some (t101, t102)) else (some (t101, 3)))) else (some (t101, t102))) = some (r1, r2) := H
  have A3 := Aside0.mk A30
  clear A30
  by_cases c4 : t102 = 0
  · rw [if_pos c4] at H
    have c4b0 : (t102 == 0) = true := beq_iff_eq.mpr c4
    have c4b1 : (t102 != 0) = false := bne_eq_false_iff_eq.mpr c4
    clear c4
    by_cases c5 : a1 < 0
    · rw [if_pos c5] at H
      have c5b0 : decide (a1 < 0) = true := decide_eq_true c5
      clear c5
      simp only [Option.some.injEq, Prod.mk.injEq] at H
      obtain ⟨rfl, rfl⟩ := H
      go_enter Try.func18, Try.ntmps18
      go_wp2_with (first | ((with_reducible refine gate_callee (f := 28) rfl ?_); refine goesL_ (some 8) rfl rfl Try.func28 (by kernel_rfl) rfl #[.int .i64 a0] rfl (by (try simp only [List.map_toArray, List.map_cons, List.map_nil]); first | done | rfl | (simp only [List.length_drop, List.length_take]; rfl) | (simp only [Int.toNat_natCast, Nat.sub_self, List.length_drop, List.length_take]; rfl)) ?_; (with_reducible refine (swap_Most.calls a0 t101 t102 _ A3.out).mono ?_); rintro e w' ⟨rfl, ⟨nd, rfl⟩⟩; refine ⟨_, rfl, ?_⟩))
      go_ret2
      exact ⟨by first | rfl | (simp; done) | (simp [*]; done), by repeat (first | exact Drawn0.refl _ | apply Drawn0.step)⟩
    · rw [if_neg c5] at H
      have c5b0 : decide (a1 < 0) = false := decide_eq_false c5
      clear c5
      by_cases c6 : (a1 / 4294967296) = 0
      · rw [if_pos c6] at H
        have c6b0 : ((a1 / 4294967296) == 0) = true := beq_iff_eq.mpr c6
        have c6b1 : ((a1 / 4294967296) != 0) = false := bne_eq_false_iff_eq.mpr c6
        clear c6
        simp only [Option.some.injEq, Prod.mk.injEq] at H
        obtain ⟨rfl, rfl⟩ := H
        go_enter Try.func18, Try.ntmps18
        go_wp2_with (first | ((with_reducible refine gate_callee (f := 28) rfl ?_); refine goesL_ (some 8) rfl rfl Try.func28 (by kernel_rfl) rfl #[.int .i64 a0] rfl (by (try simp only [List.map_toArray, List.map_cons, List.map_nil]); first | done | rfl | (simp only [List.length_drop, List.length_take]; rfl) | (simp only [Int.toNat_natCast, Nat.sub_self, List.length_drop, List.length_take]; rfl)) ?_; (with_reducible refine (swap_Most.calls a0 t101 t102 _ A3.out).mono ?_); rintro e w' ⟨rfl, ⟨nd, rfl⟩⟩; refine ⟨_, rfl, ?_⟩))
        go_ret2
        exact ⟨by first | rfl | (simp; done) | (simp [*]; done), by repeat (first | exact Drawn0.refl _ | apply Drawn0.step)⟩
      · rw [if_neg c6] at H
        have c6b0 : ((a1 / 4294967296) == 0) = false := beq_eq_false_iff_ne.mpr c6
        have c6b1 : ((a1 / 4294967296) != 0) = true := bne_iff_ne.mpr c6
        simp only [Option.some.injEq, Prod.mk.injEq] at H
        obtain ⟨rfl, rfl⟩ := H
        go_enter Try.func18, Try.ntmps18
        go_wp2_with (first | ((with_reducible refine gate_callee (f := 28) rfl ?_); refine goesL_ (some 8) rfl rfl Try.func28 (by kernel_rfl) rfl #[.int .i64 a0] rfl (by (try simp only [List.map_toArray, List.map_cons, List.map_nil]); first | done | rfl | (simp only [List.length_drop, List.length_take]; rfl) | (simp only [Int.toNat_natCast, Nat.sub_self, List.length_drop, List.length_take]; rfl)) ?_; (with_reducible refine (swap_Most.calls a0 t101 t102 _ A3.out).mono ?_); rintro e w' ⟨rfl, ⟨nd, rfl⟩⟩; refine ⟨_, rfl, ?_⟩))
        go_ret2
        exact ⟨by first | rfl | (simp; done) | (simp [*]; done), by repeat (first | exact Drawn0.refl _ | apply Drawn0.step)⟩
  · rw [if_neg c4] at H
    have c4b0 : (t102 == 0) = false := beq_eq_false_iff_ne.mpr c4
    have c4b1 : (t102 != 0) = true := bne_iff_ne.mpr c4
    simp only [Option.some.injEq, Prod.mk.injEq] at H
    obtain ⟨rfl, rfl⟩ := H
    go_enter Try.func18, Try.ntmps18
    go_wp2_with (first | ((with_reducible refine gate_callee (f := 28) rfl ?_); refine goesL_ (some 8) rfl rfl Try.func28 (by kernel_rfl) rfl #[.int .i64 a0] rfl (by (try simp only [List.map_toArray, List.map_cons, List.map_nil]); first | done | rfl | (simp only [List.length_drop, List.length_take]; rfl) | (simp only [Int.toNat_natCast, Nat.sub_self, List.length_drop, List.length_take]; rfl)) ?_; (with_reducible refine (swap_Most.calls a0 t101 t102 _ A3.out).mono ?_); rintro e w' ⟨rfl, ⟨nd, rfl⟩⟩; refine ⟨_, rfl, ?_⟩))
    go_ret2
    exact ⟨by first | rfl | (simp; done) | (simp [*]; done), by repeat (first | exact Drawn0.refl _ | apply Drawn0.step)⟩

/-! ### swap_next: function 20 -/
def swap_next.f (a0 : Int) (a1 : Int) : Option (Int) := if a1 = 0 then (none) else (some (wrap64 ((wrap64 (a0 - (Int.tmod a0 a1))) + a1)))
set_option maxHeartbeats 8000000 in
set_option maxRecDepth 100000 in
theorem swap_next.calls (a0 : Int) (a1 : Int) (r : Int) (w : World) (h : swap_next.f a0 a1 = some r) :
    Calls Try.prog 20 #[.int .i64 a0, .int .i64 a1] w fun e w' => e = .returned (.int .i64 r) ∧ Drawn0 w w' := by
  have H : (if a1 = 0 then (none) else (some (wrap64 ((wrap64 (a0 - (Int.tmod a0 a1))) + a1)))) = some r := h
  clear h
  by_cases c3 : a1 = 0
  · rw [if_pos c3] at H
    exact absurd H (by simp)
  · rw [if_neg c3] at H
    have c3b0 : (a1 == 0) = false := beq_eq_false_iff_ne.mpr c3
    have c3b1 : (a1 != 0) = true := bne_iff_ne.mpr c3
    obtain rfl := Option.some.inj H
    go_enter Try.func20, Try.ntmps20
    go_wp2
    go_ret
    exact ⟨by first | rfl | (simp; done) | (simp [*]; done), by repeat (first | exact Drawn0.refl _ | apply Drawn0.step)⟩

-- NOT PRINTED: function 44 (turn_Power)

-- NOT PRINTED: function 58 (math_archTrunc)

-- NOT PRINTED: function 72 (math_Float64bits)

-- NOT PRINTED: function 73 (math_Float64frombits)

-- NOT PRINTED: function 70 (math_Abs)

-- NOT PRINTED: function 71 (math_Copysign)

-- NOT PRINTED: function 59 (math_trunc)

-- NOT PRINTED: function 45 (math_Trunc)

-- NOT PRINTED: function 46 (turn_From)

-- NOT PRINTED: function 34 (turn_Sums)

-- NOT PRINTED: function 25 (turn_Check)

-- NOT PRINTED: function 43 (turn_turned)

-- NOT PRINTED: function 32 (turn_Join)

-- NOT PRINTED: function 33 (turn_Of)

-- NOT PRINTED: function 21 (swap_Tail_seal)

-- NOT PRINTED: function 22 (swap_Tail_behind)

/-! ### slices_Clone_byte_byte: function 42 -/
def slices_Clone_byte_byte.f (l0 : List Int) : Option (List Int) := if l0.length < 140737488355328 then some l0 else none
set_option maxHeartbeats 8000000 in
set_option maxRecDepth 100000 in
theorem slices_Clone_byte_byte.calls (A0 : Option Addr) (c0 : Nat) (l0 : List Int) (r : List Int) (w : World) (hr0 : Kd.C (Kd.int .u8) w A0 l0.length l0) (hc0 : l0.length ≤ c0) (h : slices_Clone_byte_byte.f l0 = some r) :
    Calls Try.prog 42 #[.slice A0 l0.length c0] w fun e w' => ∃ v0_ : Value, e = .returned (v0_) ∧ Kd.R (Kd.int .u8) 5 w' w.heap.size (fun _ => True) v0_ r ∧ Below w.heap.size w w' := by
  unfold slices_Clone_byte_byte.f at h
  by_cases c2 : l0.length < 140737488355328
  · rw [if_pos c2] at h
    obtain rfl := Option.some.inj h
    clear h
    have hnil := fun W : World => Lib.run_eql_slice_nil (P := Try.prog) W 22 5 A0 l0.length c0 0 0 Try.underlying22
    cases A0 with
    | none =>
      have hl : l0 = [] := by
        by_cases h0 : 0 < l0.length
        · obtain ⟨ad, hx, _⟩ := hr0.2.2 h0
          exact absurd hx (by simp)
        · exact List.length_eq_zero_iff.1 (by omega)
      subst hl
      clear hr0 hc0 c2
      simp only [List.length_nil] at hnil
      go_enter Try.func42, Try.ntmps42
      go_wp2
      go_ret
      exact ⟨_, rfl, Kd.R_nil _ _ _ _ _, Below.refl _ _⟩
    | some ad =>
      have HR0 := Aside0.mk hr0
      have HC0 := Aside0.mk hc0
      have LMc2 := Aside0.mk c2
      clear hr0 hc0 c2
      have HB := Aside0.mk (Below.refl w.heap.size w)
      go_enter Try.func42, Try.ntmps42
      go_wp2_with (first | ((with_reducible refine gate_dst (N := 5) rfl ?_); refine Kd.R_lit (Kd.int .u8) _ 5 ?hg (N := 5) ?hd (xs := ([] : List Int)) (inner := []) (ok := fun _ => True) (okp := fun _ => True) ?hr ?hp (fun _ hk => hk) trivial (Below.refl _ _) (Nat.le_refl _) (by simp) ?_; (case hd => rfl); (case hg => rfl); (case hr => first | (go_simp; done) | (go_simp; rfl)); (case hp => exact (Reps.none _ _)); intro v120 w3 ho4 hb hg_ hnew_; clear hg_ hnew_; have n0_ := Aside0.mk (Kd.R_lower ho4 (below_size (by repeat (first | (with_reducible first | exact HB.out | apply below_alloc | apply pw_below_drewN | apply below_drew1) | exact HB.out)))); have n1_ := Aside0.mk (below_step (by repeat (first | (with_reducible first | exact HB.out | apply below_alloc | apply pw_below_drewN | apply below_drew1) | exact HB.out)) hb); clear HB; have HO121 := n0_; have HB := n1_; clear n0_ n1_; clear hb ho4) | ((with_reducible refine gate_builtin (b := .append) (xs := #[.tmp 5, .tmp 6]) rfl ?_); at_builtin; refine Kd.R_append_rows (Kd.int .u8) (w0 := w) w.heap.size rfl (.tmp 5) (.tmp 6) 22 5 (.int .u8 0) 1 rfl Try.underlying22 info5 rfl (by decide) (by omega) v120 ([] : List Int) l0 _ _ _ (fun _ => True) (fun _ => False) rfl rfl ?aO ?aR (fun _ _ h => h) (fun _ h => h.elim) ?aF ?aB ?aS ?aL ?_; (case aR => repeat (first | exact (Kd.C_below HR0.out HB.out) | (with_reducible refine Kd.C_alloc ?_ _) | (with_reducible refine Kd.C_drewN ?_ _) | (with_reducible refine Kd.C_drew ?_))); (case aB => exact (by repeat (first | (with_reducible first | exact HB.out | apply below_alloc | apply pw_below_drewN | apply below_drew1) | exact HB.out))); (case aF => exact (fun _ _ => trivial)); (case aO => exact (by (with_reducible repeat (first | apply Kd.R_alloc | apply Kd.R_drewN | apply Kd.R_drew)); exact HO121.out)); (case aS => exact (below_size (by repeat (first | (with_reducible first | exact HB.out | apply below_alloc | apply pw_below_drewN | apply below_drew1) | exact HB.out)))); (case aL => have := LMc2.out; simp only [List.length_nil]; omega); intro v123 w5 ho hb hg hat; have n0_ := Aside0.mk (hb); have n1_ := Aside0.mk (ho); clear HB; clear HO121; have HB := n0_; have HO124 := n1_; clear n0_ n1_; clear ho hb hg hat))
      go_ret
      exact ⟨_, rfl, by (with_reducible repeat (first | apply Kd.R_alloc | apply Kd.R_drewN | apply Kd.R_drew)); exact HO124.out, by repeat (first | (with_reducible first | exact HB.out | apply below_alloc | apply pw_below_drewN | apply below_drew1) | exact HB.out)⟩
  · rw [if_neg c2] at h
    exact absurd h (by simp)

/-! ### field_part: function 67 -/
/-- n bytes from a place on. -/
def field_part.seg (l : List Int) (a n : Int) : List Int := (l.take (a + n).toNat).drop a.toNat
def field_part.Inside (l : List Int) (a n : Int) : Prop := 0 ≤ a ∧ 0 ≤ n ∧ a ≤ (l.length : Int) ∧ n ≤ (l.length : Int) - a
instance (l : List Int) (a n : Int) : Decidable (field_part.Inside l a n) := by unfold field_part.Inside; infer_instance
theorem field_part.seg_length {l : List Int} {a n : Int} (h : field_part.Inside l a n) : (field_part.seg l a n).length = n.toNat := by
  obtain ⟨h0, h1, h2, h3⟩ := h
  unfold field_part.seg
  rw [List.length_drop, List.length_take]
  omega
theorem field_part.yes (A0 : Option Addr) (c0 : Nat) (l : List Int) (a n : Int) (hc0 : l.length ≤ c0) (hl : l.length ≤ 140737488351232) (h : field_part.Inside l a n) :
    ∃ A' : Option Addr, (∀ w, Calls Try.prog 67 #[.slice A0 l.length c0, .int .i64 a, .int .i64 n] w fun e w' => e = .returned (.tuple #[.slice A' (field_part.seg l a n).length (c0 - a.toNat), .bool true]) ∧ w = w') ∧
      (∀ w, Kd.C (Kd.int .u8) w A0 l.length l → Kd.C (Kd.int .u8) w A' (field_part.seg l a n).length (field_part.seg l a n)) ∧ (field_part.seg l a n).length ≤ c0 - a.toNat := by
  obtain ⟨h0, h1, h2, h3⟩ := h
  obtain ⟨i0, hi0, _, hsz, _⟩ := info_parts info5
  obtain ⟨A', hcut, hA, hC⟩ := print_mid_of (P := Try.prog) (Value.int .u8) 0 22 5 .i64 .i64 Try.underlying22 hi0 hsz A0 c0 l a (a + n) h0 (by omega) (by omega) hc0
  have HA := Aside0.mk hA
  have HC := Aside0.mk hC
  refine ⟨A', fun w => ?_, fun w hr => Kd.C_of_reads (h1 := fun _ => rfl) (HA.out _ (Kd.reads_of_C hr)), HC.out⟩
  obtain ⟨m, hm⟩ : ∃ m : Nat, (field_part.seg l a n).length = m := ⟨_, rfl⟩
  have hcut' : ∀ W : World, (Instr.slice 22 (.slice A0 l.length c0) (some (.int .i64 a)) (some (.int .i64 (a + n))) none).run Try.prog W = .ok (.slice A' m (c0 - a.toNat)) W := fun W => by rw [← hm]; exact hcut W
  rw [hm]
  clear HA HC hA hC hi0 hsz hc0 hcut hm
  go_enter Try.func67, Try.ntmps67
  go_wp2
  go_ret2
  exact ⟨rfl, rfl⟩
theorem field_part.no (A0 : Option Addr) (c0 : Nat) (l : List Int) (a n : Int) (hl : l.length ≤ 140737488351232) (h : ¬ field_part.Inside l a n) (w : World) :
    Calls Try.prog 67 #[.slice A0 l.length c0, .int .i64 a, .int .i64 n] w fun e w' => e = .returned (.tuple #[.slice none 0 0, .bool false]) ∧ w = w' := by
  unfold field_part.Inside at h
  by_cases c1 : a < 0
  · clear h
    go_enter Try.func67, Try.ntmps67
    go_wp2
    go_ret2
    exact ⟨rfl, rfl⟩
  · by_cases c2 : n < 0
    · clear h
      go_enter Try.func67, Try.ntmps67
      go_wp2
      go_ret2
      exact ⟨rfl, rfl⟩
    · by_cases c3 : (l.length : Int) < a
      · clear h
        go_enter Try.func67, Try.ntmps67
        go_wp2
        go_ret2
        exact ⟨rfl, rfl⟩
      · have c4 : (l.length : Int) - a < n := by omega
        clear h
        go_enter Try.func67, Try.ntmps67
        go_wp2
        go_ret2
        exact ⟨rfl, rfl⟩

/-! ### field_number: function 55 -/
theorem field_number.yes (A0 : Option Addr) (c0 : Nat) (l : List Int) (a n : Int) (hc0 : l.length ≤ c0) (hl : l.length ≤ 140737488351232) (hn : n = 1 ∨ n = 2 ∨ n = 4) (h : field_part.Inside l a n) :
    ∃ A' : Option Addr, (∀ w, Calls Try.prog 55 #[.slice A0 l.length c0, .int .i64 a, .int .i64 n] w fun e w' => e = .returned (.tuple #[.slice A' (field_part.seg l a n).length (c0 - a.toNat), .int .i64 0]) ∧ w = w') ∧
      (∀ w, Kd.C (Kd.int .u8) w A0 l.length l → Kd.C (Kd.int .u8) w A' (field_part.seg l a n).length (field_part.seg l a n)) ∧ (field_part.seg l a n).length ≤ c0 - a.toNat := by
  obtain ⟨A', hcall, hA, hC⟩ := field_part.yes A0 c0 l a n hc0 hl h
  have HK := Aside0.mk hcall
  refine ⟨A', fun w => ?_, hA, hC⟩
  clear hcall hA hC h hc0
  rcases hn with rfl | rfl | rfl
  all_goals
    go_enter Try.func55, Try.ntmps55
    go_wp2_with (go_at_call 67; refine (HK.out _).mono ?_; rintro e w' ⟨rfl, rfl⟩)
    go_ret2
    exact ⟨rfl, rfl⟩
theorem field_number.range (A0 : Option Addr) (c0 : Nat) (l : List Int) (a n : Int) (hl : l.length ≤ 140737488351232) (hn : n = 1 ∨ n = 2 ∨ n = 4) (h : ¬ field_part.Inside l a n) (w : World) :
    Calls Try.prog 55 #[.slice A0 l.length c0, .int .i64 a, .int .i64 n] w fun e w' => e = .returned (.tuple #[.slice none 0 0, .int .i64 2]) ∧ w = w' := by
  have HK := Aside0.mk (field_part.no A0 c0 l a n hl h)
  clear h
  rcases hn with rfl | rfl | rfl
  all_goals
    go_enter Try.func55, Try.ntmps55
    go_wp2_with (go_at_call 67; refine (HK.out _).mono ?_; rintro e w' ⟨rfl, rfl⟩)
    go_ret2
    exact ⟨rfl, rfl⟩
theorem field_number.arg (A0 : Option Addr) (c0 : Nat) (l : List Int) (a n : Int) (hn : ¬ (n = 1 ∨ n = 2 ∨ n = 4)) (w : World) :
    Calls Try.prog 55 #[.slice A0 l.length c0, .int .i64 a, .int .i64 n] w fun e w' => e = .returned (.tuple #[.slice none 0 0, .int .i64 1]) ∧ w = w' := by
  have n1 : (n == 1) = false := beq_eq_false_iff_ne.mpr (by omega)
  have n2 : (n == 2) = false := beq_eq_false_iff_ne.mpr (by omega)
  have n4 : (n == 4) = false := beq_eq_false_iff_ne.mpr (by omega)
  clear hn
  go_enter Try.func55, Try.ntmps55
  go_wp2
  go_ret2
  exact ⟨rfl, rfl⟩

/-! ### field_Put: function 53 -/
def field_Put.f (l0 : List Int) (a1 : Int) (a2 : Int) (a3 : Int) : Option (List Int × Int) :=
  if l0.length ≤ 140737488351232 then some (if a2 = 1 ∨ a2 = 2 ∨ a2 = 4 then (if field_part.Inside l0 a1 a2 then (if 0 ≤ a3 ∧ a3 < 256 ^ a2.toNat then (Plain.putB l0 a1.toNat a2.toNat a3, 0) else ([], 3)) else ([], 2)) else ([], 1)) else none
set_option maxRecDepth 100000 in
set_option maxHeartbeats 4000000 in
theorem field_Put.err (A0 : Option Addr) (c0 : Nat) (l : List Int) (a1 a2 a3 er : Int) (w : World) (he : (er != 0) = true)
    (hcall : ∀ w, Calls Try.prog 55 #[.slice A0 l.length c0, .int .i64 a1, .int .i64 a2] w fun e w' => e = .returned (.tuple #[.slice none 0 0, .int .i64 er]) ∧ w = w') :
    Calls Try.prog 53 #[.slice A0 l.length c0, .int .i64 a1, .int .i64 a2, .int .i64 a3] w fun e w' => e = .returned (.tuple #[.slice none 0 0, .int .i64 er]) ∧ w = w' := by
  have HK := Aside0.mk hcall
  clear hcall
  go_enter Try.func53, Try.ntmps53
  go_wp2_with (go_at_call 55; refine (HK.out _).mono ?_; rintro e w' ⟨rfl, rfl⟩)
  go_ret2
  exact ⟨rfl, rfl⟩
set_option maxRecDepth 100000 in
set_option maxHeartbeats 4000000 in
theorem field_Put.yes (A0 : Option Addr) (c0 : Nat) (l : List Int) (a1 a2 a3 : Int) (w : World) (hr : Kd.C (Kd.int .u8) w A0 l.length l) (hc0 : l.length ≤ c0) (hl : l.length ≤ 140737488351232) (h2 : a2 = 1 ∨ a2 = 2 ∨ a2 = 4) (hin : field_part.Inside l a1 a2) (hv0 : 0 ≤ a3) (hv1 : a3 < 256 ^ a2.toNat) :
    Calls Try.prog 53 #[.slice A0 l.length c0, .int .i64 a1, .int .i64 a2, .int .i64 a3] w fun e w' => ∃ v0_ : Value, e = .returned (.tuple #[v0_, .int .i64 0]) ∧ Kd.R (Kd.int .u8) 5 w' w.heap.size (fun _ => True) v0_ (Plain.putB l a1.toNat a2.toNat a3) ∧ Below w.heap.size w w' := by
  obtain ⟨A', hcall, hA, hC⟩ := field_number.yes A0 c0 l a1 a2 hc0 hl h2 hin
  obtain ⟨m, hm⟩ : ∃ m, (field_part.seg l a1 a2).length = m := ⟨_, rfl⟩
  obtain ⟨cap, hcap⟩ : ∃ z, c0 - a1.toNat = z := ⟨_, rfl⟩
  rw [hm, hcap] at hcall
  obtain ⟨i0, i1, i2, i3⟩ := hin
  obtain ⟨n, rfl⟩ := Int.eq_ofNat_of_zero_le i1
  obtain ⟨a, rfl⟩ := Int.eq_ofNat_of_zero_le i0
  simp only [Int.toNat_natCast] at hv1 ⊢
  have hn4 : n ≤ 4 := by omega
  have hn1 : 1 ≤ n := by omega
  have hlt : a3 / 2 ^ (8 * n) = 0 := by
    have e : (2 : Int) ^ (8 * n) = 256 ^ n := by rw [Int.pow_mul]; rfl
    rw [e]
    exact Int.ediv_eq_zero_of_lt hv0 hv1
  have hf : slices_Clone_byte_byte.f l = some l := by unfold slices_Clone_byte_byte.f; rw [if_pos (by omega)]
  have HK := Aside0.mk hcall
  have HR := Aside0.mk hr
  have HC := Aside0.mk hc0
  have HF := Aside0.mk hf
  clear hcall hA hC hm hcap hr hc0 hf h2
  go_enter Try.func53, Try.ntmps53
  go_wp2_with (first | (go_at_call 55; refine (HK.out _).mono ?_; rintro e w' ⟨rfl, rfl⟩) | (go_at_call 42; refine (slices_Clone_byte_byte.calls _ _ l l _ HR.out HC.out HF.out).mono ?_; rintro e w1 ⟨v1, rfl, ho1, hb1⟩))
  obtain ⟨g, cap1, rfl, hg0, hg1, _⟩ := Kd.R_form ho1 (by omega)
  have HO1 := Aside0.mk ho1
  have HB1 := Aside0.mk hb1
  clear ho1 hb1 hlt
  go_loopw [36] (fun v36 wr => ∃ k : Nat, k ≤ n ∧ v36 = .int .i64 k ∧ Aside0 (Kd.R (Kd.int .u8) 5 wr w.heap.size (fun _ => True) (.slice (some ⟨g, 0, none⟩) l.length cap1) (Plain.putB l a k a3)) ∧ Aside0 (Below w.heap.size w wr)) (fun v36 _ => n - (intOf v36).toNat)
  case atStart => exact ⟨0, Nat.zero_le _, rfl, ⟨by rw [Plain.putB_zero]; exact HO1.out⟩, HB1⟩
  case round =>
    obtain ⟨k, hk, rfl, HO, HB⟩ := hrel
    by_cases hlt : k < n
    · have hx := (Kd.R_celln 0 HO.out ((a : Int) + (k : Int)) (by omega) (by omega)).1
      have hfz := (Kd.R_celln 0 HO.out ((a : Int) + (k : Int)) (by omega) (by omega)).2
      have hput := Kd.R_putn HO.out ((a : Int) + (k : Int)) (a3 / 256 ^ k % 256)
      have eak : ((a : Int) + (k : Int)).toNat = a + k := by omega
      rw [eak] at hx hfz hput
      rw [Plain.putB_set (by omega)] at hput
      obtain ⟨q, hq⟩ : ∃ q : Int, a3 / 2 ^ (8 * k) = q := ⟨_, rfl⟩
      have hq2 : a3 / 256 ^ k = q := by rw [← hq, Int.pow_mul]; rfl
      rw [hq2] at hput
      have HP := Aside0.mk hput
      clear hput hq2 eak HO1 HB1
      go_wp2
      go_roundw
      case rel => exact ⟨k + 1, by omega, by go_num, HP, ⟨HB.out.setCell (p := ⟨g, a + k, none⟩) hg0 _⟩⟩
      case measure => simp [intOf]; omega
    · have hk' : k = n := by omega
      have HN := Aside0.mk hk'
      clear hk'
      go_wp2
      go_ret2
      exact ⟨_, rfl, by rw [← HN.out]; exact HO.out, HB.out⟩
set_option maxRecDepth 100000 in
set_option maxHeartbeats 4000000 in
theorem field_Put.value (A0 : Option Addr) (c0 : Nat) (l : List Int) (a1 a2 a3 : Int) (w : World) (hc0 : l.length ≤ c0) (hl : l.length ≤ 140737488351232) (h2 : a2 = 1 ∨ a2 = 2 ∨ a2 = 4) (hin : field_part.Inside l a1 a2) (hv : ¬ (0 ≤ a3 ∧ a3 < 256 ^ a2.toNat)) :
    Calls Try.prog 53 #[.slice A0 l.length c0, .int .i64 a1, .int .i64 a2, .int .i64 a3] w fun e w' => e = .returned (.tuple #[.slice none 0 0, .int .i64 3]) ∧ w = w' := by
  obtain ⟨A', hcall, hA, hC⟩ := field_number.yes A0 c0 l a1 a2 hc0 hl h2 hin
  obtain ⟨m, hm⟩ : ∃ m, (field_part.seg l a1 a2).length = m := ⟨_, rfl⟩
  obtain ⟨cap, hcap⟩ : ∃ z, c0 - a1.toNat = z := ⟨_, rfl⟩
  rw [hm, hcap] at hcall
  have HK := Aside0.mk hcall
  clear hcall hA hC hm hcap hc0 hin
  by_cases c1 : a3 < 0
  · clear hv h2
    go_enter Try.func53, Try.ntmps53
    go_wp2_with (go_at_call 55; refine (HK.out _).mono ?_; rintro e w' ⟨rfl, rfl⟩)
    go_ret2
    exact ⟨rfl, rfl⟩
  · obtain ⟨n, rfl⟩ : ∃ n : Nat, a2 = (n : Int) := ⟨a2.toNat, by omega⟩
    simp only [Int.toNat_natCast] at hv
    have hn4 : n ≤ 4 := by omega
    have hv1 : ¬ a3 < 256 ^ n := fun h => hv ⟨by omega, h⟩
    obtain ⟨q, hq⟩ : ∃ q : Int, a3 / 2 ^ (8 * n) = q := ⟨_, rfl⟩
    have hqv : (q != 0) = true := by
      rw [bne_iff_ne]
      intro h0
      apply hv1
      have e : (2 : Int) ^ (8 * n) = 256 ^ n := by rw [Int.pow_mul]; rfl
      rw [e, h0] at hq
      have hp : (0 : Int) < 256 ^ n := Int.pow_pos (by decide)
      have h3 := Int.lt_mul_ediv_self_add (x := a3) hp
      rw [hq] at h3
      omega
    clear hv hv1 h2
    go_enter Try.func53, Try.ntmps53
    go_wp2_with (go_at_call 55; refine (HK.out _).mono ?_; rintro e w' ⟨rfl, rfl⟩)
    go_ret2
    exact ⟨rfl, rfl⟩
theorem field_Put.calls (A0 : Option Addr) (c0 : Nat) (l0 : List Int) (a1 : Int) (a2 : Int) (a3 : Int) (r1 : List Int) (r2 : Int) (w : World) (hr0 : Kd.C (Kd.int .u8) w A0 l0.length l0) (hc0 : l0.length ≤ c0) (h : field_Put.f l0 a1 a2 a3 = some (r1, r2)) :
    Calls Try.prog 53 #[.slice A0 l0.length c0, .int .i64 a1, .int .i64 a2, .int .i64 a3] w fun e w' => ∃ v0_ : Value, e = .returned (.tuple #[v0_, .int .i64 r2]) ∧ Kd.R (Kd.int .u8) 5 w' w.heap.size (fun _ => True) v0_ r1 ∧ Below w.heap.size w w' := by
  have fail_ : ∀ er : Int, Calls Try.prog 53 #[.slice A0 l0.length c0, .int .i64 a1, .int .i64 a2, .int .i64 a3] w (fun e w' => e = .returned (.tuple #[.slice none 0 0, .int .i64 er]) ∧ w = w') →
      Calls Try.prog 53 #[.slice A0 l0.length c0, .int .i64 a1, .int .i64 a2, .int .i64 a3] w fun e w' => ∃ v0_ : Value, e = .returned (.tuple #[v0_, .int .i64 er]) ∧ Kd.R (Kd.int .u8) 5 w' w.heap.size (fun _ => True) v0_ [] ∧ Below w.heap.size w w' := by
    intro er hh
    refine hh.mono ?_
    rintro e w' ⟨rfl, rfl⟩
    exact ⟨_, rfl, Kd.R_nil _ _ _ _ _, Below.refl _ _⟩
  unfold field_Put.f at h
  by_cases hl : l0.length ≤ 140737488351232
  · rw [if_pos hl] at h
    replace h := Option.some.inj h
    by_cases h2 : a2 = 1 ∨ a2 = 2 ∨ a2 = 4
    · rw [if_pos h2] at h
      by_cases hin : field_part.Inside l0 a1 a2
      · rw [if_pos hin] at h
        by_cases hv : 0 ≤ a3 ∧ a3 < 256 ^ a2.toNat
        · rw [if_pos hv] at h
          obtain ⟨rfl, rfl⟩ := Prod.mk.inj h
          exact field_Put.yes A0 c0 l0 a1 a2 a3 w hr0 hc0 hl h2 hin hv.1 hv.2
        · rw [if_neg hv] at h
          obtain ⟨rfl, rfl⟩ := Prod.mk.inj h
          exact fail_ 3 (field_Put.value A0 c0 l0 a1 a2 a3 w hc0 hl h2 hin hv)
      · rw [if_neg hin] at h
        obtain ⟨rfl, rfl⟩ := Prod.mk.inj h
        exact fail_ 2 (field_Put.err A0 c0 l0 a1 a2 a3 2 w rfl (field_number.range A0 c0 l0 a1 a2 hl h2 hin))
    · rw [if_neg h2] at h
      obtain ⟨rfl, rfl⟩ := Prod.mk.inj h
      exact fail_ 1 (field_Put.err A0 c0 l0 a1 a2 a3 1 w rfl (field_number.arg A0 c0 l0 a1 a2 h2))
  · rw [if_neg hl] at h
    exact absurd h (by simp)

-- NOT PRINTED: function 52 (codec_writer_number)

-- NOT PRINTED: function 38 (codec_writer_numbers)

/-! ### crc_nibbles: function 69 -/
/-- What four steps make of each of sixteen beginnings. -/
def crc_nibbles.T (i : Nat) : Int := ((Plain.cs4 i : Nat) : Int)
set_option maxRecDepth 100000 in
theorem crc_nibbles.calls (w : World) : Calls Try.prog 69 #[] w fun e w' => e = .returned (.agg #[.int .u32 (crc_nibbles.T 0), .int .u32 (crc_nibbles.T 1), .int .u32 (crc_nibbles.T 2), .int .u32 (crc_nibbles.T 3), .int .u32 (crc_nibbles.T 4), .int .u32 (crc_nibbles.T 5), .int .u32 (crc_nibbles.T 6), .int .u32 (crc_nibbles.T 7), .int .u32 (crc_nibbles.T 8), .int .u32 (crc_nibbles.T 9), .int .u32 (crc_nibbles.T 10), .int .u32 (crc_nibbles.T 11), .int .u32 (crc_nibbles.T 12), .int .u32 (crc_nibbles.T 13), .int .u32 (crc_nibbles.T 14), .int .u32 (crc_nibbles.T 15)]) ∧ Below w.heap.size w w' := by
  have ht : #[Value.int .u32 0, .int .u32 498536548, .int .u32 997073096,
              .int .u32 651767980, .int .u32 1994146192, .int .u32 1802195444,
              .int .u32 1303535960, .int .u32 1342533948, .int .u32 3988292384,
              .int .u32 4027552580, .int .u32 3604390888, .int .u32 3412177804,
              .int .u32 2607071920, .int .u32 2262029012, .int .u32 2685067896,
              .int .u32 3183342108] = #[.int .u32 (crc_nibbles.T 0), .int .u32 (crc_nibbles.T 1), .int .u32 (crc_nibbles.T 2), .int .u32 (crc_nibbles.T 3), .int .u32 (crc_nibbles.T 4), .int .u32 (crc_nibbles.T 5), .int .u32 (crc_nibbles.T 6), .int .u32 (crc_nibbles.T 7), .int .u32 (crc_nibbles.T 8), .int .u32 (crc_nibbles.T 9), .int .u32 (crc_nibbles.T 10), .int .u32 (crc_nibbles.T 11), .int .u32 (crc_nibbles.T 12), .int .u32 (crc_nibbles.T 13), .int .u32 (crc_nibbles.T 14), .int .u32 (crc_nibbles.T 15)] := by kernel_rfl
  have HT := Aside0.mk ht
  clear ht
  go_enter Try.func69, Try.ntmps69
  go_wp2
  refine bodyPost_ret (v := .agg #[.int .u32 (crc_nibbles.T 0), .int .u32 (crc_nibbles.T 1), .int .u32 (crc_nibbles.T 2), .int .u32 (crc_nibbles.T 3), .int .u32 (crc_nibbles.T 4), .int .u32 (crc_nibbles.T 5), .int .u32 (crc_nibbles.T 6), .int .u32 (crc_nibbles.T 7), .int .u32 (crc_nibbles.T 8), .int .u32 (crc_nibbles.T 9), .int .u32 (crc_nibbles.T 10), .int .u32 (crc_nibbles.T 11), .int .u32 (crc_nibbles.T 12), .int .u32 (crc_nibbles.T 13), .int .u32 (crc_nibbles.T 14), .int .u32 (crc_nibbles.T 15)]) ?_ rfl ⟨rfl, (Below.refl _ _).alloc (Nat.le_refl _) _⟩
  rw [← HT.out]
  simp [results, Try.results69, go_sem]

/-! ### crc_roll: function 57 -/
def crc_roll.f (a0 : Int) (l1 : List Int) : Option Int := if 0 ≤ a0 ∧ a0 < 4294967296 then (if Plain.Bytes l1 then some (Plain.crc a0 l1) else none) else none
def crc_roll.cells : Array Value := #[.int .u32 (crc_nibbles.T 0), .int .u32 (crc_nibbles.T 1), .int .u32 (crc_nibbles.T 2), .int .u32 (crc_nibbles.T 3), .int .u32 (crc_nibbles.T 4), .int .u32 (crc_nibbles.T 5), .int .u32 (crc_nibbles.T 6), .int .u32 (crc_nibbles.T 7), .int .u32 (crc_nibbles.T 8), .int .u32 (crc_nibbles.T 9), .int .u32 (crc_nibbles.T 10), .int .u32 (crc_nibbles.T 11), .int .u32 (crc_nibbles.T 12), .int .u32 (crc_nibbles.T 13), .int .u32 (crc_nibbles.T 14), .int .u32 (crc_nibbles.T 15)]
theorem crc_roll.row : ∀ m : Nat, m < 16 → crc_roll.cells[m]? = some (.int .u32 (crc_nibbles.T m))
  | 0, _ => rfl
  | 1, _ => rfl
  | 2, _ => rfl
  | 3, _ => rfl
  | 4, _ => rfl
  | 5, _ => rfl
  | 6, _ => rfl
  | 7, _ => rfl
  | 8, _ => rfl
  | 9, _ => rfl
  | 10, _ => rfl
  | 11, _ => rfl
  | 12, _ => rfl
  | 13, _ => rfl
  | 14, _ => rfl
  | 15, _ => rfl
  | n + 16, h => by omega
theorem crc_roll.cell (w1 : World) (t : TypeId) (m : Nat) (hm : m < 16) : (w1.alloc (.cells crc_roll.cells t)).cell? ⟨w1.heap.size, m, none⟩ = some (.int .u32 (crc_nibbles.T m)) := by
  rw [blk_cell (heap_alloc_new w1 (.cells crc_roll.cells t)) m]
  exact crc_roll.row m hm
/-- Half a byte: the table's number and the rest of the sum. -/
theorem crc_roll.half {c : Int} (h0 : 0 ≤ c) (h1 : c < 4294967296) : Go.bits .xor .u32 (crc_nibbles.T (c % 16).toNat) (c / 16) = ((Plain.cs4 c.toNat : Nat) : Int) := by
  have hl : Plain.cs4 (c % 16).toNat < 4294967296 := Plain.cs4_lt (by omega)
  rw [Plain.xor_u32 (by unfold crc_nibbles.T; omega) (by unfold crc_nibbles.T; omega) (by omega) (by omega)]
  unfold crc_nibbles.T
  rw [Plain.cs4_table c.toNat, show (c % 16).toNat = c.toNat % 16 by omega, show (c / 16).toNat = c.toNat / 16 by omega, Int.toNat_natCast]
theorem crc_roll.rd_byte {l : List Int} (h : Plain.Bytes l) (i : Int) : 0 ≤ rd l i ∧ rd l i < 256 := h.rd i
theorem crc_roll.craw_snoc (c : Nat) (l : List Int) (k : Nat) (h : k < l.length) : Plain.craw c (Plain.nat (l.take (k + 1))) = Plain.cstep (Plain.craw c (Plain.nat (l.take k))) (rd l k).toNat := by
  rw [List.take_succ_eq_append_getElem h, Plain.nat_append, Plain.craw_append, Plain.rd_get (by simpa using h)]
  rfl
theorem crc_roll.ret {a b : Int} (h : a = b) : Ending.returned (.int .u32 a) = .returned (.int .u32 b) := by rw [h]
set_option maxRecDepth 100000 in
set_option maxHeartbeats 4000000 in
theorem crc_roll.calls (a0 : Int) (A1 : Option Addr) (c1 : Nat) (l1 : List Int) (r : Int) (w : World) (hr1 : Kd.C (Kd.int .u8) w A1 l1.length l1) (hc1 : l1.length ≤ c1) (h : crc_roll.f a0 l1 = some r) :
    Calls Try.prog 57 #[.int .u32 a0, .slice A1 l1.length c1] w fun e w' => e = .returned (.int .u32 r) ∧ Below w.heap.size w w' := by
  unfold crc_roll.f at h
  by_cases h0 : 0 ≤ a0 ∧ a0 < 4294967296
  · by_cases hb : Plain.Bytes l1
    · rw [if_pos h0, if_pos hb] at h
      obtain rfl := Option.some.inj h
      obtain ⟨h00, h01⟩ := h0
      clear h
      have HB := Aside0.mk hb
      have HR := Aside0.mk hr1
      have hlen : l1.length ≤ 9223372036854775807 := by have := hr1.2.1; omega
      obtain ⟨cc, hcc⟩ : ∃ cc : Int, Go.bits .xor .u32 IntKind.u32.max a0 = cc := ⟨_, rfl⟩
      have hcv : cc = ((a0.toNat ^^^ 4294967295 : Nat) : Int) := by
        rw [← hcc, show IntKind.u32.max = 4294967295 from rfl, Plain.xor_u32 (by omega) (by omega) h00 h01, Nat.xor_comm]
        rfl
      have hcl : a0.toNat ^^^ 4294967295 < 4294967296 := Nat.xor_lt_two_pow (n := 32) (by omega) (by omega)
      have HCV := Aside0.mk hcv
      have cc0 : 0 ≤ cc := by omega
      have cc1 : cc < 4294967296 := by omega
      have HCL := Aside0.mk hcl
      clear hb hr1 hc1 hcv hcl
      go_enter Try.func57, Try.ntmps57
      go_wp2_with (go_at_call 69; (with_reducible refine (crc_nibbles.calls _).mono ?_); rintro e w1 ⟨rfl, hb1⟩)
      have hcell : ∀ m : Nat, m < 16 → (w1.alloc (.cells crc_roll.cells 128)).cell? ⟨w1.heap.size, m, none⟩ = some (.int .u32 (crc_nibbles.T m)) := fun m hm => crc_roll.cell w1 _ m hm
      have HCELL := Aside0.mk hcell
      have HB1 := Aside0.mk hb1
      clear hcell hb1 hcc
      go_loop [0, 13] (fun v0 v13 => ∃ (k : Nat) (c : Int), k ≤ l1.length ∧ v13 = .int .i64 k ∧ v0 = .int .u32 c ∧ 0 ≤ c ∧ c < 4294967296 ∧ Aside0 (c = ((Plain.craw (a0.toNat ^^^ 4294967295) (Plain.nat (l1.take k)) : Nat) : Int))) (fun _ i => l1.length - (intOf i).toNat)
      case atStart => exact ⟨0, cc, Nat.zero_le _, rfl, rfl, cc0, cc1, ⟨HCV.out⟩⟩
      case round =>
        obtain ⟨k, c, hk, rfl, rfl, c0, c1', HC⟩ := hrel
        by_cases hlt : k < l1.length
        · obtain ⟨ad, e, hx⟩ := Kd.at_int HR.out (k : Int) (by omega) (by omega)
          cases e
          have hbW : Below w.heap.size w (w1.alloc (.cells crc_roll.cells 128)) := below_alloc HB1.out _
          replace hx := (hbW.cell (World.block_lt_of_cell? w _ hx)).trans hx
          simp only [Int.toNat_natCast] at hx
          have hxb := HB.out.rd (k : Int)
          have HN : Plain.craw (a0.toNat ^^^ 4294967295) (Plain.nat (l1.take (k + 1))) = Plain.cstep c.toNat (rd l1 (k : Int)).toNat := by
            rw [crc_roll.craw_snoc _ _ _ hlt]
            congr 1
            have := HC.out
            omega
          obtain ⟨x, hxx⟩ : ∃ x : Int, rd l1 (k : Int) = x := ⟨_, rfl⟩
          rw [hxx] at hx hxb HN
          obtain ⟨x0, x1⟩ := hxb
          obtain ⟨c2, e2⟩ : ∃ z : Int, Go.bits .xor .u32 c x = z := ⟨_, rfl⟩
          have v2 : c2 = ((c.toNat ^^^ x.toNat : Nat) : Int) := by rw [← e2]; exact Plain.xor_u32 c0 c1' (by omega) (by omega)
          have l2 : c.toNat ^^^ x.toNat < 4294967296 := Nat.xor_lt_two_pow (n := 32) (by omega) (by omega)
          have c20 : 0 ≤ c2 := by omega
          have c21 : c2 < 4294967296 := by omega
          obtain ⟨m2, f2⟩ : ∃ z : Int, Go.bits .and .u32 c2 15 = z := ⟨_, rfl⟩
          have g2 : m2 = c2 % 16 := by rw [← f2]; exact Plain.and15_u32 c20 c21
          have m20 : 0 ≤ m2 := by omega
          have m21 : m2 < 16 := by omega
          have y2 := HCELL.out m2.toNat (by omega)
          obtain ⟨t2, u2⟩ : ∃ z : Int, crc_nibbles.T m2.toNat = z := ⟨_, rfl⟩
          rw [u2] at y2
          obtain ⟨c3, e3⟩ : ∃ z : Int, Go.bits .xor .u32 t2 (c2 / 16) = z := ⟨_, rfl⟩
          have v3 : c3 = ((Plain.cs4 c2.toNat : Nat) : Int) := by rw [← e3, ← u2, g2]; exact crc_roll.half c20 c21
          have l3 : Plain.cs4 c2.toNat < 4294967296 := Plain.cs4_lt (by omega)
          have c30 : 0 ≤ c3 := by omega
          have c31 : c3 < 4294967296 := by omega
          obtain ⟨m3, f3⟩ : ∃ z : Int, Go.bits .and .u32 c3 15 = z := ⟨_, rfl⟩
          have g3 : m3 = c3 % 16 := by rw [← f3]; exact Plain.and15_u32 c30 c31
          have m30 : 0 ≤ m3 := by omega
          have m31 : m3 < 16 := by omega
          have y3 := HCELL.out m3.toNat (by omega)
          obtain ⟨t3, u3⟩ : ∃ z : Int, crc_nibbles.T m3.toNat = z := ⟨_, rfl⟩
          rw [u3] at y3
          obtain ⟨c4, e4⟩ : ∃ z : Int, Go.bits .xor .u32 t3 (c3 / 16) = z := ⟨_, rfl⟩
          have v4 : c4 = ((Plain.cs4 c3.toNat : Nat) : Int) := by rw [← e4, ← u3, g3]; exact crc_roll.half c30 c31
          have l4 : Plain.cs4 c3.toNat < 4294967296 := Plain.cs4_lt (by omega)
          have c40 : 0 ≤ c4 := by omega
          have c41 : c4 < 4294967296 := by omega
          have HF : Aside0 (c4 = ((Plain.craw (a0.toNat ^^^ 4294967295) (Plain.nat (l1.take (k + 1))) : Nat) : Int)) := ⟨by
            rw [HN, v4, v3, v2]
            unfold Plain.cstep Plain.cs8
            simp only [Int.toNat_natCast]⟩
          clear HN HC v2 v3 v4 l2 l3 l4 g2 g3 u2 u3 hxx hbW
          unfold crc_roll.cells at y2 y3 hx
          go_wp2
          go_round
          case rel => exact ⟨k + 1, c4, by omega, by go_num, rfl, c40, c41, HF⟩
          case measure => simp [intOf]; omega
        · have hk' : k = l1.length := by omega
          have HK := Aside0.mk hk'
          clear hk'
          obtain ⟨z, hz⟩ : ∃ z : Int, Go.bits .xor .u32 IntKind.u32.max c = z := ⟨_, rfl⟩
          have hv : Plain.crc a0 l1 = z := by
            have hl := Plain.craw_lt (c := a0.toNat ^^^ 4294967295) (Nat.xor_lt_two_pow (n := 32) (by omega) (by omega)) (Plain.nat_lt HB.out)
            have hc := HC.out
            rw [HK.out, List.take_length] at hc
            rw [← hz, show IntKind.u32.max = 4294967295 from rfl, Plain.xor_u32 (by omega) (by omega) c0 c1', hc]
            unfold Plain.crc Plain.csum
            rw [Int.toNat_natCast, Nat.xor_comm]
            rfl
          have HV := Aside0.mk hv
          clear hv HC
          go_wp2
          go_ret
          exact ⟨by rw [HV.out]; rfl, below_alloc HB1.out _⟩
    · rw [if_pos h0, if_neg hb] at h
      exact absurd h (by simp)
  · rw [if_neg h0] at h
    exact absurd h (by simp)

/-! ### crc_Sum: function 41 -/
def crc_Sum.f (l0 : List Int) : Option (Int) := (crc_roll.f 0 l0).bind fun t111 => (some (wrap64 (t111)))
set_option maxHeartbeats 8000000 in
set_option maxRecDepth 100000 in
theorem crc_Sum.calls (A0 : Option Addr) (c0 : Nat) (l0 : List Int) (r : Int) (w : World) (hr0 : Kd.C (Kd.int .u8) w A0 l0.length l0) (hc0 : l0.length ≤ c0) (h : crc_Sum.f l0 = some r) :
    Calls Try.prog 41 #[.slice A0 l0.length c0] w fun e w' => e = .returned (.int .i64 r) ∧ Below w.heap.size w w' := by
  have HR0 := Aside0.mk hr0
  have HC0 := Aside0.mk hc0
  clear hr0 hc0
  have HB := Aside0.mk (Below.refl w.heap.size w)
  have H : ((crc_roll.f 0 l0).bind fun t111 => (some (wrap64 (t111)))) = some r := h
  clear h
  replace H := Option.bind_eq_some_iff.mp H
  obtain ⟨t111, A20, H⟩ := H
  replace H : (some (wrap64 (t111))) = some r := H
  have A2 := Aside0.mk A20
  clear A20
  obtain rfl := Option.some.inj H
  go_enter Try.func41, Try.ntmps41
  go_wp2_with (first | ((with_reducible refine gate_callee (f := 57) rfl ?_); refine goesL_ (some 4) rfl rfl Try.func57 (by kernel_rfl) rfl #[.int .u32 0, .slice A0 l0.length c0] rfl (by (try simp only [List.map_toArray, List.map_cons, List.map_nil]); first | done | rfl | (simp only [List.length_drop, List.length_take]; rfl) | (simp only [Int.toNat_natCast, Nat.sub_self, List.length_drop, List.length_take]; rfl)) ?_; (with_reducible refine (crc_roll.calls 0 _ _ l0 t111 _ ?side1 ?side2 A2.out).mono ?_); (case side1 => repeat (first | exact HR0.out | (with_reducible refine Kd.C_alloc ?_ _) | (with_reducible refine Kd.C_drewN ?_ _) | (with_reducible refine Kd.C_drew ?_))); (case side2 => exact HC0.out); rintro e w3 ⟨rfl, hb⟩; refine ⟨_, rfl, ?_⟩; have n0_ := Aside0.mk (below_step (by repeat (first | (with_reducible first | exact HB.out | apply below_alloc | apply pw_below_drewN | apply below_drew1) | with_reducible_and_instances exact HB.out)) hb); clear HB; have HB := n0_; clear n0_; (try clear hb); (try clear hb2); (try clear hk); (try clear hi)))
  go_ret
  exact ⟨by first | rfl | (simp [errW_none, errW_some] <;> rfl) | (simp [*, errW_none, errW_some] <;> rfl), by repeat (first | (with_reducible first | exact HB.out | apply below_alloc | apply pw_below_drewN | apply below_drew1) | with_reducible_and_instances exact HB.out)⟩

/-! ### slices_Grow_byte_byte: function 66 -/
/-- Grow of nil: only the room of a new row. -/
def slices_Grow_byte_byte.f (l0 : List Int) (a1 : Int) : Option (List Int) := if l0 = [] ∧ 0 ≤ a1 ∧ a1 ≤ 140737488355328 then some [] else none
set_option maxRecDepth 100000 in
set_option maxHeartbeats 4000000 in
theorem slices_Grow_byte_byte.calls (a1 : Int) (r : List Int) (w : World) (h : slices_Grow_byte_byte.f [] a1 = some r) :
    Calls Try.prog 66 #[.slice none 0 0, .int .i64 a1] w fun e w' => ∃ v0_ : Value, e = .returned (v0_) ∧ Kd.R (Kd.int .u8) 5 w' w.heap.size (fun _ => True) v0_ r ∧ Below w.heap.size w w' := by
  unfold slices_Grow_byte_byte.f at h
  split at h
  case isFalse => cases h
  rename_i hh
  obtain ⟨_, h0, hM⟩ := hh
  obtain rfl := Option.some.inj h
  clear h
  obtain ⟨i0, hi0, hz0, hsz0, hb0⟩ := info_parts info5
  have hcut0 := cut_to (P := Try.prog) 22 5 .i64 Try.underlying22 hi0 none 0 0 0 (by omega) (by omega) (by omega)
  simp only [Int.toNat_zero] at hcut0
  have hn : decide (a1 < 0) = false := decide_eq_false (by omega)
  by_cases hp : a1 > 0
  · have hp1 : decide (a1 > 0) = true := decide_eq_true hp
    go_enter Try.func66, Try.ntmps66
    go_wp2_with ((with_reducible refine gate_builtin (b := .append) (xs := #[.tmp 20, .tmp 21]) rfl ?_); at_builtin; refine Kd.R_append_zeros (Kd.int .u8) (w0 := w) w.heap.size rfl (.tmp 20) (.tmp 21) 22 3 5 (.int .u8 0) 1 rfl Try.underlying22 Try.underlying3 info5 rfl (by decide) (by omega) (.slice none 0 0) [] (0 : Int) a1 (fun _ => True) rfl rfl ?aZ ?aF ?aO h0 ?aB ?aS ?aL ?_; (case aZ => rfl); (case aF => exact fun _ _ => trivial); (case aO => exact Kd.R_nil _ _ _ _ _); (case aB => exact Below.refl _ _); (case aS => exact Nat.le_refl _); (case aL => simp; omega); intro v1 w1 ho hb hg hat; obtain ⟨g, cap, rfl, hg0, hg1, _⟩ := Kd.R_form ho (by simp; omega); have hcut1 := cut_to (P := Try.prog) 22 5 .i64 Try.underlying22 hi0 (some ⟨g, 0, none⟩) _ cap 0 (by omega) (by omega) (Kd.R_reads' ho).2.1; have hr := Kd.R_take (m := 0) ho (by omega); simp only [Int.toNat_zero, List.take_zero] at hcut1 hr; have HR := Aside0.mk hr; have HB := Aside0.mk hb; clear hr hb hg hat ho)
    go_ret
    exact ⟨_, rfl, HR.out, HB.out⟩
  · have hp1 : decide (a1 > 0) = false := decide_eq_false hp
    go_enter Try.func66, Try.ntmps66
    go_wp2
    go_ret
    exact ⟨_, rfl, Kd.R_nil _ _ _ _ _, Below.refl _ _⟩

/-! ### slices_Concat_byte_byte: function 54 -/
def slices_Concat_byte_byte.rdL (xs : List (List Int)) (i : Int) : (List Int) := xs.getD i.toNat ([] : List Int)
theorem slices_Concat_byte_byte.atL {w : World} {A : Option Addr} {n : Nat} {xs : List (List Int)} (h : Kd.C (Kd.slice 5 (Kd.int .u8)) w A n xs) (i : Int) (h0 : 0 ≤ i) (h1 : i < n) : ∃ ad A0 c0, A = some ad ∧ w.cell? (ad.add i.toNat) = some (.slice A0 (slices_Concat_byte_byte.rdL xs i).length c0) ∧ (slices_Concat_byte_byte.rdL xs i).length ≤ c0 ∧ (Kd.int .u8).C w A0 (slices_Concat_byte_byte.rdL xs i).length (slices_Concat_byte_byte.rdL xs i) := by
  obtain ⟨ad, c, e, _, hK, hc0⟩ := Kd.C_get h ([] : List Int) i h0 h1
  have hc : ∀ j u, c[j]? = some u → w.cell? (ad.add (i.toNat * 1 + j)) = some u := hc0
  obtain ⟨A0, c0, rfl, l0, g0⟩ := hK
  exact ⟨ad, A0, c0, e, by have hq := hc 0 _ rfl; rwa [Nat.mul_one, Nat.add_zero] at hq, l0, g0⟩
mutual
def slices_Concat_byte_byte.l0 : Nat → List (List Int) → Int → List (List Int) → Int → Int → Option (List Int)
  | 0, _, _, _, _, _ => none
  | k + 1, x0, x3, x9, x10, x11 => if x11 < x10 then (if 0 ≤ x11 then (if x11 < (x9.length : Int) then (if (wrap64 (x3 + ((slices_Concat_byte_byte.rdL x9 x11).length : Int))) < 0 then none else (slices_Concat_byte_byte.l0 k x0 (wrap64 (x3 + ((slices_Concat_byte_byte.rdL x9 x11).length : Int))) x9 x10 (wrap64 (x11 + 1)))) else (none)) else (none)) else ((slices_Grow_byte_byte.f ([] : List Int) x3).bind fun t103 => (slices_Concat_byte_byte.l1 k t103 x0 (x0.length : Int) 0))
def slices_Concat_byte_byte.l1 : Nat → List Int → List (List Int) → Int → Int → Option (List Int)
  | 0, _, _, _, _ => none
  | k + 1, x6, x25, x26, x27 => if x27 < x26 then (if 0 ≤ x27 then (if x27 < (x25.length : Int) then (if x6.length + (slices_Concat_byte_byte.rdL x25 x27).length < 140737488355328 then (slices_Concat_byte_byte.l1 k (x6 ++ (slices_Concat_byte_byte.rdL x25 x27)) x25 x26 (wrap64 (x27 + 1))) else (none)) else (none)) else (none)) else (some x6)
end
def slices_Concat_byte_byte.g (k : Nat) (l0 : List (List Int)) : Option (List Int) := slices_Concat_byte_byte.l0 k l0 0 l0 (l0.length : Int) 0
set_option maxHeartbeats 8000000 in
set_option maxRecDepth 100000 in
theorem slices_Concat_byte_byte.gcalls (k : Nat) (A0 : Option Addr) (c0 : Nat) (l0 : List (List Int)) (r : List Int) (w : World) (hr0 : Kd.C (Kd.slice 5 (Kd.int .u8)) w A0 l0.length l0) (hc0 : l0.length ≤ c0) (h : slices_Concat_byte_byte.g k l0 = some r) :
    Calls Try.prog 54 #[.slice A0 l0.length c0] w fun e w' => ∃ v0_ : Value, e = .returned (v0_) ∧ Kd.R (Kd.int .u8) 5 w' w.heap.size (fun _ => True) v0_ r ∧ Below w.heap.size w w' := by
  have HR0 := Aside0.mk hr0
  have HC0 := Aside0.mk hc0
  clear hr0 hc0
  have HB := Aside0.mk (Below.refl w.heap.size w)
  have H : (slices_Concat_byte_byte.l0 k l0 0 l0 (l0.length : Int) 0) = some r := h
  clear h
  have H' := Aside0.mk H
  clear H
  go_enter Try.func54, Try.ntmps54
  go_wp2
  go_loopg [3, 11] k (fun kq v3 v11 w' => ∃ (x3_1 : Int) (x11_1 : Int), v3 = .int .i64 x3_1 ∧ v11 = .int .i64 x11_1 ∧ Aside0 (slices_Concat_byte_byte.l0 kq l0 x3_1 l0 (l0.length : Int) x11_1 = some r) ∧ Aside0 (kq ≤ k) ∧ Aside0 (Below w.heap.size w w'))
  case atStart => exact ⟨(0), (0), (by first | rfl | (simp; done) | (simp [*]; done)), (by first | rfl | (simp; done) | (simp [*]; done)), H', ⟨Nat.le_refl _⟩, ⟨by repeat (first | (with_reducible first | exact HB.out | apply below_alloc | apply pw_below_drewN | apply below_drew1) | exact HB.out)⟩⟩
  case round =>
    clear H'
    obtain ⟨x3_1, x11_1, rfl, rfl, HA, HK1, HB⟩ := hrel
    cases gk with
    | zero => exact absurd HA.out (by simp [slices_Concat_byte_byte.l0])
    | succ k1 =>
      have H := HA.out
      clear HA
      simp only [slices_Concat_byte_byte.l0] at H
      by_cases c2 : x11_1 < (l0.length : Int)
      · rw [if_pos c2] at H
        have c2b0 : decide (x11_1 < (l0.length : Int)) = true := decide_eq_true c2
        clear c2
        by_cases c3 : 0 ≤ x11_1
        · rw [if_pos c3] at H
          have c3b0 : decide (0 ≤ x11_1) = true := decide_eq_true c3
          clear c3
          by_cases c4 : x11_1 < (l0.length : Int)
          · rw [if_pos c4] at H
            have c4b0 : decide (x11_1 < (l0.length : Int)) = true := decide_eq_true c4
            clear c4
            by_cases c5 : (wrap64 (x3_1 + ((slices_Concat_byte_byte.rdL l0 x11_1).length : Int))) < 0
            · rw [if_pos c5] at H
              exact absurd H (by simp)
            · rw [if_neg c5] at H
              have c5b0 : decide ((wrap64 (x3_1 + ((slices_Concat_byte_byte.rdL l0 x11_1).length : Int))) < 0) = false := decide_eq_false c5
              clear c5
              have H' := Aside0.mk H
              clear H
              have p102 : 0 ≤ (x11_1 : Int) := of_decide_eq_true (by first | (with_reducible assumption) | assumption)
              have q102 : x11_1 < (l0.length : Int) := of_decide_eq_true (by first | (with_reducible assumption) | assumption)
              obtain ⟨ad102, A102_0, c102_0, e102, hx102_0, hl102_0, hi102_0⟩ := slices_Concat_byte_byte.atL HR0.out x11_1 p102 q102
              cases e102
              replace hx102_0 := (HB.out.cell (World.block_lt_of_cell? w _ hx102_0)).trans hx102_0
              have HR102_0 := Aside0.mk hi102_0
              have HC102_0 := Aside0.mk hl102_0
              clear hi102_0 hl102_0
              replace p102 := eq_true p102
              replace q102 := eq_true q102
              go_wp2
              go_roundg k1
              case measure => have := HK1.out; omega
              case rel => exact ⟨(wrap64 (x3_1 + ((slices_Concat_byte_byte.rdL l0 x11_1).length : Int))), (wrap64 (x11_1 + 1)), (by first | rfl | (simp; done) | (simp [*]; done)), (by first | rfl | (simp; done) | (simp [*]; done)), H', ⟨by have := HK1.out; omega⟩, ⟨by repeat (first | (with_reducible first | exact HB.out | apply below_alloc | apply pw_below_drewN | apply below_drew1) | exact HB.out)⟩⟩
          · rw [if_neg c4] at H
            exact absurd H (by simp)
        · rw [if_neg c3] at H
          exact absurd H (by simp)
      · rw [if_neg c2] at H
        have c2b0 : decide (x11_1 < (l0.length : Int)) = false := decide_eq_false c2
        clear c2
        replace H := Option.bind_eq_some_iff.mp H
        obtain ⟨t103, A60, H⟩ := H
        replace H : (slices_Concat_byte_byte.l1 k1 t103 l0 (l0.length : Int) 0) = some r := H
        have A6 := Aside0.mk A60
        clear A60
        have H' := Aside0.mk H
        clear H
        go_wp2_with (first | ((with_reducible refine gate_callee (f := 66) rfl ?_); refine goesL_ (some 24) rfl rfl Try.func66 (by kernel_rfl) rfl #[.slice none 0 0, .int .i64 x3_1] rfl (by (try simp only [List.map_toArray, List.map_cons, List.map_nil]); first | done | rfl | (simp only [List.length_drop, List.length_take]; rfl) | (simp only [Int.toNat_natCast, Nat.sub_self, List.length_drop, List.length_take]; rfl)) ?_; (refine (slices_Grow_byte_byte.calls x3_1 t103 _ A6.out).mono ?_); rintro e w7 ⟨v104, rfl, ho0, hb⟩; refine ⟨_, rfl, ?_⟩; have n0_ := Aside0.mk (Kd.R_lower ho0 (below_size (by repeat (first | (with_reducible first | exact HB.out | apply below_alloc | apply pw_below_drewN | apply below_drew1) | exact HB.out)))); have n1_ := Aside0.mk (below_step (by repeat (first | (with_reducible first | exact HB.out | apply below_alloc | apply pw_below_drewN | apply below_drew1) | exact HB.out)) hb); clear HB; have HO105 := n0_; have HB := n1_; clear n0_ n1_; (try clear hb); (try clear hb2); (try clear hk); (try clear hi); (try clear ho0)))
        go_loopg [6, 27] k1 (fun kq v6 v27 w' => ∃ (x6_2 : List Int) (x27_2 : Int), v27 = .int .i64 x27_2 ∧ Aside0 (slices_Concat_byte_byte.l1 kq x6_2 l0 (l0.length : Int) x27_2 = some r) ∧ Aside0 (kq ≤ k1) ∧ Aside0 (Kd.R (Kd.int .u8) 5 w' w.heap.size (fun _ => True) v6 x6_2) ∧ Aside0 (Below w.heap.size w w'))
        case atStart => exact ⟨(t103), (0), (by first | rfl | (simp; done) | (simp [*]; done)), H', ⟨Nat.le_refl _⟩, ⟨by (with_reducible repeat (first | apply Kd.R_alloc | apply Kd.R_drewN | apply Kd.R_drew)); exact HO105.out⟩, ⟨by repeat (first | (with_reducible first | exact HB.out | apply below_alloc | apply pw_below_drewN | apply below_drew1) | exact HB.out)⟩⟩
        case round =>
          clear H'
          try clear c1
          try clear p1
          try clear q1
          try clear hx1
          try clear c2
          try clear c2b0
          try clear p2
          try clear c3
          try clear c3b0
          try clear c4
          try clear c4b0
          try clear c5
          try clear c5b0
          try clear p6
          try clear hx102_0
          try clear p102
          try clear q102
          obtain ⟨x6_2, x27_2, rfl, HA, HK2, HO_6, HB⟩ := hrel
          cases gk with
          | zero => exact absurd HA.out (by simp [slices_Concat_byte_byte.l1])
          | succ k2 =>
            have H := HA.out
            clear HA
            simp only [slices_Concat_byte_byte.l1] at H
            by_cases c8 : x27_2 < (l0.length : Int)
            · rw [if_pos c8] at H
              have c8b0 : decide (x27_2 < (l0.length : Int)) = true := decide_eq_true c8
              clear c8
              by_cases c9 : 0 ≤ x27_2
              · rw [if_pos c9] at H
                have c9b0 : decide (0 ≤ x27_2) = true := decide_eq_true c9
                clear c9
                by_cases c10 : x27_2 < (l0.length : Int)
                · rw [if_pos c10] at H
                  have c10b0 : decide (x27_2 < (l0.length : Int)) = true := decide_eq_true c10
                  clear c10
                  by_cases c11 : x6_2.length + (slices_Concat_byte_byte.rdL l0 x27_2).length < 140737488355328
                  · rw [if_pos c11] at H
                    have LMc11 := Aside0.mk c11
                    clear c11
                    obtain ⟨y107, hy107⟩ : ∃ y_ : List Int, y_ = (x6_2 ++ (slices_Concat_byte_byte.rdL l0 x27_2)) := ⟨_, rfl⟩
                    replace H : (slices_Concat_byte_byte.l1 k2 y107 l0 (l0.length : Int) (wrap64 (x27_2 + 1))) = some r := by first | (rw [hy107]; with_reducible exact H) | (have H2_ := (Option.bind_some _ _).symm.trans H; rw [hy107]; with_reducible exact H2_) | (have H2_ := (Option.bind_some _ _).symm.trans H; with_reducible exact H2_) | with_reducible exact H | (rw [hy107]; exact H) | exact H
                    have Ny107 := Aside0.mk hy107
                    clear hy107
                    have H' := Aside0.mk H
                    clear H
                    have p106 : 0 ≤ (x27_2 : Int) := of_decide_eq_true (by first | (with_reducible assumption) | assumption)
                    have q106 : x27_2 < (l0.length : Int) := of_decide_eq_true (by first | (with_reducible assumption) | assumption)
                    obtain ⟨ad106, A106_0, c106_0, e106, hx106_0, hl106_0, hi106_0⟩ := slices_Concat_byte_byte.atL HR0.out x27_2 p106 q106
                    cases e106
                    replace hx106_0 := (HB.out.cell (World.block_lt_of_cell? w _ hx106_0)).trans hx106_0
                    have HR106_0 := Aside0.mk hi106_0
                    have HC106_0 := Aside0.mk hl106_0
                    clear hi106_0 hl106_0
                    replace p106 := eq_true p106
                    replace q106 := eq_true q106
                    go_wp2_with (first | ((with_reducible refine gate_builtin (b := .append) (xs := #[.tmp 31, .tmp 32]) rfl ?_); at_builtin; refine Kd.R_append_rows (Kd.int .u8) (w0 := w) w.heap.size rfl (.tmp 31) (.tmp 32) 22 5 (.int .u8 0) 1 rfl Try.underlying22 info5 rfl (by decide) (by omega) u6 x6_2 (slices_Concat_byte_byte.rdL l0 x27_2) _ _ _ (fun _ => True) (fun _ => False) rfl rfl ?aO ?aR (fun _ _ h => h) (fun _ h => h.elim) ?aF ?aB ?aS ?aL ?_; (case aR => repeat (first | exact (Kd.C_below HR106_0.out HB.out) | (with_reducible refine Kd.C_alloc ?_ _) | (with_reducible refine Kd.C_drewN ?_ _) | (with_reducible refine Kd.C_drew ?_))); (case aB => exact (by repeat (first | (with_reducible first | exact HB.out | apply below_alloc | apply pw_below_drewN | apply below_drew1) | exact HB.out))); (case aF => exact (fun _ _ => trivial)); (case aO => exact (by (with_reducible repeat (first | apply Kd.R_alloc | apply Kd.R_drewN | apply Kd.R_drew)); exact HO_6.out)); (case aS => exact (below_size (by repeat (first | (with_reducible first | exact HB.out | apply below_alloc | apply pw_below_drewN | apply below_drew1) | exact HB.out)))); (case aL => have := LMc11.out; omega); intro v108 w12 ho hb hg hat; rw [← Ny107.out] at ho; have n0_ := Aside0.mk (hb); have n1_ := Aside0.mk (ho); clear HB; clear HO_6; have HB := n0_; have HO109 := n1_; clear n0_ n1_; clear ho hb hg hat))
                    go_roundg k2
                    case measure => have := HK1.out; have := HK2.out; omega
                    case rel => exact ⟨(y107), (wrap64 (x27_2 + 1)), (by first | rfl | (simp; done) | (simp [*]; done)), H', ⟨by have := HK1.out; have := HK2.out; omega⟩, ⟨by (with_reducible repeat (first | apply Kd.R_alloc | apply Kd.R_drewN | apply Kd.R_drew)); exact HO109.out⟩, ⟨by repeat (first | (with_reducible first | exact HB.out | apply below_alloc | apply pw_below_drewN | apply below_drew1) | exact HB.out)⟩⟩
                  · rw [if_neg c11] at H
                    exact absurd H (by simp)
                · rw [if_neg c10] at H
                  exact absurd H (by simp)
              · rw [if_neg c9] at H
                exact absurd H (by simp)
            · rw [if_neg c8] at H
              have c8b0 : decide (x27_2 < (l0.length : Int)) = false := decide_eq_false c8
              clear c8
              obtain rfl := Option.some.inj H
              go_wp2
              go_ret
              exact ⟨_, by first | rfl | (simp [errW_none, errW_some] <;> rfl) | (simp [*, errW_none, errW_some] <;> rfl), by (with_reducible repeat (first | apply Kd.R_alloc | apply Kd.R_drewN | apply Kd.R_drew)); exact HO_6.out, by repeat (first | (with_reducible first | exact HB.out | apply below_alloc | apply pw_below_drewN | apply below_drew1) | exact HB.out)⟩
def slices_Concat_byte_byte.f (l0 : List (List Int)) : Option (List Int) := if l0.flatten.length < 140737488355328 ∧ l0.length < 140737488355328 then some l0.flatten else none
theorem slices_Concat_byte_byte.rd_at {l : List (List Int)} {j : Nat} (h : j < l.length) : slices_Concat_byte_byte.rdL l (j : Int) = l[j] := by
  unfold slices_Concat_byte_byte.rdL
  rw [Int.toNat_natCast, List.getD_eq_getElem?_getD, List.getElem?_eq_getElem h]
  rfl
theorem slices_Concat_byte_byte.flat_succ {l : List (List Int)} {j : Nat} (h : j < l.length) : (l.take (j + 1)).flatten = (l.take j).flatten ++ l[j] := by
  rw [List.take_add_one, List.getElem?_eq_getElem h]
  simp only [Option.toList, List.flatten_append, List.flatten_cons, List.flatten_nil, List.append_nil]
theorem slices_Concat_byte_byte.flat_le (l : List (List Int)) (j : Nat) : (l.take j).flatten.length ≤ l.flatten.length := by
  have h : (l.take j ++ l.drop j).flatten.length = l.flatten.length := by rw [List.take_append_drop]
  rw [List.flatten_append, List.length_append] at h
  omega
theorem slices_Concat_byte_byte.two (l : List (List Int)) (hb : l.flatten.length < 140737488355328) (hn : l.length < 140737488355328) : ∀ d j : Nat, j + d = l.length → slices_Concat_byte_byte.l1 (d + 1) (l.take j).flatten l (l.length : Int) (j : Int) = some l.flatten
  | 0, j, h => by
    unfold slices_Concat_byte_byte.l1
    rw [if_neg (by omega), List.take_of_length_le (by omega)]
  | d + 1, j, h => by
    unfold slices_Concat_byte_byte.l1
    have hj : j < l.length := by omega
    have h1 := slices_Concat_byte_byte.flat_le l (j + 1)
    rw [slices_Concat_byte_byte.flat_succ hj, List.length_append] at h1
    rw [if_pos (by omega), if_pos (by omega), if_pos (by omega), slices_Concat_byte_byte.rd_at hj, if_pos (by omega), Plain.w64 (by omega) (by omega), ← slices_Concat_byte_byte.flat_succ hj]
    exact slices_Concat_byte_byte.two l hb hn d (j + 1) (by omega)
theorem slices_Concat_byte_byte.one (l : List (List Int)) (hb : l.flatten.length < 140737488355328) (hn : l.length < 140737488355328) : ∀ d j : Nat, j + d = l.length → slices_Concat_byte_byte.l0 (d + 1 + (l.length + 1)) l ((l.take j).flatten.length : Int) l (l.length : Int) (j : Int) = some l.flatten
  | 0, j, h => by
    rw [show 0 + 1 + (l.length + 1) = (l.length + 1) + 1 by omega]
    unfold slices_Concat_byte_byte.l0
    have h1 := slices_Concat_byte_byte.flat_le l j
    rw [if_neg (by omega)]
    have hg : slices_Grow_byte_byte.f ([] : List Int) ((l.take j).flatten.length : Int) = some [] := by
      unfold slices_Grow_byte_byte.f
      rw [if_pos ⟨rfl, by omega, by omega⟩]
    rw [hg, Option.bind_some]
    exact slices_Concat_byte_byte.two l hb hn l.length 0 (by omega)
  | d + 1, j, h => by
    rw [show d + 1 + 1 + (l.length + 1) = (d + 1 + (l.length + 1)) + 1 by omega]
    unfold slices_Concat_byte_byte.l0
    have hj : j < l.length := by omega
    have h1 := slices_Concat_byte_byte.flat_le l (j + 1)
    rw [slices_Concat_byte_byte.flat_succ hj, List.length_append] at h1
    have e : wrap64 (((l.take j).flatten.length : Int) + ((slices_Concat_byte_byte.rdL l (j : Int)).length : Int)) = ((l.take (j + 1)).flatten.length : Int) := by
      rw [slices_Concat_byte_byte.rd_at hj, Plain.w64 (by omega) (by omega), slices_Concat_byte_byte.flat_succ hj, List.length_append]
      omega
    rw [if_pos (by omega), if_pos (by omega), if_pos (by omega), e, if_neg (by omega), Plain.w64 (by omega) (by omega)]
    exact slices_Concat_byte_byte.one l hb hn d (j + 1) (by omega)
theorem slices_Concat_byte_byte.calls (A0 : Option Addr) (c0 : Nat) (l0 : List (List Int)) (r : List Int) (w : World) (hr0 : Kd.C (Kd.slice 5 (Kd.int .u8)) w A0 l0.length l0) (hc0 : l0.length ≤ c0) (h : slices_Concat_byte_byte.f l0 = some r) :
    Calls Try.prog 54 #[.slice A0 l0.length c0] w fun e w' => ∃ v0_ : Value, e = .returned (v0_) ∧ Kd.R (Kd.int .u8) 5 w' w.heap.size (fun _ => True) v0_ r ∧ Below w.heap.size w w' := by
  unfold slices_Concat_byte_byte.f at h
  split at h
  case isFalse => cases h
  rename_i hh
  obtain rfl := Option.some.inj h
  exact slices_Concat_byte_byte.gcalls (l0.length + 1 + (l0.length + 1)) A0 c0 l0 _ w hr0 hc0 (by
    unfold slices_Concat_byte_byte.g
    exact slices_Concat_byte_byte.one l0 hh.1 hh.2 l0.length 0 (by omega))

end Go.Proofs.Ytacecaacpagokaa.PSwapGoes
