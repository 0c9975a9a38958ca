-- Written by this session's own tool (prn.py) over the kit's printer; its templates are the session's own. Lean checks it.
import Derived.Test.YtbplffdmggbcdaaPCodecHeadsx0
namespace Go.Proofs.Ytbplffdmggbcdaa.PCodecHeads
open Go.RowKit Go.Proofs.YtbplffdmggbcdaaW.PrintWords Go.Proofs.YtbplffdmggbcdaaW.PrintLast Go.Proofs.YtbplffdmggbcdaaW.PrintMore
attribute [local go_sem] max2_int min2_int max_two min_two max_three min_three max_four min_four   -- for this text's walks alone
set_option linter.unusedVariables false
set_option linter.unusedSimpArgs false

/-! ### slices_Clone_byte_byte: function 47 -/
def slices_Clone_byte_byte.f (l0 : List Int) : Option (List Int) := if l0.length < 140737488355328 then some l0 else none
set_option maxHeartbeats 8000000 in
set_option maxRecDepth 100000 in
theorem slices_Clone_byte_byte.calls (A0 : Option Addr) (c0 : Nat) (l0 : List Int) (r : List Int) (w : World) (hr0 : Kd.C (Kd.int .u8) w A0 l0.length l0) (hc0 : l0.length ≤ c0) (h : slices_Clone_byte_byte.f l0 = some r) :
    Calls Try.prog 47 #[.slice A0 l0.length c0] w fun e w' => ∃ v0_ : Value, e = .returned (v0_) ∧ Kd.R (Kd.int .u8) 5 w' w.heap.size (fun _ => True) v0_ r ∧ Below w.heap.size w w' := by
  unfold slices_Clone_byte_byte.f at h
  by_cases c2 : l0.length < 140737488355328
  · rw [if_pos c2] at h
    obtain rfl := Option.some.inj h
    clear h
    have hnil := fun W : World => Lib.run_eql_slice_nil (P := Try.prog) W 27 5 A0 l0.length c0 0 0 Try.underlying27
    cases A0 with
    | none =>
      have hl : l0 = [] := by
        by_cases h0 : 0 < l0.length
        · obtain ⟨ad, hx, _⟩ := hr0.2.2 h0
          exact absurd hx (by simp)
        · exact List.length_eq_zero_iff.1 (by omega)
      subst hl
      clear hr0 hc0 c2
      simp only [List.length_nil] at hnil
      go_enter Try.func47, Try.ntmps47
      go_wp2
      go_ret
      exact ⟨_, rfl, Kd.R_nil _ _ _ _ _, Below.refl _ _⟩
    | some ad =>
      have HR0 := Aside0.mk hr0
      have HC0 := Aside0.mk hc0
      have LMc2 := Aside0.mk c2
      clear hr0 hc0 c2
      have HB := Aside0.mk (Below.refl w.heap.size w)
      go_enter Try.func47, Try.ntmps47
      go_wp2_with (first | ((with_reducible refine gate_dst (N := 5) rfl ?_); refine Kd.R_lit (Kd.int .u8) _ 5 ?hg (N := 5) ?hd (xs := ([] : List Int)) (inner := []) (ok := fun _ => True) (okp := fun _ => True) ?hr ?hp (fun _ hk => hk) trivial (Below.refl _ _) (Nat.le_refl _) (by simp) ?_; (case hd => rfl); (case hg => rfl); (case hr => first | (go_simp; done) | (go_simp; rfl)); (case hp => exact (Reps.none _ _)); intro v120 w3 ho4 hb hg_ hnew_; clear hg_ hnew_; have n0_ := Aside0.mk (Kd.R_lower ho4 (below_size (by repeat (first | (with_reducible first | exact HB.out | apply below_alloc | apply pw_below_drewN | apply below_drew1) | exact HB.out)))); have n1_ := Aside0.mk (below_step (by repeat (first | (with_reducible first | exact HB.out | apply below_alloc | apply pw_below_drewN | apply below_drew1) | exact HB.out)) hb); clear HB; have HO121 := n0_; have HB := n1_; clear n0_ n1_; clear hb ho4) | ((with_reducible refine gate_builtin (b := .append) (xs := #[.tmp 5, .tmp 6]) rfl ?_); at_builtin; refine Kd.R_append_rows (Kd.int .u8) (w0 := w) w.heap.size rfl (.tmp 5) (.tmp 6) 27 5 (.int .u8 0) 1 rfl Try.underlying27 info5 rfl (by decide) (by omega) v120 ([] : List Int) l0 _ _ _ (fun _ => True) (fun _ => False) rfl rfl ?aO ?aR (fun _ _ h => h) (fun _ h => h.elim) ?aF ?aB ?aS ?aL ?_; (case aR => repeat (first | exact (Kd.C_below HR0.out HB.out) | (with_reducible refine Kd.C_alloc ?_ _) | (with_reducible refine Kd.C_drewN ?_ _) | (with_reducible refine Kd.C_drew ?_))); (case aB => exact (by repeat (first | (with_reducible first | exact HB.out | apply below_alloc | apply pw_below_drewN | apply below_drew1) | exact HB.out))); (case aF => exact (fun _ _ => trivial)); (case aO => exact (by (with_reducible repeat (first | apply Kd.R_alloc | apply Kd.R_drewN | apply Kd.R_drew)); exact HO121.out)); (case aS => exact (below_size (by repeat (first | (with_reducible first | exact HB.out | apply below_alloc | apply pw_below_drewN | apply below_drew1) | exact HB.out)))); (case aL => have := LMc2.out; simp only [List.length_nil]; omega); intro v123 w5 ho hb hg hat; have n0_ := Aside0.mk (hb); have n1_ := Aside0.mk (ho); clear HB; clear HO121; have HB := n0_; have HO124 := n1_; clear n0_ n1_; clear ho hb hg hat))
      go_ret
      exact ⟨_, rfl, by (with_reducible repeat (first | apply Kd.R_alloc | apply Kd.R_drewN | apply Kd.R_drew)); exact HO124.out, by repeat (first | (with_reducible first | exact HB.out | apply below_alloc | apply pw_below_drewN | apply below_drew1) | exact HB.out)⟩
  · rw [if_neg c2] at h
    exact absurd h (by simp)

/-! ### field_part: function 67 -/
/-- n bytes from a place on. -/
def field_part.seg (l : List Int) (a n : Int) : List Int := (l.take (a + n).toNat).drop a.toNat
def field_part.Inside (l : List Int) (a n : Int) : Prop := 0 ≤ a ∧ 0 ≤ n ∧ a ≤ (l.length : Int) ∧ n ≤ (l.length : Int) - a
instance (l : List Int) (a n : Int) : Decidable (field_part.Inside l a n) := by unfold field_part.Inside; infer_instance
theorem field_part.seg_length {l : List Int} {a n : Int} (h : field_part.Inside l a n) : (field_part.seg l a n).length = n.toNat := by
  obtain ⟨h0, h1, h2, h3⟩ := h
  unfold field_part.seg
  rw [List.length_drop, List.length_take]
  omega
theorem field_part.yes (A0 : Option Addr) (c0 : Nat) (l : List Int) (a n : Int) (hc0 : l.length ≤ c0) (hl : l.length ≤ 140737488351232) (h : field_part.Inside l a n) :
    ∃ A' : Option Addr, (∀ w, Calls Try.prog 67 #[.slice A0 l.length c0, .int .i64 a, .int .i64 n] w fun e w' => e = .returned (.tuple #[.slice A' (field_part.seg l a n).length (c0 - a.toNat), .bool true]) ∧ w = w') ∧
      (∀ w, Kd.C (Kd.int .u8) w A0 l.length l → Kd.C (Kd.int .u8) w A' (field_part.seg l a n).length (field_part.seg l a n)) ∧ (field_part.seg l a n).length ≤ c0 - a.toNat := by
  obtain ⟨h0, h1, h2, h3⟩ := h
  obtain ⟨i0, hi0, _, hsz, _⟩ := info_parts info5
  obtain ⟨A', hcut, hA, hC⟩ := print_mid_of (P := Try.prog) (Value.int .u8) 0 27 5 .i64 .i64 Try.underlying27 hi0 hsz A0 c0 l a (a + n) h0 (by omega) (by omega) hc0
  have HA := Aside0.mk hA
  have HC := Aside0.mk hC
  refine ⟨A', fun w => ?_, fun w hr => Kd.C_of_reads (h1 := fun _ => rfl) (HA.out _ (Kd.reads_of_C hr)), HC.out⟩
  obtain ⟨m, hm⟩ : ∃ m : Nat, (field_part.seg l a n).length = m := ⟨_, rfl⟩
  have hcut' : ∀ W : World, (Instr.slice 27 (.slice A0 l.length c0) (some (.int .i64 a)) (some (.int .i64 (a + n))) none).run Try.prog W = .ok (.slice A' m (c0 - a.toNat)) W := fun W => by rw [← hm]; exact hcut W
  rw [hm]
  clear HA HC hA hC hi0 hsz hc0 hcut hm
  go_enter Try.func67, Try.ntmps67
  go_wp2
  go_ret2
  exact ⟨rfl, rfl⟩
theorem field_part.no (A0 : Option Addr) (c0 : Nat) (l : List Int) (a n : Int) (hl : l.length ≤ 140737488351232) (h : ¬ field_part.Inside l a n) (w : World) :
    Calls Try.prog 67 #[.slice A0 l.length c0, .int .i64 a, .int .i64 n] w fun e w' => e = .returned (.tuple #[.slice none 0 0, .bool false]) ∧ w = w' := by
  unfold field_part.Inside at h
  by_cases c1 : a < 0
  · clear h
    go_enter Try.func67, Try.ntmps67
    go_wp2
    go_ret2
    exact ⟨rfl, rfl⟩
  · by_cases c2 : n < 0
    · clear h
      go_enter Try.func67, Try.ntmps67
      go_wp2
      go_ret2
      exact ⟨rfl, rfl⟩
    · by_cases c3 : (l.length : Int) < a
      · clear h
        go_enter Try.func67, Try.ntmps67
        go_wp2
        go_ret2
        exact ⟨rfl, rfl⟩
      · have c4 : (l.length : Int) - a < n := by omega
        clear h
        go_enter Try.func67, Try.ntmps67
        go_wp2
        go_ret2
        exact ⟨rfl, rfl⟩

/-! ### field_number: function 59 -/
theorem field_number.yes (A0 : Option Addr) (c0 : Nat) (l : List Int) (a n : Int) (hc0 : l.length ≤ c0) (hl : l.length ≤ 140737488351232) (hn : n = 1 ∨ n = 2 ∨ n = 4) (h : field_part.Inside l a n) :
    ∃ A' : Option Addr, (∀ w, Calls Try.prog 59 #[.slice A0 l.length c0, .int .i64 a, .int .i64 n] w fun e w' => e = .returned (.tuple #[.slice A' (field_part.seg l a n).length (c0 - a.toNat), .int .i64 0]) ∧ w = w') ∧
      (∀ w, Kd.C (Kd.int .u8) w A0 l.length l → Kd.C (Kd.int .u8) w A' (field_part.seg l a n).length (field_part.seg l a n)) ∧ (field_part.seg l a n).length ≤ c0 - a.toNat := by
  obtain ⟨A', hcall, hA, hC⟩ := field_part.yes A0 c0 l a n hc0 hl h
  have HK := Aside0.mk hcall
  refine ⟨A', fun w => ?_, hA, hC⟩
  clear hcall hA hC h hc0
  rcases hn with rfl | rfl | rfl
  all_goals
    go_enter Try.func59, Try.ntmps59
    go_wp2_with (go_at_call 67; refine (HK.out _).mono ?_; rintro e w' ⟨rfl, rfl⟩)
    go_ret2
    exact ⟨rfl, rfl⟩
theorem field_number.range (A0 : Option Addr) (c0 : Nat) (l : List Int) (a n : Int) (hl : l.length ≤ 140737488351232) (hn : n = 1 ∨ n = 2 ∨ n = 4) (h : ¬ field_part.Inside l a n) (w : World) :
    Calls Try.prog 59 #[.slice A0 l.length c0, .int .i64 a, .int .i64 n] w fun e w' => e = .returned (.tuple #[.slice none 0 0, .int .i64 2]) ∧ w = w' := by
  have HK := Aside0.mk (field_part.no A0 c0 l a n hl h)
  clear h
  rcases hn with rfl | rfl | rfl
  all_goals
    go_enter Try.func59, Try.ntmps59
    go_wp2_with (go_at_call 67; refine (HK.out _).mono ?_; rintro e w' ⟨rfl, rfl⟩)
    go_ret2
    exact ⟨rfl, rfl⟩
theorem field_number.arg (A0 : Option Addr) (c0 : Nat) (l : List Int) (a n : Int) (hn : ¬ (n = 1 ∨ n = 2 ∨ n = 4)) (w : World) :
    Calls Try.prog 59 #[.slice A0 l.length c0, .int .i64 a, .int .i64 n] w fun e w' => e = .returned (.tuple #[.slice none 0 0, .int .i64 1]) ∧ w = w' := by
  have n1 : (n == 1) = false := beq_eq_false_iff_ne.mpr (by omega)
  have n2 : (n == 2) = false := beq_eq_false_iff_ne.mpr (by omega)
  have n4 : (n == 4) = false := beq_eq_false_iff_ne.mpr (by omega)
  clear hn
  go_enter Try.func59, Try.ntmps59
  go_wp2
  go_ret2
  exact ⟨rfl, rfl⟩

/-! ### field_Put: function 44 -/
def field_Put.f (l0 : List Int) (a1 : Int) (a2 : Int) (a3 : Int) : Option (List Int × Int) :=
  if l0.length ≤ 140737488351232 then some (if a2 = 1 ∨ a2 = 2 ∨ a2 = 4 then (if field_part.Inside l0 a1 a2 then (if 0 ≤ a3 ∧ a3 < 256 ^ a2.toNat then (Plain.putB l0 a1.toNat a2.toNat a3, 0) else ([], 3)) else ([], 2)) else ([], 1)) else none
set_option maxRecDepth 100000 in
set_option maxHeartbeats 4000000 in
theorem field_Put.err (A0 : Option Addr) (c0 : Nat) (l : List Int) (a1 a2 a3 er : Int) (w : World) (he : (er != 0) = true)
    (hcall : ∀ w, Calls Try.prog 59 #[.slice A0 l.length c0, .int .i64 a1, .int .i64 a2] w fun e w' => e = .returned (.tuple #[.slice none 0 0, .int .i64 er]) ∧ w = w') :
    Calls Try.prog 44 #[.slice A0 l.length c0, .int .i64 a1, .int .i64 a2, .int .i64 a3] w fun e w' => e = .returned (.tuple #[.slice none 0 0, .int .i64 er]) ∧ w = w' := by
  have HK := Aside0.mk hcall
  clear hcall
  go_enter Try.func44, Try.ntmps44
  go_wp2_with (go_at_call 59; refine (HK.out _).mono ?_; rintro e w' ⟨rfl, rfl⟩)
  go_ret2
  exact ⟨rfl, rfl⟩
set_option maxRecDepth 100000 in
set_option maxHeartbeats 4000000 in
theorem field_Put.yes (A0 : Option Addr) (c0 : Nat) (l : List Int) (a1 a2 a3 : Int) (w : World) (hr : Kd.C (Kd.int .u8) w A0 l.length l) (hc0 : l.length ≤ c0) (hl : l.length ≤ 140737488351232) (h2 : a2 = 1 ∨ a2 = 2 ∨ a2 = 4) (hin : field_part.Inside l a1 a2) (hv0 : 0 ≤ a3) (hv1 : a3 < 256 ^ a2.toNat) :
    Calls Try.prog 44 #[.slice A0 l.length c0, .int .i64 a1, .int .i64 a2, .int .i64 a3] w fun e w' => ∃ v0_ : Value, e = .returned (.tuple #[v0_, .int .i64 0]) ∧ Kd.R (Kd.int .u8) 5 w' w.heap.size (fun _ => True) v0_ (Plain.putB l a1.toNat a2.toNat a3) ∧ Below w.heap.size w w' := by
  obtain ⟨A', hcall, hA, hC⟩ := field_number.yes A0 c0 l a1 a2 hc0 hl h2 hin
  obtain ⟨m, hm⟩ : ∃ m, (field_part.seg l a1 a2).length = m := ⟨_, rfl⟩
  obtain ⟨cap, hcap⟩ : ∃ z, c0 - a1.toNat = z := ⟨_, rfl⟩
  rw [hm, hcap] at hcall
  obtain ⟨i0, i1, i2, i3⟩ := hin
  obtain ⟨n, rfl⟩ := Int.eq_ofNat_of_zero_le i1
  obtain ⟨a, rfl⟩ := Int.eq_ofNat_of_zero_le i0
  simp only [Int.toNat_natCast] at hv1 ⊢
  have hn4 : n ≤ 4 := by omega
  have hn1 : 1 ≤ n := by omega
  have hlt : a3 / 2 ^ (8 * n) = 0 := by
    have e : (2 : Int) ^ (8 * n) = 256 ^ n := by rw [Int.pow_mul]; rfl
    rw [e]
    exact Int.ediv_eq_zero_of_lt hv0 hv1
  have hf : slices_Clone_byte_byte.f l = some l := by unfold slices_Clone_byte_byte.f; rw [if_pos (by omega)]
  have HK := Aside0.mk hcall
  have HR := Aside0.mk hr
  have HC := Aside0.mk hc0
  have HF := Aside0.mk hf
  clear hcall hA hC hm hcap hr hc0 hf h2
  go_enter Try.func44, Try.ntmps44
  go_wp2_with (first | (go_at_call 59; refine (HK.out _).mono ?_; rintro e w' ⟨rfl, rfl⟩) | (go_at_call 47; refine (slices_Clone_byte_byte.calls _ _ l l _ HR.out HC.out HF.out).mono ?_; rintro e w1 ⟨v1, rfl, ho1, hb1⟩))
  obtain ⟨g, cap1, rfl, hg0, hg1, _⟩ := Kd.R_form ho1 (by omega)
  have HO1 := Aside0.mk ho1
  have HB1 := Aside0.mk hb1
  clear ho1 hb1 hlt
  go_loopw [36] (fun v36 wr => ∃ k : Nat, k ≤ n ∧ v36 = .int .i64 k ∧ Aside0 (Kd.R (Kd.int .u8) 5 wr w.heap.size (fun _ => True) (.slice (some ⟨g, 0, none⟩) l.length cap1) (Plain.putB l a k a3)) ∧ Aside0 (Below w.heap.size w wr)) (fun v36 _ => n - (intOf v36).toNat)
  case atStart => exact ⟨0, Nat.zero_le _, rfl, ⟨by rw [Plain.putB_zero]; exact HO1.out⟩, HB1⟩
  case round =>
    obtain ⟨k, hk, rfl, HO, HB⟩ := hrel
    by_cases hlt : k < n
    · have hx := (Kd.R_celln 0 HO.out ((a : Int) + (k : Int)) (by omega) (by omega)).1
      have hfz := (Kd.R_celln 0 HO.out ((a : Int) + (k : Int)) (by omega) (by omega)).2
      have hput := Kd.R_putn HO.out ((a : Int) + (k : Int)) (a3 / 256 ^ k % 256)
      have eak : ((a : Int) + (k : Int)).toNat = a + k := by omega
      rw [eak] at hx hfz hput
      rw [Plain.putB_set (by omega)] at hput
      obtain ⟨q, hq⟩ : ∃ q : Int, a3 / 2 ^ (8 * k) = q := ⟨_, rfl⟩
      have hq2 : a3 / 256 ^ k = q := by rw [← hq, Int.pow_mul]; rfl
      rw [hq2] at hput
      have HP := Aside0.mk hput
      clear hput hq2 eak HO1 HB1
      go_wp2
      go_roundw
      case rel => exact ⟨k + 1, by omega, by go_num, HP, ⟨HB.out.setCell (p := ⟨g, a + k, none⟩) hg0 _⟩⟩
      case measure => simp [intOf]; omega
    · have hk' : k = n := by omega
      have HN := Aside0.mk hk'
      clear hk'
      go_wp2
      go_ret2
      exact ⟨_, rfl, by rw [← HN.out]; exact HO.out, HB.out⟩
set_option maxRecDepth 100000 in
set_option maxHeartbeats 4000000 in
theorem field_Put.value (A0 : Option Addr) (c0 : Nat) (l : List Int) (a1 a2 a3 : Int) (w : World) (hc0 : l.length ≤ c0) (hl : l.length ≤ 140737488351232) (h2 : a2 = 1 ∨ a2 = 2 ∨ a2 = 4) (hin : field_part.Inside l a1 a2) (hv : ¬ (0 ≤ a3 ∧ a3 < 256 ^ a2.toNat)) :
    Calls Try.prog 44 #[.slice A0 l.length c0, .int .i64 a1, .int .i64 a2, .int .i64 a3] w fun e w' => e = .returned (.tuple #[.slice none 0 0, .int .i64 3]) ∧ w = w' := by
  obtain ⟨A', hcall, hA, hC⟩ := field_number.yes A0 c0 l a1 a2 hc0 hl h2 hin
  obtain ⟨m, hm⟩ : ∃ m, (field_part.seg l a1 a2).length = m := ⟨_, rfl⟩
  obtain ⟨cap, hcap⟩ : ∃ z, c0 - a1.toNat = z := ⟨_, rfl⟩
  rw [hm, hcap] at hcall
  have HK := Aside0.mk hcall
  clear hcall hA hC hm hcap hc0 hin
  by_cases c1 : a3 < 0
  · clear hv h2
    go_enter Try.func44, Try.ntmps44
    go_wp2_with (go_at_call 59; refine (HK.out _).mono ?_; rintro e w' ⟨rfl, rfl⟩)
    go_ret2
    exact ⟨rfl, rfl⟩
  · obtain ⟨n, rfl⟩ : ∃ n : Nat, a2 = (n : Int) := ⟨a2.toNat, by omega⟩
    simp only [Int.toNat_natCast] at hv
    have hn4 : n ≤ 4 := by omega
    have hv1 : ¬ a3 < 256 ^ n := fun h => hv ⟨by omega, h⟩
    obtain ⟨q, hq⟩ : ∃ q : Int, a3 / 2 ^ (8 * n) = q := ⟨_, rfl⟩
    have hqv : (q != 0) = true := by
      rw [bne_iff_ne]
      intro h0
      apply hv1
      have e : (2 : Int) ^ (8 * n) = 256 ^ n := by rw [Int.pow_mul]; rfl
      rw [e, h0] at hq
      have hp : (0 : Int) < 256 ^ n := Int.pow_pos (by decide)
      have h3 := Int.lt_mul_ediv_self_add (x := a3) hp
      rw [hq] at h3
      omega
    clear hv hv1 h2
    go_enter Try.func44, Try.ntmps44
    go_wp2_with (go_at_call 59; refine (HK.out _).mono ?_; rintro e w' ⟨rfl, rfl⟩)
    go_ret2
    exact ⟨rfl, rfl⟩
theorem field_Put.calls (A0 : Option Addr) (c0 : Nat) (l0 : List Int) (a1 : Int) (a2 : Int) (a3 : Int) (r1 : List Int) (r2 : Int) (w : World) (hr0 : Kd.C (Kd.int .u8) w A0 l0.length l0) (hc0 : l0.length ≤ c0) (h : field_Put.f l0 a1 a2 a3 = some (r1, r2)) :
    Calls Try.prog 44 #[.slice A0 l0.length c0, .int .i64 a1, .int .i64 a2, .int .i64 a3] w fun e w' => ∃ v0_ : Value, e = .returned (.tuple #[v0_, .int .i64 r2]) ∧ Kd.R (Kd.int .u8) 5 w' w.heap.size (fun _ => True) v0_ r1 ∧ Below w.heap.size w w' := by
  have fail_ : ∀ er : Int, Calls Try.prog 44 #[.slice A0 l0.length c0, .int .i64 a1, .int .i64 a2, .int .i64 a3] w (fun e w' => e = .returned (.tuple #[.slice none 0 0, .int .i64 er]) ∧ w = w') →
      Calls Try.prog 44 #[.slice A0 l0.length c0, .int .i64 a1, .int .i64 a2, .int .i64 a3] w fun e w' => ∃ v0_ : Value, e = .returned (.tuple #[v0_, .int .i64 er]) ∧ Kd.R (Kd.int .u8) 5 w' w.heap.size (fun _ => True) v0_ [] ∧ Below w.heap.size w w' := by
    intro er hh
    refine hh.mono ?_
    rintro e w' ⟨rfl, rfl⟩
    exact ⟨_, rfl, Kd.R_nil _ _ _ _ _, Below.refl _ _⟩
  unfold field_Put.f at h
  by_cases hl : l0.length ≤ 140737488351232
  · rw [if_pos hl] at h
    replace h := Option.some.inj h
    by_cases h2 : a2 = 1 ∨ a2 = 2 ∨ a2 = 4
    · rw [if_pos h2] at h
      by_cases hin : field_part.Inside l0 a1 a2
      · rw [if_pos hin] at h
        by_cases hv : 0 ≤ a3 ∧ a3 < 256 ^ a2.toNat
        · rw [if_pos hv] at h
          obtain ⟨rfl, rfl⟩ := Prod.mk.inj h
          exact field_Put.yes A0 c0 l0 a1 a2 a3 w hr0 hc0 hl h2 hin hv.1 hv.2
        · rw [if_neg hv] at h
          obtain ⟨rfl, rfl⟩ := Prod.mk.inj h
          exact fail_ 3 (field_Put.value A0 c0 l0 a1 a2 a3 w hc0 hl h2 hin hv)
      · rw [if_neg hin] at h
        obtain ⟨rfl, rfl⟩ := Prod.mk.inj h
        exact fail_ 2 (field_Put.err A0 c0 l0 a1 a2 a3 2 w rfl (field_number.range A0 c0 l0 a1 a2 hl h2 hin))
    · rw [if_neg h2] at h
      obtain ⟨rfl, rfl⟩ := Prod.mk.inj h
      exact fail_ 1 (field_Put.err A0 c0 l0 a1 a2 a3 1 w rfl (field_number.arg A0 c0 l0 a1 a2 h2))
  · rw [if_neg hl] at h
    exact absurd h (by simp)

-- NOT PRINTED: function 31 (codec_writer_number)

-- NOT PRINTED: function 33 (codec_writer_whole)

-- NOT PRINTED: function 69 (strings_indexFunc)

-- NOT PRINTED: function 66 (strings_IndexFunc)

-- NOT PRINTED: function 58 (strings_ContainsFunc)

-- NOT PRINTED: function 43 (codec_Name)

-- NOT PRINTED: function 19 (codec_Dirent)

-- NOT PRINTED: function 5 (skerrylaw06_wakes)

/-! ### skerryref01_SameBytes: function 10 -/
def skerryref01_SameBytes.f (l0 : List Int) (l1 : List Int) : Option (Bool) := some ((strOfNums l0).toList == (strOfNums l1).toList)
set_option maxHeartbeats 8000000 in
set_option maxRecDepth 100000 in
theorem skerryref01_SameBytes.calls (A0 : Option Addr) (c0 : Nat) (l0 : List Int) (A1 : Option Addr) (c1 : Nat) (l1 : List Int) (r : Bool) (w : World) (hr0 : Kd.C (Kd.int .u8) w A0 l0.length l0) (hc0 : l0.length ≤ c0) (hr1 : Kd.C (Kd.int .u8) w A1 l1.length l1) (hc1 : l1.length ≤ c1) (h : skerryref01_SameBytes.f l0 l1 = some r) :
    Calls Try.prog 10 #[.slice A0 l0.length c0, .slice A1 l1.length c1] w fun e w' => e = .returned (.bool r) ∧ Drawn0 w w' := by
  have HR0 := Aside0.mk hr0
  have HC0 := Aside0.mk hc0
  clear hr0 hc0
  have HR1 := Aside0.mk hr1
  have HC1 := Aside0.mk hc1
  clear hr1 hc1
  have H : (some ((strOfNums l0).toList == (strOfNums l1).toList)) = some r := h
  clear h
  obtain rfl := Option.some.inj H
  have hcv3 := Kd.C_string (P := Try.prog) (A := A0) (c := c0) Try.underlying27 Try.underlying5 Try.underlying9 HR0.out
  have hcv4 := Kd.C_string (P := Try.prog) (A := A1) (c := c1) Try.underlying27 Try.underlying5 Try.underlying9 HR1.out
  go_enter Try.func10, Try.ntmps10
  go_wp2
  go_ret
  exact ⟨by first | rfl | (simp; done) | (simp [*]; done), by repeat (first | exact Drawn0.refl _ | apply Drawn0.step)⟩

-- NOT PRINTED: function 20 (codec_writer_numbers)

/-! ### plan_within: function 51 -/
def plan_within.f (a0 : Int) (a1 : Int) (a2 : Int) : Option (Bool) := if a0 ≥ a1 then (some (decide (a0 ≤ a2))) else (some false)
set_option maxHeartbeats 8000000 in
set_option maxRecDepth 100000 in
theorem plan_within.calls (a0 : Int) (a1 : Int) (a2 : Int) (r : Bool) (w : World) (h : plan_within.f a0 a1 a2 = some r) :
    Calls Try.prog 51 #[.int .i64 a0, .int .i64 a1, .int .i64 a2] w fun e w' => e = .returned (.bool r) ∧ Drawn0 w w' := by
  have H : (if a0 ≥ a1 then (some (decide (a0 ≤ a2))) else (some false)) = some r := h
  clear h
  by_cases c4 : a0 ≥ a1
  · rw [if_pos c4] at H
    have c4b0 : decide (a1 ≤ a0) = true := decide_eq_true c4
    clear c4
    obtain rfl := Option.some.inj H
    go_enter Try.func51, Try.ntmps51
    go_wp2
    go_ret
    exact ⟨by first | rfl | (simp; done) | (simp [*]; done), by repeat (first | exact Drawn0.refl _ | apply Drawn0.step)⟩
  · rw [if_neg c4] at H
    have c4b0 : decide (a1 ≤ a0) = false := decide_eq_false c4
    clear c4
    obtain rfl := Option.some.inj H
    go_enter Try.func51, Try.ntmps51
    go_wp2
    go_ret
    exact ⟨by first | rfl | (simp; done) | (simp [*]; done), by repeat (first | exact Drawn0.refl _ | apply Drawn0.step)⟩

/-! ### bits_OnesCount32: function 64 -/
def bits_OnesCount32.f (_ : Int) : Option Int := none
/-- (not called where an int has 64 bits) -/
theorem bits_OnesCount32.calls (a0 : Int) (r : Int) (w : World) (h : bits_OnesCount32.f a0 = some r) :
    Calls Try.prog 64 #[.int .u32 a0] w fun e w' => e = .returned (.int .i64 r) ∧ Drawn0 w w' := by
  cases h

/-! ### bits_OnesCount64: function 65 -/
def bits_OnesCount64.f (a0 : Int) : Option (Int) := some (Go.bits .and .i64 (wrap64 (IntKind.u64.wrap ((IntKind.u64.wrap ((IntKind.u64.wrap ((Go.bits .and .u64 (IntKind.u64.wrap (((IntKind.u64.wrap ((Go.bits .and .u64 ((IntKind.u64.wrap ((Go.bits .and .u64 (a0 / 2) 6148914691236517205) + (Go.bits .and .u64 a0 6148914691236517205))) / 4) 3689348814741910323) + (Go.bits .and .u64 (IntKind.u64.wrap ((Go.bits .and .u64 (a0 / 2) 6148914691236517205) + (Go.bits .and .u64 a0 6148914691236517205))) 3689348814741910323))) / 16) + (IntKind.u64.wrap ((Go.bits .and .u64 ((IntKind.u64.wrap ((Go.bits .and .u64 (a0 / 2) 6148914691236517205) + (Go.bits .and .u64 a0 6148914691236517205))) / 4) 3689348814741910323) + (Go.bits .and .u64 (IntKind.u64.wrap ((Go.bits .and .u64 (a0 / 2) 6148914691236517205) + (Go.bits .and .u64 a0 6148914691236517205))) 3689348814741910323))))) 1085102592571150095) + ((Go.bits .and .u64 (IntKind.u64.wrap (((IntKind.u64.wrap ((Go.bits .and .u64 ((IntKind.u64.wrap ((Go.bits .and .u64 (a0 / 2) 6148914691236517205) + (Go.bits .and .u64 a0 6148914691236517205))) / 4) 3689348814741910323) + (Go.bits .and .u64 (IntKind.u64.wrap ((Go.bits .and .u64 (a0 / 2) 6148914691236517205) + (Go.bits .and .u64 a0 6148914691236517205))) 3689348814741910323))) / 16) + (IntKind.u64.wrap ((Go.bits .and .u64 ((IntKind.u64.wrap ((Go.bits .and .u64 (a0 / 2) 6148914691236517205) + (Go.bits .and .u64 a0 6148914691236517205))) / 4) 3689348814741910323) + (Go.bits .and .u64 (IntKind.u64.wrap ((Go.bits .and .u64 (a0 / 2) 6148914691236517205) + (Go.bits .and .u64 a0 6148914691236517205))) 3689348814741910323))))) 1085102592571150095) / 256))) + ((IntKind.u64.wrap ((Go.bits .and .u64 (IntKind.u64.wrap (((IntKind.u64.wrap ((Go.bits .and .u64 ((IntKind.u64.wrap ((Go.bits .and .u64 (a0 / 2) 6148914691236517205) + (Go.bits .and .u64 a0 6148914691236517205))) / 4) 3689348814741910323) + (Go.bits .and .u64 (IntKind.u64.wrap ((Go.bits .and .u64 (a0 / 2) 6148914691236517205) + (Go.bits .and .u64 a0 6148914691236517205))) 3689348814741910323))) / 16) + (IntKind.u64.wrap ((Go.bits .and .u64 ((IntKind.u64.wrap ((Go.bits .and .u64 (a0 / 2) 6148914691236517205) + (Go.bits .and .u64 a0 6148914691236517205))) / 4) 3689348814741910323) + (Go.bits .and .u64 (IntKind.u64.wrap ((Go.bits .and .u64 (a0 / 2) 6148914691236517205) + (Go.bits .and .u64 a0 6148914691236517205))) 3689348814741910323))))) 1085102592571150095) + ((Go.bits .and .u64 (IntKind.u64.wrap (((IntKind.u64.wrap ((Go.bits .and .u64 ((IntKind.u64.wrap ((Go.bits .and .u64 (a0 / 2) 6148914691236517205) + (Go.bits .and .u64 a0 6148914691236517205))) / 4) 3689348814741910323) + (Go.bits .and .u64 (IntKind.u64.wrap ((Go.bits .and .u64 (a0 / 2) 6148914691236517205) + (Go.bits .and .u64 a0 6148914691236517205))) 3689348814741910323))) / 16) + (IntKind.u64.wrap ((Go.bits .and .u64 ((IntKind.u64.wrap ((Go.bits .and .u64 (a0 / 2) 6148914691236517205) + (Go.bits .and .u64 a0 6148914691236517205))) / 4) 3689348814741910323) + (Go.bits .and .u64 (IntKind.u64.wrap ((Go.bits .and .u64 (a0 / 2) 6148914691236517205) + (Go.bits .and .u64 a0 6148914691236517205))) 3689348814741910323))))) 1085102592571150095) / 256))) / 65536))) + ((IntKind.u64.wrap ((IntKind.u64.wrap ((Go.bits .and .u64 (IntKind.u64.wrap (((IntKind.u64.wrap ((Go.bits .and .u64 ((IntKind.u64.wrap ((Go.bits .and .u64 (a0 / 2) 6148914691236517205) + (Go.bits .and .u64 a0 6148914691236517205))) / 4) 3689348814741910323) + (Go.bits .and .u64 (IntKind.u64.wrap ((Go.bits .and .u64 (a0 / 2) 6148914691236517205) + (Go.bits .and .u64 a0 6148914691236517205))) 3689348814741910323))) / 16) + (IntKind.u64.wrap ((Go.bits .and .u64 ((IntKind.u64.wrap ((Go.bits .and .u64 (a0 / 2) 6148914691236517205) + (Go.bits .and .u64 a0 6148914691236517205))) / 4) 3689348814741910323) + (Go.bits .and .u64 (IntKind.u64.wrap ((Go.bits .and .u64 (a0 / 2) 6148914691236517205) + (Go.bits .and .u64 a0 6148914691236517205))) 3689348814741910323))))) 1085102592571150095) + ((Go.bits .and .u64 (IntKind.u64.wrap (((IntKind.u64.wrap ((Go.bits .and .u64 ((IntKind.u64.wrap ((Go.bits .and .u64 (a0 / 2) 6148914691236517205) + (Go.bits .and .u64 a0 6148914691236517205))) / 4) 3689348814741910323) + (Go.bits .and .u64 (IntKind.u64.wrap ((Go.bits .and .u64 (a0 / 2) 6148914691236517205) + (Go.bits .and .u64 a0 6148914691236517205))) 3689348814741910323))) / 16) + (IntKind.u64.wrap ((Go.bits .and .u64 ((IntKind.u64.wrap ((Go.bits .and .u64 (a0 / 2) 6148914691236517205) + (Go.bits .and .u64 a0 6148914691236517205))) / 4) 3689348814741910323) + (Go.bits .and .u64 (IntKind.u64.wrap ((Go.bits .and .u64 (a0 / 2) 6148914691236517205) + (Go.bits .and .u64 a0 6148914691236517205))) 3689348814741910323))))) 1085102592571150095) / 256))) + ((IntKind.u64.wrap ((Go.bits .and .u64 (IntKind.u64.wrap (((IntKind.u64.wrap ((Go.bits .and .u64 ((IntKind.u64.wrap ((Go.bits .and .u64 (a0 / 2) 6148914691236517205) + (Go.bits .and .u64 a0 6148914691236517205))) / 4) 3689348814741910323) + (Go.bits .and .u64 (IntKind.u64.wrap ((Go.bits .and .u64 (a0 / 2) 6148914691236517205) + (Go.bits .and .u64 a0 6148914691236517205))) 3689348814741910323))) / 16) + (IntKind.u64.wrap ((Go.bits .and .u64 ((IntKind.u64.wrap ((Go.bits .and .u64 (a0 / 2) 6148914691236517205) + (Go.bits .and .u64 a0 6148914691236517205))) / 4) 3689348814741910323) + (Go.bits .and .u64 (IntKind.u64.wrap ((Go.bits .and .u64 (a0 / 2) 6148914691236517205) + (Go.bits .and .u64 a0 6148914691236517205))) 3689348814741910323))))) 1085102592571150095) + ((Go.bits .and .u64 (IntKind.u64.wrap (((IntKind.u64.wrap ((Go.bits .and .u64 ((IntKind.u64.wrap ((Go.bits .and .u64 (a0 / 2) 6148914691236517205) + (Go.bits .and .u64 a0 6148914691236517205))) / 4) 3689348814741910323) + (Go.bits .and .u64 (IntKind.u64.wrap ((Go.bits .and .u64 (a0 / 2) 6148914691236517205) + (Go.bits .and .u64 a0 6148914691236517205))) 3689348814741910323))) / 16) + (IntKind.u64.wrap ((Go.bits .and .u64 ((IntKind.u64.wrap ((Go.bits .and .u64 (a0 / 2) 6148914691236517205) + (Go.bits .and .u64 a0 6148914691236517205))) / 4) 3689348814741910323) + (Go.bits .and .u64 (IntKind.u64.wrap ((Go.bits .and .u64 (a0 / 2) 6148914691236517205) + (Go.bits .and .u64 a0 6148914691236517205))) 3689348814741910323))))) 1085102592571150095) / 256))) / 65536))) / 4294967296)))) 127)
set_option maxHeartbeats 8000000 in
set_option maxRecDepth 100000 in
theorem bits_OnesCount64.calls (a0 : Int) (r : Int) (w : World) (h : bits_OnesCount64.f a0 = some r) :
    Calls Try.prog 65 #[.int .u64 a0] w fun e w' => e = .returned (.int .i64 r) ∧ Drawn0 w w' := by
  have H : (some (Go.bits .and .i64 (wrap64 (IntKind.u64.wrap ((IntKind.u64.wrap ((IntKind.u64.wrap ((Go.bits .and .u64 (IntKind.u64.wrap (((IntKind.u64.wrap ((Go.bits .and .u64 ((IntKind.u64.wrap ((Go.bits .and .u64 (a0 / 2) 6148914691236517205) + (Go.bits .and .u64 a0 6148914691236517205))) / 4) 3689348814741910323) + (Go.bits .and .u64 (IntKind.u64.wrap ((Go.bits .and .u64 (a0 / 2) 6148914691236517205) + (Go.bits .and .u64 a0 6148914691236517205))) 3689348814741910323))) / 16) + (IntKind.u64.wrap ((Go.bits .and .u64 ((IntKind.u64.wrap ((Go.bits .and .u64 (a0 / 2) 6148914691236517205) + (Go.bits .and .u64 a0 6148914691236517205))) / 4) 3689348814741910323) + (Go.bits .and .u64 (IntKind.u64.wrap ((Go.bits .and .u64 (a0 / 2) 6148914691236517205) + (Go.bits .and .u64 a0 6148914691236517205))) 3689348814741910323))))) 1085102592571150095) + ((Go.bits .and .u64 (IntKind.u64.wrap (((IntKind.u64.wrap ((Go.bits .and .u64 ((IntKind.u64.wrap ((Go.bits .and .u64 (a0 / 2) 6148914691236517205) + (Go.bits .and .u64 a0 6148914691236517205))) / 4) 3689348814741910323) + (Go.bits .and .u64 (IntKind.u64.wrap ((Go.bits .and .u64 (a0 / 2) 6148914691236517205) + (Go.bits .and .u64 a0 6148914691236517205))) 3689348814741910323))) / 16) + (IntKind.u64.wrap ((Go.bits .and .u64 ((IntKind.u64.wrap ((Go.bits .and .u64 (a0 / 2) 6148914691236517205) + (Go.bits .and .u64 a0 6148914691236517205))) / 4) 3689348814741910323) + (Go.bits .and .u64 (IntKind.u64.wrap ((Go.bits .and .u64 (a0 / 2) 6148914691236517205) + (Go.bits .and .u64 a0 6148914691236517205))) 3689348814741910323))))) 1085102592571150095) / 256))) + ((IntKind.u64.wrap ((Go.bits .and .u64 (IntKind.u64.wrap (((IntKind.u64.wrap ((Go.bits .and .u64 ((IntKind.u64.wrap ((Go.bits .and .u64 (a0 / 2) 6148914691236517205) + (Go.bits .and .u64 a0 6148914691236517205))) / 4) 3689348814741910323) + (Go.bits .and .u64 (IntKind.u64.wrap ((Go.bits .and .u64 (a0 / 2) 6148914691236517205) + (Go.bits .and .u64 a0 6148914691236517205))) 3689348814741910323))) / 16) + (IntKind.u64.wrap ((Go.bits .and .u64 ((IntKind.u64.wrap ((Go.bits .and .u64 (a0 / 2) 6148914691236517205) + (Go.bits .and .u64 a0 6148914691236517205))) / 4) 3689348814741910323) + (Go.bits .and .u64 (IntKind.u64.wrap ((Go.bits .and .u64 (a0 / 2) 6148914691236517205) + (Go.bits .and .u64 a0 6148914691236517205))) 3689348814741910323))))) 1085102592571150095) + ((Go.bits .and .u64 (IntKind.u64.wrap (((IntKind.u64.wrap ((Go.bits .and .u64 ((IntKind.u64.wrap ((Go.bits .and .u64 (a0 / 2) 6148914691236517205) + (Go.bits .and .u64 a0 6148914691236517205))) / 4) 3689348814741910323) + (Go.bits .and .u64 (IntKind.u64.wrap ((Go.bits .and .u64 (a0 / 2) 6148914691236517205) + (Go.bits .and .u64 a0 6148914691236517205))) 3689348814741910323))) / 16) + (IntKind.u64.wrap ((Go.bits .and .u64 ((IntKind.u64.wrap ((Go.bits .and .u64 (a0 / 2) 6148914691236517205) + (Go.bits .and .u64 a0 6148914691236517205))) / 4) 3689348814741910323) + (Go.bits .and .u64 (IntKind.u64.wrap ((Go.bits .and .u64 (a0 / 2) 6148914691236517205) + (Go.bits .and .u64 a0 6148914691236517205))) 3689348814741910323))))) 1085102592571150095) / 256))) / 65536))) + ((IntKind.u64.wrap ((IntKind.u64.wrap ((Go.bits .and .u64 (IntKind.u64.wrap (((IntKind.u64.wrap ((Go.bits .and .u64 ((IntKind.u64.wrap ((Go.bits .and .u64 (a0 / 2) 6148914691236517205) + (Go.bits .and .u64 a0 6148914691236517205))) / 4) 3689348814741910323) + (Go.bits .and .u64 (IntKind.u64.wrap ((Go.bits .and .u64 (a0 / 2) 6148914691236517205) + (Go.bits .and .u64 a0 6148914691236517205))) 3689348814741910323))) / 16) + (IntKind.u64.wrap ((Go.bits .and .u64 ((IntKind.u64.wrap ((Go.bits .and .u64 (a0 / 2) 6148914691236517205) + (Go.bits .and .u64 a0 6148914691236517205))) / 4) 3689348814741910323) + (Go.bits .and .u64 (IntKind.u64.wrap ((Go.bits .and .u64 (a0 / 2) 6148914691236517205) + (Go.bits .and .u64 a0 6148914691236517205))) 3689348814741910323))))) 1085102592571150095) + ((Go.bits .and .u64 (IntKind.u64.wrap (((IntKind.u64.wrap ((Go.bits .and .u64 ((IntKind.u64.wrap ((Go.bits .and .u64 (a0 / 2) 6148914691236517205) + (Go.bits .and .u64 a0 6148914691236517205))) / 4) 3689348814741910323) + (Go.bits .and .u64 (IntKind.u64.wrap ((Go.bits .and .u64 (a0 / 2) 6148914691236517205) + (Go.bits .and .u64 a0 6148914691236517205))) 3689348814741910323))) / 16) + (IntKind.u64.wrap ((Go.bits .and .u64 ((IntKind.u64.wrap ((Go.bits .and .u64 (a0 / 2) 6148914691236517205) + (Go.bits .and .u64 a0 6148914691236517205))) / 4) 3689348814741910323) + (Go.bits .and .u64 (IntKind.u64.wrap ((Go.bits .and .u64 (a0 / 2) 6148914691236517205) + (Go.bits .and .u64 a0 6148914691236517205))) 3689348814741910323))))) 1085102592571150095) / 256))) + ((IntKind.u64.wrap ((Go.bits .and .u64 (IntKind.u64.wrap (((IntKind.u64.wrap ((Go.bits .and .u64 ((IntKind.u64.wrap ((Go.bits .and .u64 (a0 / 2) 6148914691236517205) + (Go.bits .and .u64 a0 6148914691236517205))) / 4) 3689348814741910323) + (Go.bits .and .u64 (IntKind.u64.wrap ((Go.bits .and .u64 (a0 / 2) 6148914691236517205) + (Go.bits .and .u64 a0 6148914691236517205))) 3689348814741910323))) / 16) + (IntKind.u64.wrap ((Go.bits .and .u64 ((IntKind.u64.wrap ((Go.bits .and .u64 (a0 / 2) 6148914691236517205) + (Go.bits .and .u64 a0 6148914691236517205))) / 4) 3689348814741910323) + (Go.bits .and .u64 (IntKind.u64.wrap ((Go.bits .and .u64 (a0 / 2) 6148914691236517205) + (Go.bits .and .u64 a0 6148914691236517205))) 3689348814741910323))))) 1085102592571150095) + ((Go.bits .and .u64 (IntKind.u64.wrap (((IntKind.u64.wrap ((Go.bits .and .u64 ((IntKind.u64.wrap ((Go.bits .and .u64 (a0 / 2) 6148914691236517205) + (Go.bits .and .u64 a0 6148914691236517205))) / 4) 3689348814741910323) + (Go.bits .and .u64 (IntKind.u64.wrap ((Go.bits .and .u64 (a0 / 2) 6148914691236517205) + (Go.bits .and .u64 a0 6148914691236517205))) 3689348814741910323))) / 16) + (IntKind.u64.wrap ((Go.bits .and .u64 ((IntKind.u64.wrap ((Go.bits .and .u64 (a0 / 2) 6148914691236517205) + (Go.bits .and .u64 a0 6148914691236517205))) / 4) 3689348814741910323) + (Go.bits .and .u64 (IntKind.u64.wrap ((Go.bits .and .u64 (a0 / 2) 6148914691236517205) + (Go.bits .and .u64 a0 6148914691236517205))) 3689348814741910323))))) 1085102592571150095) / 256))) / 65536))) / 4294967296)))) 127)) = some r := h
  clear h
  obtain rfl := Option.some.inj H
  go_enter Try.func65, Try.ntmps65
  go_wp2
  go_ret
  exact ⟨by first | rfl | (simp; done) | (simp [*]; done), by repeat (first | exact Drawn0.refl _ | apply Drawn0.step)⟩

/-! ### bits_OnesCount: function 52 -/
def bits_OnesCount.f (a0 : Int) : Option (Int) := (bits_OnesCount64.f a0).bind fun t110 => (some t110)
set_option maxHeartbeats 8000000 in
set_option maxRecDepth 100000 in
theorem bits_OnesCount.calls (a0 : Int) (r : Int) (w : World) (h : bits_OnesCount.f a0 = some r) :
    Calls Try.prog 52 #[.int .u64 a0] w fun e w' => e = .returned (.int .i64 r) ∧ Drawn0 w w' := by
  have H : ((bits_OnesCount64.f a0).bind fun t110 => (some t110)) = some r := h
  clear h
  replace H := Option.bind_eq_some_iff.mp H
  obtain ⟨t110, A20, H⟩ := H
  replace H : (some t110) = some r := H
  have A2 := Aside0.mk A20
  clear A20
  obtain rfl := Option.some.inj H
  go_enter Try.func52, Try.ntmps52
  go_wp2_with (first | ((with_reducible refine gate_callee (f := 65) rfl ?_); refine goesL_ (some 7) rfl rfl Try.func65 (by kernel_rfl) rfl #[.int .u64 a0] rfl (by (try simp only [List.map_toArray, List.map_cons, List.map_nil]); first | done | rfl | (simp only [List.length_drop, List.length_take]; rfl) | (simp only [Int.toNat_natCast, Nat.sub_self, List.length_drop, List.length_take]; rfl)) ?_; (with_reducible refine (bits_OnesCount64.calls a0 t110 _ A2.out).mono ?_); rintro e w' ⟨rfl, ⟨nd, rfl⟩⟩; refine ⟨_, rfl, ?_⟩))
  go_ret
  exact ⟨by first | rfl | (simp; done) | (simp [*]; done), by repeat (first | exact Drawn0.refl _ | apply Drawn0.step)⟩

/-! ### plan_share: function 54 -/
def plan_share.f (a0 : Int) (a1 : Int) : Option (Int) := if a1 = 0 then (none) else (some (wrap64 (Int.tdiv (wrap64 ((wrap64 (a0 + a1)) - 1)) a1)))
set_option maxHeartbeats 8000000 in
set_option maxRecDepth 100000 in
theorem plan_share.calls (a0 : Int) (a1 : Int) (r : Int) (w : World) (h : plan_share.f a0 a1 = some r) :
    Calls Try.prog 54 #[.int .i64 a0, .int .i64 a1] w fun e w' => e = .returned (.int .i64 r) ∧ Drawn0 w w' := by
  have H : (if a1 = 0 then (none) else (some (wrap64 (Int.tdiv (wrap64 ((wrap64 (a0 + a1)) - 1)) a1)))) = some r := h
  clear h
  by_cases c3 : a1 = 0
  · rw [if_pos c3] at H
    exact absurd H (by simp)
  · rw [if_neg c3] at H
    have c3b0 : (a1 == 0) = false := beq_eq_false_iff_ne.mpr c3
    have c3b1 : (a1 != 0) = true := bne_iff_ne.mpr c3
    obtain rfl := Option.some.inj H
    go_enter Try.func54, Try.ntmps54
    go_wp2
    go_ret
    exact ⟨by first | rfl | (simp; done) | (simp [*]; done), by repeat (first | exact Drawn0.refl _ | apply Drawn0.step)⟩

end Go.Proofs.Ytbplffdmggbcdaa.PCodecHeads
