-- Written by this session's own tool (prn.py) over the kit's printer; its templates are the session's own. Lean checks it.
import Derived.Test.YtbplffdmggbcdaaDoorPCodecKeepsx0
namespace Go.Proofs.YtbplffdmggbcdaaDoor.PCodecKeeps
open Go.RowKit Go.Proofs.YtbplffdmggbcdaaDoorW.PrintWords Go.Proofs.YtbplffdmggbcdaaDoorW.PrintLast Go.Proofs.YtbplffdmggbcdaaDoorW.PrintMore
attribute [local go_sem] max2_int min2_int max_two min_two max_three min_three max_four min_four   -- for this text's walks alone
set_option linter.unusedVariables false
set_option linter.unusedSimpArgs false

-- NOT PRINTED: function 85 (strings_indexFunc)

-- NOT PRINTED: function 65 (strings_IndexFunc)

-- NOT PRINTED: function 45 (strings_ContainsFunc)

-- NOT PRINTED: function 16 (codec_Name)

/-! ### slices_Clone_byte_byte: function 71 -/
def slices_Clone_byte_byte.f (l0 : List Int) : Option (List Int) := if l0.length < 140737488355328 then some l0 else none
set_option maxHeartbeats 8000000 in
set_option maxRecDepth 100000 in
theorem slices_Clone_byte_byte.calls (A0 : Option Addr) (c0 : Nat) (l0 : List Int) (r : List Int) (w : World) (hr0 : Kd.C (Kd.int .u8) w A0 l0.length l0) (hc0 : l0.length ≤ c0) (h : slices_Clone_byte_byte.f l0 = some r) :
    Calls Tryd.prog 71 #[.slice A0 l0.length c0] w fun e w' => ∃ v0_ : Value, e = .returned (v0_) ∧ Kd.R (Kd.int .u8) 5 w' w.heap.size (fun _ => True) v0_ r ∧ Below w.heap.size w w' := by
  unfold slices_Clone_byte_byte.f at h
  by_cases c2 : l0.length < 140737488355328
  · rw [if_pos c2] at h
    obtain rfl := Option.some.inj h
    clear h
    have hnil := fun W : World => Lib.run_eql_slice_nil (P := Tryd.prog) W 27 5 A0 l0.length c0 0 0 Tryd.underlying27
    cases A0 with
    | none =>
      have hl : l0 = [] := by
        by_cases h0 : 0 < l0.length
        · obtain ⟨ad, hx, _⟩ := hr0.2.2 h0
          exact absurd hx (by simp)
        · exact List.length_eq_zero_iff.1 (by omega)
      subst hl
      clear hr0 hc0 c2
      simp only [List.length_nil] at hnil
      go_enter Tryd.func71, Tryd.ntmps71
      go_wp2
      go_ret
      exact ⟨_, rfl, Kd.R_nil _ _ _ _ _, Below.refl _ _⟩
    | some ad =>
      have HR0 := Aside0.mk hr0
      have HC0 := Aside0.mk hc0
      have LMc2 := Aside0.mk c2
      clear hr0 hc0 c2
      have HB := Aside0.mk (Below.refl w.heap.size w)
      go_enter Tryd.func71, Tryd.ntmps71
      go_wp2_with (first | ((with_reducible refine gate_dst (N := 5) rfl ?_); refine Kd.R_lit (Kd.int .u8) _ 5 ?hg (N := 5) ?hd (xs := ([] : List Int)) (inner := []) (ok := fun _ => True) (okp := fun _ => True) ?hr ?hp (fun _ hk => hk) trivial (Below.refl _ _) (Nat.le_refl _) (by simp) ?_; (case hd => rfl); (case hg => rfl); (case hr => first | (go_simp; done) | (go_simp; rfl)); (case hp => exact (Reps.none _ _)); intro v120 w3 ho4 hb hg_ hnew_; clear hg_ hnew_; have n0_ := Aside0.mk (Kd.R_lower ho4 (below_size (by repeat (first | (with_reducible first | exact HB.out | apply below_alloc | apply pw_below_drewN | apply below_drew1) | exact HB.out)))); have n1_ := Aside0.mk (below_step (by repeat (first | (with_reducible first | exact HB.out | apply below_alloc | apply pw_below_drewN | apply below_drew1) | exact HB.out)) hb); clear HB; have HO121 := n0_; have HB := n1_; clear n0_ n1_; clear hb ho4) | ((with_reducible refine gate_builtin (b := .append) (xs := #[.tmp 5, .tmp 6]) rfl ?_); at_builtin; refine Kd.R_append_rows (Kd.int .u8) (w0 := w) w.heap.size rfl (.tmp 5) (.tmp 6) 27 5 (.int .u8 0) 1 rfl Tryd.underlying27 info5 rfl (by decide) (by omega) v120 ([] : List Int) l0 _ _ _ (fun _ => True) (fun _ => False) rfl rfl ?aO ?aR (fun _ _ h => h) (fun _ h => h.elim) ?aF ?aB ?aS ?aL ?_; (case aR => repeat (first | exact (Kd.C_below HR0.out HB.out) | (with_reducible refine Kd.C_alloc ?_ _) | (with_reducible refine Kd.C_drewN ?_ _) | (with_reducible refine Kd.C_drew ?_))); (case aB => exact (by repeat (first | (with_reducible first | exact HB.out | apply below_alloc | apply pw_below_drewN | apply below_drew1) | exact HB.out))); (case aF => exact (fun _ _ => trivial)); (case aO => exact (by (with_reducible repeat (first | apply Kd.R_alloc | apply Kd.R_drewN | apply Kd.R_drew)); exact HO121.out)); (case aS => exact (below_size (by repeat (first | (with_reducible first | exact HB.out | apply below_alloc | apply pw_below_drewN | apply below_drew1) | exact HB.out)))); (case aL => have := LMc2.out; simp only [List.length_nil]; omega); intro v123 w5 ho hb hg hat; have n0_ := Aside0.mk (hb); have n1_ := Aside0.mk (ho); clear HB; clear HO121; have HB := n0_; have HO124 := n1_; clear n0_ n1_; clear ho hb hg hat))
      go_ret
      exact ⟨_, rfl, by (with_reducible repeat (first | apply Kd.R_alloc | apply Kd.R_drewN | apply Kd.R_drew)); exact HO124.out, by repeat (first | (with_reducible first | exact HB.out | apply below_alloc | apply pw_below_drewN | apply below_drew1) | exact HB.out)⟩
  · rw [if_neg c2] at h
    exact absurd h (by simp)

/-! ### field_part: function 76 -/
/-- n bytes from a place on. -/
def field_part.seg (l : List Int) (a n : Int) : List Int := (l.take (a + n).toNat).drop a.toNat
def field_part.Inside (l : List Int) (a n : Int) : Prop := 0 ≤ a ∧ 0 ≤ n ∧ a ≤ (l.length : Int) ∧ n ≤ (l.length : Int) - a
instance (l : List Int) (a n : Int) : Decidable (field_part.Inside l a n) := by unfold field_part.Inside; infer_instance
theorem field_part.seg_length {l : List Int} {a n : Int} (h : field_part.Inside l a n) : (field_part.seg l a n).length = n.toNat := by
  obtain ⟨h0, h1, h2, h3⟩ := h
  unfold field_part.seg
  rw [List.length_drop, List.length_take]
  omega
theorem field_part.yes (A0 : Option Addr) (c0 : Nat) (l : List Int) (a n : Int) (hc0 : l.length ≤ c0) (hl : l.length ≤ 140737488351232) (h : field_part.Inside l a n) :
    ∃ A' : Option Addr, (∀ w, Calls Tryd.prog 76 #[.slice A0 l.length c0, .int .i64 a, .int .i64 n] w fun e w' => e = .returned (.tuple #[.slice A' (field_part.seg l a n).length (c0 - a.toNat), .bool true]) ∧ w = w') ∧
      (∀ w, Kd.C (Kd.int .u8) w A0 l.length l → Kd.C (Kd.int .u8) w A' (field_part.seg l a n).length (field_part.seg l a n)) ∧ (field_part.seg l a n).length ≤ c0 - a.toNat := by
  obtain ⟨h0, h1, h2, h3⟩ := h
  obtain ⟨i0, hi0, _, hsz, _⟩ := info_parts info5
  obtain ⟨A', hcut, hA, hC⟩ := print_mid_of (P := Tryd.prog) (Value.int .u8) 0 27 5 .i64 .i64 Tryd.underlying27 hi0 hsz A0 c0 l a (a + n) h0 (by omega) (by omega) hc0
  have HA := Aside0.mk hA
  have HC := Aside0.mk hC
  refine ⟨A', fun w => ?_, fun w hr => Kd.C_of_reads (h1 := fun _ => rfl) (HA.out _ (Kd.reads_of_C hr)), HC.out⟩
  obtain ⟨m, hm⟩ : ∃ m : Nat, (field_part.seg l a n).length = m := ⟨_, rfl⟩
  have hcut' : ∀ W : World, (Instr.slice 27 (.slice A0 l.length c0) (some (.int .i64 a)) (some (.int .i64 (a + n))) none).run Tryd.prog W = .ok (.slice A' m (c0 - a.toNat)) W := fun W => by rw [← hm]; exact hcut W
  rw [hm]
  clear HA HC hA hC hi0 hsz hc0 hcut hm
  go_enter Tryd.func76, Tryd.ntmps76
  go_wp2
  go_ret2
  exact ⟨rfl, rfl⟩
theorem field_part.no (A0 : Option Addr) (c0 : Nat) (l : List Int) (a n : Int) (hl : l.length ≤ 140737488351232) (h : ¬ field_part.Inside l a n) (w : World) :
    Calls Tryd.prog 76 #[.slice A0 l.length c0, .int .i64 a, .int .i64 n] w fun e w' => e = .returned (.tuple #[.slice none 0 0, .bool false]) ∧ w = w' := by
  unfold field_part.Inside at h
  by_cases c1 : a < 0
  · clear h
    go_enter Tryd.func76, Tryd.ntmps76
    go_wp2
    go_ret2
    exact ⟨rfl, rfl⟩
  · by_cases c2 : n < 0
    · clear h
      go_enter Tryd.func76, Tryd.ntmps76
      go_wp2
      go_ret2
      exact ⟨rfl, rfl⟩
    · by_cases c3 : (l.length : Int) < a
      · clear h
        go_enter Tryd.func76, Tryd.ntmps76
        go_wp2
        go_ret2
        exact ⟨rfl, rfl⟩
      · have c4 : (l.length : Int) - a < n := by omega
        clear h
        go_enter Tryd.func76, Tryd.ntmps76
        go_wp2
        go_ret2
        exact ⟨rfl, rfl⟩

/-! ### field_number: function 73 -/
theorem field_number.yes (A0 : Option Addr) (c0 : Nat) (l : List Int) (a n : Int) (hc0 : l.length ≤ c0) (hl : l.length ≤ 140737488351232) (hn : n = 1 ∨ n = 2 ∨ n = 4) (h : field_part.Inside l a n) :
    ∃ A' : Option Addr, (∀ w, Calls Tryd.prog 73 #[.slice A0 l.length c0, .int .i64 a, .int .i64 n] w fun e w' => e = .returned (.tuple #[.slice A' (field_part.seg l a n).length (c0 - a.toNat), .int .i64 0]) ∧ w = w') ∧
      (∀ w, Kd.C (Kd.int .u8) w A0 l.length l → Kd.C (Kd.int .u8) w A' (field_part.seg l a n).length (field_part.seg l a n)) ∧ (field_part.seg l a n).length ≤ c0 - a.toNat := by
  obtain ⟨A', hcall, hA, hC⟩ := field_part.yes A0 c0 l a n hc0 hl h
  have HK := Aside0.mk hcall
  refine ⟨A', fun w => ?_, hA, hC⟩
  clear hcall hA hC h hc0
  rcases hn with rfl | rfl | rfl
  all_goals
    go_enter Tryd.func73, Tryd.ntmps73
    go_wp2_with (go_at_call 76; refine (HK.out _).mono ?_; rintro e w' ⟨rfl, rfl⟩)
    go_ret2
    exact ⟨rfl, rfl⟩
theorem field_number.range (A0 : Option Addr) (c0 : Nat) (l : List Int) (a n : Int) (hl : l.length ≤ 140737488351232) (hn : n = 1 ∨ n = 2 ∨ n = 4) (h : ¬ field_part.Inside l a n) (w : World) :
    Calls Tryd.prog 73 #[.slice A0 l.length c0, .int .i64 a, .int .i64 n] w fun e w' => e = .returned (.tuple #[.slice none 0 0, .int .i64 2]) ∧ w = w' := by
  have HK := Aside0.mk (field_part.no A0 c0 l a n hl h)
  clear h
  rcases hn with rfl | rfl | rfl
  all_goals
    go_enter Tryd.func73, Tryd.ntmps73
    go_wp2_with (go_at_call 76; refine (HK.out _).mono ?_; rintro e w' ⟨rfl, rfl⟩)
    go_ret2
    exact ⟨rfl, rfl⟩
theorem field_number.arg (A0 : Option Addr) (c0 : Nat) (l : List Int) (a n : Int) (hn : ¬ (n = 1 ∨ n = 2 ∨ n = 4)) (w : World) :
    Calls Tryd.prog 73 #[.slice A0 l.length c0, .int .i64 a, .int .i64 n] w fun e w' => e = .returned (.tuple #[.slice none 0 0, .int .i64 1]) ∧ w = w' := by
  have n1 : (n == 1) = false := beq_eq_false_iff_ne.mpr (by omega)
  have n2 : (n == 2) = false := beq_eq_false_iff_ne.mpr (by omega)
  have n4 : (n == 4) = false := beq_eq_false_iff_ne.mpr (by omega)
  clear hn
  go_enter Tryd.func73, Tryd.ntmps73
  go_wp2
  go_ret2
  exact ⟨rfl, rfl⟩

/-! ### field_Put: function 57 -/
def field_Put.f (l0 : List Int) (a1 : Int) (a2 : Int) (a3 : Int) : Option (List Int × Int) :=
  if l0.length ≤ 140737488351232 then some (if a2 = 1 ∨ a2 = 2 ∨ a2 = 4 then (if field_part.Inside l0 a1 a2 then (if 0 ≤ a3 ∧ a3 < 256 ^ a2.toNat then (Plain.putB l0 a1.toNat a2.toNat a3, 0) else ([], 3)) else ([], 2)) else ([], 1)) else none
set_option maxRecDepth 100000 in
set_option maxHeartbeats 4000000 in
theorem field_Put.err (A0 : Option Addr) (c0 : Nat) (l : List Int) (a1 a2 a3 er : Int) (w : World) (he : (er != 0) = true)
    (hcall : ∀ w, Calls Tryd.prog 73 #[.slice A0 l.length c0, .int .i64 a1, .int .i64 a2] w fun e w' => e = .returned (.tuple #[.slice none 0 0, .int .i64 er]) ∧ w = w') :
    Calls Tryd.prog 57 #[.slice A0 l.length c0, .int .i64 a1, .int .i64 a2, .int .i64 a3] w fun e w' => e = .returned (.tuple #[.slice none 0 0, .int .i64 er]) ∧ w = w' := by
  have HK := Aside0.mk hcall
  clear hcall
  go_enter Tryd.func57, Tryd.ntmps57
  go_wp2_with (go_at_call 73; refine (HK.out _).mono ?_; rintro e w' ⟨rfl, rfl⟩)
  go_ret2
  exact ⟨rfl, rfl⟩
set_option maxRecDepth 100000 in
set_option maxHeartbeats 4000000 in
theorem field_Put.yes (A0 : Option Addr) (c0 : Nat) (l : List Int) (a1 a2 a3 : Int) (w : World) (hr : Kd.C (Kd.int .u8) w A0 l.length l) (hc0 : l.length ≤ c0) (hl : l.length ≤ 140737488351232) (h2 : a2 = 1 ∨ a2 = 2 ∨ a2 = 4) (hin : field_part.Inside l a1 a2) (hv0 : 0 ≤ a3) (hv1 : a3 < 256 ^ a2.toNat) :
    Calls Tryd.prog 57 #[.slice A0 l.length c0, .int .i64 a1, .int .i64 a2, .int .i64 a3] w fun e w' => ∃ v0_ : Value, e = .returned (.tuple #[v0_, .int .i64 0]) ∧ Kd.R (Kd.int .u8) 5 w' w.heap.size (fun _ => True) v0_ (Plain.putB l a1.toNat a2.toNat a3) ∧ Below w.heap.size w w' := by
  obtain ⟨A', hcall, hA, hC⟩ := field_number.yes A0 c0 l a1 a2 hc0 hl h2 hin
  obtain ⟨m, hm⟩ : ∃ m, (field_part.seg l a1 a2).length = m := ⟨_, rfl⟩
  obtain ⟨cap, hcap⟩ : ∃ z, c0 - a1.toNat = z := ⟨_, rfl⟩
  rw [hm, hcap] at hcall
  obtain ⟨i0, i1, i2, i3⟩ := hin
  obtain ⟨n, rfl⟩ := Int.eq_ofNat_of_zero_le i1
  obtain ⟨a, rfl⟩ := Int.eq_ofNat_of_zero_le i0
  simp only [Int.toNat_natCast] at hv1 ⊢
  have hn4 : n ≤ 4 := by omega
  have hn1 : 1 ≤ n := by omega
  have hlt : a3 / 2 ^ (8 * n) = 0 := by
    have e : (2 : Int) ^ (8 * n) = 256 ^ n := by rw [Int.pow_mul]; rfl
    rw [e]
    exact Int.ediv_eq_zero_of_lt hv0 hv1
  have hf : slices_Clone_byte_byte.f l = some l := by unfold slices_Clone_byte_byte.f; rw [if_pos (by omega)]
  have HK := Aside0.mk hcall
  have HR := Aside0.mk hr
  have HC := Aside0.mk hc0
  have HF := Aside0.mk hf
  clear hcall hA hC hm hcap hr hc0 hf h2
  go_enter Tryd.func57, Tryd.ntmps57
  go_wp2_with (first | (go_at_call 73; refine (HK.out _).mono ?_; rintro e w' ⟨rfl, rfl⟩) | (go_at_call 71; refine (slices_Clone_byte_byte.calls _ _ l l _ HR.out HC.out HF.out).mono ?_; rintro e w1 ⟨v1, rfl, ho1, hb1⟩))
  obtain ⟨g, cap1, rfl, hg0, hg1, _⟩ := Kd.R_form ho1 (by omega)
  have HO1 := Aside0.mk ho1
  have HB1 := Aside0.mk hb1
  clear ho1 hb1 hlt
  go_loopw [36] (fun v36 wr => ∃ k : Nat, k ≤ n ∧ v36 = .int .i64 k ∧ Aside0 (Kd.R (Kd.int .u8) 5 wr w.heap.size (fun _ => True) (.slice (some ⟨g, 0, none⟩) l.length cap1) (Plain.putB l a k a3)) ∧ Aside0 (Below w.heap.size w wr)) (fun v36 _ => n - (intOf v36).toNat)
  case atStart => exact ⟨0, Nat.zero_le _, rfl, ⟨by rw [Plain.putB_zero]; exact HO1.out⟩, HB1⟩
  case round =>
    obtain ⟨k, hk, rfl, HO, HB⟩ := hrel
    by_cases hlt : k < n
    · have hx := (Kd.R_celln 0 HO.out ((a : Int) + (k : Int)) (by omega) (by omega)).1
      have hfz := (Kd.R_celln 0 HO.out ((a : Int) + (k : Int)) (by omega) (by omega)).2
      have hput := Kd.R_putn HO.out ((a : Int) + (k : Int)) (a3 / 256 ^ k % 256)
      have eak : ((a : Int) + (k : Int)).toNat = a + k := by omega
      rw [eak] at hx hfz hput
      rw [Plain.putB_set (by omega)] at hput
      obtain ⟨q, hq⟩ : ∃ q : Int, a3 / 2 ^ (8 * k) = q := ⟨_, rfl⟩
      have hq2 : a3 / 256 ^ k = q := by rw [← hq, Int.pow_mul]; rfl
      rw [hq2] at hput
      have HP := Aside0.mk hput
      clear hput hq2 eak HO1 HB1
      go_wp2
      go_roundw
      case rel => exact ⟨k + 1, by omega, by go_num, HP, ⟨HB.out.setCell (p := ⟨g, a + k, none⟩) hg0 _⟩⟩
      case measure => simp [intOf]; omega
    · have hk' : k = n := by omega
      have HN := Aside0.mk hk'
      clear hk'
      go_wp2
      go_ret2
      exact ⟨_, rfl, by rw [← HN.out]; exact HO.out, HB.out⟩
set_option maxRecDepth 100000 in
set_option maxHeartbeats 4000000 in
theorem field_Put.value (A0 : Option Addr) (c0 : Nat) (l : List Int) (a1 a2 a3 : Int) (w : World) (hc0 : l.length ≤ c0) (hl : l.length ≤ 140737488351232) (h2 : a2 = 1 ∨ a2 = 2 ∨ a2 = 4) (hin : field_part.Inside l a1 a2) (hv : ¬ (0 ≤ a3 ∧ a3 < 256 ^ a2.toNat)) :
    Calls Tryd.prog 57 #[.slice A0 l.length c0, .int .i64 a1, .int .i64 a2, .int .i64 a3] w fun e w' => e = .returned (.tuple #[.slice none 0 0, .int .i64 3]) ∧ w = w' := by
  obtain ⟨A', hcall, hA, hC⟩ := field_number.yes A0 c0 l a1 a2 hc0 hl h2 hin
  obtain ⟨m, hm⟩ : ∃ m, (field_part.seg l a1 a2).length = m := ⟨_, rfl⟩
  obtain ⟨cap, hcap⟩ : ∃ z, c0 - a1.toNat = z := ⟨_, rfl⟩
  rw [hm, hcap] at hcall
  have HK := Aside0.mk hcall
  clear hcall hA hC hm hcap hc0 hin
  by_cases c1 : a3 < 0
  · clear hv h2
    go_enter Tryd.func57, Tryd.ntmps57
    go_wp2_with (go_at_call 73; refine (HK.out _).mono ?_; rintro e w' ⟨rfl, rfl⟩)
    go_ret2
    exact ⟨rfl, rfl⟩
  · obtain ⟨n, rfl⟩ : ∃ n : Nat, a2 = (n : Int) := ⟨a2.toNat, by omega⟩
    simp only [Int.toNat_natCast] at hv
    have hn4 : n ≤ 4 := by omega
    have hv1 : ¬ a3 < 256 ^ n := fun h => hv ⟨by omega, h⟩
    obtain ⟨q, hq⟩ : ∃ q : Int, a3 / 2 ^ (8 * n) = q := ⟨_, rfl⟩
    have hqv : (q != 0) = true := by
      rw [bne_iff_ne]
      intro h0
      apply hv1
      have e : (2 : Int) ^ (8 * n) = 256 ^ n := by rw [Int.pow_mul]; rfl
      rw [e, h0] at hq
      have hp : (0 : Int) < 256 ^ n := Int.pow_pos (by decide)
      have h3 := Int.lt_mul_ediv_self_add (x := a3) hp
      rw [hq] at h3
      omega
    clear hv hv1 h2
    go_enter Tryd.func57, Tryd.ntmps57
    go_wp2_with (go_at_call 73; refine (HK.out _).mono ?_; rintro e w' ⟨rfl, rfl⟩)
    go_ret2
    exact ⟨rfl, rfl⟩
theorem field_Put.calls (A0 : Option Addr) (c0 : Nat) (l0 : List Int) (a1 : Int) (a2 : Int) (a3 : Int) (r1 : List Int) (r2 : Int) (w : World) (hr0 : Kd.C (Kd.int .u8) w A0 l0.length l0) (hc0 : l0.length ≤ c0) (h : field_Put.f l0 a1 a2 a3 = some (r1, r2)) :
    Calls Tryd.prog 57 #[.slice A0 l0.length c0, .int .i64 a1, .int .i64 a2, .int .i64 a3] w fun e w' => ∃ v0_ : Value, e = .returned (.tuple #[v0_, .int .i64 r2]) ∧ Kd.R (Kd.int .u8) 5 w' w.heap.size (fun _ => True) v0_ r1 ∧ Below w.heap.size w w' := by
  have fail_ : ∀ er : Int, Calls Tryd.prog 57 #[.slice A0 l0.length c0, .int .i64 a1, .int .i64 a2, .int .i64 a3] w (fun e w' => e = .returned (.tuple #[.slice none 0 0, .int .i64 er]) ∧ w = w') →
      Calls Tryd.prog 57 #[.slice A0 l0.length c0, .int .i64 a1, .int .i64 a2, .int .i64 a3] w fun e w' => ∃ v0_ : Value, e = .returned (.tuple #[v0_, .int .i64 er]) ∧ Kd.R (Kd.int .u8) 5 w' w.heap.size (fun _ => True) v0_ [] ∧ Below w.heap.size w w' := by
    intro er hh
    refine hh.mono ?_
    rintro e w' ⟨rfl, rfl⟩
    exact ⟨_, rfl, Kd.R_nil _ _ _ _ _, Below.refl _ _⟩
  unfold field_Put.f at h
  by_cases hl : l0.length ≤ 140737488351232
  · rw [if_pos hl] at h
    replace h := Option.some.inj h
    by_cases h2 : a2 = 1 ∨ a2 = 2 ∨ a2 = 4
    · rw [if_pos h2] at h
      by_cases hin : field_part.Inside l0 a1 a2
      · rw [if_pos hin] at h
        by_cases hv : 0 ≤ a3 ∧ a3 < 256 ^ a2.toNat
        · rw [if_pos hv] at h
          obtain ⟨rfl, rfl⟩ := Prod.mk.inj h
          exact field_Put.yes A0 c0 l0 a1 a2 a3 w hr0 hc0 hl h2 hin hv.1 hv.2
        · rw [if_neg hv] at h
          obtain ⟨rfl, rfl⟩ := Prod.mk.inj h
          exact fail_ 3 (field_Put.value A0 c0 l0 a1 a2 a3 w hc0 hl h2 hin hv)
      · rw [if_neg hin] at h
        obtain ⟨rfl, rfl⟩ := Prod.mk.inj h
        exact fail_ 2 (field_Put.err A0 c0 l0 a1 a2 a3 2 w rfl (field_number.range A0 c0 l0 a1 a2 hl h2 hin))
    · rw [if_neg h2] at h
      obtain ⟨rfl, rfl⟩ := Prod.mk.inj h
      exact fail_ 1 (field_Put.err A0 c0 l0 a1 a2 a3 1 w rfl (field_number.arg A0 c0 l0 a1 a2 h2))
  · rw [if_neg hl] at h
    exact absurd h (by simp)

-- NOT PRINTED: function 32 (codec_writer_number)

-- NOT PRINTED: function 33 (codec_writer_whole)

-- NOT PRINTED: function 11 (codec_Dirent)

-- NOT PRINTED: function 6 (skerrylaw06_wakes)

-- NOT PRINTED: function 31 (codec_writer_numbers)

-- NOT PRINTED: function 7 (codec_Inode)

/-! ### slices_Backward_byte_byte: function 74 -/
section
attribute [local go_sem] Oper.semAt_some
open Go.Shelf
/-- An index and a byte. -/
abbrev slices_Backward_byte_byte.El := { x : Int × Int // 0 ≤ x.2 ∧ x.2 < 256 }
def slices_Backward_byte_byte.enc (x : slices_Backward_byte_byte.El) : Array Value := #[.int .i64 x.1.1, .int .u8 x.1.2]
/-- What has come when k rounds are over. -/
def slices_Backward_byte_byte.upto (f : Nat → slices_Backward_byte_byte.El) (k : Nat) : List slices_Backward_byte_byte.El := (List.range k).map f
theorem slices_Backward_byte_byte.upto_succ (f : Nat → slices_Backward_byte_byte.El) (k : Nat) : slices_Backward_byte_byte.upto f (k + 1) = slices_Backward_byte_byte.upto f k ++ [f k] := by simp [slices_Backward_byte_byte.upto, List.range_succ]
theorem slices_Backward_byte_byte.upto_length (f : Nat → slices_Backward_byte_byte.El) (k : Nat) : (slices_Backward_byte_byte.upto f k).length = k := by simp [slices_Backward_byte_byte.upto]
/-- The k-th from behind. -/
def slices_Backward_byte_byte.at_ (g : Nat → Int) (hg : ∀ j, 0 ≤ g j ∧ g j < 256) (len k : Nat) : slices_Backward_byte_byte.El := ⟨((len : Int) - 1 - k, g (len - 1 - k)), hg _⟩
/-- What a round keeps: all below n₀, and the block Bs (the box of the slice). -/
def slices_Backward_byte_byte.Kp (n₀ Bs : Nat) (A B : World) : Prop := Below n₀ A B ∧ ∀ o, A.heap[Bs]? = some o → B.heap[Bs]? = some o
theorem slices_Backward_byte_byte.Kp_refl (n₀ Bs : Nat) (A : World) : slices_Backward_byte_byte.Kp n₀ Bs A A := ⟨Below.refl _ _, fun _ h => h⟩
theorem slices_Backward_byte_byte.Kp_t {n₀ Bs : Nat} {A B C : World} (h : slices_Backward_byte_byte.Kp n₀ Bs A B) (k : slices_Backward_byte_byte.Kp n₀ Bs B C) : slices_Backward_byte_byte.Kp n₀ Bs A C := ⟨h.1.trans k.1, fun o ho => k.2 o (h.2 o ho)⟩
theorem slices_Backward_byte_byte.Kp_b {n₀ Bs : Nat} {w : World} (hn : n₀ ≤ w.heap.size) (hB : Bs < w.heap.size) (W : World) (l : Nat) (o o' : Obj) (hl : w.heap.size ≤ l) (h : W.heap[l]? = some o) (hc : o.isCells = false) (hw : o.isWalk = false) : slices_Backward_byte_byte.Kp n₀ Bs W (W.putObj l o') :=
  ⟨belowK_b hn W l o o' hl h hc hw, fun o1 h1 => ((belowK_b (n₀ := Bs + 1) (w := w) (by omega) W l o o' hl h hc hw).block Bs (by omega)).trans h1⟩
theorem slices_Backward_byte_byte.int_eq {a b : Int} (h : a = b) : Value.int .i64 a = .int .i64 b := by rw [h]
set_option maxRecDepth 100000 in
set_option maxHeartbeats 2000000 in
theorem slices_Backward_byte_byte.round_in (F : Fence) (n : Nat) (h7 : F.fn 89) (hro : F.round = none) (hn : 1 ≤ n) (l Bs n₀ b off len cap : Nat) (g : Nat → Int) (hg : ∀ j, 0 ≤ g j ∧ g j < 256) (hreach : len ≤ 140737488351232) (hb : b < n₀) (J Jx : List slices_Backward_byte_byte.El → World → Prop)
    (hY : ∀ pre x W, J pre W → pre.length < len → YieldAt F (n - 1) Tryd.prog l (slices_Backward_byte_byte.enc x) W fun e W' =>
      (e = .returned (.bool true) ∧ J (pre ++ [x]) W' ∧ slices_Backward_byte_byte.Kp n₀ Bs W W') ∨ (e = .returned (.bool false) ∧ Jx (pre ++ [x]) W'))
    (W : World) (hBs : W.heap[Bs]? = some (.cells #[.slice (some ⟨b, off, none⟩) len cap] 27)) (hc : ∀ j, j < len → W.cell? ⟨b, off + j, none⟩ = some (.int .u8 (g j))) (h0 : J [] W) :
    CallsIn F n Tryd.prog 89 #[.func (.yield l) #[] #[], .pointer (some ⟨Bs, 0, none⟩)] W fun e W' => (∃ v, e = .returned v) ∧
      ((∃ ys, ys = slices_Backward_byte_byte.upto (slices_Backward_byte_byte.at_ g hg len) len ∧ J ys W') ∨ (∃ pre, (∃ k, k ≤ len ∧ pre = slices_Backward_byte_byte.upto (slices_Backward_byte_byte.at_ g hg len) k) ∧ Jx pre W')) := by
  have hBs1 := blk_cell hBs 0
  simp only [List.getElem?_toArray, List.getElem?_cons_zero] at hBs1
  have HBS := Aside0.mk hBs
  clear hBs
  refine callsIn_of_wp Tryd.func89 rfl h7 ?_ hro
  simp only [Tryd.ntmps89, List.size_toArray, List.length_cons, List.length_nil, Nat.reduceAdd, Nat.reduceSub, Array.replicate_succ, Array.replicate_zero, List.push_toArray, List.append_toArray, List.nil_append, List.cons_append]
  gi_wp2
  gi_loopw [3] (fun i wr => ∃ k : Nat, k ≤ len ∧ i = .int .i64 ((len : Int) - 1 - k) ∧ J (slices_Backward_byte_byte.upto (slices_Backward_byte_byte.at_ g hg len) k) wr ∧ slices_Backward_byte_byte.Kp n₀ Bs W wr)
    (fun i _ => (intOf i + 1).toNat)
  case atStart => exact ⟨0, Nat.zero_le _, by simp, h0, slices_Backward_byte_byte.Kp_refl _ _ _⟩
  case round =>
    obtain ⟨k, hk, rfl, hJs, hnx⟩ := hrel
    by_cases hlt : k < len
    · have hcx : wr.cell? ⟨b, off + (len - 1 - k), none⟩ = some (.int .u8 (g (len - 1 - k))) := (hnx.1.cell (p := ⟨b, off + (len - 1 - k), none⟩) hb).trans (hc _ (by omega))
      have hBx := blk_cell (hnx.2 _ HBS.out) 0
      simp only [List.getElem?_toArray, List.getElem?_cons_zero] at hBx
      obtain ⟨fn, tmps, assign, body, hy, hR⟩ := hY _ (slices_Backward_byte_byte.at_ g hg len k) wr hJs (by rw [slices_Backward_byte_byte.upto_length]; exact hlt)
      simp only [slices_Backward_byte_byte.enc, slices_Backward_byte_byte.at_] at hy
      obtain ⟨j, hj⟩ : ∃ j : Int, (len : Int) - 1 - k = j := ⟨_, rfl⟩
      have hj0 : 0 ≤ j := by omega
      have hj1 : j < (len : Int) := by omega
      rw [show len - 1 - k = j.toNat by omega] at hcx hy
      rw [hj] at hy ⊢
      have HJ := Aside0.mk hj
      clear hj
      gi_wp2
      refine hR.mono ?_
      rintro e W3 (⟨rfl, hJ3, hk3⟩ | ⟨rfl, hJx3⟩)
      · gi_wp2
        go_roundw
        case rel => exact ⟨k + 1, by omega, slices_Backward_byte_byte.int_eq (by have := HJ.out; omega), by rw [slices_Backward_byte_byte.upto_succ]; exact hJ3, slices_Backward_byte_byte.Kp_t hnx hk3⟩
        case measure => simp [intOf]; omega
      · gi_wp2
        refine bodyPost_ret (results_none rfl _ _ _) rfl ?_
        exact ⟨⟨_, rfl⟩, .inr ⟨_, ⟨k + 1, by omega, (slices_Backward_byte_byte.upto_succ _ _).symm⟩, hJx3⟩⟩
    · obtain rfl : k = len := by omega
      gi_wp2
      go_end0
      exact ⟨⟨_, rfl⟩, .inl ⟨_, rfl, hJs⟩⟩
set_option maxRecDepth 100000 in
set_option maxHeartbeats 1000000 in
/-- .. where there are none: no round. -/
theorem slices_Backward_byte_byte.round_nil_in (F : Fence) (n : Nat) (h7 : F.fn 89) (hro : F.round = none) (l Bs cap : Nat) (A : Option Addr) (J : List slices_Backward_byte_byte.El → World → Prop) (W : World) (hBs : W.cell? ⟨Bs, 0, none⟩ = some (.slice A 0 cap)) (h0 : J [] W) :
    CallsIn F n Tryd.prog 89 #[.func (.yield l) #[] #[], .pointer (some ⟨Bs, 0, none⟩)] W fun e W' => (∃ v, e = .returned v) ∧ J [] W' := by
  refine callsIn_of_wp Tryd.func89 rfl h7 ?_ hro
  simp only [Tryd.ntmps89, List.size_toArray, List.length_cons, List.length_nil, Nat.reduceAdd, Nat.reduceSub, Array.replicate_succ, Array.replicate_zero, List.push_toArray, List.append_toArray, List.nil_append, List.cons_append]
  gi_wp2
  gi_loopw [3] (fun i wr => i = .int .i64 (-1) ∧ J [] wr) (fun _ _ => 0)
  case atStart => exact ⟨rfl, h0⟩
  case round =>
    obtain ⟨rfl, hJs⟩ := hrel
    gi_wp2
    go_end0
    exact ⟨⟨_, rfl⟩, hJs⟩
set_option maxHeartbeats 1000000 in
/-- slices.Backward(s): the slice value is boxed; the function value captures the box. -/
theorem slices_Backward_byte_byte.in_ (F : Fence) (n : Nat) (h5 : F.fn 74) (hro : F.round = none) (a : Option Addr) (len cap : Nat) (w : World) :
    CallsIn F n Tryd.prog 74 #[.slice a len cap] w fun e w' => e = .returned (.func (.func 89) #[] #[.pointer (some ⟨w.heap.size, 0, none⟩)]) ∧ w' = w.alloc (.cells #[.slice a len cap] 27) := by
  refine callsIn_of_wp Tryd.func74 rfl h5 ?_ hro
  simp only [Tryd.ntmps74, List.size_toArray, List.length_cons, List.length_nil, Nat.reduceAdd, Nat.reduceSub, Array.replicate_succ, Array.replicate_zero, List.push_toArray, List.append_toArray, List.nil_append, List.cons_append]
  gi_wp2
  go_ret
  exact ⟨rfl, rfl⟩
/-- What it hands back gives the bytes from the last one on, each with its index; or a beginning of these. -/
theorem slices_Backward_byte_byte.stops (F : Fence) (n : Nat) (h7 : F.fn 89) (hro : F.round = none) (hn : 1 ≤ n) (Bs n₀ b off len cap : Nat) (g : Nat → Int) (hg : ∀ j, 0 ≤ g j ∧ g j < 256) (hreach : len ≤ 140737488351232) (w : World) (hb : b < n₀) (hn₀ : n₀ ≤ w.heap.size)
    (hBs : w.heap[Bs]? = some (.cells #[.slice (some ⟨b, off, none⟩) len cap] 27)) (hc : ∀ j, j < len → w.cell? ⟨b, off + j, none⟩ = some (.int .u8 (g j))) :
    SeqStopsK F n Tryd.prog 89 #[.pointer (some ⟨Bs, 0, none⟩)] slices_Backward_byte_byte.enc (slices_Backward_byte_byte.Kp n₀ Bs) (fun ys => ys = slices_Backward_byte_byte.upto (slices_Backward_byte_byte.at_ g hg len) len) (fun pre => ∃ k, k ≤ len ∧ pre = slices_Backward_byte_byte.upto (slices_Backward_byte_byte.at_ g hg len) k) len w := fun l J Jx W hW _ _ hY h0 => by
  have hB := hW.mono hn₀
  exact slices_Backward_byte_byte.round_in F n h7 hro hn l Bs n₀ b off len cap g hg hreach hb J Jx hY W ((hW.block Bs (blk_lt hBs)).trans hBs) (fun j hj => (hB.cell (p := ⟨b, off + j, none⟩) hb).trans (hc j hj)) h0
theorem slices_Backward_byte_byte.stops_nil (F : Fence) (n : Nat) (h7 : F.fn 89) (hro : F.round = none) (Bs n₀ cap : Nat) (A : Option Addr) (w : World) (hBs : Bs < w.heap.size)
    (hc : w.cell? ⟨Bs, 0, none⟩ = some (.slice A 0 cap)) :
    SeqStopsK F n Tryd.prog 89 #[.pointer (some ⟨Bs, 0, none⟩)] slices_Backward_byte_byte.enc (slices_Backward_byte_byte.Kp n₀ Bs) (fun ys => ys = []) (fun _ => False) 0 w := fun l J Jx W hW _ _ hY h0 =>
  (slices_Backward_byte_byte.round_nil_in F n h7 hro l Bs cap A J W ((hW.cell (p := ⟨Bs, 0, none⟩) hBs).trans hc) h0).mono fun e W' ⟨he, hj⟩ => ⟨he, .inl ⟨_, rfl, hj⟩⟩
end

/-! ### field_Get: function 58 -/
def field_Get.f (l0 : List Int) (a1 : Int) (a2 : Int) : Option (Int × Int) :=
  if Plain.Bytes l0 then (if l0.length ≤ 140737488351232 then some (if a2 = 1 ∨ a2 = 2 ∨ a2 = 4 then (if field_part.Inside l0 a1 a2 then (Plain.le (field_part.seg l0 a1 a2), 0) else (0, 2)) else (0, 1)) else none) else none
section
attribute [local go_sem] Oper.semAt_some
open Go.Shelf
/-- What stands in v when these have come. -/
def field_Get.v (pre : List slices_Backward_byte_byte.El) : Int := Plain.acc (pre.map fun x => x.1.2)
theorem field_Get.v_snoc (pre : List slices_Backward_byte_byte.El) (x : slices_Backward_byte_byte.El) : field_Get.v (pre ++ [x]) = field_Get.v pre * 256 + x.1.2 := by
  unfold field_Get.v
  rw [List.map_append]
  exact Plain.acc_snoc _ _
theorem field_Get.v_range (pre : List slices_Backward_byte_byte.El) (h : pre.length < 4) : 0 ≤ field_Get.v pre ∧ field_Get.v pre < 16777216 := by
  have hb : Plain.Bytes (pre.map fun x => x.1.2) := by
    intro y hy
    obtain ⟨x, _, rfl⟩ := List.mem_map.1 hy
    exact x.2
  have h1 := Plain.acc_range hb
  rw [List.length_map] at h1
  have h2 : ∀ n : Nat, n < 4 → (256 : Int) ^ n ≤ 16777216 := by
    intro n hn
    have : ∀ m : Fin 4, (256 : Int) ^ m.val ≤ 16777216 := by decide
    exact this ⟨n, hn⟩
  have h3 := h2 _ h
  unfold field_Get.v
  omega
theorem field_Get.v_all (g : Nat → Int) (hg : ∀ j, 0 ≤ g j ∧ g j < 256) (l : List Int) (hl : ∀ j, j < l.length → g j = l.getD j 0) : field_Get.v (slices_Backward_byte_byte.upto (slices_Backward_byte_byte.at_ g hg l.length) l.length) = Plain.le l := by
  rw [← Plain.acc_reverse]
  unfold field_Get.v
  congr 1
  apply List.ext_getElem
  · simp [slices_Backward_byte_byte.upto]
  · intro i h1 h2
    rw [List.length_reverse] at h2
    simp only [slices_Backward_byte_byte.upto, List.getElem_map, List.getElem_range, slices_Backward_byte_byte.at_, List.getElem_reverse]
    rw [hl _ (by omega), List.getD_eq_getElem?_getD, List.getElem?_eq_getElem (by omega)]
    rfl
set_option maxRecDepth 100000 in
set_option maxHeartbeats 4000000 in
theorem field_Get.yes (n : Nat) (hn : 3 ≤ n) (A0 : Option Addr) (c0 : Nat) (l : List Int) (a1 a2 : Int) (w : World) (hr : Kd.C (Kd.int .u8) w A0 l.length l) (hc0 : l.length ≤ c0) (hl : l.length ≤ 140737488351232) (hb : Plain.Bytes l) (h2 : a2 = 1 ∨ a2 = 2 ∨ a2 = 4) (hin : field_part.Inside l a1 a2) :
    CallsIn Fence.wide n Tryd.prog 58 #[.slice A0 l.length c0, .int .i64 a1, .int .i64 a2] w fun e w' => e = .returned (.tuple #[.int .i64 (Plain.le (field_part.seg l a1 a2)), .int .i64 0]) ∧ Below w.heap.size w w' := by
  obtain ⟨A', hcall, hA, hC⟩ := field_number.yes A0 c0 l a1 a2 hc0 hl h2 hin
  have hCs := hA w hr
  have hlen := field_part.seg_length hin
  have hbs : Plain.Bytes (field_part.seg l a1 a2) := (hb.take _).drop _
  obtain ⟨sg, hsg⟩ : ∃ sg, field_part.seg l a1 a2 = sg := ⟨_, rfl⟩
  rw [hsg] at hcall hCs hlen hbs hC ⊢
  obtain ⟨m, hm⟩ : ∃ m, sg.length = m := ⟨_, rfl⟩
  rw [hm] at hcall hlen hCs
  obtain ⟨ad, hAd, hcells⟩ := (Kd.reads_of_C (d := (0 : Int)) hCs).2.2 (by omega)
  subst hAd
  obtain ⟨b, off, spot⟩ := ad
  have hsp : spot = none := by simpa [Addr.add] using World.cell?_spot (hcells 0 (by omega))
  subst hsp
  have hcells' : ∀ j, j < m → w.cell? ⟨b, off + j, none⟩ = some (.int .u8 (sg.getD j 0)) := fun j hj => by
    have e := hcells j hj
    rwa [show (⟨b, off, none⟩ : Addr).add j = ⟨b, off + j, none⟩ by unfold Addr.add; split <;> simp_all] at e
  have hblt : b < w.heap.size := World.block_lt_of_cell? w _ (hcells' 0 (by omega))
  have hg : ∀ j, 0 ≤ sg.getD j 0 ∧ sg.getD j 0 < 256 := fun j => by simpa [rd] using hbs.rd (j : Int)
  have hall := field_Get.v_all (fun j => sg.getD j 0) hg sg (fun _ _ => rfl)
  rw [hm] at hall
  obtain ⟨cap, hcap⟩ : ∃ z, c0 - a1.toNat = z := ⟨_, rfl⟩
  rw [hcap] at hcall
  have hm4 : m ≤ 4 := by omega
  have HK := Aside0.mk hcall
  have HALL := Aside0.mk hall
  have HCELLS := Aside0.mk hcells'
  have h1 : 1 ≤ n := by omega
  have hro : Fence.wide.round = none := rfl
  refine callsIn_of_wp_marks Tryd.func58 rfl trivial ?_ hro
  simp only [Tryd.ntmps58, List.size_toArray, List.length_cons, List.length_nil, Nat.reduceAdd, Nat.reduceSub, Array.replicate_succ, Array.replicate_zero, List.push_toArray, List.append_toArray, List.nil_append, List.cons_append]
  clear hcall hA hC hsg hr hb hc0 hin h2 hcells hcells' hall hlen hm hCs hcap
  gi_wp2_with (first | (refine ⟨trivial, ?_⟩; gi_at_call 73; refine (callsIn_wide.2 (HK.out _)).mono ?_; rintro e w' ⟨rfl, rfl⟩) | (refine ⟨trivial, ?_⟩; gi_at_call 74; refine (slices_Backward_byte_byte.in_ Fence.wide (n - 1) trivial hro _ _ _ _).mono ?_; rintro e w' ⟨rfl, rfl⟩))
  have bV := Boxed.new w 3 (.int .i64 0)
  have bN := heap_alloc_new (w.alloc (.cells #[.int .i64 0] 3)) (.cells #[.slice (some ⟨b, off, none⟩) m cap] 27)
  rw [World.size_alloc] at bN
  have hB0 : Below w.heap.size w ((w.alloc (.cells #[.int .i64 0] 3)).alloc (.cells #[.slice (some ⟨b, off, none⟩) m cap] 27)) := ((Below.refl _ w).alloc (Nat.le_refl _) _).alloc (by simp) _
  refine wpIn_rangeFunc_ownG hro h1 (gf := 89) (lb := #[.pointer (some ⟨w.heap.size + 1, 0, none⟩)]) rfl trivial (enters_of Tryd.func89 (by kernel_rfl) rfl)
    (slices_Backward_byte_byte.stops Fence.wide (n - 1) trivial hro (by omega) (w.heap.size + 1) w.heap.size b off m cap (fun j => sg.getD j 0) hg (by omega) _ hblt (by simp; omega) bN (fun j hj => (hB0.cell (p := ⟨b, off + j, none⟩) hblt).trans (HCELLS.out j hj))) (slices_Backward_byte_byte.Kp_t (n₀ := w.heap.size) (Bs := w.heap.size + 1)) (slices_Backward_byte_byte.Kp_b (by simp; omega) (by simp)) (Below.refl _ _) (fun _ => rfl)
    (fun pre W => (W.cell? ⟨w.heap.size, 0, none⟩ = some (.int .i64 (field_Get.v pre)) ∧ W.frozen? ⟨w.heap.size, 0, none⟩ = false) ∧ Below w.heap.size w W)
    (fun _ _ _ => False)
    (OwnFrom.and (Own.from (fun s A B row hs hg hr => ⟨cell_kept hs.1 hg hr, (frozen_kept hs.1 hg hr).trans hs.2⟩) _) (ownFrom_below (Nat.le_refl _) (by simp; omega)))
    (fun _ _ _ _ _ hs _ _ => hs)
    ⟨⟨(bV.alloc _).cell, (bV.alloc _).frozen⟩, hB0⟩
    (fun x => { tmps := #[.slice A0 l.length c0, .int .i64 a1, .int .i64 a2, undef, undef, undef, .int .i64 0, .int .i64 0, .slice (some ⟨b, off, none⟩) m cap, .int .i64 0, .pointer (some ⟨w.heap.size, 0, none⟩), undef, .int .u8 x.1.2, .tuple #[.slice (some ⟨b, off, none⟩) m cap, .int .i64 0], .slice A0 l.length c0, .int .i64 a1, .int .i64 a2, .tuple #[.slice (some ⟨b, off, none⟩) m cap, .int .i64 0], .slice (some ⟨b, off, none⟩) m cap, .int .i64 0, .slice (some ⟨b, off, none⟩) m cap, .func (.func 89) #[] #[.pointer (some ⟨w.heap.size + 1, 0, none⟩)], .int .i64 x.1.1, .int .u8 x.1.2, undef, undef, undef, undef, undef, undef, undef], defers := [] }) ?assign ?body ?done ?stop
  case assign =>
    intro l x W K hK
    dsimp only [slices_Backward_byte_byte.enc]
    gi_wp2
    exact hK
  case body =>
    rintro l pre x W ⟨⟨hc, hf⟩, hB⟩ hpre
    have hv := field_Get.v_range pre (by omega)
    have hx := x.2
    have ho := Plain.or_low hv.1 hv.2 hx.1 hx.2
    have hs := field_Get.v_snoc pre x
    obtain ⟨v0, hv0⟩ : ∃ z, field_Get.v pre = z := ⟨_, rfl⟩
    obtain ⟨v1, hv1⟩ : ∃ z, field_Get.v (pre ++ [x]) = z := ⟨_, rfl⟩
    rw [hv1, hv0] at hs
    rw [hv0] at hc ho hv
    have ho' : Go.bits .or .i64 (v0 * 256) x.1.2 = v1 := by rw [ho, hs]
    have HS := Aside0.mk hs
    have HV := Aside0.mk hv1
    obtain ⟨g0, g1⟩ := hv
    obtain ⟨g2, g3⟩ := hx
    clear ho hs hv1 hv0
    gi_wp2
    exact ⟨(KeepsOthers.setCell _ _ _).from _, ⟨(Below.refl w.heap.size W).setCell (p := ⟨w.heap.size, 0, none⟩) (Nat.le_refl _) _, fun o ho => (Below.heap_setCell W ⟨w.heap.size, 0, none⟩ _ (w.heap.size + 1) (by simp)).trans ho⟩, ⟨by rw [HV.out]; exact World.cell?_setCell_same' _ _ _ (by rw [hc]; rfl), by rw [World.frozen?_setCell]; exact hf⟩, hB.setCell (p := ⟨w.heap.size, 0, none⟩) (Nat.le_refl _) _⟩
  case done =>
    rintro D ys W hD rfl ⟨⟨hc, _⟩, hB⟩ hK
    rw [HALL.out] at hc
    gi_wp2
    refine ⟨by simp, .inl ⟨_, _, rfl, run_takeDeferred hK, ?_⟩⟩
    exact ⟨_, results_tmp2 rfl _ _ _, rfl, hB.trans (belowK_b (w := w) (Nat.le_refl _) W D _ _ (by simp at hD; omega) hK rfl rfl)⟩
  case stop =>
    rintro D c pre W _ _ h _
    exact h.elim
set_option maxRecDepth 100000 in
set_option maxHeartbeats 4000000 in
theorem field_Get.no (n : Nat) (hn : 3 ≤ n) (A0 : Option Addr) (c0 : Nat) (l : List Int) (a1 a2 er : Int) (w : World)
    (hcall : ∀ w, Calls Tryd.prog 73 #[.slice A0 l.length c0, .int .i64 a1, .int .i64 a2] w fun e w' => e = .returned (.tuple #[.slice none 0 0, .int .i64 er]) ∧ w = w') :
    CallsIn Fence.wide n Tryd.prog 58 #[.slice A0 l.length c0, .int .i64 a1, .int .i64 a2] w fun e w' => e = .returned (.tuple #[.int .i64 0, .int .i64 er]) ∧ Below w.heap.size w w' := by
  have HK := Aside0.mk hcall
  have h1 : 1 ≤ n := by omega
  have hro : Fence.wide.round = none := rfl
  refine callsIn_of_wp_marks Tryd.func58 rfl trivial ?_ hro
  simp only [Tryd.ntmps58, List.size_toArray, List.length_cons, List.length_nil, Nat.reduceAdd, Nat.reduceSub, Array.replicate_succ, Array.replicate_zero, List.push_toArray, List.append_toArray, List.nil_append, List.cons_append]
  clear hcall
  gi_wp2_with (first | (refine ⟨trivial, ?_⟩; gi_at_call 73; refine (callsIn_wide.2 (HK.out _)).mono ?_; rintro e w' ⟨rfl, rfl⟩) | (refine ⟨trivial, ?_⟩; gi_at_call 74; refine (slices_Backward_byte_byte.in_ Fence.wide (n - 1) trivial hro _ _ _ _).mono ?_; rintro e w' ⟨rfl, rfl⟩))
  have bV := Boxed.new w 3 (.int .i64 0)
  have bN := heap_alloc_new (w.alloc (.cells #[.int .i64 0] 3)) (.cells #[.slice none 0 0] 27)
  rw [World.size_alloc] at bN
  have hB0 : Below w.heap.size w ((w.alloc (.cells #[.int .i64 0] 3)).alloc (.cells #[.slice none 0 0] 27)) := ((Below.refl _ w).alloc (Nat.le_refl _) _).alloc (by simp) _
  refine wpIn_rangeFunc_ownG hro h1 (gf := 89) (lb := #[.pointer (some ⟨w.heap.size + 1, 0, none⟩)]) rfl trivial (enters_of Tryd.func89 (by kernel_rfl) rfl)
    (slices_Backward_byte_byte.stops_nil Fence.wide (n - 1) trivial hro (w.heap.size + 1) w.heap.size 0 none _ (by simp) (blk_cell bN 0)) (slices_Backward_byte_byte.Kp_t (n₀ := w.heap.size) (Bs := w.heap.size + 1)) (slices_Backward_byte_byte.Kp_b (by simp; omega) (by simp)) (Below.refl _ _) (fun _ => rfl)
    (fun pre W => (W.cell? ⟨w.heap.size, 0, none⟩ = some (.int .i64 (field_Get.v pre)) ∧ W.frozen? ⟨w.heap.size, 0, none⟩ = false) ∧ Below w.heap.size w W)
    (fun _ _ _ => False)
    (OwnFrom.and (Own.from (fun s A B row hs hg hr => ⟨cell_kept hs.1 hg hr, (frozen_kept hs.1 hg hr).trans hs.2⟩) _) (ownFrom_below (Nat.le_refl _) (by simp; omega)))
    (fun _ _ _ _ _ hs _ _ => hs)
    ⟨⟨(bV.alloc _).cell, (bV.alloc _).frozen⟩, hB0⟩
    (fun x => { tmps := #[.slice A0 l.length c0, .int .i64 a1, .int .i64 a2, undef, undef, undef, .int .i64 0, .int .i64 0, .slice none 0 0, .int .i64 er, .pointer (some ⟨w.heap.size, 0, none⟩), undef, .int .u8 x.1.2, .tuple #[.slice none 0 0, .int .i64 er], .slice A0 l.length c0, .int .i64 a1, .int .i64 a2, .tuple #[.slice none 0 0, .int .i64 er], .slice none 0 0, .int .i64 er, .slice none 0 0, .func (.func 89) #[] #[.pointer (some ⟨w.heap.size + 1, 0, none⟩)], .int .i64 x.1.1, .int .u8 x.1.2, undef, undef, undef, undef, undef, undef, undef], defers := [] }) ?assign ?body ?done ?stop
  case assign =>
    intro l x W K hK
    dsimp only [slices_Backward_byte_byte.enc]
    gi_wp2
    exact hK
  case body =>
    intro l pre x W _ hpre
    exact absurd hpre (Nat.not_lt_zero _)
  case done =>
    rintro D ys W hD rfl ⟨⟨hc, _⟩, hB⟩ hK
    rw [show field_Get.v [] = 0 from rfl] at hc
    gi_wp2
    refine ⟨by simp, .inl ⟨_, _, rfl, run_takeDeferred hK, ?_⟩⟩
    exact ⟨_, results_tmp2 rfl _ _ _, rfl, hB.trans (belowK_b (w := w) (Nat.le_refl _) W D _ _ (by simp at hD; omega) hK rfl rfl)⟩
  case stop =>
    rintro D c pre W _ _ h _
    exact h.elim
theorem field_Get.calls (A0 : Option Addr) (c0 : Nat) (l0 : List Int) (a1 : Int) (a2 : Int) (r1 : Int) (r2 : Int) (w : World) (hr0 : Kd.C (Kd.int .u8) w A0 l0.length l0) (hc0 : l0.length ≤ c0) (h : field_Get.f l0 a1 a2 = some (r1, r2)) :
    Calls Tryd.prog 58 #[.slice A0 l0.length c0, .int .i64 a1, .int .i64 a2] w fun e w' => e = .returned (.tuple #[.int .i64 r1, .int .i64 r2]) ∧ Below w.heap.size w w' := by
  refine (callsIn_wide (n := 3)).1 ?_
  unfold field_Get.f at h
  by_cases hb : Plain.Bytes l0
  · by_cases hl : l0.length ≤ 140737488351232
    · rw [if_pos hb, if_pos hl] at h
      replace h := Option.some.inj h
      by_cases h2 : a2 = 1 ∨ a2 = 2 ∨ a2 = 4
      · rw [if_pos h2] at h
        by_cases hin : field_part.Inside l0 a1 a2
        · rw [if_pos hin] at h
          obtain ⟨rfl, rfl⟩ := Prod.mk.inj h
          exact field_Get.yes 3 (Nat.le_refl _) A0 c0 l0 a1 a2 w hr0 hc0 hl hb h2 hin
        · rw [if_neg hin] at h
          obtain ⟨rfl, rfl⟩ := Prod.mk.inj h
          exact field_Get.no 3 (Nat.le_refl _) A0 c0 l0 a1 a2 2 w (field_number.range A0 c0 l0 a1 a2 hl h2 hin)
      · rw [if_neg h2] at h
        obtain ⟨rfl, rfl⟩ := Prod.mk.inj h
        exact field_Get.no 3 (Nat.le_refl _) A0 c0 l0 a1 a2 1 w (field_number.arg A0 c0 l0 a1 a2 h2)
    · rw [if_pos hb, if_neg hl] at h
      exact absurd h (by simp)
  · rw [if_neg hb] at h
    exact absurd h (by simp)
end

-- NOT PRINTED: function 37 (codec_reader_number)

-- NOT PRINTED: function 36 (codec_reader_numbers)

/-! ### bytes_Equal: function 59 -/
def bytes_Equal.f (l0 : List Int) (l1 : List Int) : Option (Bool) := some ((strOfNums l0).toList == (strOfNums l1).toList)
set_option maxHeartbeats 8000000 in
set_option maxRecDepth 100000 in
theorem bytes_Equal.calls (A0 : Option Addr) (c0 : Nat) (l0 : List Int) (A1 : Option Addr) (c1 : Nat) (l1 : List Int) (r : Bool) (w : World) (hr0 : Kd.C (Kd.int .u8) w A0 l0.length l0) (hc0 : l0.length ≤ c0) (hr1 : Kd.C (Kd.int .u8) w A1 l1.length l1) (hc1 : l1.length ≤ c1) (h : bytes_Equal.f l0 l1 = some r) :
    Calls Tryd.prog 59 #[.slice A0 l0.length c0, .slice A1 l1.length c1] w fun e w' => e = .returned (.bool r) ∧ Drawn0 w w' := by
  have HR0 := Aside0.mk hr0
  have HC0 := Aside0.mk hc0
  clear hr0 hc0
  have HR1 := Aside0.mk hr1
  have HC1 := Aside0.mk hc1
  clear hr1 hc1
  have H : (some ((strOfNums l0).toList == (strOfNums l1).toList)) = some r := h
  clear h
  obtain rfl := Option.some.inj H
  have hcv3 := Kd.C_string (P := Tryd.prog) (A := A0) (c := c0) Tryd.underlying27 Tryd.underlying5 Tryd.underlying9 HR0.out
  have hcv4 := Kd.C_string (P := Tryd.prog) (A := A1) (c := c1) Tryd.underlying27 Tryd.underlying5 Tryd.underlying9 HR1.out
  go_enter Tryd.func59, Tryd.ntmps59
  go_wp2
  go_ret
  exact ⟨by first | rfl | (simp; done) | (simp [*]; done), by repeat (first | exact Drawn0.refl _ | apply Drawn0.step)⟩

-- NOT PRINTED: function 38 (api_Inode)

-- NOT PRINTED: function 9 (codec_Uninode)

-- NOT PRINTED: function 61 (field_span)

-- NOT PRINTED: function 102 (bytealg_IndexByteString)

-- NOT PRINTED: function 95 (stringslite_IndexByte)

-- NOT PRINTED: function 96 (bytealg_IndexString)

end Go.Proofs.YtbplffdmggbcdaaDoor.PCodecKeeps
