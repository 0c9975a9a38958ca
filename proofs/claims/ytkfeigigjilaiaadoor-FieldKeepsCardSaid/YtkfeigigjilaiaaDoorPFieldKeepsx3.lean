-- Written by this session's own tool (prn.py) over the kit's printer; its templates are the session's own. Lean checks it.
import Derived.Test.YtkfeigigjilaiaaDoorPFieldKeepsx0
import Derived.Test.YtkfeigigjilaiaaDoorPFieldKeepsx1
import Derived.Test.YtkfeigigjilaiaaDoorPFieldKeepsx2
namespace Go.Proofs.YtkfeigigjilaiaaDoor.PFieldKeeps
open Go.RowKit Go.Proofs.YtkfeigigjilaiaaDoorW.PrintWords Go.Proofs.YtkfeigigjilaiaaDoorW.PrintLast Go.Proofs.YtkfeigigjilaiaaDoorW.PrintMore
attribute [local go_sem] max2_int min2_int max_two min_two max_three min_three max_four min_four   -- for this text's walks alone
set_option linter.unusedVariables false
set_option linter.unusedSimpArgs false

/-! ### field_Put: function 10 -/
def field_Put.f (l0 : List Int) (a1 : Int) (a2 : Int) (a3 : Int) : Option (List Int × Int) :=
  if l0.length ≤ 140737488351232 then some (if a2 = 1 ∨ a2 = 2 ∨ a2 = 4 then (if field_part.Inside l0 a1 a2 then (if 0 ≤ a3 ∧ a3 < 256 ^ a2.toNat then (Plain.putB l0 a1.toNat a2.toNat a3, 0) else ([], 3)) else ([], 2)) else ([], 1)) else none
set_option maxRecDepth 100000 in
set_option maxHeartbeats 4000000 in
theorem field_Put.err (A0 : Option Addr) (c0 : Nat) (l : List Int) (a1 a2 a3 er : Int) (w : World) (he : (er != 0) = true)
    (hcall : ∀ w, Calls Tryd.prog 20 #[.slice A0 l.length c0, .int .i64 a1, .int .i64 a2] w fun e w' => e = .returned (.tuple #[.slice none 0 0, .int .i64 er]) ∧ w = w') :
    Calls Tryd.prog 10 #[.slice A0 l.length c0, .int .i64 a1, .int .i64 a2, .int .i64 a3] w fun e w' => e = .returned (.tuple #[.slice none 0 0, .int .i64 er]) ∧ w = w' := by
  have HK := Aside0.mk hcall
  clear hcall
  go_enter Tryd.func10, Tryd.ntmps10
  go_wp2_with (go_at_call 20; refine (HK.out _).mono ?_; rintro e w' ⟨rfl, rfl⟩)
  go_ret2
  exact ⟨rfl, rfl⟩
set_option maxRecDepth 100000 in
set_option maxHeartbeats 4000000 in
theorem field_Put.yes (A0 : Option Addr) (c0 : Nat) (l : List Int) (a1 a2 a3 : Int) (w : World) (hr : Kd.C (Kd.int .u8) w A0 l.length l) (hc0 : l.length ≤ c0) (hl : l.length ≤ 140737488351232) (h2 : a2 = 1 ∨ a2 = 2 ∨ a2 = 4) (hin : field_part.Inside l a1 a2) (hv0 : 0 ≤ a3) (hv1 : a3 < 256 ^ a2.toNat) :
    Calls Tryd.prog 10 #[.slice A0 l.length c0, .int .i64 a1, .int .i64 a2, .int .i64 a3] w fun e w' => ∃ v0_ : Value, e = .returned (.tuple #[v0_, .int .i64 0]) ∧ Kd.R (Kd.int .u8) 5 w' w.heap.size (fun _ => True) v0_ (Plain.putB l a1.toNat a2.toNat a3) ∧ Below w.heap.size w w' := by
  obtain ⟨A', hcall, hA, hC⟩ := field_number.yes A0 c0 l a1 a2 hc0 hl h2 hin
  obtain ⟨m, hm⟩ : ∃ m, (field_part.seg l a1 a2).length = m := ⟨_, rfl⟩
  obtain ⟨cap, hcap⟩ : ∃ z, c0 - a1.toNat = z := ⟨_, rfl⟩
  rw [hm, hcap] at hcall
  obtain ⟨i0, i1, i2, i3⟩ := hin
  obtain ⟨n, rfl⟩ := Int.eq_ofNat_of_zero_le i1
  obtain ⟨a, rfl⟩ := Int.eq_ofNat_of_zero_le i0
  simp only [Int.toNat_natCast] at hv1 ⊢
  have hn4 : n ≤ 4 := by omega
  have hn1 : 1 ≤ n := by omega
  have hlt : a3 / 2 ^ (8 * n) = 0 := by
    have e : (2 : Int) ^ (8 * n) = 256 ^ n := by rw [Int.pow_mul]; rfl
    rw [e]
    exact Int.ediv_eq_zero_of_lt hv0 hv1
  have hf : slices_Clone_byte_byte.f l = some l := by unfold slices_Clone_byte_byte.f; rw [if_pos (by omega)]
  have HK := Aside0.mk hcall
  have HR := Aside0.mk hr
  have HC := Aside0.mk hc0
  have HF := Aside0.mk hf
  clear hcall hA hC hm hcap hr hc0 hf h2
  go_enter Tryd.func10, Tryd.ntmps10
  go_wp2_with (first | (go_at_call 20; refine (HK.out _).mono ?_; rintro e w' ⟨rfl, rfl⟩) | (go_at_call 17; refine (slices_Clone_byte_byte.calls _ _ l l _ HR.out HC.out HF.out).mono ?_; rintro e w1 ⟨v1, rfl, ho1, hb1⟩))
  obtain ⟨g, cap1, rfl, hg0, hg1, _⟩ := Kd.R_form ho1 (by omega)
  have HO1 := Aside0.mk ho1
  have HB1 := Aside0.mk hb1
  clear ho1 hb1 hlt
  go_loopw [36] (fun v36 wr => ∃ k : Nat, k ≤ n ∧ v36 = .int .i64 k ∧ Aside0 (Kd.R (Kd.int .u8) 5 wr w.heap.size (fun _ => True) (.slice (some ⟨g, 0, none⟩) l.length cap1) (Plain.putB l a k a3)) ∧ Aside0 (Below w.heap.size w wr)) (fun v36 _ => n - (intOf v36).toNat)
  case atStart => exact ⟨0, Nat.zero_le _, rfl, ⟨by rw [Plain.putB_zero]; exact HO1.out⟩, HB1⟩
  case round =>
    obtain ⟨k, hk, rfl, HO, HB⟩ := hrel
    by_cases hlt : k < n
    · have hx := (Kd.R_celln 0 HO.out ((a : Int) + (k : Int)) (by omega) (by omega)).1
      have hfz := (Kd.R_celln 0 HO.out ((a : Int) + (k : Int)) (by omega) (by omega)).2
      have hput := Kd.R_putn HO.out ((a : Int) + (k : Int)) (a3 / 256 ^ k % 256)
      have eak : ((a : Int) + (k : Int)).toNat = a + k := by omega
      rw [eak] at hx hfz hput
      rw [Plain.putB_set (by omega)] at hput
      obtain ⟨q, hq⟩ : ∃ q : Int, a3 / 2 ^ (8 * k) = q := ⟨_, rfl⟩
      have hq2 : a3 / 256 ^ k = q := by rw [← hq, Int.pow_mul]; rfl
      rw [hq2] at hput
      have HP := Aside0.mk hput
      clear hput hq2 eak HO1 HB1
      go_wp2
      go_roundw
      case rel => exact ⟨k + 1, by omega, by go_num, HP, ⟨HB.out.setCell (p := ⟨g, a + k, none⟩) hg0 _⟩⟩
      case measure => simp [intOf]; omega
    · have hk' : k = n := by omega
      have HN := Aside0.mk hk'
      clear hk'
      go_wp2
      go_ret2
      exact ⟨_, rfl, by rw [← HN.out]; exact HO.out, HB.out⟩
set_option maxRecDepth 100000 in
set_option maxHeartbeats 4000000 in
theorem field_Put.value (A0 : Option Addr) (c0 : Nat) (l : List Int) (a1 a2 a3 : Int) (w : World) (hc0 : l.length ≤ c0) (hl : l.length ≤ 140737488351232) (h2 : a2 = 1 ∨ a2 = 2 ∨ a2 = 4) (hin : field_part.Inside l a1 a2) (hv : ¬ (0 ≤ a3 ∧ a3 < 256 ^ a2.toNat)) :
    Calls Tryd.prog 10 #[.slice A0 l.length c0, .int .i64 a1, .int .i64 a2, .int .i64 a3] w fun e w' => e = .returned (.tuple #[.slice none 0 0, .int .i64 3]) ∧ w = w' := by
  obtain ⟨A', hcall, hA, hC⟩ := field_number.yes A0 c0 l a1 a2 hc0 hl h2 hin
  obtain ⟨m, hm⟩ : ∃ m, (field_part.seg l a1 a2).length = m := ⟨_, rfl⟩
  obtain ⟨cap, hcap⟩ : ∃ z, c0 - a1.toNat = z := ⟨_, rfl⟩
  rw [hm, hcap] at hcall
  have HK := Aside0.mk hcall
  clear hcall hA hC hm hcap hc0 hin
  by_cases c1 : a3 < 0
  · clear hv h2
    go_enter Tryd.func10, Tryd.ntmps10
    go_wp2_with (go_at_call 20; refine (HK.out _).mono ?_; rintro e w' ⟨rfl, rfl⟩)
    go_ret2
    exact ⟨rfl, rfl⟩
  · obtain ⟨n, rfl⟩ : ∃ n : Nat, a2 = (n : Int) := ⟨a2.toNat, by omega⟩
    simp only [Int.toNat_natCast] at hv
    have hn4 : n ≤ 4 := by omega
    have hv1 : ¬ a3 < 256 ^ n := fun h => hv ⟨by omega, h⟩
    obtain ⟨q, hq⟩ : ∃ q : Int, a3 / 2 ^ (8 * n) = q := ⟨_, rfl⟩
    have hqv : (q != 0) = true := by
      rw [bne_iff_ne]
      intro h0
      apply hv1
      have e : (2 : Int) ^ (8 * n) = 256 ^ n := by rw [Int.pow_mul]; rfl
      rw [e, h0] at hq
      have hp : (0 : Int) < 256 ^ n := Int.pow_pos (by decide)
      have h3 := Int.lt_mul_ediv_self_add (x := a3) hp
      rw [hq] at h3
      omega
    clear hv hv1 h2
    go_enter Tryd.func10, Tryd.ntmps10
    go_wp2_with (go_at_call 20; refine (HK.out _).mono ?_; rintro e w' ⟨rfl, rfl⟩)
    go_ret2
    exact ⟨rfl, rfl⟩
theorem field_Put.calls (A0 : Option Addr) (c0 : Nat) (l0 : List Int) (a1 : Int) (a2 : Int) (a3 : Int) (r1 : List Int) (r2 : Int) (w : World) (hr0 : Kd.C (Kd.int .u8) w A0 l0.length l0) (hc0 : l0.length ≤ c0) (h : field_Put.f l0 a1 a2 a3 = some (r1, r2)) :
    Calls Tryd.prog 10 #[.slice A0 l0.length c0, .int .i64 a1, .int .i64 a2, .int .i64 a3] w fun e w' => ∃ v0_ : Value, e = .returned (.tuple #[v0_, .int .i64 r2]) ∧ Kd.R (Kd.int .u8) 5 w' w.heap.size (fun _ => True) v0_ r1 ∧ Below w.heap.size w w' := by
  have fail_ : ∀ er : Int, Calls Tryd.prog 10 #[.slice A0 l0.length c0, .int .i64 a1, .int .i64 a2, .int .i64 a3] w (fun e w' => e = .returned (.tuple #[.slice none 0 0, .int .i64 er]) ∧ w = w') →
      Calls Tryd.prog 10 #[.slice A0 l0.length c0, .int .i64 a1, .int .i64 a2, .int .i64 a3] w fun e w' => ∃ v0_ : Value, e = .returned (.tuple #[v0_, .int .i64 er]) ∧ Kd.R (Kd.int .u8) 5 w' w.heap.size (fun _ => True) v0_ [] ∧ Below w.heap.size w w' := by
    intro er hh
    refine hh.mono ?_
    rintro e w' ⟨rfl, rfl⟩
    exact ⟨_, rfl, Kd.R_nil _ _ _ _ _, Below.refl _ _⟩
  unfold field_Put.f at h
  by_cases hl : l0.length ≤ 140737488351232
  · rw [if_pos hl] at h
    replace h := Option.some.inj h
    by_cases h2 : a2 = 1 ∨ a2 = 2 ∨ a2 = 4
    · rw [if_pos h2] at h
      by_cases hin : field_part.Inside l0 a1 a2
      · rw [if_pos hin] at h
        by_cases hv : 0 ≤ a3 ∧ a3 < 256 ^ a2.toNat
        · rw [if_pos hv] at h
          obtain ⟨rfl, rfl⟩ := Prod.mk.inj h
          exact field_Put.yes A0 c0 l0 a1 a2 a3 w hr0 hc0 hl h2 hin hv.1 hv.2
        · rw [if_neg hv] at h
          obtain ⟨rfl, rfl⟩ := Prod.mk.inj h
          exact fail_ 3 (field_Put.value A0 c0 l0 a1 a2 a3 w hc0 hl h2 hin hv)
      · rw [if_neg hin] at h
        obtain ⟨rfl, rfl⟩ := Prod.mk.inj h
        exact fail_ 2 (field_Put.err A0 c0 l0 a1 a2 a3 2 w rfl (field_number.range A0 c0 l0 a1 a2 hl h2 hin))
    · rw [if_neg h2] at h
      obtain ⟨rfl, rfl⟩ := Prod.mk.inj h
      exact fail_ 1 (field_Put.err A0 c0 l0 a1 a2 a3 1 w rfl (field_number.arg A0 c0 l0 a1 a2 h2))
  · rw [if_neg hl] at h
    exact absurd h (by simp)

-- NOT PRINTED: function 36 (slices_IndexFunc_byte_byte)

-- NOT PRINTED: function 22 (slices_ContainsFunc_byte_byte)

-- NOT PRINTED: function 12 (field_Zero)

end Go.Proofs.YtkfeigigjilaiaaDoor.PFieldKeeps
