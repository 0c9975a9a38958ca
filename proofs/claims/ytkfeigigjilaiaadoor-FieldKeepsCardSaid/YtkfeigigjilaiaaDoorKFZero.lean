/- Are bytes 0: a contract. -/
import Derived.Test.YtkfeigigjilaiaaDoorKFText
namespace Go.Proofs.YtkfeigigjilaiaaDoor.Field
open Go.RowKit Go.Proofs.YtkfeigigjilaiaaDoor.PFieldKeeps Go.Proofs.YtkfeigigjilaiaaDoor.Plain Go.Proofs.YtkfeigigjilaiaaDoorW.PrintWords Go.Proofs.YtkfeigigjilaiaaDoorW.PrintLast Go.Proofs.YtkfeigigjilaiaaDoorW.PrintMore
set_option linter.unusedVariables false
set_option linter.unusedSimpArgs false
theorem odd_no (w : World) : Calls Tryd.prog 23 #[.int .u8 0] w fun e w' => e = .returned (.bool false) ∧ w = w' := by
  go_enter Tryd.func23, Tryd.ntmps23
  go_wp2
  go_ret
  exact ⟨rfl, rfl⟩
theorem odd_yes (x : Int) (hx : x ≠ 0) (w : World) : Calls Tryd.prog 23 #[.int .u8 x] w fun e w' => e = .returned (.bool true) ∧ w = w' := by
  have h1 : (x != 0) = true := bne_iff_ne.2 hx
  go_enter Tryd.func23, Tryd.ntmps23
  go_wp2
  go_ret
  exact ⟨rfl, rfl⟩
set_option maxRecDepth 100000 in
set_option maxHeartbeats 4000000 in
theorem indexFunc_calls (A0 : Option Addr) (c0 : Nat) (l : List Int) (w : World) (hr : Kd.C (Kd.int .u8) w A0 l.length l) (hc0 : l.length ≤ c0) (hl : l.length ≤ 140737488351232) :
    Calls Tryd.prog 36 #[.slice A0 l.length c0, .func (.func 23) #[] #[]] w fun e w' => (∃ k : Int, e = .returned (.int .i64 k) ∧ (k = -1 ∨ 0 ≤ k)) ∧ ∃ nd, w' = w.drewN nd := by
  have HR := Aside0.mk hr
  have HC := Aside0.mk hc0
  clear hr hc0
  go_enter Tryd.func36, Tryd.ntmps36
  go_wp2
  go_loopw [8] (fun v wr => ∃ i : Nat, i ≤ l.length ∧ v = .int .i64 (i : Int) ∧ ∃ nd, wr = w.drewN nd) (fun v _ => l.length - (intOf v).toNat)
  case atStart => exact ⟨0, Nat.zero_le _, rfl, 0, rfl⟩
  case round =>
    obtain ⟨i, hi, rfl, nd, rfl⟩ := hrel
    by_cases hlt : i < l.length
    · obtain ⟨ad1, e1, hx1⟩ := Kd.at_int HR.out (i : Int) (by omega) (by omega)
      subst e1
      simp only [Int.toNat_natCast] at hx1
      obtain ⟨x, hx⟩ : ∃ x, rd l (i : Int) = x := ⟨_, rfl⟩
      rw [hx] at hx1
      by_cases h0 : x = 0
      · subst h0
        clear hx
        go_wp2_with fail
        refine (odd_no _).mono ?_
        rintro e w2 ⟨rfl, rfl⟩
        go_wp2
        go_roundw
        case rel => exact ⟨i + 1, by omega, by go_num, _, rfl⟩
        case measure => simp [intOf]; omega
      · have H0 := Aside0.mk h0
        clear hx h0
        go_wp2_with fail
        refine (odd_yes x H0.out _).mono ?_
        rintro e w2 ⟨rfl, rfl⟩
        go_wp2
        go_ret
        exact ⟨⟨_, rfl, .inr (by omega)⟩, _, rfl⟩
    · go_wp2
      go_ret
      exact ⟨⟨_, rfl, .inl rfl⟩, _, rfl⟩
set_option maxRecDepth 100000 in
set_option maxHeartbeats 4000000 in
theorem containsFunc_calls (A0 : Option Addr) (c0 : Nat) (l : List Int) (w : World) (hr : Kd.C (Kd.int .u8) w A0 l.length l) (hc0 : l.length ≤ c0) (hl : l.length ≤ 140737488351232) :
    Calls Tryd.prog 22 #[.slice A0 l.length c0, .func (.func 23) #[] #[]] w fun e w' => (∃ b : Bool, e = .returned (.bool b)) ∧ ∃ nd, w' = w.drewN nd := by
  have H := Aside0.mk (indexFunc_calls A0 c0 l w hr hc0 hl)
  clear hr hc0 hl
  go_enter Tryd.func22, Tryd.ntmps22
  go_wp2_with fail
  refine H.out.mono ?_
  rintro e w2 ⟨⟨k, rfl, rfl | hk⟩, nd, rfl⟩
  · clear H
    go_wp2
    go_ret
    exact ⟨⟨_, rfl⟩, _, rfl⟩
  · clear H
    go_wp2
    go_ret
    exact ⟨⟨_, rfl⟩, _, rfl⟩
set_option maxRecDepth 100000 in
set_option maxHeartbeats 4000000 in
theorem zero_calls (A0 : Option Addr) (c0 : Nat) (l : List Int) (a n : Int) (w : World) (hr : Kd.C (Kd.int .u8) w A0 l.length l) (hc0 : l.length ≤ c0) (hl : l.length ≤ 140737488351232) :
    Calls Tryd.prog 12 #[.slice A0 l.length c0, .int .i64 a, .int .i64 n] w fun e w' => (∃ (b : Bool) (er : Int), e = .returned (.tuple #[.bool b, .int .i64 er])) ∧ ∃ nd, w' = w.drewN nd := by
  have fail_ : ∀ er : Int, (er != 0) = true → (∀ w, Calls Tryd.prog 15 #[.slice A0 l.length c0, .int .i64 a, .int .i64 n] w fun e w' => e = .returned (.tuple #[.slice none 0 0, .int .i64 er]) ∧ w = w') → Calls Tryd.prog 12 #[.slice A0 l.length c0, .int .i64 a, .int .i64 n] w fun e w' => (∃ (b : Bool) (er : Int), e = .returned (.tuple #[.bool b, .int .i64 er])) ∧ ∃ nd, w' = w.drewN nd := by
    intro er he hcall
    have HK := Aside0.mk hcall
    clear hcall hr hc0 hl
    go_enter Tryd.func12, Tryd.ntmps12
    go_wp2_with (go_at_call 15; refine (HK.out _).mono ?_; rintro e w' ⟨rfl, rfl⟩)
    go_ret2
    exact ⟨⟨_, _, rfl⟩, 0, rfl⟩
  by_cases h1 : n < 0
  · exact fail_ 1 rfl (span_arg A0 c0 l a n h1)
  · by_cases h2 : field_part.Inside l a n
    · obtain ⟨A', hcall, hA, hC⟩ := span_yes A0 c0 l a n hc0 hl h2
      have hlen := field_part.seg_length h2
      obtain ⟨p, hp⟩ : ∃ p, field_part.seg l a n = p := ⟨_, rfl⟩
      rw [hp] at hcall hA hlen hC
      have HK := Aside0.mk hcall
      have HCF := Aside0.mk (containsFunc_calls A' (c0 - a.toNat) p w (hA w hr) hC (by have := h2.2.2.2; have := h2.1; omega))
      clear hcall hA hC hr hc0 hl fail_ h1 h2 hlen hp
      go_enter Tryd.func12, Tryd.ntmps12
      go_wp2_with (first | (go_at_call 15; refine (HK.out _).mono ?_; rintro e w' ⟨rfl, rfl⟩) | fail)
      refine HCF.out.mono ?_
      rintro e w2 ⟨⟨b, rfl⟩, nd, rfl⟩
      clear HCF
      go_wp2
      go_ret2
      exact ⟨⟨_, _, rfl⟩, _, rfl⟩
    · exact fail_ 2 rfl (span_range A0 c0 l a n hl (by omega) h2)
/-- A text is read, whatever stands there. -/
theorem text_any (A0 : Option Addr) (c0 : Nat) (l : List Int) (a n : Int) (w : World) (hr : Kd.C (Kd.int .u8) w A0 l.length l) (hc0 : l.length ≤ c0) (hl : l.length ≤ 140737488351232) :
    Calls Tryd.prog 7 #[.slice A0 l.length c0, .int .i64 a, .int .i64 n] w fun e w' => (∃ (s : ByteArray) (er : Int), e = .returned (.tuple #[.string s, .int .i64 er])) ∧ ∃ nd, w' = w.drewN nd := by
  by_cases h1 : n < 0
  · refine (text_err A0 c0 l a n 1 w rfl (span_arg A0 c0 l a n h1)).mono ?_
    rintro e w' ⟨rfl, rfl⟩
    exact ⟨⟨_, _, rfl⟩, 0, rfl⟩
  · by_cases h2 : field_part.Inside l a n
    · refine (text_ok A0 c0 l a n w hr hc0 hl h2).mono ?_
      rintro e w' ⟨rfl, h⟩
      exact ⟨⟨_, _, rfl⟩, h⟩
    · refine (text_err A0 c0 l a n 2 w rfl (span_range A0 c0 l a n hl (by omega) h2)).mono ?_
      rintro e w' ⟨rfl, rfl⟩
      exact ⟨⟨_, _, rfl⟩, 0, rfl⟩
end Go.Proofs.YtkfeigigjilaiaaDoor.Field
