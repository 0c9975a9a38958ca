/- A text is read at a place: contracts; and the plain words of texts that are written and read. -/
import Derived.Test.YtkfeigigjilaiaaDoorKFPut
namespace Go.Proofs.YtkfeigigjilaiaaDoor.Field
open Go.RowKit Go.Proofs.YtkfeigigjilaiaaDoor.PFieldKeeps Go.Proofs.YtkfeigigjilaiaaDoor.Plain Go.Proofs.YtkfeigigjilaiaaDoorW.PrintWords Go.Proofs.YtkfeigigjilaiaaDoorW.PrintLast Go.Proofs.YtkfeigigjilaiaaDoorW.PrintMore
set_option linter.unusedVariables false
set_option linter.unusedSimpArgs false
/-- What the program answers to a text that is to be written. -/
def putOut (l : List Int) (a n : Int) (s : ByteArray) : List Int × Int :=
  if n < 0 then ([], 1) else if field_part.Inside l a n then (if n < s.size then ([], 5) else if first s.data.toList = s.size then (putT l a.toNat n.toNat s, 0) else ([], 3)) else ([], 2)
theorem putT_nil (l : List Int) (a : Nat) : putT l a 0 ⟨#[]⟩ = l := by
  unfold putT nums8
  simp
theorem put_calls (A0 : Option Addr) (c0 : Nat) (l : List Int) (a n : Int) (s : ByteArray) (w : World) (hr : Kd.C (Kd.int .u8) w A0 l.length l) (hc0 : l.length ≤ c0) (hl : l.length ≤ 140737488351232) :
    Calls Tryd.prog 6 #[.slice A0 l.length c0, .int .i64 a, .int .i64 n, .string s] w fun e w' => ∃ v0_ : Value, e = .returned (.tuple #[v0_, .int .i64 (putOut l a n s).2]) ∧ Kd.R (Kd.int .u8) 5 w' w.heap.size (fun _ => True) v0_ (putOut l a n s).1 ∧ Below w.heap.size w w' := by
  have fail_ : ∀ er : Int, putOut l a n s = ([], er) → Calls Tryd.prog 6 #[.slice A0 l.length c0, .int .i64 a, .int .i64 n, .string s] w (fun e w' => e = .returned (.tuple #[.slice none 0 0, .int .i64 er]) ∧ w = w') →
      Calls Tryd.prog 6 #[.slice A0 l.length c0, .int .i64 a, .int .i64 n, .string s] w fun e w' => ∃ v0_ : Value, e = .returned (.tuple #[v0_, .int .i64 (putOut l a n s).2]) ∧ Kd.R (Kd.int .u8) 5 w' w.heap.size (fun _ => True) v0_ (putOut l a n s).1 ∧ Below w.heap.size w w' := by
    intro er he hh
    rw [he]
    refine hh.mono ?_
    rintro e w' ⟨rfl, rfl⟩
    exact ⟨_, rfl, Kd.R_nil _ _ _ _ _, Below.refl _ _⟩
  by_cases h1 : n < 0
  · exact fail_ 1 (by unfold putOut; rw [if_pos h1]) (put_err A0 c0 l a n 1 s w rfl (span_arg A0 c0 l a n h1))
  · by_cases h2 : field_part.Inside l a n
    · by_cases h3 : n < s.size
      · exact fail_ 5 (by unfold putOut; rw [if_neg h1, if_pos h2, if_pos h3]) (put_large A0 c0 l a n s w hc0 hl h2 h3)
      · by_cases h4 : first s.data.toList = s.size
        · have he : putOut l a n s = (putT l a.toNat n.toNat s, 0) := by unfold putOut; rw [if_neg h1, if_pos h2, if_neg h3, if_pos h4]
          rw [he]
          obtain ⟨i0, i1, i2, i3⟩ := h2
          obtain ⟨n, rfl⟩ := Int.eq_ofNat_of_zero_le i1
          obtain ⟨a, rfl⟩ := Int.eq_ofNat_of_zero_le i0
          simp only [Int.toNat_natCast]
          by_cases h0 : n = 0
          · subst h0
            obtain rfl : s = ⟨#[]⟩ := by
              have e : s.size = 0 := by omega
              obtain ⟨d⟩ := s
              congr
              exact Array.eq_empty_of_size_eq_zero e
            rw [putT_nil]
            exact put_none A0 c0 l a w hr hc0 hl ⟨i0, by omega, i2, i3⟩ ⟨#[]⟩ rfl
          · exact put_some A0 c0 l a n s w hr hc0 hl (by omega) (by omega) (by omega) h4
        · exact fail_ 3 (by unfold putOut; rw [if_neg h1, if_pos h2, if_neg h3, if_neg h4]) (put_value A0 c0 l a n s w hc0 hl h2 (by omega) h4)
    · exact fail_ 2 (by unfold putOut; rw [if_neg h1, if_neg h2]) (put_err A0 c0 l a n 2 s w rfl (span_range A0 c0 l a n hl (by omega) h2))
/-- What is read of bytes. -/
def textOut (p : List Int) : ByteArray × Int := if ∀ b ∈ (behind (strOfNums p)).data.toList, b = 0 then (ahead (strOfNums p), 0) else (⟨#[]⟩, 4)
theorem behind_size (s : ByteArray) : (behind s).size ≤ s.size := by
  unfold behind
  split
  · exact Nat.zero_le _
  · rw [ByteArray.size_extract]; omega
set_option maxRecDepth 100000 in
set_option maxHeartbeats 4000000 in
theorem text_err (A0 : Option Addr) (c0 : Nat) (l : List Int) (a n er : Int) (w : World) (he : (er != 0) = true)
    (hcall : ∀ w, Calls Tryd.prog 15 #[.slice A0 l.length c0, .int .i64 a, .int .i64 n] w fun e w' => e = .returned (.tuple #[.slice none 0 0, .int .i64 er]) ∧ w = w') :
    Calls Tryd.prog 7 #[.slice A0 l.length c0, .int .i64 a, .int .i64 n] w fun e w' => e = .returned (.tuple #[.string ⟨#[]⟩, .int .i64 er]) ∧ w = w' := by
  have HK := Aside0.mk hcall
  clear hcall
  go_enter Tryd.func7, Tryd.ntmps7
  go_wp2_with (go_at_call 15; refine (HK.out _).mono ?_; rintro e w' ⟨rfl, rfl⟩)
  go_ret2
  exact ⟨rfl, rfl⟩
set_option maxRecDepth 100000 in
set_option maxHeartbeats 4000000 in
theorem text_ok (A0 : Option Addr) (c0 : Nat) (l : List Int) (a n : Int) (w : World) (hr : Kd.C (Kd.int .u8) w A0 l.length l) (hc0 : l.length ≤ c0) (hl : l.length ≤ 140737488351232) (hin : field_part.Inside l a n) :
    Calls Tryd.prog 7 #[.slice A0 l.length c0, .int .i64 a, .int .i64 n] w fun e w' => e = .returned (.tuple #[.string (textOut (field_part.seg l a n)).1, .int .i64 (textOut (field_part.seg l a n)).2]) ∧ ∃ nd, w' = w.drewN nd := by
  obtain ⟨A', hcall, hA, hC⟩ := span_yes A0 c0 l a n hc0 hl hin
  have hlen := field_part.seg_length hin
  obtain ⟨p, hp⟩ : ∃ p, field_part.seg l a n = p := ⟨_, rfl⟩
  rw [hp] at hcall hA hlen hC ⊢
  have hps : p.length ≤ 140737488351232 := by have := hin.2.1; have := hin.2.2.2; have := hin.1; omega
  have hsz := strOfNums_size p
  have hcv := Kd.C_string (P := Tryd.prog) (c := c0 - a.toNat) Tryd.underlying22 Tryd.underlying5 Tryd.underlying9 (hA w hr)
  obtain ⟨S, hS⟩ : ∃ S, strOfNums p = S := ⟨_, rfl⟩
  unfold textOut
  rw [hS] at hcv hsz ⊢
  have hbs := behind_size S
  have HCUT := Aside0.mk (cut_calls S (by omega))
  have HTRIM := Aside0.mk (fun w => trim_calls (behind S) w (by omega))
  have HK := Aside0.mk hcall
  clear hcall hA hC hr hc0 hin hlen hp hps hsz hS hbs hl
  by_cases hz : ∀ b ∈ (behind S).data.toList, b = 0
  · rw [if_pos hz]
    have HZ := Aside0.mk hz
    clear hz
    go_enter Tryd.func7, Tryd.ntmps7
    go_wp2_with (first | (go_at_call 15; refine (HK.out _).mono ?_; rintro e w' ⟨rfl, rfl⟩) | fail)
    refine (HCUT.out _).mono ?_
    rintro e w2 ⟨f, rfl, nd, rfl⟩
    clear HCUT
    go_wp2_with fail
    refine (HTRIM.out _).mono ?_
    rintro e w2 ⟨r, rfl, hr, nd2, rfl⟩
    have hr2 := hr.2 HZ.out
    clear HTRIM hr
    go_wp2
    go_ret2
    exact ⟨rfl, nd + nd2, rfl⟩
  · rw [if_neg hz]
    have HZ := Aside0.mk hz
    clear hz
    go_enter Tryd.func7, Tryd.ntmps7
    go_wp2_with (first | (go_at_call 15; refine (HK.out _).mono ?_; rintro e w' ⟨rfl, rfl⟩) | fail)
    refine (HCUT.out _).mono ?_
    rintro e w2 ⟨f, rfl, nd, rfl⟩
    clear HCUT
    go_wp2_with fail
    refine (HTRIM.out _).mono ?_
    rintro e w2 ⟨r, rfl, hr, nd2, rfl⟩
    have hr2 : ¬ r.toList = [] := fun h => HZ.out (hr.1 h)
    have hr3 : r.toList.isEmpty = false := by simpa using hr2
    clear HTRIM hr
    go_wp2
    go_ret2
    exact ⟨rfl, nd + nd2, rfl⟩
end Go.Proofs.YtkfeigigjilaiaaDoor.Field
