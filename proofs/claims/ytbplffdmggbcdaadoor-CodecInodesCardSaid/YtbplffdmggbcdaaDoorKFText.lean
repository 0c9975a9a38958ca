/- A text is read at a place: contracts. -/
import Derived.Test.YtbplffdmggbcdaaDoorKFSpan
namespace Go.Proofs.YtbplffdmggbcdaaDoor.Field
open Go.RowKit Go.Proofs.YtbplffdmggbcdaaDoor.PCodecInodes Go.Proofs.YtbplffdmggbcdaaDoor.Plain Go.Proofs.YtbplffdmggbcdaaDoorW.PrintWords Go.Proofs.YtbplffdmggbcdaaDoorW.PrintLast Go.Proofs.YtbplffdmggbcdaaDoorW.PrintMore
set_option linter.unusedVariables false
set_option linter.unusedSimpArgs false
/-- What is read of bytes. -/
def textOut (p : List Int) : ByteArray × Int := if ∀ b ∈ (behind (strOfNums p)).data.toList, b = 0 then (ahead (strOfNums p), 0) else (⟨#[]⟩, 4)
theorem behind_size (s : ByteArray) : (behind s).size ≤ s.size := by
  unfold behind
  split
  · exact Nat.zero_le _
  · rw [ByteArray.size_extract]; omega
set_option maxRecDepth 100000 in
set_option maxHeartbeats 4000000 in
theorem text_err (A0 : Option Addr) (c0 : Nat) (l : List Int) (a n er : Int) (w : World) (he : (er != 0) = true)
    (hcall : ∀ w, Calls Tryd.prog 61 #[.slice A0 l.length c0, .int .i64 a, .int .i64 n] w fun e w' => e = .returned (.tuple #[.slice none 0 0, .int .i64 er]) ∧ w = w') :
    Calls Tryd.prog 41 #[.slice A0 l.length c0, .int .i64 a, .int .i64 n] w fun e w' => e = .returned (.tuple #[.string ⟨#[]⟩, .int .i64 er]) ∧ w = w' := by
  have HK := Aside0.mk hcall
  clear hcall
  go_enter Tryd.func41, Tryd.ntmps41
  go_wp2_with (go_at_call 61; refine (HK.out _).mono ?_; rintro e w' ⟨rfl, rfl⟩)
  go_ret2
  exact ⟨rfl, rfl⟩
set_option maxRecDepth 100000 in
set_option maxHeartbeats 4000000 in
theorem text_ok (A0 : Option Addr) (c0 : Nat) (l : List Int) (a n : Int) (w : World) (hr : Kd.C (Kd.int .u8) w A0 l.length l) (hc0 : l.length ≤ c0) (hl : l.length ≤ 140737488351232) (hin : field_part.Inside l a n) :
    Calls Tryd.prog 41 #[.slice A0 l.length c0, .int .i64 a, .int .i64 n] w fun e w' => e = .returned (.tuple #[.string (textOut (field_part.seg l a n)).1, .int .i64 (textOut (field_part.seg l a n)).2]) ∧ ∃ nd, w' = w.drewN nd := by
  obtain ⟨A', hcall, hA, hC⟩ := span_yes A0 c0 l a n hc0 hl hin
  have hlen := field_part.seg_length hin
  obtain ⟨p, hp⟩ : ∃ p, field_part.seg l a n = p := ⟨_, rfl⟩
  rw [hp] at hcall hA hlen hC ⊢
  have hps : p.length ≤ 140737488351232 := by have := hin.2.1; have := hin.2.2.2; have := hin.1; omega
  have hsz := strOfNums_size p
  have hcv := Kd.C_string (P := Tryd.prog) (c := c0 - a.toNat) Tryd.underlying27 Tryd.underlying5 Tryd.underlying9 (hA w hr)
  obtain ⟨S, hS⟩ : ∃ S, strOfNums p = S := ⟨_, rfl⟩
  unfold textOut
  rw [hS] at hcv hsz ⊢
  have hbs := behind_size S
  have HCUT := Aside0.mk (cut_calls S (by omega))
  have HTRIM := Aside0.mk (fun w => trim_calls (behind S) w (by omega))
  have HK := Aside0.mk hcall
  clear hcall hA hC hr hc0 hin hlen hp hps hsz hS hbs hl
  by_cases hz : ∀ b ∈ (behind S).data.toList, b = 0
  · rw [if_pos hz]
    have HZ := Aside0.mk hz
    clear hz
    go_enter Tryd.func41, Tryd.ntmps41
    go_wp2_with (first | (go_at_call 61; refine (HK.out _).mono ?_; rintro e w' ⟨rfl, rfl⟩) | fail)
    refine (HCUT.out _).mono ?_
    rintro e w2 ⟨f, rfl, nd, rfl⟩
    clear HCUT
    go_wp2_with fail
    refine (HTRIM.out _).mono ?_
    rintro e w2 ⟨r, rfl, hr, nd2, rfl⟩
    have hr2 := hr.2 HZ.out
    clear HTRIM hr
    go_wp2
    go_ret2
    exact ⟨rfl, nd + nd2, rfl⟩
  · rw [if_neg hz]
    have HZ := Aside0.mk hz
    clear hz
    go_enter Tryd.func41, Tryd.ntmps41
    go_wp2_with (first | (go_at_call 61; refine (HK.out _).mono ?_; rintro e w' ⟨rfl, rfl⟩) | fail)
    refine (HCUT.out _).mono ?_
    rintro e w2 ⟨f, rfl, nd, rfl⟩
    clear HCUT
    go_wp2_with fail
    refine (HTRIM.out _).mono ?_
    rintro e w2 ⟨r, rfl, hr, nd2, rfl⟩
    have hr2 : ¬ r.toList = [] := fun h => HZ.out (hr.1 h)
    have hr3 : r.toList.isEmpty = false := by simpa using hr2
    clear HTRIM hr
    go_wp2
    go_ret2
    exact ⟨rfl, nd + nd2, rfl⟩
/-- A text is read, whatever stands there. -/
theorem text_any (A0 : Option Addr) (c0 : Nat) (l : List Int) (a n : Int) (w : World) (hr : Kd.C (Kd.int .u8) w A0 l.length l) (hc0 : l.length ≤ c0) (hl : l.length ≤ 140737488351232) :
    Calls Tryd.prog 41 #[.slice A0 l.length c0, .int .i64 a, .int .i64 n] w fun e w' => (∃ (s : ByteArray) (er : Int), e = .returned (.tuple #[.string s, .int .i64 er])) ∧ ∃ nd, w' = w.drewN nd := by
  by_cases h1 : n < 0
  · refine (text_err A0 c0 l a n 1 w rfl (span_arg A0 c0 l a n h1)).mono ?_
    rintro e w' ⟨rfl, rfl⟩
    exact ⟨⟨_, _, rfl⟩, 0, rfl⟩
  · by_cases h2 : field_part.Inside l a n
    · refine (text_ok A0 c0 l a n w hr hc0 hl h2).mono ?_
      rintro e w' ⟨rfl, h⟩
      exact ⟨⟨_, _, rfl⟩, h⟩
    · refine (text_err A0 c0 l a n 2 w rfl (span_range A0 c0 l a n hl (by omega) h2)).mono ?_
      rintro e w' ⟨rfl, rfl⟩
      exact ⟨⟨_, _, rfl⟩, 0, rfl⟩
end Go.Proofs.YtbplffdmggbcdaaDoor.Field
