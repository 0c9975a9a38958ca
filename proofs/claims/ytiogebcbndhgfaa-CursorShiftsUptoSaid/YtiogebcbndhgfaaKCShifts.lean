/- Places behind edits: the walk of the law CursorShifts. -/
import Derived.Test.YtiogebcbndhgfaaKCShift
namespace Go.Proofs.Ytiogebcbndhgfaa.Cur
open Go.RowKit Go.Proofs.Ytiogebcbndhgfaa.PCursorLines Go.Proofs.Ytiogebcbndhgfaa.PlainFloat Go.Proofs.Ytiogebcbndhgfaa.Turn Go.Proofs.YtiogebcbndhgfaaW.PrintWords Go.Proofs.YtiogebcbndhgfaaW.PrintLast Go.Proofs.YtiogebcbndhgfaaW.PrintMore
set_option linter.unusedVariables false
set_option linter.unusedSimpArgs false
theorem now_list (s t : ByteArray) (p q : Nat) : (now s t p q).data.toList = s.data.toList.take p ++ t.data.toList ++ s.data.toList.drop (p + q) := by
  unfold now
  have h := size_list s
  simp only [ByteArray.data_append, Array.toList_append, ByteArray.data_extract, Array.toList_extract, List.extract_eq_take_drop, List.drop_zero, Nat.sub_zero]
  congr 1
  apply List.take_of_length_le
  rw [List.length_drop]
  omega
theorem now_take (s t : ByteArray) {p q o : Nat} (h : p + q ≤ s.size) (ho : o ≤ p) : (now s t p q).data.toList.take o = s.data.toList.take o := by
  rw [now_list, List.append_assoc, List.take_append_of_le_length (by rw [List.length_take, size_list]; omega), List.take_take]
  congr 1
  omega
theorem now_drop (s t : ByteArray) {p q o : Nat} (h : p + q ≤ s.size) (ho : p + q ≤ o) : (now s t p q).data.toList.drop (o - q + t.size) = s.data.toList.drop o := by
  rw [now_list, List.drop_append, List.drop_eq_nil_of_le (by simp only [List.length_append, List.length_take, size_list]; omega), List.nil_append, List.drop_drop]
  congr 1
  simp only [List.length_append, List.length_take, size_list]
  omega
theorem ext_list (s : ByteArray) (a : Nat) : (s.extract a s.size).toList = s.data.toList.drop a := by
  rw [ByteArray.toList_eq, ByteArray.data_extract, Array.toList_extract, List.extract_eq_take_drop, List.take_of_length_le]
  rw [List.length_drop, size_list]
  omega
set_option maxHeartbeats 4000000 in
set_option maxRecDepth 100000 in
theorem shifts_out (s t : ByteArray) (o p q : Int) (h : o < 0 ∨ (s.size : Int) < o) (w : World) :
    Calls Try.prog 5 #[.string s, .int .i64 o, .agg #[.int .i64 p, .int .i64 q, .string t]] w fun e w' => e = .returned (.bool true) ∧ Below w.heap.size w w' := by
  have hno := at_no s o h
  clear h
  go_enter Try.func5, Try.ntmps5
  go_wp2_with fail
  refine (wakes _).mono ?_
  rintro e w2 ⟨rfl, nd1, rfl⟩
  go_wp2_with fail
  refine (hno _).mono ?_
  rintro e w2 ⟨rfl, nd2, rfl⟩
  go_wp2
  go_ret
  exact ⟨rfl, pw_below_drewN ((Below.refl _ _).alloc (Nat.le_refl _) _) _⟩
set_option maxHeartbeats 4000000 in
set_option maxRecDepth 100000 in
theorem shifts_bad (s t : ByteArray) (hs : s.size ≤ 1048576) (k : Nat) (h : k ≤ s.size) (p q : Int) (hq : q ≤ 9223372036854775807) (hpq : p < 0 ∨ q < 0 ∨ (s.size : Int) < p ∨ (s.size : Int) - p < q) (w : World) :
    Calls Try.prog 5 #[.string s, .int .i64 k, .agg #[.int .i64 p, .int .i64 q, .string t]] w fun e w' => e = .returned (.bool true) ∧ Below w.heap.size w w' := by
  have hA := at_ok s (by omega) k h
  have hS := shift_no s t hs k h p q hq hpq
  obtain ⟨x, hx⟩ : ∃ x, floatOfInt .f64 (col s k) = x := ⟨_, rfl⟩
  obtain ⟨y, hy⟩ : ∃ y, floatOfInt .f64 (row s k) = y := ⟨_, rfl⟩
  rw [hx, hy] at hA hS
  clear hx hy
  have HQ : (p < 0 ∨ (0 ≤ p ∧ q < 0)) ∨ (0 ≤ p ∧ 0 ≤ q ∧ ((s.size : Int) < p ∨ (p ≤ (s.size : Int) ∧ (s.size : Int) - p < q))) := by omega
  clear hpq
  rcases HQ with (c1 | ⟨c1, c2⟩) | ⟨c1, c2, c3 | ⟨c3, c4⟩⟩
  · have d1 : decide (p < 0) = true := decide_eq_true c1
    clear c1
    go_enter Try.func5, Try.ntmps5
    go_wp2_with fail
    refine (wakes _).mono ?_
    rintro e w2 ⟨rfl, nd1, rfl⟩
    go_wp2_with fail
    refine (hA _).mono ?_
    rintro e w2 ⟨rfl, nd2, rfl⟩
    go_wp2_with fail
    refine (hS _).mono ?_
    rintro e w2 ⟨rfl, hb⟩
    obtain ⟨hc, hf⟩ := bcell hb
    go_wp2
    go_ret
    exact ⟨rfl, (pw_below_drewN ((Below.refl _ _).alloc (Nat.le_refl _) _) _).trans (hb.mono (by simp))⟩
  · have d1 : decide (p < 0) = false := decide_eq_false (by omega)
    have d2 : decide (q < 0) = true := decide_eq_true c2
    clear c2
    go_enter Try.func5, Try.ntmps5
    go_wp2_with fail
    refine (wakes _).mono ?_
    rintro e w2 ⟨rfl, nd1, rfl⟩
    go_wp2_with fail
    refine (hA _).mono ?_
    rintro e w2 ⟨rfl, nd2, rfl⟩
    go_wp2_with fail
    refine (hS _).mono ?_
    rintro e w2 ⟨rfl, hb⟩
    obtain ⟨hc, hf⟩ := bcell hb
    go_wp2
    go_ret
    exact ⟨rfl, (pw_below_drewN ((Below.refl _ _).alloc (Nat.le_refl _) _) _).trans (hb.mono (by simp))⟩
  · have d1 : decide (p < 0) = false := decide_eq_false (by omega)
    have d2 : decide (q < 0) = false := decide_eq_false (by omega)
    have d3 : decide ((s.size : Int) < p) = true := decide_eq_true c3
    clear c3
    go_enter Try.func5, Try.ntmps5
    go_wp2_with fail
    refine (wakes _).mono ?_
    rintro e w2 ⟨rfl, nd1, rfl⟩
    go_wp2_with fail
    refine (hA _).mono ?_
    rintro e w2 ⟨rfl, nd2, rfl⟩
    go_wp2_with fail
    refine (hS _).mono ?_
    rintro e w2 ⟨rfl, hb⟩
    obtain ⟨hc, hf⟩ := bcell hb
    go_wp2
    go_ret
    exact ⟨rfl, (pw_below_drewN ((Below.refl _ _).alloc (Nat.le_refl _) _) _).trans (hb.mono (by simp))⟩
  · have d1 : decide (p < 0) = false := decide_eq_false (by omega)
    have d2 : decide (q < 0) = false := decide_eq_false (by omega)
    have d3 : decide ((s.size : Int) < p) = false := decide_eq_false (by omega)
    have d4 : decide ((s.size : Int) - p < q) = true := decide_eq_true c4
    clear c4
    go_enter Try.func5, Try.ntmps5
    go_wp2_with fail
    refine (wakes _).mono ?_
    rintro e w2 ⟨rfl, nd1, rfl⟩
    go_wp2_with fail
    refine (hA _).mono ?_
    rintro e w2 ⟨rfl, nd2, rfl⟩
    go_wp2_with fail
    refine (hS _).mono ?_
    rintro e w2 ⟨rfl, hb⟩
    obtain ⟨hc, hf⟩ := bcell hb
    go_wp2
    go_ret
    exact ⟨rfl, (pw_below_drewN ((Below.refl _ _).alloc (Nat.le_refl _) _) _).trans (hb.mono (by simp))⟩
end Go.Proofs.Ytiogebcbndhgfaa.Cur
