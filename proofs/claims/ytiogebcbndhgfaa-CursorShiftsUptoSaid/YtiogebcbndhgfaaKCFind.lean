/- The next byte 10 of a text, and the lines that it parts: what the program finds, as contracts. -/
import Derived.Test.YtiogebcbndhgfaaKCLines
namespace Go.Proofs.Ytiogebcbndhgfaa.Cur
open Go.RowKit Go.Proofs.Ytiogebcbndhgfaa.PCursorLines Go.Proofs.Ytiogebcbndhgfaa.PlainFloat Go.Proofs.Ytiogebcbndhgfaa.Turn Go.Proofs.YtiogebcbndhgfaaW.PrintWords Go.Proofs.YtiogebcbndhgfaaW.PrintLast Go.Proofs.YtiogebcbndhgfaaW.PrintMore
set_option linter.unusedVariables false
set_option linter.unusedSimpArgs false
/-- How many bytes stand ahead of the first byte 10. -/
def first (l : List UInt8) : Nat := (l.takeWhile (fun b => b != 10)).length
theorem first_cons (b : UInt8) (l : List UInt8) : first (b :: l) = if b = 10 then 0 else first l + 1 := by
  unfold first
  rw [List.takeWhile_cons]
  by_cases c : b = 10
  · rw [if_pos c]; simp [c]
  · rw [if_neg c]; simp [c]
theorem first_le (l : List UInt8) : first l ≤ l.length := (List.takeWhile_sublist _).length_le
theorem idx_eq (l : List UInt8) : Lib.indexByte l 10 = if Lib.countByte l 10 = 0 then -1 else (first l : Int) := by
  induction l with
  | nil => rfl
  | cons b l ih =>
    unfold Lib.indexByte
    rw [first_cons]
    unfold Lib.countByte at *
    by_cases c : b = 10
    · rw [if_pos (by simp [c]), if_neg (by simp [c]), if_pos c]
      rfl
    · have hb : (b == 10) = false := by simp [c]
      rw [hb, List.count_cons_of_ne (by simpa using c), if_neg c, ih]
      by_cases d : l.count 10 = 0
      · rw [if_pos d, if_pos d]
        rfl
      · have : ((first l : Int) == -1) = false := by rw [beq_eq_false_iff_ne]; omega
        rw [if_neg d, if_neg d, this]
        simp
theorem first_split (l : List UInt8) (h : Lib.countByte l 10 ≠ 0) : first l < l.length ∧ Lib.countByte (l.drop (first l + 1)) 10 + 1 = Lib.countByte l 10 ∧ l[first l]? = some 10 := by
  induction l with
  | nil => exact absurd rfl h
  | cons b l ih =>
    rw [first_cons]
    unfold Lib.countByte at *
    by_cases c : b = 10
    · rw [if_pos c]
      simp [c]
    · rw [if_neg c]
      rw [List.count_cons_of_ne (by simpa using c)] at h ⊢
      obtain ⟨h1, h2, h3⟩ := ih h
      refine ⟨by rw [List.length_cons]; omega, ?_, ?_⟩
      · rw [List.drop_succ_cons]; exact h2
      · simpa using h3
/-- Where no byte is 10, the first one stands behind all. -/
theorem first_append (a b : List UInt8) (h : Lib.countByte a 10 = 0) : first (a ++ b) = a.length + first b := by
  induction a with
  | nil => simp
  | cons x a ih =>
    unfold Lib.countByte at *
    by_cases c : x = 10
    · simp [c] at h
    · rw [List.count_cons_of_ne (by simpa using c)] at h
      rw [List.cons_append, first_cons, if_neg c, ih h, List.length_cons]
      omega
set_option maxHeartbeats 1000000 in
set_option maxRecDepth 100000 in
theorem sidx_calls (s : ByteArray) (w : World) : Calls Try.prog 28 #[.string s, .int .u8 10] w fun e w' => e = .returned (.int .i64 (Lib.indexByte s.data.toList 10)) ∧ w = w' := by
  go_enter Try.func28, Try.ntmps28
  go_wp2
  rw [run_callFunc_extern (fn := Try.f37) Try.func37 (by kernel_rfl) (by kernel_rfl) (by kernel_rfl) (e := Extern.BytealgIndexByte.indexByte) (by kernel_rfl), Lib.run_indexByteString]
  simp only [Result.andThen]
  rw [Oper.upon_value]
  go_wp2
  go_ret
  exact ⟨rfl, rfl⟩
theorem idx_calls (s : ByteArray) (w : World) : Calls Try.prog 22 #[.string s, .int .u8 10] w fun e w' => e = .returned (.int .i64 (Lib.indexByte s.data.toList 10)) ∧ w = w' := by
  go_enter Try.func22, Try.ntmps22
  go_wp2_with fail
  refine (sidx_calls s _).mono ?_
  rintro e w2 ⟨rfl, rfl⟩
  go_wp2
  go_ret
  exact ⟨rfl, rfl⟩
set_option maxHeartbeats 1000000 in
set_option maxRecDepth 100000 in
theorem index_calls (s : ByteArray) (w : World) : Calls Try.prog 24 #[.string s, .string ⟨#[10]⟩] w fun e w' => e = .returned (.int .i64 (Lib.indexByte s.data.toList 10)) ∧ w = w' := by
  by_cases c : s.toList = [10]
  · obtain rfl : s = ⟨#[10]⟩ := by
      have e : s.data.toList = [10] := by rw [← ByteArray.toList_eq]; exact c
      obtain ⟨⟨l⟩⟩ := s
      simp at e
      rw [e]
    clear c
    go_enter Try.func24, Try.ntmps24
    go_wp2
    go_ret
    exact ⟨rfl, rfl⟩
  · have h1 : ([10] == s.toList) = false := by rw [beq_eq_false_iff_ne]; exact fun e => c e.symm
    clear c
    go_enter Try.func24, Try.ntmps24
    go_wp2_with fail
    refine (sidx_calls s _).mono ?_
    rintro e w2 ⟨rfl, rfl⟩
    go_wp2
    go_ret
    exact ⟨rfl, rfl⟩
end Go.Proofs.Ytiogebcbndhgfaa.Cur
