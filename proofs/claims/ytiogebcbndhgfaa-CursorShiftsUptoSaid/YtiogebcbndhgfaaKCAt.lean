/- The place of an offset: what the program answers, as contracts. -/
import Derived.Test.YtiogebcbndhgfaaKCLast
namespace Go.Proofs.Ytiogebcbndhgfaa.Cur
open Go.RowKit Go.Proofs.Ytiogebcbndhgfaa.PCursorLines Go.Proofs.Ytiogebcbndhgfaa.PlainFloat Go.Proofs.Ytiogebcbndhgfaa.Turn Go.Proofs.YtiogebcbndhgfaaW.PrintWords Go.Proofs.YtiogebcbndhgfaaW.PrintLast Go.Proofs.YtiogebcbndhgfaaW.PrintMore
set_option linter.unusedVariables false
set_option linter.unusedSimpArgs false
def col (s : ByteArray) (o : Nat) : Nat := tail (s.data.toList.take o)
def row (s : ByteArray) (o : Nat) : Nat := Lib.countByte (s.data.toList.take o) 10
theorem pre_list (s : ByteArray) (o : Nat) : (s.extract 0 o).data.toList = s.data.toList.take o := by
  simp [ByteArray.data_extract]
set_option maxHeartbeats 1000000 in
set_option maxRecDepth 100000 in
theorem at_no (s : ByteArray) (o : Int) (h : o < 0 ∨ (s.size : Int) < o) (w : World) : Calls Try.prog 8 #[.string s, .int .i64 o] w fun e w' => e = .returned (.tuple #[.complex .f64 0 0, .int .i64 2]) ∧ ∃ nd, w' = w.drewN nd := by
  by_cases c : o < 0
  · have c1 : decide (o < 0) = true := decide_eq_true c
    clear h c
    go_enter Try.func8, Try.ntmps8
    go_wp2
    go_ret2
    exact ⟨rfl, 0, rfl⟩
  · have c1 : decide (o < 0) = false := decide_eq_false c
    have c2 : decide ((s.size : Int) < o) = true := decide_eq_true (by omega)
    clear h c
    go_enter Try.func8, Try.ntmps8
    go_wp2
    go_ret2
    exact ⟨rfl, 0, rfl⟩
set_option maxHeartbeats 1000000 in
set_option maxRecDepth 100000 in
theorem at_ok (s : ByteArray) (hs : s.size ≤ 4611686018427387904) (o : Nat) (h : o ≤ s.size) (w : World) : Calls Try.prog 8 #[.string s, .int .i64 o] w fun e w' => e = .returned (.tuple #[.complex .f64 (floatOfInt .f64 (col s o)) (floatOfInt .f64 (row s o)), .int .i64 0]) ∧ ∃ nd, w' = w.drewN nd := by
  have c1 : decide ((o : Int) < 0) = false := decide_eq_false (by omega)
  have c2 : decide ((s.size : Int) < (o : Int)) = false := decide_eq_false (by omega)
  have z : (s.extract 0 o).size = o := by simp; omega
  have HZ := Aside0.mk z
  have HS := Aside0.mk hs
  have HO := Aside0.mk h
  have hc : col s o ≤ o := by
    have := tail_le (s.data.toList.take o)
    unfold col
    simp at this
    omega
  have HC := Aside0.mk hc
  clear hc z hs
  go_enter Try.func8, Try.ntmps8
  go_wp2_with fail
  have hl : (((s.extract 0 o).size : Int) - 1 - tail (s.extract 0 o).data.toList) = (o : Int) - 1 - col s o := by rw [HZ.out, pre_list]; rfl
  have hr : ((ends (s.extract 0 o) : Nat) : Int) = row s o := by unfold ends row; rw [pre_list]
  have hl2 := last_calls (s.extract 0 o) (by rw [HZ.out]; exact Nat.le_trans HO.out HS.out)
  have hr2 := count_calls (s.extract 0 o)
  rw [hl] at hl2
  rw [hr] at hr2
  refine (hl2 _).mono ?_
  rintro e w2 ⟨rfl, ⟨nd, rfl⟩⟩
  have hw1 : IntKind.i64.wrap ((o : Int) - ((o : Int) - 1 - col s o)) = (col s o : Int) + 1 := by have := HC.out; have := HO.out; have := HS.out; rw [IntKind.wrap_i64]; omega
  have hw2 : IntKind.i64.wrap ((col s o : Int) + 1 - 1) = (col s o : Int) := by have := HC.out; have := HO.out; have := HS.out; rw [IntKind.wrap_i64]; omega
  have hw3 : wrap64 (col s o : Int) = (col s o : Int) := by have := HC.out; have := HO.out; have := HS.out; unfold wrap64; omega
  clear hl hr hl2 h
  go_wp2_with fail
  refine (hr2 _).mono ?_
  rintro e w2 ⟨rfl, rfl⟩
  go_wp2_with fail
  try simp only [hw3]
  refine (place_calls (col s o) (row s o) _).mono ?_
  rintro e w2 ⟨rfl, rfl⟩
  go_wp2
  go_ret2
  exact ⟨rfl, nd, rfl⟩
end Go.Proofs.Ytiogebcbndhgfaa.Cur
