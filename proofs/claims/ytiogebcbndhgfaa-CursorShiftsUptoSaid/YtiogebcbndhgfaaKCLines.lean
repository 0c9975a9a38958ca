/- Lines of two texts: the walk of the law CursorLines. No conditions. -/
import Derived.Test.YtiogebcbndhgfaaKCAt
namespace Go.Proofs.Ytiogebcbndhgfaa.Cur
open Go.RowKit Go.Proofs.Ytiogebcbndhgfaa.PCursorLines Go.Proofs.Ytiogebcbndhgfaa.PlainFloat Go.Proofs.Ytiogebcbndhgfaa.Turn Go.Proofs.YtiogebcbndhgfaaW.PrintWords Go.Proofs.YtiogebcbndhgfaaW.PrintLast Go.Proofs.YtiogebcbndhgfaaW.PrintMore
set_option linter.unusedVariables false
set_option linter.unusedSimpArgs false
set_option maxHeartbeats 1000000 in
set_option maxRecDepth 100000 in
theorem wakes (w : World) : Calls Try.prog 6 #[] w fun e w' => e = .returned (.bool true) ∧ ∃ nd, w' = w.drewN nd := by
  have o1 := eq_rep (of_int (x := 1) (by decide)) rep_one
  rw [decide_eq_true (by decide)] at o1
  have o1 : (FloatKind.f64.format.order (floatOfInt .f64 1) 4607182418800017408 == some .eq) = true := o1
  have hA := at_ok ⟨#[97, 98, 10, 99]⟩ (by decide) 4 (by decide)
  rw [show ((col ⟨#[97, 98, 10, 99]⟩ 4 : Nat) : Int) = 1 from by decide, show ((row ⟨#[97, 98, 10, 99]⟩ 4 : Nat) : Int) = 1 from by decide] at hA
  have hL := lines_calls ⟨#[97, 98, 10, 99]⟩ (by decide)
  rw [show ((ends ⟨#[97, 98, 10, 99]⟩ + 1 : Nat) : Int) = 2 from by decide] at hL
  go_enter Try.func6, Try.ntmps6
  go_wp2_with fail
  refine (hA _).mono ?_
  rintro e w2 ⟨rfl, nd, rfl⟩
  generalize floatOfInt .f64 1 = x at *
  clear hA
  go_wp2_with fail
  refine (hL _).mono ?_
  rintro e w2 ⟨rfl, rfl⟩
  go_wp2
  go_ret
  exact ⟨rfl, nd, rfl⟩
theorem tail_append (l m : List UInt8) : tail (l ++ m) = if Lib.countByte m 10 = 0 then tail l + m.length else tail m := by
  unfold tail Lib.countByte
  rw [List.reverse_append]
  by_cases c : m.count 10 = 0
  · rw [if_pos c]
    have h : ∀ b ∈ m.reverse, (b != 10) = true := by
      intro b hb
      have hn := List.count_eq_zero.1 c
      rw [List.mem_reverse] at hb
      rw [bne_iff_ne]
      rintro rfl
      exact hn hb
    rw [List.takeWhile_append_of_pos h, List.length_append, List.length_reverse]
    omega
  · rw [if_neg c, List.takeWhile_append]
    have hm : 10 ∈ m.reverse := by
      rw [List.mem_reverse]
      exact List.count_pos_iff.1 (by omega)
    rw [if_neg]
    intro e
    have e2 := List.takeWhile_prefix (fun b => b != (10 : UInt8)) (l := m.reverse)
    have e3 := e2.eq_of_length e
    rw [← e3] at hm
    have h2 := List.all_eq_true.1 (List.all_takeWhile (p := fun b => b != (10 : UInt8)) (l := m.reverse)) 10 hm
    exact absurd h2 (by decide)
theorem row_append (a b : ByteArray) {k : Nat} (hk : k ≤ b.size) : row (a ++ b) (a.size + k) = ends a + row b k := by
  unfold row ends Lib.countByte
  have e : (a ++ b).data.toList.take (a.size + k) = a.data.toList ++ b.data.toList.take k := by
    rw [ByteArray.data_append, Array.toList_append, List.take_append]
    rw [List.take_of_length_le (by rw [Array.length_toList]; show a.size ≤ _; omega), Array.length_toList, show a.size + k - a.data.size = k from by show a.size + k - a.size = k; omega]
  rw [e, List.count_append]
theorem col_append (a b : ByteArray) {k : Nat} (hk : k ≤ b.size) : col (a ++ b) (a.size + k) = if row b k = 0 then col a a.size + col b k else col b k := by
  unfold col row
  have e : (a ++ b).data.toList.take (a.size + k) = a.data.toList ++ b.data.toList.take k := by
    rw [ByteArray.data_append, Array.toList_append, List.take_append]
    rw [List.take_of_length_le (by rw [Array.length_toList]; show a.size ≤ _; omega), Array.length_toList, show a.size + k - a.data.size = k from by show a.size + k - a.size = k; omega]
  have ea : a.data.toList.take a.size = a.data.toList := List.take_of_length_le (by rw [Array.length_toList]; exact Nat.le_refl _)
  rw [e, tail_append, ea]
  by_cases c : Lib.countByte (b.data.toList.take k) 10 = 0
  · rw [if_pos c, if_pos c]
    have h := tail_append [] (b.data.toList.take k)
    rw [if_pos c, List.nil_append] at h
    rw [h]
    simp [tail]
  · rw [if_neg c, if_neg c]
theorem ends_append (a b : ByteArray) : ends (a ++ b) = ends a + ends b := by
  unfold ends Lib.countByte
  rw [ByteArray.data_append, Array.toList_append, List.count_append]
theorem row_all (a : ByteArray) : row a a.size = ends a := by
  unfold row ends
  rw [List.take_of_length_le (by rw [Array.length_toList]; exact Nat.le_refl _)]
end Go.Proofs.Ytiogebcbndhgfaa.Cur
