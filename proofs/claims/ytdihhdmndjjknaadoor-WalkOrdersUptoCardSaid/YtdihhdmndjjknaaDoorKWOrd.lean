/- Names in order: the order of names in plain words, and that the program answers by it. -/
import Derived.Test.YtdihhdmndjjknaaDoorKWParent
import Derived.Test.YtdihhdmndjjknaaDoorPWalkOrdersx2
namespace Go.Proofs.YtdihhdmndjjknaaDoor.Walk
open Go.RowKit Go.Proofs.YtdihhdmndjjknaaDoor.PWalkOrders Go.Proofs.YtdihhdmndjjknaaDoor.Plain Go.Proofs.YtdihhdmndjjknaaDoor.Codec Go.Proofs.YtdihhdmndjjknaaDoorW.PrintWords Go.Proofs.YtdihhdmndjjknaaDoorW.PrintLast Go.Proofs.YtdihhdmndjjknaaDoorW.PrintMore
set_option linter.unusedVariables false
set_option linter.unusedSimpArgs false
/-- Names as lists of bytes. -/
def nl (x : List ByteArray) : List (List UInt8) := x.map fun s => s.data.toList
theorem nl_inj {x y : List ByteArray} (h : nl x = nl y) : x = y := by
  have e : ∀ q : List ByteArray, (nl q).map bs = q := fun q => by
    unfold nl
    rw [List.map_map]
    conv => rhs; rw [← List.map_id q]
    exact List.map_congr_left fun s _ => bs_of s
  rw [← e x, ← e y, h]
theorem nl_irrefl (x : List (List UInt8)) : ¬ x < x := List.lt_irrefl x
theorem nl_trans {x y z : List (List UInt8)} (h : x < y) (k : y < z) : x < z := List.lt_trans h k
theorem nl_tri (x y : List (List UInt8)) : x < y ∨ x = y ∨ y < x := by
  by_cases h : x < y
  · exact .inl h
  · by_cases k : y < x
    · exact .inr (.inr k)
    · exact .inr (.inl (List.le_antisymm (List.not_lt.1 k) (List.not_lt.1 h)))
theorem bs_tri (x y : List UInt8) : x < y ∨ x = y ∨ y < x := by
  by_cases h : x < y
  · exact .inl h
  · by_cases k : y < x
    · exact .inr (.inr k)
    · exact .inr (.inl (List.le_antisymm (List.not_lt.1 k) (List.not_lt.1 h)))
/-- What is answered of two lists of names. -/
def cmpN (x y : List ByteArray) : Int := if nl x < nl y then -1 else if nl y < nl x then 1 else 0
theorem cmp_str (a b : ByteArray) : cmp_Compare_string.f a b = some (if a.data.toList < b.data.toList then -1 else if b.data.toList < a.data.toList then 1 else 0) := by
  unfold cmp_Compare_string.f cmp_isNaN_string.f
  have h1 : ∀ s : ByteArray, (s.toList != s.toList) = false := fun s => bne_eq_false_iff_eq.2 rfl
  simp only [Option.bind_some, h1]
  rw [if_neg (by simp), if_neg (by simp)]
  simp only [bytesLess_lt, ByteArray.toList_eq, decide_eq_true_eq]
  split
  · rfl
  · split <;> rfl
theorem nl_cons (a : ByteArray) (t : List ByteArray) : nl (a :: t) = a.data.toList :: nl t := rfl
theorem cmp_cons (a b : ByteArray) (s t : List ByteArray) : cmpN (a :: s) (b :: t) = if a.data.toList < b.data.toList then -1 else if b.data.toList < a.data.toList then 1 else cmpN s t := by
  unfold cmpN
  rw [nl_cons, nl_cons]
  simp only [List.cons_lt_cons_iff]
  rcases bs_tri a.data.toList b.data.toList with h | h | h
  · have n1 : ¬ b.data.toList < a.data.toList := fun q => List.lt_irrefl _ (List.lt_trans h q)
    simp [h]
  · rw [h]
    have n1 : ¬ b.data.toList < b.data.toList := List.lt_irrefl _
    simp only [n1, false_or, true_and, if_false]
  · have n1 : ¬ a.data.toList < b.data.toList := fun q => List.lt_irrefl _ (List.lt_trans h q)
    have n2 : a.data.toList ≠ b.data.toList := fun q => n1 (by rw [q] at h; exact absurd h (List.lt_irrefl _))
    simp [h, n1, n2]
theorem compare_l0 (x y : List ByteArray) (hs : x.length ≤ 1048576) : ∀ d i : Nat, i + d = x.length → i ≤ y.length → slices_Compare_string_string.l0 (d + 1) x y x (x.length : Int) (i : Int) = some (cmpN (x.drop i) (y.drop i))
  | 0, i, h, hy => by
    unfold slices_Compare_string_string.l0
    rw [if_neg (by omega), List.drop_of_length_le (show x.length ≤ i by omega)]
    by_cases c : x.length < y.length
    · rw [if_pos (by omega), List.drop_eq_getElem_cons (show i < y.length by omega)]
      rfl
    · rw [if_neg (by omega), List.drop_of_length_le (show y.length ≤ i by omega)]
      rfl
  | d + 1, i, h, hy => by
    have h1 : i < x.length := by omega
    unfold slices_Compare_string_string.l0
    rw [if_pos (by omega), if_pos (by omega), if_pos (by omega)]
    have e1 : rdOf ByteArray.empty x (i : Int) = x[i] := by simp [rdOf, h1]
    rw [List.drop_eq_getElem_cons h1]
    by_cases c : i < y.length
    · have e2 : rdOf ByteArray.empty y (i : Int) = y[i] := by simp [rdOf, c]
      rw [if_neg (by omega), if_pos (by omega), e1, e2, cmp_str, Option.bind_some, List.drop_eq_getElem_cons c, cmp_cons]
      by_cases l1 : x[i].data.toList < y[i].data.toList
      · rw [if_pos l1, if_pos l1, if_neg (by decide)]
      · rw [if_neg l1, if_neg l1]
        by_cases l2 : y[i].data.toList < x[i].data.toList
        · rw [if_pos l2, if_pos l2, if_neg (by decide)]
        · rw [if_neg l2, if_neg l2, if_pos rfl, w64 (by omega) (by omega), show ((i : Int) + 1) = ((i + 1 : Nat) : Int) by omega]
          exact compare_l0 x y hs d (i + 1) (by omega) (by omega)
    · rw [if_pos (by omega), List.drop_of_length_le (show y.length ≤ i by omega)]
      rfl
theorem compare_is (x y : List ByteArray) (hs : x.length ≤ 1048576) : slices_Compare_string_string.f (x.length + 1) x y = some (cmpN x y) := by
  unfold slices_Compare_string_string.f
  have h := compare_l0 x y hs x.length 0 (by omega) (by omega)
  simpa using h
end Go.Proofs.YtdihhdmndjjknaaDoor.Walk
