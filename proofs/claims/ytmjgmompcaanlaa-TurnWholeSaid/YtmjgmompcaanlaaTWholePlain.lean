/- The four sums of bytes in parts. This session's own words. -/
import Derived.Test.YtmjgmompcaanlaaTBackPlain
namespace Go.Proofs.Ytmjgmompcaanlaa.Turn
open Go.RowKit Go.Proofs.Ytmjgmompcaanlaa.PlainFloat Go.Proofs.YtmjgmompcaanlaaW.PrintWords
set_option linter.unusedVariables false
theorem rd_left (a b : List Int) {j : Nat} (h : j < a.length) : rd (a ++ b) (j : Int) = rd a (j : Int) := by
  unfold rd
  rw [Int.toNat_natCast, List.getD_eq_getElem?_getD, List.getD_eq_getElem?_getD, List.getElem?_append_left h]
theorem rd_right (a b : List Int) (j : Nat) : rd (a ++ b) ((a.length + j : Nat) : Int) = rd b (j : Int) := by
  unfold rd
  rw [Int.toNat_natCast, Int.toNat_natCast, List.getD_eq_getElem?_getD, List.getD_eq_getElem?_getD, List.getElem?_append_right (by omega), Nat.add_sub_cancel_left]
theorem sm_left (a b : List Int) (r : Nat) : ∀ j, j ≤ a.length → sm (a ++ b) r j = sm a r j
  | 0, _ => rfl
  | j + 1, h => by
    simp only [sm]
    rw [sm_left a b r j (by omega), rd_left a b (by omega)]
theorem sm_right (a b : List Int) {r s : Nat} (hr : r < 4) (hs : s < 4) (h : (a.length + s) % 4 = r) : ∀ j, sm (a ++ b) r (a.length + j) = sm a r a.length + sm b s j
  | 0 => by
    show sm (a ++ b) r a.length = sm a r a.length + 0
    rw [sm_left a b r a.length (Nat.le_refl _), Int.add_zero]
  | j + 1 => by
    show sm (a ++ b) r (a.length + j) + (if (a.length + j) % 4 = r then rd (a ++ b) ((a.length + j : Nat) : Int) else 0) = sm a r a.length + (sm b s j + (if j % 4 = s then rd b (j : Int) else 0))
    rw [sm_right a b hr hs h j, rd_right]
    by_cases c : j % 4 = s
    · rw [if_pos c, if_pos (by omega)]
      omega
    · rw [if_neg c, if_neg (by omega)]
      omega
theorem four_append (a b : List Int) : four (a ++ b) = plus (four a) (rot (a.length : Int) (four b)) := by
  have hn : (a.length : Int) % 4 = 0 ∨ (a.length : Int) % 4 = 1 ∨ (a.length : Int) % 4 = 2 ∨ (a.length : Int) % 4 = 3 := by omega
  unfold four
  rw [List.length_append]
  unfold rot
  rcases hn with e | e | e | e
  · rw [e]
    simp only [if_true, plus]
    rw [sm_right a b (r := 0) (s := 0) (by omega) (by omega) (by omega), sm_right a b (r := 1) (s := 1) (by omega) (by omega) (by omega), sm_right a b (r := 2) (s := 2) (by omega) (by omega) (by omega), sm_right a b (r := 3) (s := 3) (by omega) (by omega) (by omega)]
  · rw [e]
    simp only [show ¬ (1 : Int) = 0 by decide, if_false, if_true, plus]
    rw [sm_right a b (r := 0) (s := 3) (by omega) (by omega) (by omega), sm_right a b (r := 1) (s := 0) (by omega) (by omega) (by omega), sm_right a b (r := 2) (s := 1) (by omega) (by omega) (by omega), sm_right a b (r := 3) (s := 2) (by omega) (by omega) (by omega)]
  · rw [e]
    simp only [show ¬ (2 : Int) = 0 by decide, show ¬ (2 : Int) = 1 by decide, if_false, if_true, plus]
    rw [sm_right a b (r := 0) (s := 2) (by omega) (by omega) (by omega), sm_right a b (r := 1) (s := 3) (by omega) (by omega) (by omega), sm_right a b (r := 2) (s := 0) (by omega) (by omega) (by omega), sm_right a b (r := 3) (s := 1) (by omega) (by omega) (by omega)]
  · rw [e]
    simp only [show ¬ (3 : Int) = 0 by decide, show ¬ (3 : Int) = 1 by decide, show ¬ (3 : Int) = 2 by decide, if_false, plus]
    rw [sm_right a b (r := 0) (s := 1) (by omega) (by omega) (by omega), sm_right a b (r := 1) (s := 2) (by omega) (by omega) (by omega), sm_right a b (r := 2) (s := 3) (by omega) (by omega) (by omega), sm_right a b (r := 3) (s := 0) (by omega) (by omega) (by omega)]
theorem sm_zeros (n r : Nat) : ∀ j, sm (List.replicate n 0) r j = 0
  | 0 => rfl
  | j + 1 => by
    simp only [sm]
    rw [sm_zeros n r j]
    have : rd (List.replicate n 0) (j : Int) = 0 := by
      unfold rd
      rw [List.getD_eq_getElem?_getD, List.getElem?_replicate]
      split <;> rfl
    rw [this]
    split <;> rfl
theorem plus_zero (s : List Int) (h : s.length = 4) : plus [0, 0, 0, 0] s = s := by
  obtain ⟨a, b, c, d, rfl⟩ := list4 h
  simp [plus]
theorem rot_length {l : List Int} (h : l.length = 4) (n : Int) : (rot n l).length = 4 := by
  obtain ⟨a, b, c, d, rfl⟩ := list4 h
  unfold rot
  dsimp only
  split
  · rfl
  split
  · rfl
  split <;> rfl
theorem four_zeros (n : Nat) (b : List Int) : four (List.replicate n 0 ++ b) = rot (n : Int) (four b) := by
  rw [four_append, List.length_replicate]
  have : four (List.replicate n 0) = [0, 0, 0, 0] := by
    unfold four
    rw [sm_zeros, sm_zeros, sm_zeros, sm_zeros]
  rw [this, plus_zero _ (rot_length rfl _)]
theorem byte_append {a b : List Int} (ha : ByteList a) (hb : ByteList b) : ByteList (a ++ b) := by
  intro i
  by_cases c : i.toNat < a.length
  · have := rd_left a b c
    have e : rd (a ++ b) i = rd (a ++ b) (i.toNat : Int) := by
      unfold rd
      rw [Int.toNat_natCast]
    rw [e, this]
    exact ha _
  · have := rd_right a b (i.toNat - a.length)
    have e : rd (a ++ b) i = rd (a ++ b) ((a.length + (i.toNat - a.length) : Nat) : Int) := by
      unfold rd
      rw [Int.toNat_natCast, show a.length + (i.toNat - a.length) = i.toNat by omega]
    rw [e, this]
    exact hb _
theorem byte_zeros (n : Nat) : ByteList (List.replicate n 0) := by
  intro i
  unfold rd
  rw [List.getD_eq_getElem?_getD, List.getElem?_replicate]
  split <;> exact ⟨by decide, by decide⟩
end Go.Proofs.Ytmjgmompcaanlaa.Turn
