/- Equal lists of texts: the program's word. -/
import Derived.Test.YtdihhdmndjjknaaDoorKWParent
import Derived.Test.YtdihhdmndjjknaaDoorPWalkOrdersx2
import Derived.Deep.QuietTactic
namespace Go.Proofs.YtdihhdmndjjknaaDoor.Walk
open Go.RowKit Go.Proofs.YtdihhdmndjjknaaDoor.PWalkOrders Go.Proofs.YtdihhdmndjjknaaDoor.Plain Go.Proofs.YtdihhdmndjjknaaDoor.Codec Go.Proofs.YtdihhdmndjjknaaDoorW.PrintWords Go.Proofs.YtdihhdmndjjknaaDoorW.PrintLast Go.Proofs.YtdihhdmndjjknaaDoorW.PrintMore
set_option linter.unusedVariables false
set_option linter.unusedSimpArgs false
theorem equal_l0 (x y : List ByteArray) (hxy : x.length = y.length) (hs : x.length ≤ 1048576) : ∀ d i : Nat, i + d = x.length → slices_Equal_string_string.l0 (d + 1) x y (x.length : Int) (i : Int) = some (decide (x.drop i = y.drop i))
  | 0, i, h => by
    unfold slices_Equal_string_string.l0
    rw [if_neg (by omega), List.drop_of_length_le (by omega), List.drop_of_length_le (by omega)]
    rfl
  | d + 1, i, h => by
    have h1 : i < x.length := by omega
    have h2 : i < y.length := by omega
    unfold slices_Equal_string_string.l0
    rw [if_pos (by omega), if_pos (by omega), if_pos (by omega), if_pos (by omega), w64 (by omega) (by omega)]
    have e1 : rdOf ByteArray.empty x (i : Int) = x[i] := by simp [rdOf, h1]
    have e2 : rdOf ByteArray.empty y (i : Int) = y[i] := by simp [rdOf, h2]
    have e3 : (x.drop i = y.drop i) ↔ (x[i] = y[i] ∧ x.drop (i + 1) = y.drop (i + 1)) := by
      rw [List.drop_eq_getElem_cons h1, List.drop_eq_getElem_cons h2]
      exact ⟨fun q => ⟨(List.cons.inj q).1, (List.cons.inj q).2⟩, fun q => by rw [q.1, q.2]⟩
    rw [e1, e2]
    by_cases c : x[i].toList = y[i].toList
    · rw [if_pos c, show ((i : Int) + 1) = ((i + 1 : Nat) : Int) by omega, equal_l0 x y hxy hs d (i + 1) (by omega)]
      congr 1
      exact decide_eq_decide.2 ⟨fun q => e3.2 ⟨str_eq c, q⟩, fun q => (e3.1 q).2⟩
    · rw [if_neg c]
      congr 1
      refine (decide_eq_false fun q => c ?_).symm
      rw [(e3.1 q).1]
theorem equal_is (x y : List ByteArray) (hxy : x.length = y.length) (hs : x.length ≤ 1048576) : slices_Equal_string_string.f (x.length + 1) x y = some (decide (x = y)) := by
  unfold slices_Equal_string_string.f
  rw [if_pos (by omega)]
  have h := equal_l0 x y hxy hs x.length 0 (by omega)
  simpa using h
end Go.Proofs.YtdihhdmndjjknaaDoor.Walk
