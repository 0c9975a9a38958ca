/- A list of names in strict order, and one more put in: plain words for the reference's order; and its word on what stands above. -/
import Derived.Test.YtdihhdmndjjknaaDoorKWOrdRef
import Derived.Test.YtdihhdmndjjknaaDoorKWOrder
import Derived.Test.YtdihhdmndjjknaaDoorKWAbove
namespace Go.Proofs.YtdihhdmndjjknaaDoor.Walk
open Go.RowKit Go.Proofs.YtdihhdmndjjknaaDoor.PWalkOrders Go.Proofs.YtdihhdmndjjknaaDoor.Plain Go.Proofs.YtdihhdmndjjknaaDoor.Codec Go.Proofs.YtdihhdmndjjknaaDoorW.PrintWords Go.Proofs.YtdihhdmndjjknaaDoorW.PrintLast Go.Proofs.YtdihhdmndjjknaaDoorW.PrintMore
set_option linter.unusedVariables false
set_option linter.unusedSimpArgs false
/-- What stands ahead, the new one, what stands behind. -/
theorem ins_strict {a c : List (List ByteArray)} {L : List ByteArray} (ha : Strict a) (hc : Strict c) (h1 : ∀ x ∈ a, nl x < nl L) (h2 : ∀ x ∈ c, nl L < nl x) : Strict (a ++ [L] ++ c) := by
  unfold Strict at *
  rw [List.pairwise_append, List.pairwise_append]
  refine ⟨⟨ha, by simp, fun x hx y hy => by rw [List.mem_singleton.1 hy]; exact h1 x hx⟩, hc, fun x hx y hy => ?_⟩
  rcases List.mem_append.1 hx with q | q
  · exact nl_trans (h1 x q) (h2 y hy)
  · rw [List.mem_singleton.1 q]; exact h2 y hy
theorem strict_take {a : List (List ByteArray)} (h : Strict a) (k : Nat) : Strict (a.take k) := List.Pairwise.sublist (List.take_sublist k a) h
theorem strict_drop {a : List (List ByteArray)} (h : Strict a) (k : Nat) : Strict (a.drop k) := List.Pairwise.sublist (List.drop_sublist k a) h
theorem strict_behind {a : List (List ByteArray)} (h : Strict a) (k : Nat) (x : List ByteArray) (hx : a[k]? = some x) : ∀ y ∈ a.drop (k + 1), nl x < nl y := by
  have h2 := strict_drop h k
  have hk : k < a.length := (List.getElem?_eq_some_iff.1 hx).1
  have e : a[k] = x := (List.getElem?_eq_some_iff.1 hx).2
  rw [List.drop_eq_getElem_cons hk, e] at h2
  exact (List.pairwise_cons.1 h2).1
/-- One more is put in ahead of all that are behind it. -/
theorem ins_ahead {a : List (List ByteArray)} {L : List ByteArray} (ha : Strict a) (k : Nat) (h1 : ∀ x ∈ a.take k, nl x < nl L) (h2 : ∀ x, a[k]? = some x → nl L < nl x) : Strict (a.take k ++ [L] ++ a.drop k) ∧ ∀ x, x ∈ a.take k ++ [L] ++ a.drop k ↔ x = L ∨ x ∈ a := by
  refine ⟨ins_strict (strict_take ha k) (strict_drop ha k) h1 fun y hy => ?_, fun x => ?_⟩
  · by_cases hk : k < a.length
    · have e := List.getElem?_eq_getElem hk
      rw [List.drop_eq_getElem_cons hk] at hy
      rcases List.mem_cons.1 hy with q | q
      · rw [q]; exact h2 _ e
      · exact nl_trans (h2 _ e) (strict_behind ha k _ e y q)
    · rw [List.drop_of_length_le (by omega)] at hy; cases hy
  · have e : x ∈ a ↔ x ∈ a.take k ∨ x ∈ a.drop k := by rw [← List.mem_append, List.take_append_drop]
    rw [List.mem_append, List.mem_append, List.mem_singleton, e]
    constructor
    · rintro ((h | h) | h)
      · exact .inr (.inl h)
      · exact .inl h
      · exact .inr (.inr h)
    · rintro (h | h | h)
      · exact .inl (.inr h)
      · exact .inl (.inl h)
      · exact .inr h
/-- One more that is there: it takes its place. -/
theorem ins_same {a : List (List ByteArray)} {L : List ByteArray} (ha : Strict a) (k : Nat) (h2 : a[k]? = some L) : a.take k ++ [L] ++ a.drop (k + 1) = a := by
  have hk : k < a.length := (List.getElem?_eq_some_iff.1 h2).1
  have e : a[k] = L := (List.getElem?_eq_some_iff.1 h2).2
  rw [List.append_assoc, List.singleton_append, ← e, ← List.drop_eq_getElem_cons hk, List.take_append_drop]
theorem rabove_l0 (x y : List ByteArray) (hs : x.length ≤ y.length) (hs2 : x.length ≤ 1048576) : ∀ d i k : Nat, i + d = x.length → d + 5 ≤ k → skerryref16_Above.l0 k x y (i : Int) = some (decide (x.drop i = (y.take x.length).drop i), 0)
  | d, i, k, h, hk => by
    obtain ⟨k, rfl⟩ : ∃ m, k = m + 1 := ⟨k - 1, by omega⟩
    simp only [skerryref16_Above.l0]
    by_cases c1 : i < x.length
    · obtain ⟨d, rfl⟩ : ∃ m, d = m + 1 := ⟨d - 1, by omega⟩
      have e1 : rdOf ByteArray.empty x (i : Int) = x[i] := by simp [rdOf, c1]
      have e2 : rdOf ByteArray.empty y (i : Int) = y[i] := by simp [rdOf, show i < y.length by omega]
      have c2 : i < (y.take x.length).length := by rw [List.length_take]; omega
      rw [if_pos (by omega), if_pos (by omega), if_pos (by omega), e1, e2, List.drop_eq_getElem_cons c1, List.drop_eq_getElem_cons c2, List.getElem_take]
      by_cases q : x[i].toList = y[i].toList
      · have q2 : x[i] = y[i] := str_eq q
        rw [if_pos q, w64 (by omega) (by omega), show ((i : Int) + 1) = ((i + 1 : Nat) : Int) by omega, rabove_l0 x y hs hs2 d (i + 1) k (by omega) (by omega), q2]
        congr 2
        exact decide_eq_decide.2 ⟨fun z => by rw [z], fun z => (List.cons.inj z).2⟩
      · rw [if_neg q]
        congr 2
        exact (decide_eq_false fun z => q (by rw [(List.cons.inj z).1])).symm
    · rw [if_neg (by omega), List.drop_of_length_le (show x.length ≤ i by omega), List.drop_of_length_le (show (y.take x.length).length ≤ i by rw [List.length_take]; omega)]
      simp
termination_by d => d
theorem rabove_is (a b : ByteArray) (k : Nat) (hk : 600 ≤ k) : skerryref16_Above.f k a b = some (aboveOut a b) := by
  unfold skerryref16_Above.f
  rw [rsplit_is a k (by omega), rsplit_is b k (by omega)]
  simp only [Option.bind_some]
  have ha := splitOut_le a
  have hb := splitOut_le b
  obtain ⟨k, rfl⟩ : ∃ m, k = m + 1 := ⟨k - 1, by omega⟩
  unfold aboveOut
  by_cases h0 : (splitOut a).2 = 0
  · rw [if_pos h0]
    simp only [skerryref16_Above.j0]
    by_cases h1 : (splitOut b).2 = 0
    · rw [if_neg (show ¬ (((splitOut b).2 != 0) = true) by rw [h1]; decide), if_neg (show ¬ ((splitOut a).2 ≠ 0 ∨ (splitOut b).2 ≠ 0) from fun q => q.elim (fun q => q h0) (fun q => q h1))]
      by_cases h2 : (splitOut a).1.length ≤ (splitOut b).1.length
      · rw [if_neg (show ¬ (((splitOut a).1.length : Int) > ((splitOut b).1.length : Int)) by omega)]
        have h := rabove_l0 (splitOut a).1 (splitOut b).1 h2 (by omega) (splitOut a).1.length 0 k (by omega) (by omega)
        rw [show ((0 : Nat) : Int) = 0 from rfl] at h
        rw [h]
        simp only [List.drop_zero, h2, true_and]
      · rw [if_pos (show ((splitOut a).1.length : Int) > ((splitOut b).1.length : Int) by omega)]
        simp only [h2, false_and, decide_false]
    · rw [if_pos (show ((splitOut b).2 != 0) = true from bne_iff_ne.2 h1), if_pos (show (splitOut a).2 ≠ 0 ∨ (splitOut b).2 ≠ 0 from .inr h1)]
  · rw [if_neg h0]
    simp only [skerryref16_Above.j0]
    rw [if_pos trivial, if_pos (show (splitOut a).2 ≠ 0 ∨ (splitOut b).2 ≠ 0 from .inl h0)]
end Go.Proofs.YtdihhdmndjjknaaDoor.Walk
