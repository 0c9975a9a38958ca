/- The sign of a whole number turned; sums of bytes and of their four sums. This session's own words. -/
import Derived.Test.YtmjgmompcaanlaaTJoin
namespace Go.Proofs.Ytmjgmompcaanlaa.Turn
open Go.RowKit Go.Proofs.Ytmjgmompcaanlaa.PlainFloat Go.Proofs.YtmjgmompcaanlaaW.PrintWords
set_option linter.unusedVariables false
theorem xor_top {r : Nat} (h : r < 2 ^ 63) : r ^^^ 2 ^ 63 = 2 ^ 63 + r := by
  apply Nat.eq_of_testBit_eq
  intro i
  rw [Nat.testBit_xor, Nat.testBit_two_pow]
  rcases Nat.lt_trichotomy i 63 with c | c | c
  · rw [Nat.testBit_two_pow_add_gt c, decide_eq_false (show ¬ 63 = i by omega)]
    simp
  · subst c
    rw [Nat.testBit_two_pow_add_eq, Nat.testBit_lt_two_pow h]
    rfl
  · have h1 : r < 2 ^ i := Nat.lt_of_lt_of_le h (Nat.pow_le_pow_right (by decide) (by omega))
    have h2 : 2 ^ 63 + r < 2 ^ i := by
      have : 2 ^ 64 ≤ 2 ^ i := Nat.pow_le_pow_right (by decide) (by omega)
      omega
    rw [Nat.testBit_lt_two_pow h1, Nat.testBit_lt_two_pow h2, decide_eq_false (show ¬ 63 = i by omega)]
    rfl
theorem neg_rep {x : Nat} {a : Int} (h : Rep x a) : Rep (Op.negFloat .f64 x) (-a) := by
  obtain ⟨s, n, hn, rfl, rfl⟩ := h
  have hr := irung_lt hn
  refine ⟨!s, n, hn, ?_, by cases s <;> simp⟩
  show Ieee.double.word s (irung n) ^^^ 2 ^ 63 = _
  unfold Ieee.Format.word
  rw [sw]
  cases s
  · rw [if_neg (by decide), xor_top (by omega)]
    rfl
  · rw [if_pos rfl, ← xor_top (by omega), Nat.xor_assoc, Nat.xor_self, Nat.xor_zero]
    rfl
/-- The sum of the first j numbers. -/
def tot (l : List Int) : Nat → Int
  | 0 => 0
  | j + 1 => tot l j + rd l (j : Int)
theorem tot_is (l : List Int) (j : Nat) : tot l j = sm l 0 j + sm l 1 j + sm l 2 j + sm l 3 j := by
  induction j with
  | zero => simp [tot, sm]
  | succ j ih =>
    have h : j % 4 = 0 ∨ j % 4 = 1 ∨ j % 4 = 2 ∨ j % 4 = 3 := by omega
    simp only [tot, sm, ih]
    rcases h with h | h | h | h <;> simp [h] <;> omega
theorem tot_range {l : List Int} (h : ByteList l) (j : Nat) : 0 ≤ tot l j ∧ tot l j ≤ 255 * j := by
  induction j with
  | zero => simp [tot]
  | succ j ih =>
    have := h j
    simp only [tot]
    omega
/-- The four sums of bytes. -/
def four (b : List Int) : List Int := [sm b 0 b.length, sm b 1 b.length, sm b 2 b.length, sm b 3 b.length]
theorem four_sums {b : List Int} (h : ByteList b) (hl : b.length ≤ 4194304) : Sums4 (four b) := by
  have h0 := sm_range h 0 b.length
  have h1 := sm_range h 1 b.length
  have h2 := sm_range h 2 b.length
  have h3 := sm_range h 3 b.length
  exact sums4_of ⟨h0.1, by omega⟩ ⟨h1.1, by omega⟩ ⟨h2.1, by omega⟩ ⟨h3.1, by omega⟩
theorem four_is (b : List Int) (q : Nat) (hq : q < 4) : fr (four b) q 4 = fr b q b.length ∧ fi (four b) q 4 = fi b q b.length := by
  obtain ⟨⟨a0, b0⟩, ⟨a1, b1⟩, ⟨a2, b2⟩, ⟨a3, b3⟩⟩ := frfi b b.length
  obtain ⟨⟨c0, d0⟩, ⟨c1, d1⟩, ⟨c2, d2⟩, ⟨c3, d3⟩⟩ := fr4 (sm b 0 b.length) (sm b 1 b.length) (sm b 2 b.length) (sm b 3 b.length)
  unfold four
  match q, hq with
  | 0, _ => rw [a0, b0, c0, d0]; exact ⟨rfl, rfl⟩
  | 1, _ => rw [a1, b1, c1, d1]; exact ⟨rfl, rfl⟩
  | 2, _ => rw [a2, b2, c2, d2]; exact ⟨rfl, rfl⟩
  | 3, _ => rw [a3, b3, c3, d3]; exact ⟨rfl, rfl⟩
theorem of4_calls (A : Option Addr) (c : Nat) (b : List Int) (w : World) (hr : ReadsInt w .u8 A b.length b) (hb : ByteList b) (hl : b.length ≤ 4194304) :
    Calls Try.prog 8 #[.slice A b.length c] w fun e w' => ∃ v, e = .returned v ∧ Of4 v (four b) ∧ Below w.heap.size w w' := by
  refine (of_calls A c b w hr hb hl).mono ?_
  rintro e w' ⟨v, he, hs, hw⟩
  exact ⟨v, he, ⟨four_sums hb hl, hs.same (fun q hq => four_is b q hq)⟩, hw⟩
theorem rot4 {l : List Int} (h : Sums4 l) : rot 1 (rot 1 (rot 1 (rot 1 l))) = l ∧ rot 4 l = l := by
  obtain ⟨s0, s1, s2, s3, rfl⟩ := list4 h.1
  exact ⟨rfl, rfl⟩
def rotk (l : List Int) : Nat → List Int
  | 0 => l
  | k + 1 => rot 1 (rotk l k)
theorem SpecV.reps {a0 b0 a1 b1 a2 b2 a3 b3 : Nat} {x y : Nat → Int} (h : SpecV (.agg #[.complex .f64 a0 b0, .complex .f64 a1 b1, .complex .f64 a2 b2, .complex .f64 a3 b3]) x y) :
    (Rep a0 (x 0) ∧ Rep b0 (y 0)) ∧ (Rep a1 (x 1) ∧ Rep b1 (y 1)) ∧ (Rep a2 (x 2) ∧ Rep b2 (y 2)) ∧ (Rep a3 (x 3) ∧ Rep b3 (y 3)) := by
  obtain ⟨p0, q0, p1, q1, p2, q2, p3, q3, he, hq⟩ := h
  injection he with he
  injection he with he
  simp only [List.cons.injEq, Value.complex.injEq, and_true, true_and] at he
  obtain ⟨⟨rfl, rfl⟩, ⟨rfl, rfl⟩, ⟨rfl, rfl⟩, ⟨rfl, rfl⟩⟩ := he
  exact hq
/-- What the law asks of the numbers themselves. -/
theorem mirror {a0 b0 a1 b1 a2 b2 a3 b3 : Nat} {l : List Int} (h : Of4 (.agg #[.complex .f64 a0 b0, .complex .f64 a1 b1, .complex .f64 a2 b2, .complex .f64 a3 b3]) l) :
    FloatKind.f64.format.order a1 a3 = some .eq ∧ FloatKind.f64.format.order b1 (Op.negFloat .f64 b3) = some .eq ∧ FloatKind.f64.format.order b0 0 = some .eq ∧ FloatKind.f64.format.order b2 0 = some .eq := by
  obtain ⟨s0, s1, s2, s3, hl⟩ := list4 h.1.1
  obtain ⟨⟨r0, i0⟩, ⟨r1, i1⟩, ⟨r2, i2⟩, ⟨r3, i3⟩⟩ := h.2.reps
  rw [hl] at r0 i0 r1 i1 r2 i2 r3 i3
  obtain ⟨⟨c0, d0⟩, ⟨c1, d1⟩, ⟨c2, d2⟩, ⟨c3, d3⟩⟩ := fr4 s0 s1 s2 s3
  rw [c1] at r1
  rw [c3] at r3
  rw [d0] at i0
  rw [d1] at i1
  rw [d2] at i2
  rw [d3] at i3
  have n3 := neg_rep i3
  rw [show -(s3 - s1) = s1 - s3 by omega] at n3
  exact ⟨same_ord r1 r3, same_ord i1 n3, same_ord i0 rep_zero, same_ord i2 rep_zero⟩
theorem bytes_list2 {l : List Int} (h : ∀ x ∈ l, (Lit.int .u8 x).wf = true) : ByteList l := by
  intro i
  unfold rd
  by_cases c : i.toNat < l.length
  · have hm : l.getD i.toNat 0 ∈ l := by
      rw [List.getD_eq_getElem?_getD, List.getElem?_eq_getElem c]
      exact List.getElem_mem c
    have := h _ hm
    simpa [Lit.wf, IntKind.min, IntKind.max, IntKind.signed, IntKind.bits] using this
  · rw [List.getD_eq_getElem?_getD, List.getElem?_eq_none (by omega)]
    decide
end Go.Proofs.Ytmjgmompcaanlaa.Turn
