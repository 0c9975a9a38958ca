/- Four sums turned, and added: what becomes of their spectrum, as whole numbers. This session's own words. -/
import Derived.Test.YtmjgmompcaanlaaTTurned
namespace Go.Proofs.Ytmjgmompcaanlaa.Turn
open Go.RowKit Go.Proofs.Ytmjgmompcaanlaa.PlainFloat Go.Proofs.YtmjgmompcaanlaaW.PrintWords
set_option linter.unusedVariables false
/-- The sums of n bytes 0 and what had these sums. -/
def rot (n : Int) : List Int → List Int
  | [a, b, c, d] => if n % 4 = 0 then [a, b, c, d] else if n % 4 = 1 then [d, a, b, c] else if n % 4 = 2 then [c, d, a, b] else [b, c, d, a]
  | l => l
theorem fr4 (s0 s1 s2 s3 : Int) : (fr [s0, s1, s2, s3] 0 4 = s0 + s1 + s2 + s3 ∧ fi [s0, s1, s2, s3] 0 4 = 0) ∧ (fr [s0, s1, s2, s3] 1 4 = s0 - s2 ∧ fi [s0, s1, s2, s3] 1 4 = s1 - s3) ∧ (fr [s0, s1, s2, s3] 2 4 = s0 + s2 - s1 - s3 ∧ fi [s0, s1, s2, s3] 2 4 = 0) ∧ (fr [s0, s1, s2, s3] 3 4 = s0 - s2 ∧ fi [s0, s1, s2, s3] 3 4 = s3 - s1) := by
  have h := frfi [s0, s1, s2, s3] 4
  obtain ⟨e0, e1, e2, e3⟩ := sm4 (s0 := s0) (s1 := s1) (s2 := s2) (s3 := s3)
  rw [e0, e1, e2, e3] at h
  exact h
theorem rot_is (s0 s1 s2 s3 n : Int) (q : Nat) (hq : q < 4) : tx [s0, s1, s2, s3] n q = fr (rot n [s0, s1, s2, s3]) q 4 ∧ ty [s0, s1, s2, s3] n q = fi (rot n [s0, s1, s2, s3]) q 4 := by
  have h := fr4 s0 s1 s2 s3
  obtain ⟨⟨a0, b0⟩, ⟨a1, b1⟩, ⟨a2, b2⟩, ⟨a3, b3⟩⟩ := h
  have hn : n % 4 = 0 ∨ n % 4 = 1 ∨ n % 4 = 2 ∨ n % 4 = 3 := by omega
  unfold tx ty rot
  rcases hn with e | e | e | e
  · rw [e]
    simp only [if_true]
    match q, hq with
    | 0, _ => simp [pr, pi]
    | 1, _ => simp [pr, pi]
    | 2, _ => simp [pr, pi]
    | 3, _ => simp [pr, pi]
  · rw [e]
    simp only [show ¬ (1 : Int) = 0 by decide, if_false, if_true]
    obtain ⟨⟨c0, d0⟩, ⟨c1, d1⟩, ⟨c2, d2⟩, ⟨c3, d3⟩⟩ := fr4 s3 s0 s1 s2
    match q, hq with
    | 0, _ => rw [a0, b0, c0, d0]; simp [pr, pi]; omega
    | 1, _ => rw [a1, b1, c1, d1]; simp [pr, pi]; omega
    | 2, _ => rw [a2, b2, c2, d2]; simp [pr, pi]; omega
    | 3, _ => rw [a3, b3, c3, d3]; simp [pr, pi]; omega
  · rw [e]
    simp only [show ¬ (2 : Int) = 0 by decide, show ¬ (2 : Int) = 1 by decide, if_false, if_true]
    obtain ⟨⟨c0, d0⟩, ⟨c1, d1⟩, ⟨c2, d2⟩, ⟨c3, d3⟩⟩ := fr4 s2 s3 s0 s1
    match q, hq with
    | 0, _ => rw [a0, b0, c0, d0]; simp [pr, pi]; omega
    | 1, _ => rw [a1, b1, c1, d1]; simp [pr, pi]; omega
    | 2, _ => rw [a2, b2, c2, d2]; simp [pr, pi]; omega
    | 3, _ => rw [a3, b3, c3, d3]; simp [pr, pi]; omega
  · rw [e]
    simp only [show ¬ (3 : Int) = 0 by decide, show ¬ (3 : Int) = 1 by decide, show ¬ (3 : Int) = 2 by decide, if_false]
    obtain ⟨⟨c0, d0⟩, ⟨c1, d1⟩, ⟨c2, d2⟩, ⟨c3, d3⟩⟩ := fr4 s1 s2 s3 s0
    match q, hq with
    | 0, _ => rw [a0, b0, c0, d0]; simp [pr, pi]; omega
    | 1, _ => rw [a1, b1, c1, d1]; simp [pr, pi]; omega
    | 2, _ => rw [a2, b2, c2, d2]; simp [pr, pi]; omega
    | 3, _ => rw [a3, b3, c3, d3]; simp [pr, pi]; omega
theorem sums4_parts {s0 s1 s2 s3 : Int} (h : Sums4 [s0, s1, s2, s3]) : Sum s0 ∧ Sum s1 ∧ Sum s2 ∧ Sum s3 := ⟨h.2 0, h.2 1, h.2 2, h.2 3⟩
theorem rot_sums {l : List Int} (h : Sums4 l) (n : Int) : Sums4 (rot n l) := by
  obtain ⟨s0, s1, s2, s3, rfl⟩ := list4 h.1
  obtain ⟨h0, h1, h2, h3⟩ := sums4_parts h
  unfold rot
  dsimp only
  split
  · exact h
  split
  · exact sums4_of h3 h0 h1 h2
  split
  · exact sums4_of h2 h3 h0 h1
  · exact sums4_of h1 h2 h3 h0
theorem SpecV.same {v : Value} {x y x' y' : Nat → Int} (h : SpecV v x y) (e : ∀ q, q < 4 → x' q = x q ∧ y' q = y q) : SpecV v x' y' := by
  obtain ⟨a0, b0, a1, b1, a2, b2, a3, b3, rfl, r0, r1, r2, r3⟩ := h
  obtain ⟨z0, w0⟩ := e 0 (by omega)
  obtain ⟨z1, w1⟩ := e 1 (by omega)
  obtain ⟨z2, w2⟩ := e 2 (by omega)
  obtain ⟨z3, w3⟩ := e 3 (by omega)
  refine ⟨a0, b0, a1, b1, a2, b2, a3, b3, rfl, ?_, ?_, ?_, ?_⟩
  · rw [z0, w0]; exact r0
  · rw [z1, w1]; exact r1
  · rw [z2, w2]; exact r2
  · rw [z3, w3]; exact r3
theorem turned4 (v : Value) (l : List Int) (h : Of4 v l) (n : Int) (w : World) : Calls Try.prog 20 #[v, .int .i64 n] w fun e w' => ∃ u, e = .returned u ∧ Of4 u (rot n l) ∧ Below w.heap.size w w' := by
  refine (turned_calls v l h n w).mono ?_
  rintro e w' ⟨u, he, hs, hb⟩
  refine ⟨u, he, ⟨rot_sums h.1 n, ?_⟩, hb⟩
  obtain ⟨s0, s1, s2, s3, rfl⟩ := list4 h.1.1
  exact hs.same (fun q hq => ⟨(rot_is s0 s1 s2 s3 n q hq).1.symm, (rot_is s0 s1 s2 s3 n q hq).2.symm⟩)
/-- Sums added, place by place. -/
def plus : List Int → List Int → List Int
  | [a, b, c, d], [e, f, g, h] => [a + e, b + f, c + g, d + h]
  | l, _ => l
theorem plus_is (s0 s1 s2 s3 t0 t1 t2 t3 : Int) (q : Nat) (hq : q < 4) : fr (plus [s0, s1, s2, s3] [t0, t1, t2, t3]) q 4 = fr [s0, s1, s2, s3] q 4 + fr [t0, t1, t2, t3] q 4 ∧ fi (plus [s0, s1, s2, s3] [t0, t1, t2, t3]) q 4 = fi [s0, s1, s2, s3] q 4 + fi [t0, t1, t2, t3] q 4 := by
  obtain ⟨⟨a0, b0⟩, ⟨a1, b1⟩, ⟨a2, b2⟩, ⟨a3, b3⟩⟩ := fr4 s0 s1 s2 s3
  obtain ⟨⟨c0, d0⟩, ⟨c1, d1⟩, ⟨c2, d2⟩, ⟨c3, d3⟩⟩ := fr4 t0 t1 t2 t3
  obtain ⟨⟨e0, f0⟩, ⟨e1, f1⟩, ⟨e2, f2⟩, ⟨e3, f3⟩⟩ := fr4 (s0 + t0) (s1 + t1) (s2 + t2) (s3 + t3)
  unfold plus
  match q, hq with
  | 0, _ => rw [a0, b0, c0, d0, e0, f0]; omega
  | 1, _ => rw [a1, b1, c1, d1, e1, f1]; omega
  | 2, _ => rw [a2, b2, c2, d2, e2, f2]; omega
  | 3, _ => rw [a3, b3, c3, d3, e3, f3]; omega
theorem Of4.add_small {v u : Value} {l m : List Int} (h : Of4 v l) (h' : Of4 u m) (q : Nat) : (fr l q 4 + fr m q 4).natAbs < 2 ^ 53 ∧ (fi l q 4 + fi m q 4).natAbs < 2 ^ 53 := by
  have a := fr_big h.1 q 4
  have b := fi_big h.1 q 4
  have c := fr_big h'.1 q 4
  have d := fi_big h'.1 q 4
  omega
theorem blk_get_far (W : World) {g : Nat} {p : Addr} (hp : g ≠ p.block) (u : Value) : (W.setCell p u).heap[g]? = W.heap[g]? := Below.heap_setCell W p u g hp
end Go.Proofs.Ytmjgmompcaanlaa.Turn
