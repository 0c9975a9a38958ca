/- Where a place goes when an edit is made: the program's answer, as contracts. -/
import Derived.Test.YtiogebcbndhgfaaKCBack
import Derived.Below
namespace Go.Proofs.Ytiogebcbndhgfaa.Cur
open Go.RowKit Go.Proofs.Ytiogebcbndhgfaa.PCursorLines Go.Proofs.Ytiogebcbndhgfaa.PlainFloat Go.Proofs.Ytiogebcbndhgfaa.Turn Go.Proofs.YtiogebcbndhgfaaW.PrintWords Go.Proofs.YtiogebcbndhgfaaW.PrintLast Go.Proofs.YtiogebcbndhgfaaW.PrintMore
set_option linter.unusedVariables false
set_option linter.unusedSimpArgs false
theorem bcell {W w1 : World} (hb : Below W.heap.size W w1) : (∀ b o, b < W.heap.size → w1.cell? ⟨b, o, none⟩ = W.cell? ⟨b, o, none⟩) ∧ (∀ b o, b < W.heap.size → w1.frozen? ⟨b, o, none⟩ = W.frozen? ⟨b, o, none⟩) :=
  ⟨fun b o h => hb.cell (p := ⟨b, o, none⟩) h, fun b o h => hb.frozen (p := ⟨b, o, none⟩) h⟩
theorem quiet_add {P : Program} {f : FuncId} {args : Array Value} {w : World} {a n : Nat} {v : Value}
    (h : Calls P f args (w.drewN (a + n)) fun e w' => e = .returned v ∧ ∃ m, w' = (w.drewN (a + n)).drewN m) :
    Calls P f args (w.drewN (a + n)) fun e w'' => e = .returned v ∧ ∃ m, w'' = w.drewN (a + m) :=
  h.mono fun _ _ ⟨he, m, hm⟩ => ⟨he, n + m, by rw [hm, World.drewN_drewN, Nat.add_assoc]⟩
set_option maxHeartbeats 2000000 in
set_option maxRecDepth 100000 in
theorem shift_no (s t : ByteArray) (hs : s.size ≤ 1048576) (o : Nat) (h : o ≤ s.size) (p q : Int) (hq : q ≤ 9223372036854775807) (hpq : p < 0 ∨ q < 0 ∨ (s.size : Int) < p ∨ (s.size : Int) - p < q) (w : World) :
    Calls Try.prog 10 #[.string s, .complex .f64 (floatOfInt .f64 (col s o)) (floatOfInt .f64 (row s o)), .agg #[.int .i64 p, .int .i64 q, .string t]] w fun e w' => e = .returned (.tuple #[.complex .f64 0 0, .int .i64 2]) ∧ Below w.heap.size w w' := by
  have hO := offset_calls s (by omega) o h
  obtain ⟨x, hx⟩ : ∃ x, floatOfInt .f64 (col s o) = x := ⟨_, rfl⟩
  obtain ⟨y, hy⟩ : ∃ y, floatOfInt .f64 (row s o) = y := ⟨_, rfl⟩
  rw [hx, hy] at hO ⊢
  clear hx hy
  by_cases c1 : p < 0
  · have d1 : decide (p < 0) = true := decide_eq_true c1
    clear hpq c1
    go_enter Try.func10, Try.ntmps10
    go_wp2_with fail
    refine (hO _).mono ?_
    rintro e w2 ⟨rfl, nd, rfl⟩
    go_wp2
    go_ret2
    exact ⟨rfl, pw_below_drewN ((Below.refl _ _).alloc (Nat.le_refl _) _) _⟩
  have d1 : decide (p < 0) = false := decide_eq_false c1
  by_cases c2 : q < 0
  · have d2 : decide (q < 0) = true := decide_eq_true c2
    clear hpq c1 c2
    go_enter Try.func10, Try.ntmps10
    go_wp2_with fail
    refine (hO _).mono ?_
    rintro e w2 ⟨rfl, nd, rfl⟩
    go_wp2
    go_ret2
    exact ⟨rfl, pw_below_drewN ((Below.refl _ _).alloc (Nat.le_refl _) _) _⟩
  have d2 : decide (q < 0) = false := decide_eq_false c2
  by_cases c3 : (s.size : Int) < p
  · have d3 : decide ((s.size : Int) < p) = true := decide_eq_true c3
    clear hpq c1 c2 c3
    go_enter Try.func10, Try.ntmps10
    go_wp2_with fail
    refine (hO _).mono ?_
    rintro e w2 ⟨rfl, nd, rfl⟩
    go_wp2
    go_ret2
    exact ⟨rfl, pw_below_drewN ((Below.refl _ _).alloc (Nat.le_refl _) _) _⟩
  have d3 : decide ((s.size : Int) < p) = false := decide_eq_false c3
  have c4 : (s.size : Int) - p < q := by omega
  have d4 : decide ((s.size : Int) - p < q) = true := decide_eq_true c4
  have g1 : 0 ≤ p := by omega
  have g2 : p ≤ (s.size : Int) := by omega
  have g3 : 0 ≤ q := by omega
  clear hpq c1 c2 c3 c4
  go_enter Try.func10, Try.ntmps10
  go_wp2_with fail
  refine (hO _).mono ?_
  rintro e w2 ⟨rfl, nd, rfl⟩
  go_wp2
  go_ret2
  exact ⟨rfl, pw_below_drewN ((Below.refl _ _).alloc (Nat.le_refl _) _) _⟩
/-- The text that an edit makes. -/
def now (s t : ByteArray) (p q : Nat) : ByteArray := s.extract 0 p ++ t ++ s.extract (p + q) s.size
theorem now_size (s t : ByteArray) {p q : Nat} (h : p + q ≤ s.size) : (now s t p q).size = s.size - q + t.size := by
  unfold now
  simp only [ByteArray.size_append, ByteArray.size_extract]
  omega
/-- Where an offset goes. -/
def Goes (o p q n o' : Nat) : Prop := (o ≤ p ∧ o' = o) ∨ (p < o ∧ o < p + q ∧ o' = p + n) ∨ (p < o ∧ p + q ≤ o ∧ o' = o - q + n)
set_option maxHeartbeats 2000000 in
set_option maxRecDepth 100000 in
theorem shift_yes (s t : ByteArray) (hst : s.size + t.size ≤ 1048576) (o p q o' : Nat) (h : o ≤ s.size) (hpq : p + q ≤ s.size) (hg : Goes o p q t.size o') (w : World) :
    Calls Try.prog 10 #[.string s, .complex .f64 (floatOfInt .f64 (col s o)) (floatOfInt .f64 (row s o)), .agg #[.int .i64 p, .int .i64 q, .string t]] w
      fun e w' => e = .returned (.tuple #[.complex .f64 (floatOfInt .f64 (col (now s t p q) o')) (floatOfInt .f64 (row (now s t p q) o')), .int .i64 0]) ∧ Below w.heap.size w w' := by
  have hO := offset_calls s (by omega) o h
  have hz := now_size s t hpq
  have hA := at_ok (now s t p q) (by omega) o' (by unfold Goes at hg; omega)
  obtain ⟨x, hx⟩ : ∃ x, floatOfInt .f64 (col s o) = x := ⟨_, rfl⟩
  obtain ⟨y, hy⟩ : ∃ y, floatOfInt .f64 (row s o) = y := ⟨_, rfl⟩
  obtain ⟨x', hx'⟩ : ∃ x, floatOfInt .f64 (col (now s t p q) o') = x := ⟨_, rfl⟩
  obtain ⟨y', hy'⟩ : ∃ y, floatOfInt .f64 (row (now s t p q) o') = y := ⟨_, rfl⟩
  rw [hx, hy] at hO ⊢
  rw [hx', hy'] at hA ⊢
  unfold now at hA
  clear hx hy hx' hy' hz
  have d1 : decide ((p : Int) < 0) = false := decide_eq_false (by omega)
  have d2 : decide ((q : Int) < 0) = false := decide_eq_false (by omega)
  have d3 : decide (s.size < p) = false := decide_eq_false (by omega)
  have d4 : decide ((s.size : Int) - (p : Int) < (q : Int)) = false := decide_eq_false (by omega)
  have g1 : (p : Int) ≤ (s.size : Int) := by omega
  have g2 : (p : Int) + (q : Int) ≤ (s.size : Int) := by omega
  have g3 : (s.size : Int) + (t.size : Int) ≤ 1048576 := by omega
  have g4 : (o : Int) ≤ (s.size : Int) := by omega
  have g5 : (0 : Int) ≤ (p : Int) := by omega
  have g6 : (0 : Int) ≤ (p : Int) + (q : Int) := by omega
  have w1 : IntKind.i64.wrap ((p : Int) + (q : Int)) = (p : Int) + (q : Int) := by rw [IntKind.wrap_i64]; omega
  have W1 := Aside0.mk w1
  clear w1
  rcases hg with ⟨c1, rfl⟩ | ⟨c1, c2, rfl⟩ | ⟨c1, c2, rfl⟩
  · have d5 : decide (p < o') = false := decide_eq_false (by omega)
    have d6 : decide ((p : Int) < (o' : Int)) = false := decide_eq_false (by omega)
    go_enter Try.func10, Try.ntmps10
    go_wp2_with fail
    refine (hO _).mono ?_
    rintro e w2 ⟨rfl, nd, rfl⟩
    clear hO
    go_wp2
    have w1 := W1.out
    go_quiet ((go_at_call 8; exact quiet_add (hA _)))
    clear w1
    go_wp2
    go_ret2
    exact ⟨rfl, pw_below_drewN (pw_below_drewN ((Below.refl _ _).alloc (Nat.le_refl _) _) _) _⟩
  · have d5 : decide (p < o) = true := decide_eq_true (by omega)
    have d6 : decide ((p : Int) < (o : Int)) = true := decide_eq_true (by omega)
    have d7 : decide ((o : Int) < (p : Int) + (q : Int)) = true := decide_eq_true (by omega)
    have e : ((p + t.size : Nat) : Int) = (p : Int) + (t.size : Int) := by omega
    rw [e] at hA
    clear e
    go_enter Try.func10, Try.ntmps10
    go_wp2_with fail
    refine (hO _).mono ?_
    rintro e w2 ⟨rfl, nd, rfl⟩
    clear hO
    go_wp2
    have w1 := W1.out
    go_quiet ((go_at_call 8; exact quiet_add (hA _)))
    clear w1
    go_wp2
    go_ret2
    exact ⟨rfl, pw_below_drewN (pw_below_drewN ((Below.refl _ _).alloc (Nat.le_refl _) _) _) _⟩
  · have d5 : decide (p < o) = true := decide_eq_true (by omega)
    have d6 : decide ((p : Int) < (o : Int)) = true := decide_eq_true (by omega)
    have d7 : decide ((o : Int) < (p : Int) + (q : Int)) = false := decide_eq_false (by omega)
    have e : ((o - q + t.size : Nat) : Int) = (o : Int) + ((t.size : Int) - (q : Int)) := by omega
    rw [e] at hA
    clear e
    go_enter Try.func10, Try.ntmps10
    go_wp2_with fail
    refine (hO _).mono ?_
    rintro e w2 ⟨rfl, nd, rfl⟩
    clear hO
    go_wp2
    have w1 := W1.out
    go_quiet ((go_at_call 8; exact quiet_add (hA _)))
    clear w1
    go_wp2
    go_ret2
    exact ⟨rfl, pw_below_drewN (pw_below_drewN ((Below.refl _ _).alloc (Nat.le_refl _) _) _) _⟩
end Go.Proofs.Ytiogebcbndhgfaa.Cur
