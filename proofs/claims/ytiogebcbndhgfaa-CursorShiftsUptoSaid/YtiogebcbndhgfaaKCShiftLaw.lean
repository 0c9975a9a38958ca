/- Places behind edits, where the edit fits: the walk of the law CursorShifts. -/
import Derived.Test.YtiogebcbndhgfaaKCShifts
namespace Go.Proofs.Ytiogebcbndhgfaa.Cur
open Go.RowKit Go.Proofs.Ytiogebcbndhgfaa.PCursorLines Go.Proofs.Ytiogebcbndhgfaa.PlainFloat Go.Proofs.Ytiogebcbndhgfaa.Turn Go.Proofs.YtiogebcbndhgfaaW.PrintWords Go.Proofs.YtiogebcbndhgfaaW.PrintLast Go.Proofs.YtiogebcbndhgfaaW.PrintMore
set_option linter.unusedVariables false
set_option linter.unusedSimpArgs false
set_option maxHeartbeats 4000000 in
set_option maxRecDepth 100000 in
theorem shifts_yes (s t : ByteArray) (hst : s.size + t.size ≤ 1048576) (k p q : Nat) (h : k ≤ s.size) (hpq : p + q ≤ s.size) (w : World) :
    Calls Try.prog 5 #[.string s, .int .i64 k, .agg #[.int .i64 p, .int .i64 q, .string t]] w fun e w' => e = .returned (.bool true) ∧ Below w.heap.size w w' := by
  have hA := at_ok s (by omega) k h
  have d1 : decide ((p : Int) < 0) = false := decide_eq_false (by omega)
  have d2 : decide ((q : Int) < 0) = false := decide_eq_false (by omega)
  have d3 : decide (s.size < p) = false := decide_eq_false (by omega)
  have d4 : decide ((s.size : Int) - (p : Int) < (q : Int)) = false := decide_eq_false (by omega)
  have g1 : (p : Int) ≤ (s.size : Int) := by omega
  have g2 : (p : Int) + (q : Int) ≤ (s.size : Int) := by omega
  have g3 : (s.size : Int) + (t.size : Int) ≤ 1048576 := by omega
  have g4 : (k : Int) ≤ (s.size : Int) := by omega
  have g5 : (0 : Int) ≤ (p : Int) := by omega
  have g6 : (0 : Int) ≤ (p : Int) + (q : Int) := by omega
  have w1 : IntKind.i64.wrap ((p : Int) + (q : Int)) = (p : Int) + (q : Int) := by rw [IntKind.wrap_i64]; omega
  have W1 := Aside0.mk w1
  clear w1
  have HZ := Aside0.mk (now_size s t hpq)
  by_cases c : k ≤ p
  · have hz := HZ.out
    have hS := shift_yes s t hst k p q k h hpq (Or.inl ⟨c, rfl⟩)
    have hO := offset_calls (now s t p q) (by omega) k (by omega)
    have ec : col (now s t p q) k = col s k := by unfold col; rw [now_take s t hpq c]
    have er : row (now s t p q) k = row s k := by unfold row; rw [now_take s t hpq c]
    rw [ec, er] at hS hO
    have hcl := col_le2 s k h
    have hrl := row_le3 s k
    have C := of_int (x := (col s k : Nat)) (by omega)
    have R := of_int (x := (row s k : Nat)) (by omega)
    have v1 := eq_rep C C
    have v2 := eq_rep R R
    rw [decide_eq_true rfl] at v1 v2
    have v1 : (FloatKind.f64.format.order (floatOfInt .f64 (col s k)) (floatOfInt .f64 (col s k)) == some .eq) = true := v1
    have v2 : (FloatKind.f64.format.order (floatOfInt .f64 (row s k)) (floatOfInt .f64 (row s k)) == some .eq) = true := v2
    generalize floatOfInt .f64 (col s k) = x at *
    generalize floatOfInt .f64 (row s k) = y at *
    unfold now at hO
    have d5 : decide (k ≤ p) = true := decide_eq_true c
    have d6 : decide ((k : Int) ≤ (p : Int)) = true := decide_eq_true (by omega)
    clear hz ec er C R c hcl hrl hst h hpq
    go_enter Try.func5, Try.ntmps5
    go_wp2_with fail
    refine (wakes _).mono ?_
    rintro e w2 ⟨rfl, nd1, rfl⟩
    go_wp2_with fail
    refine (hA _).mono ?_
    rintro e w2 ⟨rfl, nd2, rfl⟩
    clear hA
    go_wp2_with fail
    refine (hS _).mono ?_
    rintro e w2 ⟨rfl, hb⟩
    obtain ⟨hc, hf⟩ := bcell hb
    clear hS
    go_wp2_with fail
    have w1 := W1.out
    go_quiet (fail)
    clear w1
    go_wp2_with fail
    refine (hO _).mono ?_
    rintro e w3 ⟨rfl, nd3, rfl⟩
    clear hO
    go_wp2
    go_ret
    exact ⟨rfl, pw_below_drewN ((pw_below_drewN ((Below.refl _ _).alloc (Nat.le_refl _) _) _).trans (hb.mono (by simp))) _⟩
  have d5 : decide (k ≤ p) = false := decide_eq_false c
  have d6 : decide ((k : Int) ≤ (p : Int)) = false := decide_eq_false (by omega)
  by_cases c2 : p + q ≤ k
  · have hz := HZ.out
    have hS := shift_yes s t hst k p q (k - q + t.size) h hpq (Or.inr (Or.inr ⟨by omega, by omega, rfl⟩))
    have hO := offset_calls (now s t p q) (by omega) (k - q + t.size) (by omega)
    have hD := now_drop s t hpq c2
    have g8 : k - q + t.size ≤ (now s t p q).size := by omega
    generalize k - q + t.size = o' at *
    have d7 : decide ((p : Int) + (q : Int) ≤ (k : Int)) = true := decide_eq_true (by omega)
    have g7 : (o' : Int) ≤ ((now s t p q).size : Int) := by omega
    have hE : ((now s t p q).extract o' (now s t p q).size).toList = (s.extract k s.size).toList := by rw [ext_list, ext_list, hD]
    obtain ⟨x, hx⟩ : ∃ x, floatOfInt .f64 (col s k) = x := ⟨_, rfl⟩
    obtain ⟨y, hy⟩ : ∃ y, floatOfInt .f64 (row s k) = y := ⟨_, rfl⟩
    obtain ⟨x', hx'⟩ : ∃ x, floatOfInt .f64 (col (now s t p q) o') = x := ⟨_, rfl⟩
    obtain ⟨y', hy'⟩ : ∃ y, floatOfInt .f64 (row (now s t p q) o') = y := ⟨_, rfl⟩
    rw [hx, hy] at hA hS
    rw [hx', hy'] at hS hO
    clear hx hy hx' hy'
    obtain ⟨N, hN⟩ : ∃ N, now s t p q = N := ⟨_, rfl⟩
    rw [hN] at hO hE g7 hz
    unfold now at hN
    have HE := Aside0.mk hE
    have HN := Aside0.mk hN
    clear hE hN hz hD c c2 hst h hpq g8
    go_enter Try.func5, Try.ntmps5
    go_wp2_with fail
    refine (wakes _).mono ?_
    rintro e w2 ⟨rfl, nd1, rfl⟩
    go_wp2_with fail
    refine (hA _).mono ?_
    rintro e w2 ⟨rfl, nd2, rfl⟩
    clear hA
    go_wp2_with fail
    refine (hS _).mono ?_
    rintro e w2 ⟨rfl, hb⟩
    obtain ⟨hc, hf⟩ := bcell hb
    clear hS
    go_wp2_with fail
    have w1 := W1.out
    go_quiet (fail)
    clear w1
    rw [HN.out]
    go_wp2_with fail
    refine (hO _).mono ?_
    rintro e w3 ⟨rfl, nd3, rfl⟩
    clear hO
    go_wp2
    have he := HE.out
    go_quiet (fail)
    go_wp2
    go_ret
    exact ⟨rfl, pw_below_drewN (pw_below_drewN ((pw_below_drewN ((Below.refl _ _).alloc (Nat.le_refl _) _) _).trans (hb.mono (by simp))) _) _⟩
  · have hz := HZ.out
    have hS := shift_yes s t hst k p q (p + t.size) h hpq (Or.inr (Or.inl ⟨by omega, by omega, rfl⟩))
    have hO := offset_calls (now s t p q) (by omega) (p + t.size) (by omega)
    have e : ((p + t.size : Nat) : Int) = (p : Int) + (t.size : Int) := by omega
    have d7 : decide ((p : Int) + (q : Int) ≤ (k : Int)) = false := decide_eq_false (by omega)
    obtain ⟨x, hx⟩ : ∃ x, floatOfInt .f64 (col s k) = x := ⟨_, rfl⟩
    obtain ⟨y, hy⟩ : ∃ y, floatOfInt .f64 (row s k) = y := ⟨_, rfl⟩
    obtain ⟨x', hx'⟩ : ∃ x, floatOfInt .f64 (col (now s t p q) (p + t.size)) = x := ⟨_, rfl⟩
    obtain ⟨y', hy'⟩ : ∃ y, floatOfInt .f64 (row (now s t p q) (p + t.size)) = y := ⟨_, rfl⟩
    rw [hx, hy] at hA hS
    rw [hx', hy'] at hS hO
    rw [e] at hO
    unfold now at hO
    clear hx hy hx' hy' e hz c c2 hst h hpq
    go_enter Try.func5, Try.ntmps5
    go_wp2_with fail
    refine (wakes _).mono ?_
    rintro e w2 ⟨rfl, nd1, rfl⟩
    go_wp2_with fail
    refine (hA _).mono ?_
    rintro e w2 ⟨rfl, nd2, rfl⟩
    clear hA
    go_wp2_with fail
    refine (hS _).mono ?_
    rintro e w2 ⟨rfl, hb⟩
    obtain ⟨hc, hf⟩ := bcell hb
    clear hS
    go_wp2_with fail
    have w1 := W1.out
    go_quiet (fail)
    clear w1
    go_wp2_with fail
    refine (hO _).mono ?_
    rintro e w3 ⟨rfl, nd3, rfl⟩
    clear hO
    go_wp2
    go_ret
    exact ⟨rfl, pw_below_drewN ((pw_below_drewN ((Below.refl _ _).alloc (Nat.le_refl _) _) _).trans (hb.mono (by simp))) _⟩
/-- The law, where its texts are of bulk at most 1048576. -/
theorem shifts_row (s : ByteArray) (o : Int) (p q : Int) (t : ByteArray) (w : World) (_ : s.size ≤ 1048576) (ho : (Lit.int .i64 o).wf = true) (hp : (Lit.int .i64 p).wf = true) (hq : (Lit.int .i64 q).wf = true) (hst : s.size + t.size ≤ 1048576) :
    Calls Try.prog 5 #[.string s, .int .i64 o, .agg #[.int .i64 p, .int .i64 q, .string t]] w fun e w' => e = .returned (.bool true) ∧ Below w.heap.size w w' := by
  have hq2 : q ≤ 9223372036854775807 := by
    simp [Lit.wf, IntKind.min, IntKind.max, IntKind.bits, IntKind.signed] at hq
    omega
  by_cases c : o < 0 ∨ (s.size : Int) < o
  · exact shifts_out s t o p q c w
  obtain ⟨k, rfl⟩ : ∃ k : Nat, o = k := ⟨o.toNat, by omega⟩
  by_cases d : p < 0 ∨ q < 0 ∨ (s.size : Int) < p ∨ (s.size : Int) - p < q
  · exact shifts_bad s t (by omega) k (by omega) p q hq2 d w
  obtain ⟨a, rfl⟩ : ∃ a : Nat, p = a := ⟨p.toNat, by omega⟩
  obtain ⟨b, rfl⟩ : ∃ b : Nat, q = b := ⟨q.toNat, by omega⟩
  exact shifts_yes s t hst k a b (by omega) (by omega) w
end Go.Proofs.Ytiogebcbndhgfaa.Cur
