/- Two texts, one behind the other: the walk of the law CursorLines. No conditions. -/
import Derived.Test.YtiogebcbndhgfaaKCLines
namespace Go.Proofs.Ytiogebcbndhgfaa.Cur
open Go.RowKit Go.Proofs.Ytiogebcbndhgfaa.PCursorLines Go.Proofs.Ytiogebcbndhgfaa.PlainFloat Go.Proofs.Ytiogebcbndhgfaa.Turn Go.Proofs.YtiogebcbndhgfaaW.PrintWords Go.Proofs.YtiogebcbndhgfaaW.PrintLast Go.Proofs.YtiogebcbndhgfaaW.PrintMore
set_option linter.unusedVariables false
set_option linter.unusedSimpArgs false
theorem ends_le (s : ByteArray) : ends s ≤ s.size := by
  unfold ends Lib.countByte
  exact Nat.le_trans List.count_le_length (Nat.le_of_eq (by rw [Array.length_toList]; rfl))
theorem col_le (s : ByteArray) (o : Nat) : col s o ≤ s.size := by
  have := tail_le (s.data.toList.take o)
  unfold col
  have h : s.data.toList.length = s.size := by rw [Array.length_toList]; rfl
  simp at this
  have e : s.data.size = s.size := rfl
  omega
theorem row_le (s : ByteArray) (o : Nat) : row s o ≤ s.size := by
  unfold row Lib.countByte
  refine Nat.le_trans List.count_le_length ?_
  have h : s.data.toList.length = s.size := by rw [Array.length_toList]; rfl
  rw [List.length_take]
  omega
set_option maxHeartbeats 4000000 in
set_option maxRecDepth 100000 in
theorem lines_walk (a b : ByteArray) (o : Int) (ha : a.size ≤ 1125899906842624) (hb : b.size ≤ 1125899906842624) (w : World) :
    Calls Try.prog 3 #[.string a, .string b, .int .i64 o] w fun e w' => e = .returned (.bool true) ∧ ∃ nd, w' = w.drewN nd := by
  have hsz : (a ++ b).size = a.size + b.size := ByteArray.size_append
  have la := lines_calls a (by omega)
  have lb := lines_calls b (by omega)
  have lab := lines_calls (a ++ b) (by omega)
  have ea := at_ok a (by omega) a.size (Nat.le_refl _)
  have hae := ends_le a
  have hbe := ends_le b
  have hca := col_le a a.size
  rw [ends_append] at lab
  rw [row_all] at ea
  obtain ⟨r1, hr1⟩ : ∃ r1 : Int, ((ends a : Nat) : Int) = r1 := ⟨_, rfl⟩
  obtain ⟨c1, hc1⟩ : ∃ c1 : Int, ((col a a.size : Nat) : Int) = c1 := ⟨_, rfl⟩
  obtain ⟨n1, hn1⟩ : ∃ n1 : Int, ((ends a + 1 : Nat) : Int) = n1 := ⟨_, rfl⟩
  obtain ⟨n2, hn2⟩ : ∃ n2 : Int, ((ends b + 1 : Nat) : Int) = n2 := ⟨_, rfl⟩
  obtain ⟨n3, hn3⟩ : ∃ n3 : Int, ((ends a + ends b + 1 : Nat) : Int) = n3 := ⟨_, rfl⟩
  rw [hn1] at la
  rw [hn2] at lb
  rw [hn3] at lab
  rw [hr1, hc1] at ea
  have d1 : decide (n1 < 1) = false := decide_eq_false (by omega)
  have w1 : IntKind.i64.wrap (n1 + n2) = n1 + n2 := by rw [IntKind.wrap_i64]; omega
  have w2 : IntKind.i64.wrap (n1 + n2 - 1) = n3 := by rw [IntKind.wrap_i64]; omega
  have w3 : IntKind.i64.wrap (n1 - 1) = r1 := by rw [IntKind.wrap_i64]; omega
  have R1 := of_int (x := r1) (by omega)
  have hrr : FloatKind.f64.format.order (floatOfInt .f64 r1) (floatOfInt .f64 r1) = some .eq := by
    have h : FloatKind.f64.format.order (floatOfInt .f64 r1) (floatOfInt .f64 r1) = some (compare r1 r1) := R1.order R1
    rw [h]
    simp [compare, compareOfLessAndEq]
  have HL := Aside0.mk (And.intro la (And.intro lab (And.intro lb ea)))
  have HN := Aside0.mk (And.intro hsz (And.intro (And.intro hae hbe) (And.intro hca (And.intro hr1 hc1))))
  have HS := Aside0.mk (And.intro ha hb)
  have hcat : a.size + b.size ≤ 9223372036854775807 := by omega
  clear la lb lab ea hsz hae hbe hca hr1 hc1 hn1 hn2 hn3 ha hb R1
  by_cases c : o < 0 ∨ (b.size : Int) < o
  · have hno := at_no b o c
    by_cases c0 : o < 0
    · have q1 : decide (o < 0) = true := decide_eq_true c0
      clear c c0
      go_enter Try.func3, Try.ntmps3
      go_wp2_with fail
      refine (wakes _).mono ?_
      rintro e w2 ⟨rfl, nd1, rfl⟩
      go_wp2_with fail
      refine (HL.out.1 _).mono ?_
      rintro e w2 ⟨rfl, rfl⟩
      go_wp2_with fail
      refine (HL.out.2.1 _).mono ?_
      rintro e w2 ⟨rfl, rfl⟩
      go_wp2_with fail
      refine (HL.out.2.2.1 _).mono ?_
      rintro e w2 ⟨rfl, rfl⟩
      go_wp2_with fail
      refine (hno _).mono ?_
      rintro e w2 ⟨rfl, nd2, rfl⟩
      go_wp2_with fail
      refine (HL.out.2.2.2 _).mono ?_
      rintro e w2 ⟨rfl, nd3, rfl⟩
      go_wp2
      go_ret
      exact ⟨rfl, nd1 + nd2 + nd3, by simp [World.drewN, Nat.add_assoc]⟩
    · have q1 : decide (o < 0) = false := decide_eq_false c0
      have q2 : decide ((b.size : Int) < o) = true := decide_eq_true (by omega)
      clear c c0
      go_enter Try.func3, Try.ntmps3
      go_wp2_with fail
      refine (wakes _).mono ?_
      rintro e w2 ⟨rfl, nd1, rfl⟩
      go_wp2_with fail
      refine (HL.out.1 _).mono ?_
      rintro e w2 ⟨rfl, rfl⟩
      go_wp2_with fail
      refine (HL.out.2.1 _).mono ?_
      rintro e w2 ⟨rfl, rfl⟩
      go_wp2_with fail
      refine (HL.out.2.2.1 _).mono ?_
      rintro e w2 ⟨rfl, rfl⟩
      go_wp2_with fail
      refine (hno _).mono ?_
      rintro e w2 ⟨rfl, nd2, rfl⟩
      go_wp2_with fail
      refine (HL.out.2.2.2 _).mono ?_
      rintro e w2 ⟨rfl, nd3, rfl⟩
      go_wp2
      go_ret
      exact ⟨rfl, nd1 + nd2 + nd3, by simp [World.drewN, Nat.add_assoc]⟩
  obtain ⟨k, rfl⟩ : ∃ k : Nat, o = k := ⟨o.toNat, by omega⟩
  have hk : k ≤ b.size := by omega
  have hN := HN.out
  have hS := HS.out
  have eb := at_ok b (by omega) k hk
  have eab := at_ok (a ++ b) (by omega) (a.size + k) (by omega)
  rw [row_append a b hk, col_append a b hk] at eab
  have hcb := col_le b k
  have hrb := row_le b k
  have w4 : IntKind.i64.wrap ((a.size : Int) + (k : Int)) = ((a.size + k : Nat) : Int) := by rw [IntKind.wrap_i64]; omega
  obtain ⟨r2, hr2⟩ : ∃ r2 : Int, ((row b k : Nat) : Int) = r2 := ⟨_, rfl⟩
  obtain ⟨c2, hc2⟩ : ∃ c2 : Int, ((col b k : Nat) : Int) = c2 := ⟨_, rfl⟩
  have R1 := of_int (x := r1) (by omega)
  have C1 := of_int (x := c1) (by omega)
  have R2 := of_int (x := r2) (by omega)
  have C2 := of_int (x := c2) (by omega)
  rw [hr2, hc2] at eb
  have e3 : ((ends a + row b k : Nat) : Int) = r2 + r1 := by omega
  rw [e3] at eab
  obtain ⟨x0, y0, s0, X0, Y0⟩ := sum_rep C2 R2 rep_zero R1 (by omega) (by omega)
  have hadd := fun W => run_complex_sum (P := Try.prog) W .add (Or.inl rfl) 24 .f64 _ _ _ _ _ _ s0
  have hadd : ∀ W, (binOp .add 24 (.complex .f64 (floatOfInt .f64 c2) (floatOfInt .f64 r2)) (.complex .f64 0 (floatOfInt .f64 r1))).run Try.prog W = .ok (.complex .f64 x0 y0) W := hadd
  by_cases z : row b k = 0
  · rw [if_pos z] at eab
    have e4 : ((col a a.size + col b k : Nat) : Int) = c2 + c1 := by omega
    rw [e4] at eab
    obtain ⟨x1, y1, s1, X1, Y1⟩ := sum_rep C2 R2 C1 R1 (by omega) (by omega)
    have hadd1 := fun W => run_complex_sum (P := Try.prog) W .add (Or.inl rfl) 24 .f64 _ _ _ _ _ _ s1
    have hadd1 : ∀ W, (binOp .add 24 (.complex .f64 (floatOfInt .f64 c2) (floatOfInt .f64 r2)) (.complex .f64 (floatOfInt .f64 c1) (floatOfInt .f64 r1))).run Try.prog W = .ok (.complex .f64 x1 y1) W := hadd1
    have t0 : FloatKind.f64.format.order (floatOfInt .f64 r2) 0 = some .eq := by
      have h : FloatKind.f64.format.order (floatOfInt .f64 r2) 0 = some (compare r2 0) := R2.order rep_zero
      rw [h, show r2 = 0 by omega]
      rfl
    have v1 := eq_rep (of_int (x := c2 + c1) (by omega)) X1
    have v2 := eq_rep (of_int (x := r2 + r1) (by omega)) Y1
    rw [decide_eq_true rfl] at v1 v2
    have v1 : (FloatKind.f64.format.order (floatOfInt .f64 (c2 + c1)) x1 == some .eq) = true := v1
    have v2 : (FloatKind.f64.format.order (floatOfInt .f64 (r2 + r1)) y1 == some .eq) = true := v2
    have q1 : decide ((k : Int) < 0) = false := decide_eq_false (by omega)
    clear hN hS hcb hrb R1 C1 R2 C2 e3 s0 X0 Y0 z e4 s1 X1 Y1 hr2 hc2 c hk
    go_enter Try.func3, Try.ntmps3
    go_wp2_with fail
    refine (wakes _).mono ?_
    rintro e w2 ⟨rfl, nd1, rfl⟩
    go_wp2_with fail
    refine (HL.out.1 _).mono ?_
    rintro e w2 ⟨rfl, rfl⟩
    go_wp2_with fail
    refine (HL.out.2.1 _).mono ?_
    rintro e w2 ⟨rfl, rfl⟩
    go_wp2_with fail
    refine (HL.out.2.2.1 _).mono ?_
    rintro e w2 ⟨rfl, rfl⟩
    go_wp2_with fail
    refine (eb _).mono ?_
    rintro e w2 ⟨rfl, nd2, rfl⟩
    go_wp2_with fail
    refine (HL.out.2.2.2 _).mono ?_
    rintro e w2 ⟨rfl, nd3, rfl⟩
    go_wp2_with fail
    refine (eab _).mono ?_
    rintro e w2 ⟨rfl, nd4, rfl⟩
    clear eab
    go_wp2
    go_ret
    exact ⟨rfl, nd1 + nd2 + nd3 + nd4, by simp [World.drewN, Nat.add_assoc]⟩
  · rw [if_neg z, hc2] at eab
    have t0 : (FloatKind.f64.format.order (floatOfInt .f64 r2) 0 == some Ordering.eq) = false := by
      have h := eq_rep R2 rep_zero
      rw [decide_eq_false (by omega)] at h
      exact h
    have v1 := eq_rep (of_int (x := c2) (by omega)) X0
    have v2 := eq_rep (of_int (x := r2 + r1) (by omega)) Y0
    rw [decide_eq_true (by omega)] at v1 v2
    have v1 : (FloatKind.f64.format.order (floatOfInt .f64 c2) x0 == some .eq) = true := v1
    have v2 : (FloatKind.f64.format.order (floatOfInt .f64 (r2 + r1)) y0 == some .eq) = true := v2
    have q1 : decide ((k : Int) < 0) = false := decide_eq_false (by omega)
    clear hN hS hcb hrb R1 C1 R2 C2 e3 s0 X0 Y0 z hr2 hc2 c hk
    go_enter Try.func3, Try.ntmps3
    go_wp2_with fail
    refine (wakes _).mono ?_
    rintro e w2 ⟨rfl, nd1, rfl⟩
    go_wp2_with fail
    refine (HL.out.1 _).mono ?_
    rintro e w2 ⟨rfl, rfl⟩
    go_wp2_with fail
    refine (HL.out.2.1 _).mono ?_
    rintro e w2 ⟨rfl, rfl⟩
    go_wp2_with fail
    refine (HL.out.2.2.1 _).mono ?_
    rintro e w2 ⟨rfl, rfl⟩
    go_wp2_with fail
    refine (eb _).mono ?_
    rintro e w2 ⟨rfl, nd2, rfl⟩
    go_wp2_with fail
    refine (HL.out.2.2.2 _).mono ?_
    rintro e w2 ⟨rfl, nd3, rfl⟩
    go_wp2_with fail
    refine (eab _).mono ?_
    rintro e w2 ⟨rfl, nd4, rfl⟩
    clear eab
    go_wp2
    go_ret
    exact ⟨rfl, nd1 + nd2 + nd3 + nd4, by simp [World.drewN, Nat.add_assoc]⟩
theorem lines_row (a b : ByteArray) (o : Int) (w : World) (ha : a.size ≤ 1125899906842624) (hb : b.size ≤ 1125899906842624) (_ : (Lit.int .i64 o).wf = true) :
    Calls Try.prog 3 #[.string a, .string b, .int .i64 o] w fun e w' => e = .returned (.bool true) ∧ Below w.heap.size w w' := by
  refine (lines_walk a b o ha hb w).mono ?_
  rintro e w' ⟨rfl, nd, rfl⟩
  exact ⟨rfl, pw_below_drewN (Below.refl w.heap.size w) nd⟩
end Go.Proofs.Ytiogebcbndhgfaa.Cur
