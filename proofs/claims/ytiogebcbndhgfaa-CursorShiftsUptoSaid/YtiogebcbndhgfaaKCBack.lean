/- Offsets and places, there and back: the walk of the law CursorBack. -/
import Derived.Test.YtiogebcbndhgfaaKCOff
namespace Go.Proofs.Ytiogebcbndhgfaa.Cur
open Go.RowKit Go.Proofs.Ytiogebcbndhgfaa.PCursorLines Go.Proofs.Ytiogebcbndhgfaa.PlainFloat Go.Proofs.Ytiogebcbndhgfaa.Turn Go.Proofs.YtiogebcbndhgfaaW.PrintWords Go.Proofs.YtiogebcbndhgfaaW.PrintLast Go.Proofs.YtiogebcbndhgfaaW.PrintMore
set_option linter.unusedVariables false
set_option linter.unusedSimpArgs false
theorem take_next (s : ByteArray) (o : Nat) (h : o < s.size) : s.data.toList.take (o + 1) = s.data.toList.take o ++ [s[o]] := by
  rw [List.take_succ_eq_append_getElem (by simpa using h)]; rfl
theorem col_next (s : ByteArray) (o : Nat) (h : o < s.size) : col s (o + 1) = if s[o] = 10 then 0 else col s o + 1 := by
  unfold col
  rw [take_next s o h, tail_snoc]
theorem row_next (s : ByteArray) (o : Nat) (h : o < s.size) : row s (o + 1) = if s[o] = 10 then row s o + 1 else row s o := by
  unfold row Lib.countByte
  rw [take_next s o h, List.count_append]
  by_cases c : s[o] = 10
  · rw [if_pos c]; simp [c]
  · rw [if_neg c]; simp [c]
theorem row_le3 (s : ByteArray) (o : Nat) : row s o ≤ s.size := by
  unfold row Lib.countByte
  refine Nat.le_trans List.count_le_length ?_
  have h := size_list s
  rw [List.length_take]
  omega
set_option maxHeartbeats 4000000 in
set_option maxRecDepth 100000 in
theorem back_walk (s : ByteArray) (o : Int) (hs : s.size ≤ 1048576) (w : World) :
    Calls Try.prog 4 #[.string s, .int .i64 o] w fun e w' => e = .returned (.bool true) ∧ ∃ nd, w' = w.drewN nd := by
  by_cases c : o < 0 ∨ (s.size : Int) < o
  · have hno := at_no s o c
    by_cases c0 : o < 0
    · have q1 : decide (o < 0) = true := decide_eq_true c0
      clear c c0 hs
      go_enter Try.func4, Try.ntmps4
      go_wp2_with fail
      refine (wakes _).mono ?_
      rintro e w2 ⟨rfl, nd1, rfl⟩
      go_wp2_with fail
      refine (hno _).mono ?_
      rintro e w2 ⟨rfl, nd2, rfl⟩
      go_wp2
      go_ret
      exact ⟨rfl, nd1 + nd2, by simp [World.drewN, Nat.add_assoc]⟩
    · have q1 : decide (o < 0) = false := decide_eq_false c0
      have q2 : decide ((s.size : Int) < o) = true := decide_eq_true (by omega)
      clear c c0 hs
      go_enter Try.func4, Try.ntmps4
      go_wp2_with fail
      refine (wakes _).mono ?_
      rintro e w2 ⟨rfl, nd1, rfl⟩
      go_wp2_with fail
      refine (hno _).mono ?_
      rintro e w2 ⟨rfl, nd2, rfl⟩
      go_wp2
      go_ret
      exact ⟨rfl, nd1 + nd2, by simp [World.drewN, Nat.add_assoc]⟩
  obtain ⟨k, rfl⟩ : ∃ k : Nat, o = k := ⟨o.toNat, by omega⟩
  have hk : k ≤ s.size := by omega
  have hA := at_ok s (by omega) k hk
  have hO := offset_calls s (by omega) k hk
  have q1 : decide ((k : Int) < 0) = false := decide_eq_false (by omega)
  have q2 : decide (s.size < k) = false := decide_eq_false (by omega)
  have q3 : ((k : Int) != (k : Int)) = false := by simp
  have hw : IntKind.i64.wrap ((k : Int) + 1) = ((k + 1 : Nat) : Int) := by rw [IntKind.wrap_i64]; omega
  by_cases z : k = s.size
  · have hno := at_no s ((k + 1 : Nat) : Int) (Or.inr (by omega))
    have hL := lines_calls s (by omega)
    have he : ends s = row s k := by
      rw [z]
      unfold row ends
      rw [List.take_of_length_le (by rw [Array.length_toList]; exact Nat.le_refl _)]
    rw [he] at hL
    have hr := row_le3 s k
    obtain ⟨r, hrr⟩ : ∃ r : Int, ((row s k : Nat) : Int) = r := ⟨_, rfl⟩
    obtain ⟨cc, hcc⟩ : ∃ cc : Int, ((col s k : Nat) : Int) = cc := ⟨_, rfl⟩
    obtain ⟨n, hn⟩ : ∃ n : Int, ((row s k + 1 : Nat) : Int) = n := ⟨_, rfl⟩
    rw [hn] at hL
    rw [hrr, hcc] at hA hO
    have w3 : IntKind.i64.wrap (n - 1) = r := by rw [IntKind.wrap_i64]; omega
    have R := of_int (x := r) (by omega)
    have v1 := eq_rep R R
    rw [decide_eq_true rfl] at v1
    have v1 : (FloatKind.f64.format.order (floatOfInt .f64 r) (floatOfInt .f64 r) == some .eq) = true := v1
    have v2 : ((k : Int) == (s.size : Int)) = true := by rw [beq_iff_eq]; omega
    have v2n : (k == s.size) = true := by rw [beq_iff_eq]; omega
    clear hr hrr hcc hn he R c hs hk z
    go_enter Try.func4, Try.ntmps4
    go_wp2_with fail
    refine (wakes _).mono ?_
    rintro e w2 ⟨rfl, nd1, rfl⟩
    go_wp2_with fail
    refine (hA _).mono ?_
    rintro e w2 ⟨rfl, nd2, rfl⟩
    go_wp2_with fail
    refine (hO _).mono ?_
    rintro e w2 ⟨rfl, nd3, rfl⟩
    go_wp2_with fail
    refine (hno _).mono ?_
    rintro e w2 ⟨rfl, nd4, rfl⟩
    go_wp2_with fail
    refine (hL _).mono ?_
    rintro e w2 ⟨rfl, rfl⟩
    go_wp2
    go_ret
    exact ⟨rfl, nd1 + nd2 + nd3 + nd4, by simp [World.drewN, Nat.add_assoc]⟩
  · have hlt : k < s.size := by omega
    have hA2 := at_ok s (by omega) (k + 1) (by omega)
    have v2 : ((k : Int) == (s.size : Int)) = false := by rw [beq_eq_false_iff_ne]; omega
    have v2n : (k == s.size) = false := by rw [beq_eq_false_iff_ne]; omega
    have hr := row_le3 s k
    have hc2 := col_le2 s k (by omega)
    rw [col_next s k hlt, row_next s k hlt] at hA2
    have hlt2 : (k : Int) < (s.size : Int) := by omega
    obtain ⟨r, hrr⟩ : ∃ r : Int, ((row s k : Nat) : Int) = r := ⟨_, rfl⟩
    obtain ⟨cc, hcc⟩ : ∃ cc : Int, ((col s k : Nat) : Int) = cc := ⟨_, rfl⟩
    have R := of_int (x := r) (by omega)
    have C := of_int (x := cc) (by omega)
    by_cases t : s[k] = 10
    · rw [if_pos t, if_pos t] at hA2
      have e1 : ((row s k + 1 : Nat) : Int) = r + 1 := by omega
      rw [e1] at hA2
      rw [hrr, hcc] at hA hO
      obtain ⟨x, hx, X⟩ := R.add rep_one (by omega)
      have hadd := fun W => run_float_arith (P := Try.prog) W .add 28 .f64 (floatOfInt .f64 r) 4607182418800017408 x hx
      have v3 := eq_rep (of_int (x := r + 1) (by omega)) X
      rw [decide_eq_true rfl] at v3
      have v3 : (FloatKind.f64.format.order (floatOfInt .f64 (r + 1)) x == some .eq) = true := v3
      have v4 := eq_rep (of_int (x := 0) (by decide)) rep_zero
      rw [decide_eq_true rfl] at v4
      have v4 : (FloatKind.f64.format.order (floatOfInt .f64 0) 0 == some .eq) = true := v4
      have v5 : ((s[k].toNat : Int) == 10) = true := by rw [t]; rfl
      clear hr hc2 hrr hcc R C c hs hk z e1 hx X t
      go_enter Try.func4, Try.ntmps4
      go_wp2_with fail
      refine (wakes _).mono ?_
      rintro e w2 ⟨rfl, nd1, rfl⟩
      go_wp2_with fail
      refine (hA _).mono ?_
      rintro e w2 ⟨rfl, nd2, rfl⟩
      go_wp2_with fail
      refine (hO _).mono ?_
      rintro e w2 ⟨rfl, nd3, rfl⟩
      go_wp2_with fail
      refine (hA2 _).mono ?_
      rintro e w2 ⟨rfl, nd4, rfl⟩
      go_wp2
      go_ret
      exact ⟨rfl, nd1 + nd2 + nd3 + nd4, by simp [World.drewN, Nat.add_assoc]⟩
    · rw [if_neg t, if_neg t] at hA2
      have e1 : ((col s k + 1 : Nat) : Int) = cc + 1 := by omega
      rw [e1, hrr] at hA2
      rw [hrr, hcc] at hA hO
      obtain ⟨x, y, hx, X, Y⟩ := sum_rep C R rep_one rep_zero (by omega) (by omega)
      have hadd := fun W => run_complex_sum (P := Try.prog) W .add (Or.inl rfl) 24 .f64 _ _ _ _ _ _ hx
      have hadd : ∀ W, (binOp .add 24 (.complex .f64 (floatOfInt .f64 cc) (floatOfInt .f64 r)) (.complex .f64 4607182418800017408 0)).run Try.prog W = .ok (.complex .f64 x y) W := hadd
      have v3 := eq_rep (of_int (x := cc + 1) (by omega)) X
      rw [decide_eq_true rfl] at v3
      have v3 : (FloatKind.f64.format.order (floatOfInt .f64 (cc + 1)) x == some .eq) = true := v3
      have v4 := eq_rep R Y
      rw [decide_eq_true (by omega)] at v4
      have v4 : (FloatKind.f64.format.order (floatOfInt .f64 r) y == some .eq) = true := v4
      have v5 : ((s[k].toNat : Int) == 10) = false := by
        rw [beq_eq_false_iff_ne]
        intro h
        apply t
        have h : s[k].toNat = 10 := by omega
        exact UInt8.toNat_inj.1 h
      clear hr hc2 hrr hcc R C c hs hk z e1 hx X Y t
      go_enter Try.func4, Try.ntmps4
      go_wp2_with fail
      refine (wakes _).mono ?_
      rintro e w2 ⟨rfl, nd1, rfl⟩
      go_wp2_with fail
      refine (hA _).mono ?_
      rintro e w2 ⟨rfl, nd2, rfl⟩
      go_wp2_with fail
      refine (hO _).mono ?_
      rintro e w2 ⟨rfl, nd3, rfl⟩
      go_wp2_with fail
      refine (hA2 _).mono ?_
      rintro e w2 ⟨rfl, nd4, rfl⟩
      go_wp2
      go_ret
      exact ⟨rfl, nd1 + nd2 + nd3 + nd4, by simp [World.drewN, Nat.add_assoc]⟩
theorem back_row (s : ByteArray) (o : Int) (w : World) (hs : s.size ≤ 1048576) (_ : (Lit.int .i64 o).wf = true) :
    Calls Try.prog 4 #[.string s, .int .i64 o] w fun e w' => e = .returned (.bool true) ∧ Below w.heap.size w w' := by
  refine (back_walk s o hs w).mono ?_
  rintro e w' ⟨rfl, nd, rfl⟩
  exact ⟨rfl, pw_below_drewN (Below.refl w.heap.size w) nd⟩
end Go.Proofs.Ytiogebcbndhgfaa.Cur
