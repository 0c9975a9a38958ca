/- Numbers that are parts of a place: what the program asks of them, and the offset of a place, as contracts. -/
import Derived.Test.YtiogebcbndhgfaaKCLine
namespace Go.Proofs.Ytiogebcbndhgfaa.Cur
open Go.RowKit Go.Proofs.Ytiogebcbndhgfaa.PCursorLines Go.Proofs.Ytiogebcbndhgfaa.PlainFloat Go.Proofs.Ytiogebcbndhgfaa.Turn Go.Proofs.YtiogebcbndhgfaaW.PrintWords Go.Proofs.YtiogebcbndhgfaaW.PrintLast Go.Proofs.YtiogebcbndhgfaaW.PrintMore
set_option linter.unusedVariables false
set_option linter.unusedSimpArgs false
open Ieee in
theorem integral_rep {x : Nat} {a : Int} (h : Rep x a) : ∃ d, FloatKind.f64.decode x = d ∧ d.isNaN = false ∧ Rep (FloatKind.f64.encode (d.integral .zero)) a := by
  obtain ⟨s, m, i, n, r1, i1, p1, hn, rfl⟩ := h.read
  refine ⟨_, r1, rfl, ?_⟩
  have ht := h.toInt
  rw [r1] at ht
  unfold Datum.toInt at ht
  unfold Datum.integral at ht ⊢
  dsimp only at ht ⊢
  have hs := Option.some.inj ht
  have he : Toward.zero.cut s (m <<< i.toNat) (-i).toNat = n := by
    have := congrArg Int.natAbs hs
    rw [sgn_abs] at this
    unfold signed at this
    rw [Nat.shiftLeft_zero] at this
    cases s <;> simpa using this
  rw [he]
  exact Rep.of_int (s := s) (m := n) (p := 0) ⟨rfl, Or.inl ⟨by decide, by simp⟩⟩ hn
theorem arch (x z : Nat) {d : Ieee.Datum} (hd : FloatKind.f64.decode x = d) (hn : d.isNaN = false) (hz : FloatKind.f64.encode (d.integral .zero) = z) (W : World) :
    (callFunc 26 #[.float .f64 x]).run Try.prog W = .ok (.value (.float .f64 z)) W := by
  rw [run_callFunc_extern (fn := Try.f26) (e := Extern.MathFloor.toIntegral "math.archTrunc" .zero) Try.func26 (by kernel_rfl) (by kernel_rfl) (by kernel_rfl) (by kernel_rfl)]
  change (Sem.run Try.prog (Extern.MathFloor.toIntegral.match_1 (fun _ => Sem Value) (FloatKind.f64.decode x) _ _) W).andThen _ = _
  rw [hd]
  cases d with
  | nan s t => exact absurd hn (by simp [Ieee.Datum.isNaN])
  | infinity s => subst hz; rfl
  | number s m p => subst hz; rfl
theorem trunc (x : Nat) (a : Int) (h : Rep x a) (w : World) : Calls Try.prog 21 #[.float .f64 x] w fun e w' => ∃ z, e = .returned (.float .f64 z) ∧ Rep z a ∧ w = w' := by
  obtain ⟨d, hd, hn, hr⟩ := integral_rep h
  obtain ⟨z, hz⟩ : ∃ z, FloatKind.f64.encode (d.integral .zero) = z := ⟨_, rfl⟩
  have ha := fun W => arch x z hd hn hz W
  rw [hz] at hr
  have HR := Aside0.mk hr
  clear hr hd hn hz h
  go_enter Try.func21, Try.ntmps21
  go_wp2
  go_ret
  exact ⟨z, rfl, HR.out, rfl⟩
theorem ord_rep {a b : Nat} {x y : Int} (ha : Rep a x) (hb : Rep b y) : FloatKind.f64.format.order a b = some (compare x y) := ha.order hb
theorem geq_bool {a b : Nat} {x y : Int} (ha : Rep a x) (hb : Rep b y) (h : y ≤ x) : (FloatKind.f64.format.order a b == some Ordering.gt || FloatKind.f64.format.order a b == some Ordering.eq) = true := by
  rw [ord_rep ha hb]
  simp only [compare, compareOfLessAndEq]
  by_cases c : x < y
  · omega
  · rw [if_neg c]
    by_cases d : x = y <;> simp [d]
theorem leq_bool {a b : Nat} {x y : Int} (ha : Rep a x) (hb : Rep b y) (h : x ≤ y) : (FloatKind.f64.format.order a b == some Ordering.lt || FloatKind.f64.format.order a b == some Ordering.eq) = true := by
  rw [ord_rep ha hb]
  simp only [compare, compareOfLessAndEq]
  by_cases c : x < y
  · simp [c]
  · rw [if_neg c, if_pos (show x = y by omega)]
    rfl
theorem same_ord {a b : Nat} {x : Int} (ha : Rep a x) (hb : Rep b x) : FloatKind.f64.format.order a b = some .eq := by
  rw [ord_rep ha hb]
  simp [compare, compareOfLessAndEq]
theorem rep_most : Rep 4742290407621132288 1073741824 := ⟨false, 1073741824, by decide, by decide, by decide⟩
/-- A part of a place. -/
def Part (a : Int) : Prop := 0 ≤ a ∧ a ≤ 1073741824
theorem whole (x : Nat) (a : Int) (h : Rep x a) (p : Part a) (w : World) : Calls Try.prog 14 #[.float .f64 x, .float .f64 0] w fun e w' => e = .returned (.bool true) ∧ w = w' := by
  have hge := geq_bool h rep_zero p.1
  have hle := leq_bool h rep_most p.2
  have H := Aside0.mk h
  clear h p
  go_enter Try.func14, Try.ntmps14
  go_wp2_with fail
  refine (trunc x a H.out _).mono ?_
  rintro e w2 ⟨z, rfl, hz, rfl⟩
  have heq := same_ord H.out hz
  clear hz
  go_wp2
  go_ret
  exact ⟨rfl, rfl⟩
theorem int_rep {a : Nat} {x : Int} (h : Rep a x) (hs : Part x) : floatToIntVal .f64 a .i64 = some x := by
  have ht : (FloatKind.f64.decode a).toInt .zero = some x := h.toInt
  unfold floatToIntVal
  rw [ht]
  unfold Part at hs
  simp only [IntKind.min, IntKind.max, IntKind.signed, IntKind.bits]
  rw [if_pos]
  simp
  omega
set_option maxHeartbeats 2000000 in
set_option maxRecDepth 100000 in
theorem offset_calls (s : ByteArray) (hs : s.size ≤ 1073741824) (o : Nat) (h : o ≤ s.size) (w : World) :
    Calls Try.prog 9 #[.string s, .complex .f64 (floatOfInt .f64 (col s o)) (floatOfInt .f64 (row s o))] w fun e w' => e = .returned (.tuple #[.int .i64 o, .int .i64 0]) ∧ ∃ nd, w' = w.drewN nd := by
  obtain ⟨b1, b2, b3, b4, b5⟩ := beg_facts s o h
  have hL := line_calls s (by omega) o h
  have hN := lines_calls s (by omega)
  have hsl := size_list s
  have hn : row s o ≤ ends s := by
    rw [← b2]
    unfold ends Lib.countByte
    exact (List.take_sublist _ _).count_le 10
  have hle : ends s ≤ s.size := by
    unfold ends Lib.countByte
    exact Nat.le_trans List.count_le_length (by omega)
  have hc : col s o ≤ s.size := by omega
  generalize first (s.data.toList.drop (beg s o)) = z at *
  obtain ⟨x, hx⟩ : ∃ x, floatOfInt .f64 (col s o) = x := ⟨_, rfl⟩
  obtain ⟨y, hy⟩ : ∃ y, floatOfInt .f64 (row s o) = y := ⟨_, rfl⟩
  have X : Rep x (col s o : Nat) := by rw [← hx]; exact of_int (by omega)
  have Y : Rep y (row s o : Nat) := by rw [← hy]; exact of_int (by omega)
  rw [hx, hy]
  generalize beg s o = B at *
  generalize row s o = n at *
  generalize col s o = c at *
  have px : Part (c : Int) := ⟨by omega, by omega⟩
  have py : Part (n : Int) := ⟨by omega, by omega⟩
  have wx := whole x c X px
  have wy := whole y n Y py
  have hcx := fun W => run_convert_float_int (P := Try.prog) W 28 3 .f64 .i64 x c (by kernel_rfl) (by kernel_rfl) (int_rep X px)
  have hcy := fun W => run_convert_float_int (P := Try.prog) W 28 3 .f64 .i64 y n (by kernel_rfl) (by kernel_rfl) (int_rep Y py)
  obtain ⟨m, hm⟩ : ∃ m : Nat, ends s + 1 = m := ⟨_, rfl⟩
  rw [hm] at hN
  have d1 : decide ((m : Int) ≤ (n : Int)) = false := decide_eq_false (by omega)
  have d2 : decide ((z : Int) < (c : Int)) = false := decide_eq_false (by omega)
  have g1 : (n : Int) < (m : Int) := by omega
  have g2 : (c : Int) ≤ (z : Int) := by omega
  have hw : IntKind.i64.wrap ((B : Int) + (c : Int)) = (o : Int) := by rw [IntKind.wrap_i64]; omega
  clear b1 b2 b3 b4 b5 hsl hn hle hc hx hy X Y px py hm hs h
  go_enter Try.func9, Try.ntmps9
  go_wp2_with fail
  refine (wx _).mono ?_
  rintro e w2 ⟨rfl, rfl⟩
  go_wp2_with fail
  refine (wy _).mono ?_
  rintro e w2 ⟨rfl, rfl⟩
  go_wp2_with fail
  refine (hN _).mono ?_
  rintro e w2 ⟨rfl, rfl⟩
  go_wp2_with fail
  refine (hL _).mono ?_
  rintro e w2 ⟨rfl, nd, rfl⟩
  go_wp2
  go_ret2
  exact ⟨rfl, nd, rfl⟩
end Go.Proofs.Ytiogebcbndhgfaa.Cur
