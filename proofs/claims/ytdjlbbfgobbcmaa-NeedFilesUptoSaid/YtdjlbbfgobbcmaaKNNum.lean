/- Amounts of whole numbers: what the program asks of them, as contracts. -/
import Derived.Test.YtdjlbbfgobbcmaaProg
import Derived.Test.YtdjlbbfgobbcmaaTWords
import Derived.Test.YtdjlbbfgobbcmaaWWords
import Derived.Test.YtdjlbbfgobbcmaaWLast
import Derived.WalkKit
import Derived.WalkSpells
import Derived.WalkLawsBesides
import Derived.StillTailTactics
import Derived.StillTactics
import Derived.Laws.Externs
namespace Go.Proofs.Ytdjlbbfgobbcmaa.Need
open Go.RowKit Go.Proofs.Ytdjlbbfgobbcmaa.PlainFloat Go.Proofs.Ytdjlbbfgobbcmaa.Turn Go.Proofs.YtdjlbbfgobbcmaaW.PrintWords
set_option linter.unusedVariables false
set_option linter.unusedSimpArgs false
open Ieee in
theorem integral_rep {x : Nat} {a : Int} (h : Rep x a) : ∃ d, FloatKind.f64.decode x = d ∧ d.isNaN = false ∧ Rep (FloatKind.f64.encode (d.integral .zero)) a := by
  obtain ⟨s, m, i, n, r1, i1, p1, hn, rfl⟩ := h.read
  refine ⟨_, r1, rfl, ?_⟩
  have ht := h.toInt
  rw [r1] at ht
  unfold Datum.toInt at ht
  unfold Datum.integral at ht ⊢
  dsimp only at ht ⊢
  have hs := Option.some.inj ht
  have he : Toward.zero.cut s (m <<< i.toNat) (-i).toNat = n := by
    have := congrArg Int.natAbs hs
    rw [sgn_abs] at this
    unfold signed at this
    rw [Nat.shiftLeft_zero] at this
    cases s <;> simpa using this
  rw [he]
  exact Rep.of_int (s := s) (m := n) (p := 0) ⟨rfl, Or.inl ⟨by decide, by simp⟩⟩ hn
theorem arch (x z : Nat) {d : Ieee.Datum} (hd : FloatKind.f64.decode x = d) (hn : d.isNaN = false) (hz : FloatKind.f64.encode (d.integral .zero) = z) (W : World) :
    (callFunc 40 #[.float .f64 x]).run Try.prog W = .ok (.value (.float .f64 z)) W := by
  rw [run_callFunc_extern (fn := Try.f40) (e := Extern.MathFloor.toIntegral "math.archTrunc" .zero) Try.func40 (by kernel_rfl) (by kernel_rfl) (by kernel_rfl) (by kernel_rfl)]
  change (Sem.run Try.prog (Extern.MathFloor.toIntegral.match_1 (fun _ => Sem Value) (FloatKind.f64.decode x) _ _) W).andThen _ = _
  rw [hd]
  cases d with
  | nan s t => exact absurd hn (by simp [Ieee.Datum.isNaN])
  | infinity s => subst hz; rfl
  | number s m p => subst hz; rfl
theorem trunc (x : Nat) (a : Int) (h : Rep x a) (w : World) : Calls Try.prog 35 #[.float .f64 x] w fun e w' => ∃ z, e = .returned (.float .f64 z) ∧ Rep z a ∧ w = w' := by
  obtain ⟨d, hd, hn, hr⟩ := integral_rep h
  obtain ⟨z, hz⟩ : ∃ z, FloatKind.f64.encode (d.integral .zero) = z := ⟨_, rfl⟩
  have ha := fun W => arch x z hd hn hz W
  rw [hz] at hr
  have HR := Aside0.mk hr
  clear hr hd hn hz h
  go_enter Try.func35, Try.ntmps35
  go_wp2
  go_ret
  exact ⟨z, rfl, HR.out, rfl⟩
theorem ord_rep {a b : Nat} {x y : Int} (ha : Rep a x) (hb : Rep b y) : FloatKind.f64.format.order a b = some (compare x y) := ha.order hb
theorem geq_bool {a b : Nat} {x y : Int} (ha : Rep a x) (hb : Rep b y) (h : y ≤ x) : (FloatKind.f64.format.order a b == some Ordering.gt || FloatKind.f64.format.order a b == some Ordering.eq) = true := by
  rw [ord_rep ha hb]
  simp only [compare, compareOfLessAndEq]
  by_cases c : x < y
  · omega
  · rw [if_neg c]
    by_cases d : x = y <;> simp [d]
theorem leq_bool {a b : Nat} {x y : Int} (ha : Rep a x) (hb : Rep b y) (h : x ≤ y) : (FloatKind.f64.format.order a b == some Ordering.lt || FloatKind.f64.format.order a b == some Ordering.eq) = true := by
  rw [ord_rep ha hb]
  simp only [compare, compareOfLessAndEq]
  by_cases c : x < y
  · simp [c]
  · rw [if_neg c, if_pos (show x = y by omega)]
    rfl
theorem same_ord {a b : Nat} {x : Int} (ha : Rep a x) (hb : Rep b x) : FloatKind.f64.format.order a b = some .eq := by
  rw [ord_rep ha hb]
  simp [compare, compareOfLessAndEq]
theorem rep_most : Rep 4742290407621132288 1073741824 := ⟨false, 1073741824, by decide, by decide, by decide⟩
theorem rep_three : Rep 4613937818241073152 3 := ⟨false, 3, by decide, by decide, by decide⟩
/-- A part of an amount. -/
def Part (a : Int) : Prop := 0 ≤ a ∧ a ≤ 1073741824
theorem whole (x : Nat) (a : Int) (h : Rep x a) (p : Part a) (w : World) : Calls Try.prog 29 #[.float .f64 x] w fun e w' => e = .returned (.bool true) ∧ w = w' := by
  have hge := geq_bool h rep_zero p.1
  have hle := leq_bool h rep_most p.2
  have H := Aside0.mk h
  clear h p
  go_enter Try.func29, Try.ntmps29
  go_wp2_with fail
  refine (trunc x a H.out _).mono ?_
  rintro e w2 ⟨z, rfl, hz, rfl⟩
  have heq := same_ord H.out hz
  clear hz
  go_wp2
  go_ret
  exact ⟨rfl, rfl⟩
theorem sound (x y : Nat) (a b : Int) (hx : Rep x a) (hy : Rep y b) (p : Part a) (q : Part b) (w : World) : Calls Try.prog 19 #[.complex .f64 x y] w fun e w' => e = .returned (.bool true) ∧ w = w' := by
  have H := Aside0.mk (And.intro (And.intro hx hy) (And.intro p q))
  clear hx hy p q
  go_enter Try.func19, Try.ntmps19
  go_wp2_with fail
  refine (whole x a H.out.1.1 H.out.2.1 _).mono ?_
  rintro e w2 ⟨rfl, rfl⟩
  go_wp2_with fail
  refine (whole y b H.out.1.2 H.out.2.2 _).mono ?_
  rintro e w2 ⟨rfl, rfl⟩
  go_wp2
  go_ret
  exact ⟨rfl, rfl⟩
theorem amount (a b : Int) (p : Part a) (q : Part b) (w : World) : Calls Try.prog 17 #[.int .i64 a, .int .i64 b] w fun e w' => e = .returned (.tuple #[.complex .f64 (floatOfInt .f64 a) (floatOfInt .f64 b), .int .i64 0]) ∧ w = w' := by
  have H := Aside0.mk (And.intro p q)
  clear p q
  go_enter Try.func17, Try.ntmps17
  go_wp2_with fail
  refine (sound (floatOfInt .f64 a) (floatOfInt .f64 b) a b (of_int (x := a) (by have := H.out.1; unfold Part at this; omega)) (of_int (x := b) (by have := H.out.2; unfold Part at this; omega)) H.out.1 H.out.2 _).mono ?_
  rintro e w2 ⟨rfl, rfl⟩
  go_wp2
  go_ret2
  exact ⟨rfl, rfl⟩
theorem wakes (w : World) : Calls Try.prog 6 #[] w fun e w' => e = .returned (.bool true) ∧ w = w' := by
  have o1 := eq_rep (of_int (x := 3) (by decide)) rep_three
  have o2 := eq_rep (of_int (x := 1) (by decide)) rep_one
  rw [decide_eq_true (by decide)] at o1 o2
  have o1 : (FloatKind.f64.format.order (floatOfInt .f64 3) 4613937818241073152 == some .eq) = true := o1
  have o2 : (FloatKind.f64.format.order (floatOfInt .f64 1) 4607182418800017408 == some .eq) = true := o2
  go_enter Try.func6, Try.ntmps6
  go_wp2_with fail
  refine (amount 3 1 ⟨by decide, by decide⟩ ⟨by decide, by decide⟩ _).mono ?_
  rintro e w2 ⟨rfl, rfl⟩
  generalize floatOfInt .f64 3 = x at *
  generalize floatOfInt .f64 1 = y at *
  go_wp2
  go_ret
  exact ⟨rfl, rfl⟩
theorem sub_rep {a b c d : Nat} {x y u v : Int} (ha : Rep a x) (hb : Rep b y) (hc : Rep c u) (hd : Rep d v) (h1 : (x - u).natAbs < 2 ^ 53) (h2 : (y - v).natAbs < 2 ^ 53) :
    ∃ re im, cSumBits .sub .f64 a b c d = some (re, im) ∧ Rep re (x - u) ∧ Rep im (y - v) := by
  obtain ⟨re, e1, r1⟩ := ha.sub hc h1
  obtain ⟨im, e2, r2⟩ := hb.sub hd h2
  refine ⟨re, im, ?_, r1, r2⟩
  have f1 : floatBits .sub .f64 a c = some re := e1
  have f2 : floatBits .sub .f64 b d = some im := e2
  unfold cSumBits
  rw [f1, f2]
  rfl
theorem fits (x y z u : Nat) (a b c d : Int) (hx : Rep x a) (hy : Rep y b) (hz : Rep z c) (hu : Rep u d) (p : Part a) (q : Part b) (r : Part c) (s : Part d) (hac : a ≤ c) (hbd : b ≤ d) (w : World) :
    Calls Try.prog 8 #[.complex .f64 x y, .complex .f64 z u] w fun e w' => e = .returned (.tuple #[.bool true, .int .i64 0]) ∧ w = w' := by
  obtain ⟨re, im, es, rs, is⟩ := sub_rep hz hu hx hy (by unfold Part at *; omega) (by unfold Part at *; omega)
  have g1 := geq_bool rs rep_zero (by omega)
  have g2 := geq_bool is rep_zero (by omega)
  have hsub := fun W => run_complex_sum (P := Try.prog) W .sub (Or.inr rfl) 25 .f64 _ _ _ _ _ _ es
  have H := Aside0.mk (And.intro (And.intro hx hy) (And.intro hz hu))
  have G := Aside0.mk (And.intro (And.intro p q) (And.intro r s))
  clear hx hy hz hu p q r s hac hbd rs is es
  go_enter Try.func8, Try.ntmps8
  go_wp2_with fail
  refine (sound x y a b H.out.1.1 H.out.1.2 G.out.1.1 G.out.1.2 _).mono ?_
  rintro e w2 ⟨rfl, rfl⟩
  go_wp2_with fail
  refine (sound z u c d H.out.2.1 H.out.2.2 G.out.2.1 G.out.2.2 _).mono ?_
  rintro e w2 ⟨rfl, rfl⟩
  go_wp2
  go_ret2
  exact ⟨rfl, rfl⟩
end Go.Proofs.Ytdjlbbfgobbcmaa.Need
