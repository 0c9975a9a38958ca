/- math.Trunc of a whole number: a contract. -/
import Derived.Test.YtmjgmompcaanlaaTFrom
import Derived.Laws.Externs
namespace Go.Proofs.Ytmjgmompcaanlaa.Turn
open Go.RowKit Go.Proofs.Ytmjgmompcaanlaa.PlainFloat Go.Proofs.YtmjgmompcaanlaaW.PrintWords
set_option linter.unusedVariables false
set_option linter.unusedSimpArgs false
open Ieee in
theorem integral_rep {x : Nat} {a : Int} (h : Rep x a) : ∃ d, FloatKind.f64.decode x = d ∧ d.isNaN = false ∧ Rep (FloatKind.f64.encode (d.integral .zero)) a := by
  obtain ⟨s, m, i, n, r1, i1, p1, hn, rfl⟩ := h.read
  refine ⟨_, r1, rfl, ?_⟩
  have ht := h.toInt
  rw [r1] at ht
  unfold Datum.toInt at ht
  unfold Datum.integral at ht ⊢
  dsimp only at ht ⊢
  have hs := Option.some.inj ht
  have he : Toward.zero.cut s (m <<< i.toNat) (-i).toNat = n := by
    have := congrArg Int.natAbs hs
    rw [sgn_abs] at this
    unfold signed at this
    rw [Nat.shiftLeft_zero] at this
    cases s <;> simpa using this
  rw [he]
  exact Rep.of_int (s := s) (m := n) (p := 0) ⟨rfl, Or.inl ⟨by decide, by simp⟩⟩ hn
theorem arch (x z : Nat) {d : Ieee.Datum} (hd : FloatKind.f64.decode x = d) (hn : d.isNaN = false) (hz : FloatKind.f64.encode (d.integral .zero) = z) (W : World) :
    (callFunc 21 #[.float .f64 x]).run Try.prog W = .ok (.value (.float .f64 z)) W := by
  rw [run_callFunc_extern (fn := Try.f21) (e := Extern.MathFloor.toIntegral "math.archTrunc" .zero) Try.func21 (by kernel_rfl) (by kernel_rfl) (by kernel_rfl) (by kernel_rfl)]
  change (Sem.run Try.prog (Extern.MathFloor.toIntegral.match_1 (fun _ => Sem Value) (FloatKind.f64.decode x) _ _) W).andThen _ = _
  rw [hd]
  cases d with
  | nan s t => exact absurd hn (by simp [Ieee.Datum.isNaN])
  | infinity s => subst hz; rfl
  | number s m p => subst hz; rfl
theorem trunc (x : Nat) (a : Int) (h : Rep x a) (w : World) : Calls Try.prog 19 #[.float .f64 x] w fun e w' => ∃ z, e = .returned (.float .f64 z) ∧ Rep z a ∧ w = w' := by
  obtain ⟨d, hd, hn, hr⟩ := integral_rep h
  obtain ⟨z, hz⟩ : ∃ z, FloatKind.f64.encode (d.integral .zero) = z := ⟨_, rfl⟩
  have ha := fun W => arch x z hd hn hz W
  rw [hz] at hr
  have HR := Aside0.mk hr
  clear hr hd hn hz h
  go_enter Try.func19, Try.ntmps19
  go_wp2
  go_ret
  exact ⟨z, rfl, HR.out, rfl⟩
end Go.Proofs.Ytmjgmompcaanlaa.Turn
