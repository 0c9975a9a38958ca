/- The fixed call: a contract. -/
import Derived.Test.YtmjgmompcaanlaaTOf
import Derived.Test.YtmjgmompcaanlaaTEql
namespace Go.Proofs.Ytmjgmompcaanlaa.Turn
open Go.RowKit Go.Proofs.Ytmjgmompcaanlaa.PlainFloat Go.Proofs.YtmjgmompcaanlaaW.PrintWords
set_option linter.unusedVariables false
set_option linter.unusedSimpArgs false
attribute [local go_sem] run_store_complex
def wx : Nat → Int | 0 => 10 | 1 => -2 | 2 => -2 | _ => -2
def wy : Nat → Int | 0 => 0 | 1 => -2 | 2 => 0 | _ => 2
theorem wakes_const : SpecV (.agg #[.complex .f64 4621819117588971520 0, .complex .f64 13835058055282163712 13835058055282163712, .complex .f64 13835058055282163712 0, .complex .f64 13835058055282163712 4611686018427387904]) wx wy :=
  ⟨_, _, _, _, _, _, _, _, rfl, ⟨rep_ten, rep_zero⟩, ⟨rep_neg_two, rep_neg_two⟩, ⟨rep_neg_two, rep_zero⟩, ⟨rep_neg_two, rep_two⟩⟩
theorem wakes_same : alike (fun q => fr [1, 2, 3, 4] q 4) (fun q => fi [1, 2, 3, 4] q 4) wx wy = true := by decide
theorem wakes (w : World) : Calls Try.prog 7 #[] w fun e w' => e = .returned (.bool true) ∧ Below w.heap.size w w' := by
  go_enter Try.func7, Try.ntmps7
  go_wp2_with fail
  refine (of_calls (some ⟨w.heap.size, 0, none⟩) 4 [1, 2, 3, 4] _ ?_ ?_ ?_).mono ?_
  · refine ⟨rfl, by decide, fun _ => ⟨_, rfl, fun j hj => ?_⟩⟩
    rw [add_plain, blk_cell (blk_new w _) j]
    match j, hj with
    | 0, _ => rfl
    | 1, _ => rfl
    | 2, _ => rfl
    | 3, _ => rfl
  · intro i
    have h : i.toNat = 0 ∨ i.toNat = 1 ∨ i.toNat = 2 ∨ i.toNat = 3 ∨ 4 ≤ i.toNat := by omega
    unfold rd
    rcases h with h | h | h | h | h
    · rw [h]; decide
    · rw [h]; decide
    · rw [h]; decide
    · rw [h]; decide
    · rw [List.getD_eq_getElem?_getD, List.getElem?_eq_none (show ([1, 2, 3, 4] : List Int).length ≤ i.toNat from h)]
      decide
  · show 4 ≤ 4194304
    omega
  rintro e w1 ⟨v, rfl, hs, hb⟩
  have hs : SpecV v (fun q => fr [1, 2, 3, 4] q 4) (fun q => fi [1, 2, 3, 4] q 4) := hs
  have heq : ∀ W, (binOp .eql 26 v (.agg #[.complex .f64 4621819117588971520 0, .complex .f64 13835058055282163712 13835058055282163712, .complex .f64 13835058055282163712 0, .complex .f64 13835058055282163712 4611686018427387904])).run Try.prog W = .ok (.bool true) W := fun W => by
    rw [spec_eq hs wakes_const W, wakes_same]
  have hg := fun p q W => spec_guard hs wakes_const p q W
  clear hs
  have HB := Aside0.mk hb
  clear hb
  go_wp2
  go_ret
  exact ⟨rfl, below_then (below_alloc (Below.refl _ _) _) (by simp) HB.out⟩
end Go.Proofs.Ytmjgmompcaanlaa.Turn
