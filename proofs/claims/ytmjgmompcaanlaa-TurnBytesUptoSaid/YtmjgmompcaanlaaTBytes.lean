/- The spectrum of all bytes, and every power of i, is what the reference says: the walk of the law, for at most 4194304 bytes. -/
import Derived.Test.YtmjgmompcaanlaaTRefOf
import Derived.WalkKit
namespace Go.Proofs.Ytmjgmompcaanlaa.Turn
open Go.RowKit Go.Proofs.Ytmjgmompcaanlaa.PlainFloat Go.Proofs.YtmjgmompcaanlaaW.PrintWords
set_option linter.unusedVariables false
set_option linter.unusedSimpArgs false
attribute [local go_sem] run_store_complex
theorem bytes_list {l : List Int} (h : ∀ x ∈ l, (Lit.int .u8 x).wf = true) : ByteList l := by
  intro i
  unfold rd
  by_cases c : i.toNat < l.length
  · have hm : l.getD i.toNat 0 ∈ l := by
      rw [List.getD_eq_getElem?_getD, List.getElem?_eq_getElem c]
      exact List.getElem_mem c
    have := h _ hm
    simpa [Lit.wf, IntKind.min, IntKind.max, IntKind.signed, IntKind.bits] using this
  · rw [List.getD_eq_getElem?_getD, List.getElem?_eq_none (by omega)]
    decide
set_option maxHeartbeats 1000000 in
theorem bytes_walk (A : Option Addr) (c : Nat) (l : List Int) (n : Int) (w : World) (hr : ReadsInt w .u8 A l.length l) (hb : ByteList l) (hl : l.length ≤ 4194304) :
    Calls Try.prog 3 #[.slice A l.length c, .int .i64 n] w fun e w' => e = .returned (.bool true) ∧ Below w.heap.size w w' := by
  have HR := Aside0.mk hr
  have HY := Aside0.mk hb
  clear hr hb
  have p1 := eq_rep (prb_rep n) (prb_rep n)
  have p2 := eq_rep (pib_rep n) (pib_rep n)
  rw [decide_eq_true rfl] at p1 p2
  go_enter Try.func3, Try.ntmps3
  go_wp2_with fail
  refine (wakes _).mono ?_
  rintro e w1 ⟨rfl, hb1⟩
  have HB1 := Aside0.mk hb1
  clear hb1
  go_wp2_with fail
  refine (of_calls A c l _ (HR.out.below HB1.out) HY.out hl).mono ?_
  rintro e w2 ⟨u, rfl, hu, hb2⟩
  have HB2 := Aside0.mk (below_then HB1.out HB1.out.size hb2)
  have HU := Aside0.mk hu
  clear hu hb2
  go_wp2_with fail
  refine (rof_calls A c l _ (HR.out.below HB2.out) HY.out hl).mono ?_
  rintro e w3 ⟨v, rfl, hv, hb3⟩
  have HB3 := Aside0.mk (below_then HB2.out HB2.out.size hb3)
  have heq : ∀ W, (binOp .eql 26 u v).run Try.prog W = .ok (.bool true) W := fun W => by
    rw [spec_eq HU.out hv W, alike_same (fun q hq => fr_is l l.length q hq)]
  have hg := fun p q W => spec_guard HU.out hv p q W
  clear hv hb3
  go_wp2_with (first | (go_at_call 10; refine (power _ _).mono ?_; rintro e w' ⟨rfl, rfl⟩) | (go_at_call 11; refine (rpower _ _).mono ?_; rintro e w' ⟨rfl, rfl⟩))
  go_ret
  exact ⟨rfl, HB3.out⟩
theorem bytes_row (A : Option Addr) (c : Nat) (l : List Int) (n : Int) (w : World) (hr : ReadsInt w .u8 A l.length l) (_ : l.length ≤ c) (hw : ∀ x ∈ l, (Lit.int .u8 x).wf = true) (hl : l.length ≤ 1048576) (_ : (Lit.int .i64 n).wf = true) :
    Calls Try.prog 3 #[.slice A l.length c, .int .i64 n] w fun e w' => e = .returned (.bool true) ∧ Below w.heap.size w w' := bytes_walk A c l n w hr (bytes_list hw) (by omega)
end Go.Proofs.Ytmjgmompcaanlaa.Turn
