/- The law's own check of a name: a contract. -/
import Derived.Test.YtbplffdmggbcdaaKKDirent
namespace Go.Proofs.Ytbplffdmggbcdaa.Codec
open Go.RowKit Go.Proofs.Ytbplffdmggbcdaa.PCodecHeads Go.Proofs.Ytbplffdmggbcdaa.Plain Go.Proofs.Ytbplffdmggbcdaa.Pure Go.Proofs.YtbplffdmggbcdaaW.PrintWords Go.Proofs.YtbplffdmggbcdaaW.PrintLast Go.Proofs.YtbplffdmggbcdaaW.PrintMore
set_option linter.unusedVariables false
set_option linter.unusedSimpArgs false
theorem ab_ok : NameOk ⟨#[97, 98]⟩ := by
  refine ⟨by decide, by decide, by decide, by decide, fun i hi => ?_⟩
  have : i < 2 := hi
  match i, this with
  | 0, _ => exact .inl ⟨(by decide : (97 : Int) ≤ 97), (by decide : (97 : Int) ≤ 122)⟩
  | 1, _ => exact .inl ⟨(by decide : (97 : Int) ≤ 98), (by decide : (98 : Int) ≤ 122)⟩
theorem ab_out : dirOut 3 (bytesOf ⟨#[97, 98]⟩) = ([3, 0, 97, 98, 0, 0, 0, 0, 0, 0, 0, 0, 0, 0, 0, 0], 0) := by decide
theorem ab_str : strOfNums [3, 0, 97, 98, 0, 0, 0, 0, 0, 0, 0, 0, 0, 0, 0, 0] = ⟨#[3, 0, 97, 98, 0, 0, 0, 0, 0, 0, 0, 0, 0, 0, 0, 0]⟩ := by rfl
set_option maxHeartbeats 4000000 in
set_option maxRecDepth 100000 in
theorem wakes_calls (w : World) : Calls Try.prog 5 #[] w fun e w' => e = .returned (.bool true) ∧ Below w.heap.size w w' := by
  have h := dirent_ok 3 (by decide) ⟨#[97, 98]⟩ ab_ok w
  rw [ab_out] at h
  have HC := Aside0.mk h
  clear h
  go_enter Try.func5, Try.ntmps5
  go_wp2_with fail
  ((with_reducible refine HC.out.mono ?_); rintro e w2 ⟨v, rfl, hr, hb⟩)
  have HB := Aside0.mk hb
  obtain ⟨A, c, rfl, _, hC⟩ := brow_reads hr
  have hcv := Kd.C_string (P := Try.prog) (A := A) (c := c) Try.underlying27 Try.underlying5 Try.underlying9 hC
  rw [ab_str] at hcv
  simp only [List.length_cons, List.length_nil, Nat.zero_add, Nat.reduceAdd] at hcv
  clear hr hb HC hC
  go_wp2
  go_ret
  exact ⟨rfl, HB.out⟩
end Go.Proofs.Ytbplffdmggbcdaa.Codec
