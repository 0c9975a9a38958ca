/- The law's own check of a name: a contract. -/
import Derived.Test.YtbplffdmggbcdaaDoorKKDirent
namespace Go.Proofs.YtbplffdmggbcdaaDoor.Codec
open Go.RowKit Go.Proofs.YtbplffdmggbcdaaDoor.PCodecKeeps Go.Proofs.YtbplffdmggbcdaaDoor.Plain Go.Proofs.YtbplffdmggbcdaaDoor.Pure Go.Proofs.YtbplffdmggbcdaaDoorW.PrintWords Go.Proofs.YtbplffdmggbcdaaDoorW.PrintLast Go.Proofs.YtbplffdmggbcdaaDoorW.PrintMore
set_option linter.unusedVariables false
set_option linter.unusedSimpArgs false
theorem ab_ok : NameOk ⟨#[97, 98]⟩ := by
  refine ⟨by decide, by decide, by decide, by decide, fun i hi => ?_⟩
  have : i < 2 := hi
  match i, this with
  | 0, _ => exact .inl ⟨(by decide : (97 : Int) ≤ 97), (by decide : (97 : Int) ≤ 122)⟩
  | 1, _ => exact .inl ⟨(by decide : (97 : Int) ≤ 98), (by decide : (98 : Int) ≤ 122)⟩
theorem ab_out : dirOut 3 (bytesOf ⟨#[97, 98]⟩) = ([3, 0, 97, 98, 0, 0, 0, 0, 0, 0, 0, 0, 0, 0, 0, 0], 0) := by decide
theorem ab_str : strOfNums [3, 0, 97, 98, 0, 0, 0, 0, 0, 0, 0, 0, 0, 0, 0, 0] = ⟨#[3, 0, 97, 98, 0, 0, 0, 0, 0, 0, 0, 0, 0, 0, 0, 0]⟩ := by rfl
set_option maxHeartbeats 4000000 in
set_option maxRecDepth 100000 in
theorem wakes_calls (w : World) : Calls Tryd.prog 6 #[] w fun e w' => e = .returned (.bool true) ∧ Below w.heap.size w w' := by
  have h := dirent_ok 3 (by decide) ⟨#[97, 98]⟩ ab_ok w
  rw [ab_out] at h
  have HC := Aside0.mk h
  clear h
  go_enter Tryd.func6, Tryd.ntmps6
  go_wp2_with fail
  ((with_reducible refine HC.out.mono ?_); rintro e w2 ⟨v, rfl, hr, hb⟩)
  have HB := Aside0.mk hb
  obtain ⟨A, c, rfl, _, hC⟩ := brow_reads hr
  have hcv := Kd.C_string (P := Tryd.prog) (A := A) (c := c) Tryd.underlying27 Tryd.underlying5 Tryd.underlying9 hC
  rw [ab_str] at hcv
  simp only [List.length_cons, List.length_nil, Nat.zero_add, Nat.reduceAdd] at hcv
  clear hr hb HC hC
  go_wp2
  go_ret
  exact ⟨rfl, HB.out⟩
end Go.Proofs.YtbplffdmggbcdaaDoor.Codec
