/- Texts and the byte 0: found, cut at, trimmed off: contracts. -/
import Derived.Test.YtbplffdmggbcdaaDoorPCodecInodesx4
import Derived.Test.YtbplffdmggbcdaaDoorPlain
import Derived.Test.YtbplffdmggbcdaaDoorPlainMem
import Derived.Test.YtbplffdmggbcdaaDoorWWords
import Derived.Test.YtbplffdmggbcdaaDoorWLast
import Derived.Test.YtbplffdmggbcdaaDoorWMore
import Derived.WalkKit
import Derived.WalkSpells
import Derived.LoopTactic
import Derived.OwnWalk
import Derived.Laws.Externs
import Derived.Lib.Bytealg
import Derived.Lib.Strings
import Derived.Lib.Slices
import Derived.Lib.Walk
import Derived.Lib.TrimByte
import Derived.Laws.Strings3
import Derived.RegionTactic
import Derived.Deep.RegionWith
import Derived.Deep.QuietTactic
import Derived.BigQuiet
namespace Go.Proofs.YtbplffdmggbcdaaDoor.Field
open Go.RowKit Go.Proofs.YtbplffdmggbcdaaDoor.PCodecInodes Go.Proofs.YtbplffdmggbcdaaDoor.Plain Go.Proofs.YtbplffdmggbcdaaDoorW.PrintWords Go.Proofs.YtbplffdmggbcdaaDoorW.PrintLast Go.Proofs.YtbplffdmggbcdaaDoorW.PrintMore
set_option linter.unusedVariables false
set_option linter.unusedSimpArgs false
/-- How many bytes stand ahead of the first byte 0. -/
def first (l : List UInt8) : Nat := (l.takeWhile (fun b => b != 0)).length
theorem first_cons (b : UInt8) (l : List UInt8) : first (b :: l) = if b = 0 then 0 else first l + 1 := by
  unfold first
  rw [List.takeWhile_cons]
  by_cases c : b = 0
  · rw [if_pos c]; simp [c]
  · rw [if_neg c]; simp [c]
theorem first_le (l : List UInt8) : first l ≤ l.length := (List.takeWhile_sublist _).length_le
theorem idx_eq (l : List UInt8) : Lib.indexByte l 0 = if first l = l.length then -1 else (first l : Int) := by
  induction l with
  | nil => rfl
  | cons b l ih =>
    unfold Lib.indexByte
    rw [first_cons]
    by_cases c : b = 0
    · rw [if_pos (by simp [c]), if_pos c, if_neg (by simp)]
      rfl
    · have hb : (b == 0) = false := by simp [c]
      rw [hb, if_neg c, ih, List.length_cons]
      by_cases d : first l = l.length
      · rw [if_pos d, if_pos (show first l + 1 = l.length + 1 by omega)]
        rfl
      · have : ((first l : Int) == -1) = false := by rw [beq_eq_false_iff_ne]; omega
        rw [if_neg d, if_neg (show ¬ first l + 1 = l.length + 1 by omega), this]
        simp
theorem size_list (s : ByteArray) : s.data.toList.length = s.size := by rw [Array.length_toList]; rfl
set_option maxHeartbeats 1000000 in
set_option maxRecDepth 100000 in
theorem sidx_calls (s : ByteArray) (w : World) : Calls Tryd.prog 95 #[.string s, .int .u8 0] w fun e w' => e = .returned (.int .i64 (Lib.indexByte s.data.toList 0)) ∧ w = w' := by
  go_enter Tryd.func95, Tryd.ntmps95
  go_wp2
  rw [run_callFunc_extern (fn := Tryd.f102) Tryd.func102 (by kernel_rfl) (by kernel_rfl) (by kernel_rfl) (e := Extern.BytealgIndexByte.indexByte) (by kernel_rfl), Lib.run_indexByteString]
  simp only [Result.andThen]
  rw [Oper.upon_value]
  go_wp2
  go_ret
  exact ⟨rfl, rfl⟩
set_option maxHeartbeats 1000000 in
set_option maxRecDepth 100000 in
theorem index_calls (s : ByteArray) (w : World) : Calls Tryd.prog 90 #[.string s, .string ⟨#[0]⟩] w fun e w' => e = .returned (.int .i64 (Lib.indexByte s.data.toList 0)) ∧ w = w' := by
  by_cases c : s.toList = [0]
  · obtain rfl : s = ⟨#[0]⟩ := by
      have e : s.data.toList = [0] := by rw [← ByteArray.toList_eq]; exact c
      obtain ⟨⟨l⟩⟩ := s
      simp at e
      rw [e]
    clear c
    go_enter Tryd.func90, Tryd.ntmps90
    go_wp2
    go_ret
    exact ⟨rfl, rfl⟩
  · have h1 : ([0] == s.toList) = false := by rw [beq_eq_false_iff_ne]; exact fun e => c e.symm
    clear c
    go_enter Tryd.func90, Tryd.ntmps90
    go_wp2_with fail
    refine (sidx_calls s _).mono ?_
    rintro e w2 ⟨rfl, rfl⟩
    go_wp2
    go_ret
    exact ⟨rfl, rfl⟩
/-- Ahead of the first byte 0, and behind it. -/
def ahead (s : ByteArray) : ByteArray := s.extract 0 (first s.data.toList)
def behind (s : ByteArray) : ByteArray := if first s.data.toList = s.size then ⟨#[]⟩ else s.extract (first s.data.toList + 1) s.size
def CutOf (s : ByteArray) (w : World) (e : Ending) (w' : World) : Prop := ∃ f : Bool, e = .returned (.tuple #[.string (ahead s), .string (behind s), .bool f]) ∧ ∃ nd, w' = w.drewN nd
theorem extract_whole (s : ByteArray) : s.extract 0 s.size = s := by
  apply ByteArray.ext
  simp [ByteArray.data_extract]
set_option maxHeartbeats 1000000 in
set_option maxRecDepth 100000 in
theorem lcut_calls (s : ByteArray) (hs : s.size ≤ 4611686018427387904) (w : World) : Calls Tryd.prog 77 #[.string s, .string ⟨#[0]⟩] w (CutOf s w) := by
  have hi := index_calls s
  rw [idx_eq, size_list] at hi
  by_cases c : first s.data.toList = s.size
  · rw [if_pos c] at hi
    have ha : ahead s = s := by unfold ahead; rw [c]; exact extract_whole s
    have hb : behind s = ⟨#[]⟩ := by unfold behind; rw [if_pos c]
    unfold CutOf
    rw [ha, hb]
    clear c hs ha hb
    go_enter Tryd.func77, Tryd.ntmps77
    go_wp2_with fail
    refine (hi _).mono ?_
    rintro e w2 ⟨rfl, rfl⟩
    clear hi
    go_wp2
    go_ret3
    exact ⟨_, rfl, 0, rfl⟩
  · rw [if_neg c] at hi
    have hl := first_le s.data.toList
    rw [size_list] at hl
    have ha : ahead s = s.extract 0 (first s.data.toList) := rfl
    have hb : behind s = s.extract (first s.data.toList + 1) s.size := by unfold behind; rw [if_neg c]
    unfold CutOf
    rw [ha, hb]
    obtain ⟨j, hj⟩ : ∃ j, first s.data.toList = j := ⟨_, rfl⟩
    rw [hj] at hi hl c ⊢
    have h1 : (j : Int) < (s.size : Int) := by omega
    have h0 : j < s.size := by omega
    have g0 : (0 : Int) ≤ (j : Int) := by omega
    have g1 : (j : Int) ≤ (s.size : Int) := by omega
    have g2 : (0 : Int) ≤ (j : Int) + 1 := by omega
    have g3 : (j : Int) + 1 ≤ (s.size : Int) := by omega
    have hw : IntKind.i64.wrap ((j : Int) + 1) = (j : Int) + 1 := by rw [IntKind.wrap_i64]; omega
    clear c hl hj hs ha hb
    go_enter Tryd.func77, Tryd.ntmps77
    go_wp2_with fail
    refine (hi _).mono ?_
    rintro e w2 ⟨rfl, rfl⟩
    clear hi
    go_wp2
    go_quiet (fail)
    go_wp2
    go_ret3
    exact ⟨_, rfl, nq, rfl⟩
set_option maxHeartbeats 1000000 in
set_option maxRecDepth 100000 in
theorem cut_calls (s : ByteArray) (hs : s.size ≤ 4611686018427387904) (w : World) : Calls Tryd.prog 62 #[.string s, .string ⟨#[0]⟩] w (CutOf s w) := by
  have H := lcut_calls s hs
  clear hs
  go_enter Tryd.func62, Tryd.ntmps62
  go_wp2_with fail
  refine (H _).mono ?_
  rintro e w2 ⟨f, rfl, nd, rfl⟩
  clear H
  go_wp2
  go_ret3
  exact ⟨_, rfl, nd, rfl⟩
end Go.Proofs.YtbplffdmggbcdaaDoor.Field
