/- Texts of this claim, merged. -/
import Derived.Test.YtbplffdmggbcdaaDoorPCodecKeepsx6
import Derived.Test.YtbplffdmggbcdaaDoorPlain
import Derived.Test.YtbplffdmggbcdaaDoorPlainMem
import Derived.Test.YtbplffdmggbcdaaDoorWWords
import Derived.Test.YtbplffdmggbcdaaDoorWLast
import Derived.Test.YtbplffdmggbcdaaDoorWMore
import Derived.WalkKit
import Derived.WalkSpells
import Derived.LoopTactic
import Derived.OwnWalk
import Derived.Laws.Externs
import Derived.Lib.Bytealg
import Derived.Lib.Strings
import Derived.Lib.Slices
import Derived.Lib.Walk
import Derived.Lib.TrimByte
import Derived.Laws.Strings3
import Derived.RegionTactic
import Derived.Deep.RegionWith
import Derived.Deep.QuietTactic
import Derived.BigQuiet
import Derived.Shelf.RegionOpenPlain
namespace Go.Proofs.YtbplffdmggbcdaaDoor.Field
open Go.RowKit Go.Proofs.YtbplffdmggbcdaaDoor.PCodecKeeps Go.Proofs.YtbplffdmggbcdaaDoor.Plain Go.Proofs.YtbplffdmggbcdaaDoorW.PrintWords Go.Proofs.YtbplffdmggbcdaaDoorW.PrintLast Go.Proofs.YtbplffdmggbcdaaDoorW.PrintMore
set_option linter.unusedVariables false
set_option linter.unusedSimpArgs false
/-- How many bytes stand ahead of the first byte 0. -/
def first (l : List UInt8) : Nat := (l.takeWhile (fun b => b != 0)).length
theorem first_cons (b : UInt8) (l : List UInt8) : first (b :: l) = if b = 0 then 0 else first l + 1 := by
  unfold first
  rw [List.takeWhile_cons]
  by_cases c : b = 0
  · rw [if_pos c]; simp [c]
  · rw [if_neg c]; simp [c]
theorem first_le (l : List UInt8) : first l ≤ l.length := (List.takeWhile_sublist _).length_le
theorem idx_eq (l : List UInt8) : Lib.indexByte l 0 = if first l = l.length then -1 else (first l : Int) := by
  induction l with
  | nil => rfl
  | cons b l ih =>
    unfold Lib.indexByte
    rw [first_cons]
    by_cases c : b = 0
    · rw [if_pos (by simp [c]), if_pos c, if_neg (by simp)]
      rfl
    · have hb : (b == 0) = false := by simp [c]
      rw [hb, if_neg c, ih, List.length_cons]
      by_cases d : first l = l.length
      · rw [if_pos d, if_pos (show first l + 1 = l.length + 1 by omega)]
        rfl
      · have : ((first l : Int) == -1) = false := by rw [beq_eq_false_iff_ne]; omega
        rw [if_neg d, if_neg (show ¬ first l + 1 = l.length + 1 by omega), this]
        simp
theorem size_list (s : ByteArray) : s.data.toList.length = s.size := by rw [Array.length_toList]; rfl
set_option maxHeartbeats 1000000 in
set_option maxRecDepth 100000 in
theorem sidx_calls (s : ByteArray) (w : World) : Calls Tryd.prog 95 #[.string s, .int .u8 0] w fun e w' => e = .returned (.int .i64 (Lib.indexByte s.data.toList 0)) ∧ w = w' := by
  go_enter Tryd.func95, Tryd.ntmps95
  go_wp2
  rw [run_callFunc_extern (fn := Tryd.f102) Tryd.func102 (by kernel_rfl) (by kernel_rfl) (by kernel_rfl) (e := Extern.BytealgIndexByte.indexByte) (by kernel_rfl), Lib.run_indexByteString]
  simp only [Result.andThen]
  rw [Oper.upon_value]
  go_wp2
  go_ret
  exact ⟨rfl, rfl⟩
set_option maxHeartbeats 1000000 in
set_option maxRecDepth 100000 in
theorem index_calls (s : ByteArray) (w : World) : Calls Tryd.prog 90 #[.string s, .string ⟨#[0]⟩] w fun e w' => e = .returned (.int .i64 (Lib.indexByte s.data.toList 0)) ∧ w = w' := by
  by_cases c : s.toList = [0]
  · obtain rfl : s = ⟨#[0]⟩ := by
      have e : s.data.toList = [0] := by rw [← ByteArray.toList_eq]; exact c
      obtain ⟨⟨l⟩⟩ := s
      simp at e
      rw [e]
    clear c
    go_enter Tryd.func90, Tryd.ntmps90
    go_wp2
    go_ret
    exact ⟨rfl, rfl⟩
  · have h1 : ([0] == s.toList) = false := by rw [beq_eq_false_iff_ne]; exact fun e => c e.symm
    clear c
    go_enter Tryd.func90, Tryd.ntmps90
    go_wp2_with fail
    refine (sidx_calls s _).mono ?_
    rintro e w2 ⟨rfl, rfl⟩
    go_wp2
    go_ret
    exact ⟨rfl, rfl⟩
/-- Ahead of the first byte 0, and behind it. -/
def ahead (s : ByteArray) : ByteArray := s.extract 0 (first s.data.toList)
def behind (s : ByteArray) : ByteArray := if first s.data.toList = s.size then ⟨#[]⟩ else s.extract (first s.data.toList + 1) s.size
def CutOf (s : ByteArray) (w : World) (e : Ending) (w' : World) : Prop := ∃ f : Bool, e = .returned (.tuple #[.string (ahead s), .string (behind s), .bool f]) ∧ ∃ nd, w' = w.drewN nd
theorem extract_whole (s : ByteArray) : s.extract 0 s.size = s := by
  apply ByteArray.ext
  simp [ByteArray.data_extract]
set_option maxHeartbeats 1000000 in
set_option maxRecDepth 100000 in
theorem lcut_calls (s : ByteArray) (hs : s.size ≤ 4611686018427387904) (w : World) : Calls Tryd.prog 77 #[.string s, .string ⟨#[0]⟩] w (CutOf s w) := by
  have hi := index_calls s
  rw [idx_eq, size_list] at hi
  by_cases c : first s.data.toList = s.size
  · rw [if_pos c] at hi
    have ha : ahead s = s := by unfold ahead; rw [c]; exact extract_whole s
    have hb : behind s = ⟨#[]⟩ := by unfold behind; rw [if_pos c]
    unfold CutOf
    rw [ha, hb]
    clear c hs ha hb
    go_enter Tryd.func77, Tryd.ntmps77
    go_wp2_with fail
    refine (hi _).mono ?_
    rintro e w2 ⟨rfl, rfl⟩
    clear hi
    go_wp2
    go_ret3
    exact ⟨_, rfl, 0, rfl⟩
  · rw [if_neg c] at hi
    have hl := first_le s.data.toList
    rw [size_list] at hl
    have ha : ahead s = s.extract 0 (first s.data.toList) := rfl
    have hb : behind s = s.extract (first s.data.toList + 1) s.size := by unfold behind; rw [if_neg c]
    unfold CutOf
    rw [ha, hb]
    obtain ⟨j, hj⟩ : ∃ j, first s.data.toList = j := ⟨_, rfl⟩
    rw [hj] at hi hl c ⊢
    have h1 : (j : Int) < (s.size : Int) := by omega
    have h0 : j < s.size := by omega
    have g0 : (0 : Int) ≤ (j : Int) := by omega
    have g1 : (j : Int) ≤ (s.size : Int) := by omega
    have g2 : (0 : Int) ≤ (j : Int) + 1 := by omega
    have g3 : (j : Int) + 1 ≤ (s.size : Int) := by omega
    have hw : IntKind.i64.wrap ((j : Int) + 1) = (j : Int) + 1 := by rw [IntKind.wrap_i64]; omega
    clear c hl hj hs ha hb
    go_enter Tryd.func77, Tryd.ntmps77
    go_wp2_with fail
    refine (hi _).mono ?_
    rintro e w2 ⟨rfl, rfl⟩
    clear hi
    go_wp2
    go_quiet (fail)
    go_wp2
    go_ret3
    exact ⟨_, rfl, nq, rfl⟩
set_option maxHeartbeats 1000000 in
set_option maxRecDepth 100000 in
theorem cut_calls (s : ByteArray) (hs : s.size ≤ 4611686018427387904) (w : World) : Calls Tryd.prog 62 #[.string s, .string ⟨#[0]⟩] w (CutOf s w) := by
  have H := lcut_calls s hs
  clear hs
  go_enter Tryd.func62, Tryd.ntmps62
  go_wp2_with fail
  refine (H _).mono ?_
  rintro e w2 ⟨f, rfl, nd, rfl⟩
  clear H
  go_wp2
  go_ret3
  exact ⟨_, rfl, nd, rfl⟩
end Go.Proofs.YtbplffdmggbcdaaDoor.Field

namespace Go.Proofs.YtbplffdmggbcdaaDoor.Field
open Go.RowKit Go.Proofs.YtbplffdmggbcdaaDoor.PCodecKeeps Go.Proofs.YtbplffdmggbcdaaDoor.Plain Go.Proofs.YtbplffdmggbcdaaDoorW.PrintWords Go.Proofs.YtbplffdmggbcdaaDoorW.PrintLast Go.Proofs.YtbplffdmggbcdaaDoorW.PrintMore
set_option linter.unusedVariables false
set_option linter.unusedSimpArgs false
set_option maxHeartbeats 2000000 in
set_option maxRecDepth 1000000 in
theorem trimLeftByte_calls (s : ByteArray) (c : UInt8) (w : World) :
    Calls Tryd.prog 78 #[.string s, .int .u8 c.toNat] w fun e w' => e = .returned (.string ⟨(Lib.trimLeftB s.data.toList c).toArray⟩) ∧ w' = w := by
  go_enter Tryd.func78, Tryd.ntmps78
  go_wp2
  go_loop [0] (fun v => ∃ k : Nat, k ≤ s.size ∧ v = .string ⟨(s.data.toList.drop k).toArray⟩ ∧ ∀ (j : Nat) b, j < k → s.data.toList[j]? = some b → b = c) (fun v => Lib.strSize v)
  case atStart => exact ⟨0, Nat.zero_le _, by simp, fun j b hj => absurd hj (Nat.not_lt_zero _)⟩
  case round =>
    obtain ⟨k, hk, rfl, hc⟩ := hrel
    have hts : (⟨(s.data.toList.drop k).toArray⟩ : ByteArray).size = s.size - k := by rw [Lib.size_mk, List.length_drop, ← Lib.size_eq]
    have hb0 : ∀ h, s.data.toList[k]? = some ((⟨(s.data.toList.drop k).toArray⟩ : ByteArray)[0]'h) := by
      intro h
      rw [← Lib.getElem_mk (s.data.toList.drop k) 0 h, List.getElem?_drop]
      rfl
    have hx1 : (⟨(s.data.toList.drop k).toArray⟩ : ByteArray).extract 1 (s.size - k) = ⟨(s.data.toList.drop (k + 1)).toArray⟩ := by
      rw [Lib.extract_mk, List.drop_drop, List.take_of_length_le (by simp; omega)]
    have hK : Lib.Kept (∀ (j : Nat) b, j < k → s.data.toList[j]? = some b → b = c) := hc
    clear hc
    generalize ht : (⟨(s.data.toList.drop k).toArray⟩ : ByteArray) = t at hts hb0 hx1 ⊢
    have hK3 : Lib.Kept ((⟨(s.data.toList.drop k).toArray⟩ : ByteArray) = t) := ht
    clear ht
    have hkl : Lib.Kept (k ≤ s.data.toList.length) := by rw [← Lib.size_eq]; exact hk
    by_cases h0 : 0 < t.size
    · have hbk := hb0 h0
      clear hb0
      by_cases heq : t[0]'h0 = c
      · have heq' : ((t[0]'h0).toNat : Int) = (c.toNat : Int) := by rw [heq]
        have hK2 : Lib.Kept (s.data.toList[k]? = some (t[0]'h0)) := hbk
        clear hbk
        go_wp2
        refine ⟨⟨k + 1, by omega, rfl, fun j b hj hb => ?_⟩, ?_⟩
        · by_cases e : j = k
          · subst e
            have h2 : s.data.toList[j]? = some (t[0]'h0) := hK2
            have h3 : s.data.toList[j]? = some b := by simpa using hb
            rw [h2] at h3
            rw [← Option.some.inj h3, heq]
          · exact hK j b (by omega) (by simpa using hb)
        · rw [Lib.strSize_string, Lib.strSize_string, Lib.size_mk, List.length_drop, ← Lib.size_eq]
          omega
      · have hne' : ¬ ((t[0]'h0).toNat : Int) = (c.toNat : Int) := by
          intro e
          exact heq (UInt8.toNat_inj.1 (by exact_mod_cast e))
        have hbeq : (((t[0]'h0).toNat : Int) == (c.toNat : Int)) = false := by simpa using hne'
        have hK2 : Lib.Kept (s.data.toList[k]? = some (t[0]'h0)) := hbk
        clear hbk
        go_wp2
        go_ret
        refine ⟨?_, rfl⟩
        have ht' : (⟨(s.data.toList.drop k).toArray⟩ : ByteArray) = t := hK3
        show Ending.returned (Value.string t) = _
        rw [Lib.trimLeftB_drop s.data.toList c k hkl hK (fun b hb => by
          have h2 : s.data.toList[k]? = some (t[0]'h0) := hK2
          rw [h2] at hb
          rw [← Option.some.inj hb]
          exact heq), ht']
    · clear hb0
      go_wp2
      go_ret
      refine ⟨?_, rfl⟩
      have ht' : (⟨(s.data.toList.drop k).toArray⟩ : ByteArray) = t := hK3
      show Ending.returned (Value.string t) = _
      rw [Lib.trimLeftB_drop s.data.toList c k hkl hK (fun b hb => by
        have : s.data.toList.length ≤ k := by rw [← Lib.size_eq]; omega
        simp [List.getElem?_eq_none this] at hb), ht']
set_option maxHeartbeats 2000000 in
set_option maxRecDepth 1000000 in
theorem trimRightByte_calls (s : ByteArray) (c : UInt8) (w : World) (hs : s.size ≤ 9223372036854775807) :
    Calls Tryd.prog 79 #[.string s, .int .u8 c.toNat] w fun e w' => e = .returned (.string ⟨(Lib.trimRightB s.data.toList c).toArray⟩) ∧ w' = w := by
  go_enter Tryd.func79, Tryd.ntmps79
  go_wp2
  go_loop [0] (fun v => ∃ k : Nat, k ≤ s.size ∧ v = .string ⟨(s.data.toList.take k).toArray⟩ ∧ ∀ (j : Nat) b, k ≤ j → s.data.toList[j]? = some b → b = c) (fun v => Lib.strSize v)
  case atStart =>
    refine ⟨s.size, Nat.le_refl _, ?_, fun j b hj hb => ?_⟩
    · rw [Lib.size_eq, List.take_length, Lib.mk_data]
    · have : s.data.toList.length ≤ j := by rw [← Lib.size_eq]; exact hj
      simp [List.getElem?_eq_none this] at hb
  case round =>
    obtain ⟨k, hk, rfl, hc⟩ := hrel
    have hkl : k ≤ s.data.toList.length := by rw [← Lib.size_eq]; exact hk
    have hts : (⟨(s.data.toList.take k).toArray⟩ : ByteArray).size = k := by rw [Lib.size_mk, List.length_take]; omega
    have hb0 : ∀ h, s.data.toList[k - 1]? = some ((⟨(s.data.toList.take k).toArray⟩ : ByteArray)[k - 1]'h) := by
      intro h
      rw [← Lib.getElem_mk (s.data.toList.take k) (k - 1) h, List.getElem?_take]
      rw [hts] at h
      rw [if_pos h]
    have hx1 : (⟨(s.data.toList.take k).toArray⟩ : ByteArray).extract 0 (k - 1) = ⟨(s.data.toList.take (k - 1)).toArray⟩ := by
      rw [Lib.extract_mk, List.drop_zero, List.take_take]
      congr 3
      omega
    have hK : Lib.Kept (∀ (j : Nat) b, k ≤ j → s.data.toList[j]? = some b → b = c) := hc
    clear hc
    have hkl' : Lib.Kept (k ≤ s.data.toList.length) := hkl
    clear hkl
    generalize ht : (⟨(s.data.toList.take k).toArray⟩ : ByteArray) = t at hts hb0 hx1 ⊢
    have hK3 : Lib.Kept ((⟨(s.data.toList.take k).toArray⟩ : ByteArray) = t) := ht
    clear ht
    by_cases h0 : 0 < k
    · have h1 : k - 1 < t.size := by omega
      have hwr : ((k : Int) - 1 + 9223372036854775808) % 18446744073709551616 - 9223372036854775808 = ((k - 1 : Nat) : Int) := by omega
      have hbk := hb0 h1
      clear hb0
      by_cases heq : t[k - 1]'h1 = c
      · have heq' : ((t[k - 1]'h1).toNat : Int) = (c.toNat : Int) := by rw [heq]
        have hK2 : Lib.Kept (s.data.toList[k - 1]? = some (t[k - 1]'h1)) := hbk
        clear hbk
        go_wp2
        refine ⟨⟨k - 1, by omega, rfl, fun j b hj hb => ?_⟩, ?_⟩
        · by_cases e : j = k - 1
          · subst e
            have h2 : s.data.toList[k - 1]? = some (t[k - 1]'h1) := hK2
            have h3 : s.data.toList[k - 1]? = some b := by simpa using hb
            rw [h2] at h3
            rw [← Option.some.inj h3, heq]
          · exact hK j b (by omega) (by simpa using hb)
        · have hkl : k ≤ s.data.toList.length := hkl'
          rw [Lib.strSize_string, Lib.strSize_string, Lib.size_mk, List.length_take]
          omega
      · have hne' : ¬ ((t[k - 1]'h1).toNat : Int) = (c.toNat : Int) := by
          intro e
          exact heq (UInt8.toNat_inj.1 (by exact_mod_cast e))
        have hbeq : (((t[k - 1]'h1).toNat : Int) == (c.toNat : Int)) = false := by simpa using hne'
        have hK2 : Lib.Kept (s.data.toList[k - 1]? = some (t[k - 1]'h1)) := hbk
        clear hbk
        go_wp2
        go_ret
        refine ⟨?_, rfl⟩
        have ht' : (⟨(s.data.toList.take k).toArray⟩ : ByteArray) = t := hK3
        show Ending.returned (Value.string t) = _
        rw [Lib.trimRightB_take s.data.toList c k hkl' hK (fun b _ hb => by
          have h2 : s.data.toList[k - 1]? = some (t[k - 1]'h1) := hK2
          rw [h2] at hb
          rw [← Option.some.inj hb]
          exact heq), ht']
    · clear hb0
      go_wp2
      go_ret
      refine ⟨?_, rfl⟩
      have ht' : (⟨(s.data.toList.take k).toArray⟩ : ByteArray) = t := hK3
      show Ending.returned (Value.string t) = _
      rw [Lib.trimRightB_take s.data.toList c k hkl' hK (fun b hk0 _ => absurd hk0 h0), ht']
theorem dropWhile_nil {l : List UInt8} {c : UInt8} : l.dropWhile (· == c) = [] ↔ ∀ b ∈ l, b = c := by
  induction l with
  | nil => simp
  | cons b l ih =>
    rw [List.dropWhile_cons]
    by_cases e : b = c
    · subst e
      simp [ih]
    · simp [e]
theorem trimB_nil {l : List UInt8} {c : UInt8} : Lib.trimB l c = [] ↔ ∀ b ∈ l, b = c := by
  unfold Lib.trimB Lib.trimLeftB Lib.trimRightB
  rw [dropWhile_nil]
  constructor
  · intro h b hb
    by_cases e : l.reverse.dropWhile (· == c) = []
    · exact dropWhile_nil.1 e b (List.mem_reverse.2 hb)
    · exfalso
      have h2 := List.head_dropWhile_not (· == c) e
      have h3 := h ((l.reverse.dropWhile (· == c)).head e) (List.mem_reverse.2 (List.head_mem e))
      rw [h3] at h2
      simp at h2
  · intro h b hb
    exact h b (List.mem_reverse.1 ((List.dropWhile_suffix _).sublist.subset (List.mem_reverse.1 hb)))
set_option maxHeartbeats 2000000 in
set_option maxRecDepth 1000000 in
/-- All bytes 0 at both ends are cut off. -/
theorem trim_calls (s : ByteArray) (w : World) (hs : s.size ≤ 9223372036854775807) : Calls Tryd.prog 63 #[.string s, .string ⟨#[0]⟩] w fun e w' => ∃ r : ByteArray, e = .returned (.string r) ∧ (r.toList = [] ↔ ∀ b ∈ s.data.toList, b = 0) ∧ ∃ nd, w' = w.drewN nd := by
  by_cases h0 : s.toList = []
  · have hz : s.data.toList = [] := by rw [← ByteArray.toList_eq]; exact h0
    have HZ := Aside0.mk hz
    clear hz
    go_enter Tryd.func63, Tryd.ntmps63
    go_wp2
    go_ret
    exact ⟨_, rfl, by rw [HZ.out, ByteArray.toList_eq, HZ.out]; simp, 0, rfl⟩
  · have hR := trimRightByte_calls s 0
    have hL := trimLeftByte_calls ⟨(Lib.trimRightB s.data.toList 0).toArray⟩ 0
    have HS := Aside0.mk hs
    have h1 : s.toList.isEmpty = false := by simpa using h0
    have mixed : Tryd.prog.follows .mixedOrders = true := by kernel_rfl
    clear hs
    go_enter Tryd.func63, Tryd.ntmps63
    go_wp2
    go_region_with_o (first
      | (refine (hR _ HS.out).mono ?_; rintro e w' ⟨rfl, rfl⟩)
      | (refine (hL _).mono ?_; rintro e w' ⟨rfl, rfl⟩))
    all_goals (
      go_wp2
      go_ret
      refine ⟨_, rfl, ?_, 1, rfl⟩
      rw [ByteArray.toList_eq]
      exact trimB_nil)
end Go.Proofs.YtbplffdmggbcdaaDoor.Field

namespace Go.Proofs.YtbplffdmggbcdaaDoor.Field
open Go.RowKit Go.Proofs.YtbplffdmggbcdaaDoor.PCodecKeeps Go.Proofs.YtbplffdmggbcdaaDoor.Plain Go.Proofs.YtbplffdmggbcdaaDoorW.PrintWords Go.Proofs.YtbplffdmggbcdaaDoorW.PrintLast Go.Proofs.YtbplffdmggbcdaaDoorW.PrintMore
set_option linter.unusedVariables false
set_option linter.unusedSimpArgs false
theorem span_yes (A0 : Option Addr) (c0 : Nat) (l : List Int) (a n : Int) (hc0 : l.length ≤ c0) (hl : l.length ≤ 140737488351232) (h : field_part.Inside l a n) :
    ∃ A' : Option Addr, (∀ w, Calls Tryd.prog 61 #[.slice A0 l.length c0, .int .i64 a, .int .i64 n] w fun e w' => e = .returned (.tuple #[.slice A' (field_part.seg l a n).length (c0 - a.toNat), .int .i64 0]) ∧ w = w') ∧
      (∀ w, Kd.C (Kd.int .u8) w A0 l.length l → Kd.C (Kd.int .u8) w A' (field_part.seg l a n).length (field_part.seg l a n)) ∧ (field_part.seg l a n).length ≤ c0 - a.toNat := by
  obtain ⟨A', hcall, hA, hC⟩ := field_part.yes A0 c0 l a n hc0 hl h
  have HK := Aside0.mk hcall
  have hn := h.2.1
  refine ⟨A', fun w => ?_, hA, hC⟩
  clear hcall hA hC h hc0
  go_enter Tryd.func61, Tryd.ntmps61
  go_wp2_with (go_at_call 76; refine (HK.out _).mono ?_; rintro e w' ⟨rfl, rfl⟩)
  go_ret2
  exact ⟨rfl, rfl⟩
end Go.Proofs.YtbplffdmggbcdaaDoor.Field

namespace Go.Proofs.YtbplffdmggbcdaaDoor.Field
open Go.RowKit Go.Proofs.YtbplffdmggbcdaaDoor.PCodecKeeps Go.Proofs.YtbplffdmggbcdaaDoor.Plain Go.Proofs.YtbplffdmggbcdaaDoorW.PrintWords Go.Proofs.YtbplffdmggbcdaaDoorW.PrintLast Go.Proofs.YtbplffdmggbcdaaDoorW.PrintMore
set_option linter.unusedVariables false
set_option linter.unusedSimpArgs false
/-- What is read of bytes. -/
def textOut (p : List Int) : ByteArray × Int := if ∀ b ∈ (behind (strOfNums p)).data.toList, b = 0 then (ahead (strOfNums p), 0) else (⟨#[]⟩, 4)
theorem behind_size (s : ByteArray) : (behind s).size ≤ s.size := by
  unfold behind
  split
  · exact Nat.zero_le _
  · rw [ByteArray.size_extract]; omega
set_option maxRecDepth 100000 in
set_option maxHeartbeats 4000000 in
theorem text_ok (A0 : Option Addr) (c0 : Nat) (l : List Int) (a n : Int) (w : World) (hr : Kd.C (Kd.int .u8) w A0 l.length l) (hc0 : l.length ≤ c0) (hl : l.length ≤ 140737488351232) (hin : field_part.Inside l a n) :
    Calls Tryd.prog 41 #[.slice A0 l.length c0, .int .i64 a, .int .i64 n] w fun e w' => e = .returned (.tuple #[.string (textOut (field_part.seg l a n)).1, .int .i64 (textOut (field_part.seg l a n)).2]) ∧ ∃ nd, w' = w.drewN nd := by
  obtain ⟨A', hcall, hA, hC⟩ := span_yes A0 c0 l a n hc0 hl hin
  have hlen := field_part.seg_length hin
  obtain ⟨p, hp⟩ : ∃ p, field_part.seg l a n = p := ⟨_, rfl⟩
  rw [hp] at hcall hA hlen hC ⊢
  have hps : p.length ≤ 140737488351232 := by have := hin.2.1; have := hin.2.2.2; have := hin.1; omega
  have hsz := strOfNums_size p
  have hcv := Kd.C_string (P := Tryd.prog) (c := c0 - a.toNat) Tryd.underlying27 Tryd.underlying5 Tryd.underlying9 (hA w hr)
  obtain ⟨S, hS⟩ : ∃ S, strOfNums p = S := ⟨_, rfl⟩
  unfold textOut
  rw [hS] at hcv hsz ⊢
  have hbs := behind_size S
  have HCUT := Aside0.mk (cut_calls S (by omega))
  have HTRIM := Aside0.mk (fun w => trim_calls (behind S) w (by omega))
  have HK := Aside0.mk hcall
  clear hcall hA hC hr hc0 hin hlen hp hps hsz hS hbs hl
  by_cases hz : ∀ b ∈ (behind S).data.toList, b = 0
  · rw [if_pos hz]
    have HZ := Aside0.mk hz
    clear hz
    go_enter Tryd.func41, Tryd.ntmps41
    go_wp2_with (first | (go_at_call 61; refine (HK.out _).mono ?_; rintro e w' ⟨rfl, rfl⟩) | fail)
    refine (HCUT.out _).mono ?_
    rintro e w2 ⟨f, rfl, nd, rfl⟩
    clear HCUT
    go_wp2_with fail
    refine (HTRIM.out _).mono ?_
    rintro e w2 ⟨r, rfl, hr, nd2, rfl⟩
    have hr2 := hr.2 HZ.out
    clear HTRIM hr
    go_wp2
    go_ret2
    exact ⟨rfl, nd + nd2, rfl⟩
  · rw [if_neg hz]
    have HZ := Aside0.mk hz
    clear hz
    go_enter Tryd.func41, Tryd.ntmps41
    go_wp2_with (first | (go_at_call 61; refine (HK.out _).mono ?_; rintro e w' ⟨rfl, rfl⟩) | fail)
    refine (HCUT.out _).mono ?_
    rintro e w2 ⟨f, rfl, nd, rfl⟩
    clear HCUT
    go_wp2_with fail
    refine (HTRIM.out _).mono ?_
    rintro e w2 ⟨r, rfl, hr, nd2, rfl⟩
    have hr2 : ¬ r.toList = [] := fun h => HZ.out (hr.1 h)
    have hr3 : r.toList.isEmpty = false := by simpa using hr2
    clear HTRIM hr
    go_wp2
    go_ret2
    exact ⟨rfl, nd + nd2, rfl⟩
end Go.Proofs.YtbplffdmggbcdaaDoor.Field
