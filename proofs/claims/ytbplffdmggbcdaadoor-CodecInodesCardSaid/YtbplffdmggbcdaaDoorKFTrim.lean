/- Bytes 0 at a text's ends are cut off: contracts. -/
import Derived.Test.YtbplffdmggbcdaaDoorKFStr
import Derived.Shelf.RegionOpenPlain
namespace Go.Proofs.YtbplffdmggbcdaaDoor.Field
open Go.RowKit Go.Proofs.YtbplffdmggbcdaaDoor.PCodecInodes Go.Proofs.YtbplffdmggbcdaaDoor.Plain Go.Proofs.YtbplffdmggbcdaaDoorW.PrintWords Go.Proofs.YtbplffdmggbcdaaDoorW.PrintLast Go.Proofs.YtbplffdmggbcdaaDoorW.PrintMore
set_option linter.unusedVariables false
set_option linter.unusedSimpArgs false
set_option maxHeartbeats 2000000 in
set_option maxRecDepth 1000000 in
theorem trimLeftByte_calls (s : ByteArray) (c : UInt8) (w : World) :
    Calls Tryd.prog 78 #[.string s, .int .u8 c.toNat] w fun e w' => e = .returned (.string ⟨(Lib.trimLeftB s.data.toList c).toArray⟩) ∧ w' = w := by
  go_enter Tryd.func78, Tryd.ntmps78
  go_wp2
  go_loop [0] (fun v => ∃ k : Nat, k ≤ s.size ∧ v = .string ⟨(s.data.toList.drop k).toArray⟩ ∧ ∀ (j : Nat) b, j < k → s.data.toList[j]? = some b → b = c) (fun v => Lib.strSize v)
  case atStart => exact ⟨0, Nat.zero_le _, by simp, fun j b hj => absurd hj (Nat.not_lt_zero _)⟩
  case round =>
    obtain ⟨k, hk, rfl, hc⟩ := hrel
    have hts : (⟨(s.data.toList.drop k).toArray⟩ : ByteArray).size = s.size - k := by rw [Lib.size_mk, List.length_drop, ← Lib.size_eq]
    have hb0 : ∀ h, s.data.toList[k]? = some ((⟨(s.data.toList.drop k).toArray⟩ : ByteArray)[0]'h) := by
      intro h
      rw [← Lib.getElem_mk (s.data.toList.drop k) 0 h, List.getElem?_drop]
      rfl
    have hx1 : (⟨(s.data.toList.drop k).toArray⟩ : ByteArray).extract 1 (s.size - k) = ⟨(s.data.toList.drop (k + 1)).toArray⟩ := by
      rw [Lib.extract_mk, List.drop_drop, List.take_of_length_le (by simp; omega)]
    have hK : Lib.Kept (∀ (j : Nat) b, j < k → s.data.toList[j]? = some b → b = c) := hc
    clear hc
    generalize ht : (⟨(s.data.toList.drop k).toArray⟩ : ByteArray) = t at hts hb0 hx1 ⊢
    have hK3 : Lib.Kept ((⟨(s.data.toList.drop k).toArray⟩ : ByteArray) = t) := ht
    clear ht
    have hkl : Lib.Kept (k ≤ s.data.toList.length) := by rw [← Lib.size_eq]; exact hk
    by_cases h0 : 0 < t.size
    · have hbk := hb0 h0
      clear hb0
      by_cases heq : t[0]'h0 = c
      · have heq' : ((t[0]'h0).toNat : Int) = (c.toNat : Int) := by rw [heq]
        have hK2 : Lib.Kept (s.data.toList[k]? = some (t[0]'h0)) := hbk
        clear hbk
        go_wp2
        refine ⟨⟨k + 1, by omega, rfl, fun j b hj hb => ?_⟩, ?_⟩
        · by_cases e : j = k
          · subst e
            have h2 : s.data.toList[j]? = some (t[0]'h0) := hK2
            have h3 : s.data.toList[j]? = some b := by simpa using hb
            rw [h2] at h3
            rw [← Option.some.inj h3, heq]
          · exact hK j b (by omega) (by simpa using hb)
        · rw [Lib.strSize_string, Lib.strSize_string, Lib.size_mk, List.length_drop, ← Lib.size_eq]
          omega
      · have hne' : ¬ ((t[0]'h0).toNat : Int) = (c.toNat : Int) := by
          intro e
          exact heq (UInt8.toNat_inj.1 (by exact_mod_cast e))
        have hbeq : (((t[0]'h0).toNat : Int) == (c.toNat : Int)) = false := by simpa using hne'
        have hK2 : Lib.Kept (s.data.toList[k]? = some (t[0]'h0)) := hbk
        clear hbk
        go_wp2
        go_ret
        refine ⟨?_, rfl⟩
        have ht' : (⟨(s.data.toList.drop k).toArray⟩ : ByteArray) = t := hK3
        show Ending.returned (Value.string t) = _
        rw [Lib.trimLeftB_drop s.data.toList c k hkl hK (fun b hb => by
          have h2 : s.data.toList[k]? = some (t[0]'h0) := hK2
          rw [h2] at hb
          rw [← Option.some.inj hb]
          exact heq), ht']
    · clear hb0
      go_wp2
      go_ret
      refine ⟨?_, rfl⟩
      have ht' : (⟨(s.data.toList.drop k).toArray⟩ : ByteArray) = t := hK3
      show Ending.returned (Value.string t) = _
      rw [Lib.trimLeftB_drop s.data.toList c k hkl hK (fun b hb => by
        have : s.data.toList.length ≤ k := by rw [← Lib.size_eq]; omega
        simp [List.getElem?_eq_none this] at hb), ht']
set_option maxHeartbeats 2000000 in
set_option maxRecDepth 1000000 in
theorem trimRightByte_calls (s : ByteArray) (c : UInt8) (w : World) (hs : s.size ≤ 9223372036854775807) :
    Calls Tryd.prog 79 #[.string s, .int .u8 c.toNat] w fun e w' => e = .returned (.string ⟨(Lib.trimRightB s.data.toList c).toArray⟩) ∧ w' = w := by
  go_enter Tryd.func79, Tryd.ntmps79
  go_wp2
  go_loop [0] (fun v => ∃ k : Nat, k ≤ s.size ∧ v = .string ⟨(s.data.toList.take k).toArray⟩ ∧ ∀ (j : Nat) b, k ≤ j → s.data.toList[j]? = some b → b = c) (fun v => Lib.strSize v)
  case atStart =>
    refine ⟨s.size, Nat.le_refl _, ?_, fun j b hj hb => ?_⟩
    · rw [Lib.size_eq, List.take_length, Lib.mk_data]
    · have : s.data.toList.length ≤ j := by rw [← Lib.size_eq]; exact hj
      simp [List.getElem?_eq_none this] at hb
  case round =>
    obtain ⟨k, hk, rfl, hc⟩ := hrel
    have hkl : k ≤ s.data.toList.length := by rw [← Lib.size_eq]; exact hk
    have hts : (⟨(s.data.toList.take k).toArray⟩ : ByteArray).size = k := by rw [Lib.size_mk, List.length_take]; omega
    have hb0 : ∀ h, s.data.toList[k - 1]? = some ((⟨(s.data.toList.take k).toArray⟩ : ByteArray)[k - 1]'h) := by
      intro h
      rw [← Lib.getElem_mk (s.data.toList.take k) (k - 1) h, List.getElem?_take]
      rw [hts] at h
      rw [if_pos h]
    have hx1 : (⟨(s.data.toList.take k).toArray⟩ : ByteArray).extract 0 (k - 1) = ⟨(s.data.toList.take (k - 1)).toArray⟩ := by
      rw [Lib.extract_mk, List.drop_zero, List.take_take]
      congr 3
      omega
    have hK : Lib.Kept (∀ (j : Nat) b, k ≤ j → s.data.toList[j]? = some b → b = c) := hc
    clear hc
    have hkl' : Lib.Kept (k ≤ s.data.toList.length) := hkl
    clear hkl
    generalize ht : (⟨(s.data.toList.take k).toArray⟩ : ByteArray) = t at hts hb0 hx1 ⊢
    have hK3 : Lib.Kept ((⟨(s.data.toList.take k).toArray⟩ : ByteArray) = t) := ht
    clear ht
    by_cases h0 : 0 < k
    · have h1 : k - 1 < t.size := by omega
      have hwr : ((k : Int) - 1 + 9223372036854775808) % 18446744073709551616 - 9223372036854775808 = ((k - 1 : Nat) : Int) := by omega
      have hbk := hb0 h1
      clear hb0
      by_cases heq : t[k - 1]'h1 = c
      · have heq' : ((t[k - 1]'h1).toNat : Int) = (c.toNat : Int) := by rw [heq]
        have hK2 : Lib.Kept (s.data.toList[k - 1]? = some (t[k - 1]'h1)) := hbk
        clear hbk
        go_wp2
        refine ⟨⟨k - 1, by omega, rfl, fun j b hj hb => ?_⟩, ?_⟩
        · by_cases e : j = k - 1
          · subst e
            have h2 : s.data.toList[k - 1]? = some (t[k - 1]'h1) := hK2
            have h3 : s.data.toList[k - 1]? = some b := by simpa using hb
            rw [h2] at h3
            rw [← Option.some.inj h3, heq]
          · exact hK j b (by omega) (by simpa using hb)
        · have hkl : k ≤ s.data.toList.length := hkl'
          rw [Lib.strSize_string, Lib.strSize_string, Lib.size_mk, List.length_take]
          omega
      · have hne' : ¬ ((t[k - 1]'h1).toNat : Int) = (c.toNat : Int) := by
          intro e
          exact heq (UInt8.toNat_inj.1 (by exact_mod_cast e))
        have hbeq : (((t[k - 1]'h1).toNat : Int) == (c.toNat : Int)) = false := by simpa using hne'
        have hK2 : Lib.Kept (s.data.toList[k - 1]? = some (t[k - 1]'h1)) := hbk
        clear hbk
        go_wp2
        go_ret
        refine ⟨?_, rfl⟩
        have ht' : (⟨(s.data.toList.take k).toArray⟩ : ByteArray) = t := hK3
        show Ending.returned (Value.string t) = _
        rw [Lib.trimRightB_take s.data.toList c k hkl' hK (fun b _ hb => by
          have h2 : s.data.toList[k - 1]? = some (t[k - 1]'h1) := hK2
          rw [h2] at hb
          rw [← Option.some.inj hb]
          exact heq), ht']
    · clear hb0
      go_wp2
      go_ret
      refine ⟨?_, rfl⟩
      have ht' : (⟨(s.data.toList.take k).toArray⟩ : ByteArray) = t := hK3
      show Ending.returned (Value.string t) = _
      rw [Lib.trimRightB_take s.data.toList c k hkl' hK (fun b hk0 _ => absurd hk0 h0), ht']
theorem dropWhile_nil {l : List UInt8} {c : UInt8} : l.dropWhile (· == c) = [] ↔ ∀ b ∈ l, b = c := by
  induction l with
  | nil => simp
  | cons b l ih =>
    rw [List.dropWhile_cons]
    by_cases e : b = c
    · subst e
      simp [ih]
    · simp [e]
theorem trimB_nil {l : List UInt8} {c : UInt8} : Lib.trimB l c = [] ↔ ∀ b ∈ l, b = c := by
  unfold Lib.trimB Lib.trimLeftB Lib.trimRightB
  rw [dropWhile_nil]
  constructor
  · intro h b hb
    by_cases e : l.reverse.dropWhile (· == c) = []
    · exact dropWhile_nil.1 e b (List.mem_reverse.2 hb)
    · exfalso
      have h2 := List.head_dropWhile_not (· == c) e
      have h3 := h ((l.reverse.dropWhile (· == c)).head e) (List.mem_reverse.2 (List.head_mem e))
      rw [h3] at h2
      simp at h2
  · intro h b hb
    exact h b (List.mem_reverse.1 ((List.dropWhile_suffix _).sublist.subset (List.mem_reverse.1 hb)))
set_option maxHeartbeats 2000000 in
set_option maxRecDepth 1000000 in
/-- All bytes 0 at both ends are cut off. -/
theorem trim_calls (s : ByteArray) (w : World) (hs : s.size ≤ 9223372036854775807) : Calls Tryd.prog 63 #[.string s, .string ⟨#[0]⟩] w fun e w' => ∃ r : ByteArray, e = .returned (.string r) ∧ (r.toList = [] ↔ ∀ b ∈ s.data.toList, b = 0) ∧ ∃ nd, w' = w.drewN nd := by
  by_cases h0 : s.toList = []
  · have hz : s.data.toList = [] := by rw [← ByteArray.toList_eq]; exact h0
    have HZ := Aside0.mk hz
    clear hz
    go_enter Tryd.func63, Tryd.ntmps63
    go_wp2
    go_ret
    exact ⟨_, rfl, by rw [HZ.out, ByteArray.toList_eq, HZ.out]; simp, 0, rfl⟩
  · have hR := trimRightByte_calls s 0
    have hL := trimLeftByte_calls ⟨(Lib.trimRightB s.data.toList 0).toArray⟩ 0
    have HS := Aside0.mk hs
    have h1 : s.toList.isEmpty = false := by simpa using h0
    have mixed : Tryd.prog.follows .mixedOrders = true := by kernel_rfl
    clear hs
    go_enter Tryd.func63, Tryd.ntmps63
    go_wp2
    go_region_with_o (first
      | (refine (hR _ HS.out).mono ?_; rintro e w' ⟨rfl, rfl⟩)
      | (refine (hL _).mono ?_; rintro e w' ⟨rfl, rfl⟩))
    all_goals (
      go_wp2
      go_ret
      refine ⟨_, rfl, ?_, 1, rfl⟩
      rw [ByteArray.toList_eq]
      exact trimB_nil)
end Go.Proofs.YtbplffdmggbcdaaDoor.Field
