/- The last byte 10 of a text: what the program finds, as a contract. -/
import Derived.Test.YtiogebcbndhgfaaKCCount
import Derived.Test.YtiogebcbndhgfaaPCursorLinesx1
namespace Go.Proofs.Ytiogebcbndhgfaa.Cur
open Go.RowKit Go.Proofs.Ytiogebcbndhgfaa.PCursorLines Go.Proofs.Ytiogebcbndhgfaa.PlainFloat Go.Proofs.Ytiogebcbndhgfaa.Turn Go.Proofs.YtiogebcbndhgfaaW.PrintWords Go.Proofs.YtiogebcbndhgfaaW.PrintLast Go.Proofs.YtiogebcbndhgfaaW.PrintMore
set_option linter.unusedVariables false
set_option linter.unusedSimpArgs false
/-- How many bytes stand behind the last byte 10. -/
def tail (l : List UInt8) : Nat := (l.reverse.takeWhile (fun b => b != 10)).length
theorem tail_snoc (l : List UInt8) (b : UInt8) : tail (l ++ [b]) = if b = 10 then 0 else tail l + 1 := by
  unfold tail
  rw [List.reverse_append, List.reverse_singleton, List.singleton_append, List.takeWhile_cons]
  by_cases c : b = 10
  · rw [if_pos c]
    simp [c]
  · rw [if_neg c]
    simp [c]
theorem tail_le (l : List UInt8) : tail l ≤ l.length := by
  unfold tail
  exact Nat.le_trans (List.takeWhile_sublist _).length_le (by simp)
theorem last_l0 (s : ByteArray) : ∀ (i k : Nat), i ≤ s.size → i < k → s.size ≤ 4611686018427387904 → bytealg_LastIndexByteString.l0 k s 10 ((i : Int) - 1) = some ((i : Int) - 1 - tail (s.data.toList.take i)) := by
  intro i
  induction i with
  | zero =>
    intro k _ hk _
    obtain ⟨k, rfl⟩ : ∃ m, k = m + 1 := ⟨k - 1, by omega⟩
    unfold bytealg_LastIndexByteString.l0
    rw [if_neg (by simp)]
    simp [tail]
  | succ i ih =>
    intro k hi hk hs
    obtain ⟨k, rfl⟩ : ∃ m, k = m + 1 := ⟨k - 1, by omega⟩
    have hl : i < s.data.toList.length := by rw [Array.length_toList]; exact hi
    have hb : bt s ((i : Int)) = (s.data.toList[i].toNat : Int) := by
      unfold bt
      rw [dif_pos (show (i : Int).toNat < s.size by omega)]
      congr 1
    have e : s.data.toList.take (i + 1) = s.data.toList.take i ++ [s.data.toList[i]] := by
      rw [List.take_append_getElem]
    have ei : ((i + 1 : Nat) : Int) - 1 = (i : Int) := by omega
    unfold bytealg_LastIndexByteString.l0
    rw [ei, if_pos (by omega), if_pos (by omega), if_pos (by omega), hb, e, tail_snoc]
    by_cases c : s.data.toList[i] = 10
    · rw [if_pos c, if_pos (by rw [c]; rfl)]
      simp
    · have c2 : ¬ (s.data.toList[i].toNat : Int) = 10 := by
        intro h
        apply c
        have h : s.data.toList[i].toNat = 10 := by omega
        exact UInt8.toNat_inj.1 h
      rw [if_neg c, if_neg c2]
      have hw : wrap64 ((i : Int) - 1) = (i : Int) - 1 := by unfold wrap64; omega
      rw [hw, ih k (by omega) (by omega) hs]
      congr 1
      omega
theorem last_f (s : ByteArray) (hs : s.size ≤ 4611686018427387904) : bytealg_LastIndexByteString.f (s.size + 1) s 10 = some ((s.size : Int) - 1 - tail s.data.toList) := by
  unfold bytealg_LastIndexByteString.f
  have hw : wrap64 ((s.size : Int) - 1) = (s.size : Int) - 1 := by unfold wrap64; omega
  rw [hw, last_l0 s s.size (s.size + 1) (Nat.le_refl _) (by omega) hs, List.take_of_length_le (by rw [Array.length_toList]; exact Nat.le_refl _)]
set_option maxHeartbeats 1000000 in
set_option maxRecDepth 100000 in
theorem last_calls (s : ByteArray) (hs : s.size ≤ 4611686018427387904) (w : World) : Calls Try.prog 13 #[.string s, .string ⟨#[10]⟩] w fun e w' => e = .returned (.int .i64 ((s.size : Int) - 1 - tail s.data.toList)) ∧ Drawn0 w w' := by
  have H := Aside0.mk (last_f s hs)
  clear hs
  go_enter Try.func13, Try.ntmps13
  go_wp2_with fail
  refine (bytealg_LastIndexByteString.calls _ s 10 _ _ H.out).mono ?_
  rintro e w2 ⟨rfl, ⟨nd, rfl⟩⟩
  go_wp2
  go_ret
  exact ⟨rfl, ⟨nd, rfl⟩⟩
end Go.Proofs.Ytiogebcbndhgfaa.Cur
