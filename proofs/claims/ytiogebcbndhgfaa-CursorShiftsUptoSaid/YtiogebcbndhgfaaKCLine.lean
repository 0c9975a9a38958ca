/- Where a line of a text begins: the program's loop, as a contract. -/
import Derived.Test.YtiogebcbndhgfaaKCCut
namespace Go.Proofs.Ytiogebcbndhgfaa.Cur
open Go.RowKit Go.Proofs.Ytiogebcbndhgfaa.PCursorLines Go.Proofs.Ytiogebcbndhgfaa.PlainFloat Go.Proofs.Ytiogebcbndhgfaa.Turn Go.Proofs.YtiogebcbndhgfaaW.PrintWords Go.Proofs.YtiogebcbndhgfaaW.PrintLast Go.Proofs.YtiogebcbndhgfaaW.PrintMore
set_option linter.unusedVariables false
set_option linter.unusedSimpArgs false
theorem first_front (a b : List UInt8) (h : Lib.countByte a 10 ≠ 0) : first (a ++ b) = first a := by
  induction a with
  | nil => exact absurd rfl h
  | cons x a ih =>
    rw [List.cons_append, first_cons, first_cons]
    unfold Lib.countByte at *
    by_cases c : x = 10
    · rw [if_pos c, if_pos c]
    · rw [List.count_cons_of_ne (by simpa using c)] at h
      rw [if_neg c, if_neg c, ih h]
theorem drop_parts (l : List UInt8) {a B : Nat} (h : a ≤ B) : l.drop a = (l.take B).drop a ++ l.drop B := by
  by_cases c : a ≤ (l.take B).length
  · conv => lhs; rw [← List.take_append_drop B l]
    rw [List.drop_append_of_le_length c]
  · rw [List.length_take] at c
    rw [List.drop_eq_nil_of_le (by omega), List.drop_eq_nil_of_le (by rw [List.length_take]; omega), List.drop_eq_nil_of_le (by omega)]
    rfl
theorem round_line (l : List UInt8) (B a m : Nat) (h : a ≤ B) (hB : B ≤ l.length) (hc : Lib.countByte ((l.take B).drop a) 10 = m + 1) :
    Lib.countByte (l.drop a) 10 ≠ 0 ∧ a + (first (l.drop a) + 1) ≤ B ∧ Lib.countByte ((l.take B).drop (a + (first (l.drop a) + 1))) 10 = m := by
  have e := drop_parts l h
  obtain ⟨h1, h2, h3⟩ := first_split ((l.take B).drop a) (by omega)
  have hf : first (l.drop a) = first ((l.take B).drop a) := by rw [e, first_front _ _ (by omega)]
  rw [hf]
  rw [List.length_drop, List.length_take] at h1
  refine ⟨?_, by omega, ?_⟩
  · rw [e]
    unfold Lib.countByte at *
    rw [List.count_append]
    omega
  · rw [← List.drop_drop]
    omega
theorem end_line (l : List UInt8) (B a : Nat) (h : a ≤ B) (hB : B ≤ l.length) (hc : Lib.countByte ((l.take B).drop a) 10 = 0) (hb : B = 0 ∨ l[B - 1]? = some 10) : a = B := by
  by_cases e : a = B
  · exact e
  · exfalso
    rcases hb with hb | hb
    · omega
    · unfold Lib.countByte at hc
      rw [List.count_eq_zero] at hc
      apply hc
      rw [List.mem_iff_getElem?]
      refine ⟨B - 1 - a, ?_⟩
      rw [List.getElem?_drop, List.getElem?_take, if_pos (by omega), show a + (B - 1 - a) = B - 1 by omega, hb]
theorem beg_facts (s : ByteArray) (o : Nat) (h : o ≤ s.size) : beg s o ≤ o ∧ Lib.countByte (s.data.toList.take (beg s o)) 10 = row s o ∧ (beg s o = 0 ∨ s.data.toList[beg s o - 1]? = some 10) ∧ col s o ≤ first (s.data.toList.drop (beg s o)) ∧ beg s o + col s o = o := by
  have hc := col_le2 s o h
  have hs := size_list s
  have hl : (s.data.toList.take o).length = o := by rw [List.length_take]; omega
  obtain ⟨h1, h2⟩ := tail_split (s.data.toList.take o)
  have hb : (s.data.toList.take o).length - tail (s.data.toList.take o) = beg s o := by rw [hl]; rfl
  rw [hb] at h1 h2
  have hle : beg s o ≤ o := by unfold beg; omega
  have ht : (s.data.toList.take o).take (beg s o) = s.data.toList.take (beg s o) := by rw [List.take_take]; congr 1; omega
  have hparts := List.take_append_drop (beg s o) (s.data.toList.take o)
  refine ⟨hle, ?_, ?_, ?_, by unfold beg; omega⟩
  · unfold row
    rw [← hparts, ht]
    unfold Lib.countByte at *
    rw [List.count_append, h1]
    simp [ht]
  · rcases h2 with h2 | ⟨_, h2⟩
    · left
      have : tail (s.data.toList.take o) = col s o := rfl
      rw [hl, this] at h2
      unfold beg; omega
    · by_cases z : beg s o = 0
      · left; exact z
      · right
        rw [List.getElem?_take, if_pos (by omega)] at h2
        exact h2
  · have e := drop_parts s.data.toList hle
    rw [e, first_append _ _ h1, List.length_drop, hl]
    unfold beg
    omega
set_option maxHeartbeats 2000000 in
set_option maxRecDepth 100000 in
theorem line_calls (s : ByteArray) (hs : s.size ≤ 4611686018427387904) (o : Nat) (h : o ≤ s.size) (w : World) :
    Calls Try.prog 15 #[.string s, .int .i64 (row s o)] w fun e w' => e = .returned (.tuple #[.int .i64 (beg s o), .int .i64 (first (s.data.toList.drop (beg s o))), .bool true]) ∧ ∃ nd, w' = w.drewN nd := by
  obtain ⟨b1, b2, b3, b4, b5⟩ := beg_facts s o h
  have hsl := size_list s
  have hn : row s o ≤ s.size := by
    unfold row Lib.countByte
    refine Nat.le_trans List.count_le_length ?_
    rw [List.length_take]
    omega
  generalize beg s o = B at *
  generalize row s o = n at *
  have HB := Aside0.mk (And.intro b2 (And.intro b3 hsl))
  have hBs : B ≤ s.size := by omega
  clear b2 b3 b4 b5 b1 h hsl
  go_enter Try.func15, Try.ntmps15
  go_wp2
  go_loop [4, 12] (fun a i => ∃ k at' : Nat, k ≤ n ∧ i = .int .i64 k ∧ a = .int .i64 at' ∧ at' ≤ B ∧ Lib.countByte ((s.data.toList.take B).drop at') 10 = n - k) (fun _ i => n - (intOf i).toNat)
  case atStart => exact ⟨0, 0, Nat.zero_le _, rfl, rfl, Nat.zero_le _, by rw [List.drop_zero, HB.out.1]; omega⟩
  case round =>
    obtain ⟨k, a, hk, rfl, rfl, ha, hc⟩ := hrel
    have hls := HB.out.2.2
    have he : (s.extract a s.size).data.toList = s.data.toList.drop a := by
      rw [ByteArray.data_extract, Array.toList_extract, List.extract_eq_take_drop, List.take_of_length_le]
      rw [List.length_drop, hls]
      omega
    by_cases hlt : k < n
    · obtain ⟨r1, r2, r3⟩ := round_line s.data.toList B a (n - (k + 1)) ha (by omega) (by omega)
      have hI := idx_calls (s.extract a s.size)
      rw [he, idx_eq, if_neg r1] at hI
      generalize first (s.data.toList.drop a) = j at *
      have HC := Aside0.mk (And.intro hc (And.intro r3 he))
      have g1 : (a : Int) ≤ (s.size : Int) := by omega
      have g2 : (a : Int) + ((j : Int) + 1) ≤ (B : Int) := by omega
      have g3 : (B : Int) ≤ 4611686018427387904 := by omega
      clear hc r3 he r1 hls
      go_wp2_with fail
      refine (hI _).mono ?_
      rintro e w2 ⟨rfl, rfl⟩
      clear hI
      go_wp2
      go_round
      case rel => exact ⟨k + 1, a + (j + 1), by omega, by go_num, by go_num, by omega, HC.out.2.1⟩
      case measure => simp [intOf]; omega
    · obtain rfl : a = B := end_line s.data.toList B a ha (by omega) (by rw [hc]; omega) HB.out.2.1
      have hC := cut_calls (s.extract a s.size) (by simp; omega)
      unfold CutOf at hC
      rw [he] at hC
      have HE := Aside0.mk he
      clear he hc hls
      go_wp2_with fail
      refine (hC _).mono ?_
      rintro e w2 ⟨p, q, f, rfl, hp, nd, rfl⟩
      have HP := Aside0.mk hp
      clear hp hC
      go_wp2
      go_ret3
      refine ⟨?_, nd, rfl⟩
      rw [← HP.out]
      rfl
end Go.Proofs.Ytiogebcbndhgfaa.Cur
