/- A line of a text: where it begins, how long it is, as contracts. -/
import Derived.Test.YtiogebcbndhgfaaKCFind
import Derived.Deep.QuietTactic
import Derived.BigQuiet
import Derived.IntWalk
namespace Go.Proofs.Ytiogebcbndhgfaa.Cur
open Go.RowKit Go.Proofs.Ytiogebcbndhgfaa.PCursorLines Go.Proofs.Ytiogebcbndhgfaa.PlainFloat Go.Proofs.Ytiogebcbndhgfaa.Turn Go.Proofs.YtiogebcbndhgfaaW.PrintWords Go.Proofs.YtiogebcbndhgfaaW.PrintLast Go.Proofs.YtiogebcbndhgfaaW.PrintMore
set_option linter.unusedVariables false
set_option linter.unusedSimpArgs false
theorem size_list (s : ByteArray) : s.data.toList.length = s.size := by rw [Array.length_toList]; rfl
def CutOf (s : ByteArray) (w : World) (e : Ending) (w' : World) : Prop := ∃ b a : ByteArray, ∃ f : Bool, e = .returned (.tuple #[.string b, .string a, .bool f]) ∧ b.size = first s.data.toList ∧ ∃ nd, w' = w.drewN nd
theorem first_all (l : List UInt8) (h : Lib.countByte l 10 = 0) : first l = l.length := by
  have := first_append l [] h
  simpa [first] using this
set_option maxHeartbeats 1000000 in
set_option maxRecDepth 100000 in
theorem lcut_calls (s : ByteArray) (hs : s.size ≤ 4611686018427387904) (w : World) : Calls Try.prog 29 #[.string s, .string ⟨#[10]⟩] w (CutOf s w) := by
  have hi := index_calls s
  rw [idx_eq] at hi
  by_cases c : Lib.countByte s.data.toList 10 = 0
  · rw [if_pos c] at hi
    have hf := first_all _ c
    rw [size_list] at hf
    have HF := Aside0.mk hf
    clear c hf hs
    go_enter Try.func29, Try.ntmps29
    go_wp2_with fail
    refine (hi _).mono ?_
    rintro e w2 ⟨rfl, rfl⟩
    clear hi
    go_wp2
    go_ret3
    exact ⟨_, _, _, rfl, HF.out.symm, 0, rfl⟩
  · rw [if_neg c] at hi
    have hl := (first_split _ c).1
    rw [size_list] at hl
    obtain ⟨j, hj⟩ : ∃ j, first s.data.toList = j := ⟨_, rfl⟩
    rw [hj] at hi hl
    have hz : (s.extract 0 j).size = j := by simp; omega
    have HZ := Aside0.mk hz
    have HJ := Aside0.mk hj
    have h1 : (j : Int) < (s.size : Int) := by omega
    have h0 : j < s.size := hl
    have g0 : (0 : Int) ≤ (j : Int) := by omega
    have g1 : (j : Int) ≤ (s.size : Int) := by omega
    have g2 : (0 : Int) ≤ (j : Int) + 1 := by omega
    have g3 : (j : Int) + 1 ≤ (s.size : Int) := by omega
    have hw : IntKind.i64.wrap ((j : Int) + 1) = (j : Int) + 1 := by rw [IntKind.wrap_i64]; omega
    clear c hl hj hz hs
    go_enter Try.func29, Try.ntmps29
    go_wp2_with fail
    refine (hi _).mono ?_
    rintro e w2 ⟨rfl, rfl⟩
    clear hi
    go_wp2
    go_quiet (fail)
    go_wp2
    go_ret3
    exact ⟨_, _, _, rfl, by rw [HZ.out, HJ.out], nq, rfl⟩
set_option maxHeartbeats 1000000 in
set_option maxRecDepth 100000 in
theorem cut_calls (s : ByteArray) (hs : s.size ≤ 4611686018427387904) (w : World) : Calls Try.prog 23 #[.string s, .string ⟨#[10]⟩] w (CutOf s w) := by
  have H := lcut_calls s hs
  clear hs
  go_enter Try.func23, Try.ntmps23
  go_wp2_with fail
  refine (H _).mono ?_
  rintro e w2 ⟨b, a, f, rfl, hb, nd, rfl⟩
  have HB := Aside0.mk hb
  clear H hb
  go_wp2
  go_ret3
  exact ⟨_, _, _, rfl, HB.out, nd, rfl⟩
/-- Where the line of an offset begins. -/
def beg (s : ByteArray) (o : Nat) : Nat := o - col s o
theorem col_le2 (s : ByteArray) (o : Nat) (h : o ≤ s.size) : col s o ≤ o := by
  have := tail_le (s.data.toList.take o)
  unfold col
  rw [List.length_take] at this
  omega
theorem tail_split (l : List UInt8) : Lib.countByte (l.drop (l.length - tail l)) 10 = 0 ∧ (l.length = tail l ∨ Lib.countByte (l.take (l.length - tail l)) 10 ≠ 0 ∧ l[l.length - tail l - 1]? = some 10) := by
  have hr := List.takeWhile_append_dropWhile (p := fun b => b != (10 : UInt8)) (l := l.reverse)
  have hl : l = (l.reverse.dropWhile (fun b => b != 10)).reverse ++ (l.reverse.takeWhile (fun b => b != 10)).reverse := by
    rw [← List.reverse_append, hr, List.reverse_reverse]
  have ht : (l.reverse.takeWhile (fun b => b != 10)).reverse.length = tail l := by rw [List.length_reverse]; rfl
  generalize hd : (l.reverse.dropWhile (fun b => b != 10)) = d at hl
  generalize he : (l.reverse.takeWhile (fun b => b != 10)).reverse = t at hl ht
  have hlen : l.length - tail l = d.reverse.length := by rw [hl, List.length_append, ht] ; have : tail (d.reverse ++ t) = tail l := by rw [← hl]
                                                         omega
  have hn : Lib.countByte t 10 = 0 := by
    unfold Lib.countByte
    rw [List.count_eq_zero]
    intro hm
    rw [← he, List.mem_reverse] at hm
    have h2 := List.all_eq_true.1 (List.all_takeWhile (p := fun b => b != (10 : UInt8)) (l := l.reverse)) 10 hm
    exact absurd h2 (by decide)
  have e1 : l.drop (l.length - tail l) = t := by rw [hlen]; conv => lhs; rw [hl]
                                                 simp
  have e2 : l.take (l.length - tail l) = d.reverse := by rw [hlen]; conv => lhs; rw [hl]
                                                         simp
  refine ⟨by rw [e1]; exact hn, ?_⟩
  cases d with
  | nil =>
    left
    have : l = t := by rw [hl]; rfl
    rw [← ht, ← this]
  | cons x d =>
    right
    have hx : x = 10 := by
      have := List.head?_dropWhile_not (fun b => b != (10 : UInt8)) l.reverse
      rw [hd] at this
      simpa using this
    subst hx
    refine ⟨?_, ?_⟩
    · rw [e2]
      unfold Lib.countByte
      simp
    · rw [hlen]
      conv => lhs; rw [hl]
      simp
end Go.Proofs.Ytiogebcbndhgfaa.Cur
