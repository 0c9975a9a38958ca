/- Names: contracts. -/
import Derived.Test.YtdihhdmndjjknaaDoorKWPlain
import Derived.Test.YtdihhdmndjjknaaDoorPWalkOrdersx0
import Derived.Test.YtdihhdmndjjknaaDoorPlain
import Derived.Laws.RangeAny
import Derived.Deep.QuietTactic
import Derived.BigQuiet
import Derived.Outline
namespace Go.Proofs.YtdihhdmndjjknaaDoor.Codec
open Go.RowKit Go.Proofs.YtdihhdmndjjknaaDoor.PWalkOrders Go.Proofs.YtdihhdmndjjknaaDoor.Plain Go.Proofs.YtdihhdmndjjknaaDoorW.PrintWords Go.Proofs.YtdihhdmndjjknaaDoorW.PrintLast Go.Proofs.YtdihhdmndjjknaaDoorW.PrintMore
set_option linter.unusedVariables false
set_option linter.unusedSimpArgs false
set_option maxHeartbeats 4000000 in
set_option maxRecDepth 100000 in
theorem odd_no (r : Int) (h : Even r) (w : World) : Calls Tryd.prog 46 #[.int .i32 r] w fun e w' => e = .returned (.bool false) ∧ w = w' := by
  rcases h with ⟨h1, h2⟩ | ⟨h1, h2⟩ | rfl | rfl | rfl
  · have d1 : decide (97 ≤ r) = true := decide_eq_true h1
    have d2 : decide (r ≤ 122) = true := decide_eq_true h2
    go_enter Tryd.func46, Tryd.ntmps46
    go_wp2
    go_ret
    exact ⟨rfl, rfl⟩
  · have d1 : decide (97 ≤ r) = false := decide_eq_false (by omega)
    have d3 : decide (48 ≤ r) = true := decide_eq_true h1
    have d4 : decide (r ≤ 57) = true := decide_eq_true h2
    go_enter Tryd.func46, Tryd.ntmps46
    go_wp2
    go_ret
    exact ⟨rfl, rfl⟩
  all_goals
    go_enter Tryd.func46, Tryd.ntmps46
    go_wp2
    go_ret
    exact ⟨rfl, rfl⟩
set_option maxHeartbeats 4000000 in
set_option maxRecDepth 100000 in
theorem odd_yes (r : Int) (h : ¬ Even r) (w : World) : Calls Tryd.prog 46 #[.int .i32 r] w fun e w' => e = .returned (.bool true) ∧ w = w' := by
  unfold Even at h
  have e1 : (r == 46) = false := beq_eq_false_iff_ne.2 (by omega)
  have e2 : (r == 95) = false := beq_eq_false_iff_ne.2 (by omega)
  have e3 : (r == 45) = false := beq_eq_false_iff_ne.2 (by omega)
  by_cases c1 : 97 ≤ r
  · have d1 : decide (97 ≤ r) = true := decide_eq_true c1
    have d2 : decide (r ≤ 122) = false := decide_eq_false (by omega)
    have d3 : decide (48 ≤ r) = true := decide_eq_true (by omega)
    have d4 : decide (r ≤ 57) = false := decide_eq_false (by omega)
    clear h c1
    go_enter Tryd.func46, Tryd.ntmps46
    go_wp2
    go_ret
    exact ⟨rfl, rfl⟩
  · have d1 : decide (97 ≤ r) = false := decide_eq_false c1
    by_cases c2 : 48 ≤ r
    · have d3 : decide (48 ≤ r) = true := decide_eq_true c2
      have d4 : decide (r ≤ 57) = false := decide_eq_false (by omega)
      clear h c1 c2
      go_enter Tryd.func46, Tryd.ntmps46
      go_wp2
      go_ret
      exact ⟨rfl, rfl⟩
    · have d3 : decide (48 ≤ r) = false := decide_eq_false c2
      clear h c1 c2
      go_enter Tryd.func46, Tryd.ntmps46
      go_wp2
      go_ret
      exact ⟨rfl, rfl⟩
theorem even_low {r : Int} (h : Even r) : r < 128 := by unfold Even at h; omega
/-- The bytes ahead of a place are letters, the one at it is none. -/
def BadAt (s : ByteArray) (pos : Nat) : Prop := ∃ h : pos < s.size, ¬ Even ((s[pos]'h).toNat : Int)
def Good (s : ByteArray) (pos : Nat) : Prop := ∀ (i : Nat) (h : i < s.size), i < pos → Even ((s[i]'h).toNat : Int)
theorem bad_or (s : ByteArray) : Letters s ∨ ∃ pos, BadAt s pos := by
  by_cases c : Letters s
  · exact .inl c
  · right
    unfold Letters at c
    simp only [Classical.not_forall] at c
    obtain ⟨i, h, hn⟩ := c
    exact ⟨i, h, hn⟩
set_option maxHeartbeats 4000000 in
set_option maxRecDepth 100000 in
theorem indexFunc_no (s : ByteArray) (hs : Letters s) (w : World) : Calls Tryd.prog 78 #[.string s, .func (.func 46) #[] #[], .bool true] w fun e w' => e = .returned (.int .i64 (-1)) ∧ ∃ pos, w' = w.iter s pos := by
  have HS := Aside0.mk hs
  clear hs
  go_enter Tryd.func78, Tryd.ntmps78
  go_wp2
  go_loopw [] (fun w' => ∃ pos : Nat, w' = w.iter s pos) (fun w' => s.size - w'.iterPos w.heap.size)
  case atStart => exact ⟨0, rfl⟩
  case round =>
    obtain ⟨pos, rfl⟩ := hrel
    by_cases hp : pos < s.size
    · have ha := HS.out pos hp
      have hlow := even_low ha
      have hnx := fun ty => run_next_ascii (P := Tryd.prog) w s pos ty hp (by omega)
      obtain ⟨r, hr⟩ : ∃ r : Int, ((s[pos]'hp).toNat : Int) = r := ⟨_, rfl⟩
      rw [hr] at ha
      simp only [hr] at hnx
      have HA := Aside0.mk ha
      clear ha hr hlow
      go_wp2_with fail
      ((with_reducible refine (odd_no r HA.out _).mono ?_); rintro e w2 ⟨rfl, rfl⟩)
      go_wp2
      go_roundw
      case rel => exact ⟨pos + 1, rfl⟩
      case measure => simp; omega
    · have hnx := fun ty => run_next_end (P := Tryd.prog) w s pos ty hp
      go_wp2
      go_ret
      exact ⟨rfl, pos, rfl⟩
set_option maxHeartbeats 4000000 in
set_option maxRecDepth 100000 in
theorem indexFunc_yes (s : ByteArray) (q : Nat) (hq : BadAt s q) (w : World) : Calls Tryd.prog 78 #[.string s, .func (.func 46) #[] #[], .bool true] w fun e w' => (∃ p : Nat, e = .returned (.int .i64 p)) ∧ ∃ pos, w' = w.iter s pos := by
  have HQ := Aside0.mk hq
  clear hq
  go_enter Tryd.func78, Tryd.ntmps78
  go_wp2
  go_loopw [] (fun w' => ∃ pos : Nat, pos ≤ q ∧ w' = w.iter s pos) (fun w' => s.size - w'.iterPos w.heap.size)
  case atStart => exact ⟨0, Nat.zero_le _, rfl⟩
  case round =>
    obtain ⟨pos, hle, rfl⟩ := hrel
    obtain ⟨hlt, hbad⟩ := HQ.out
    have hp : pos < s.size := by omega
    by_cases ha : Even ((s[pos]'hp).toNat : Int)
    · have hlow := even_low ha
      have hne : pos ≠ q := by rintro rfl; exact hbad ha
      have hnx := fun ty => run_next_ascii (P := Tryd.prog) w s pos ty hp (by omega)
      obtain ⟨r, hr⟩ : ∃ r : Int, ((s[pos]'hp).toNat : Int) = r := ⟨_, rfl⟩
      rw [hr] at ha
      simp only [hr] at hnx
      have HA := Aside0.mk ha
      clear ha hr hlow hbad
      have hne2 : pos + 1 ≤ q := by omega
      clear hne
      go_wp2_with fail
      ((with_reducible refine (odd_no r HA.out _).mono ?_); rintro e w2 ⟨rfl, rfl⟩)
      go_wp2
      go_roundw
      case rel => exact ⟨pos + 1, hne2, rfl⟩
      case measure => simp; omega
    · have key : ∃ (r : Int) (d : Nat), ¬ Even r ∧ ∀ ty, (Instr.next (.pointer (some ⟨w.heap.size, 0, none⟩)) true ty).run Tryd.prog (w.iter s pos) = .ok (.tuple #[.bool true, .int .i64 pos, .int .i32 r]) (w.iter s (pos + d)) := by
        by_cases hl : (s[pos]'hp).toNat < 128
        · exact ⟨_, 1, ha, fun ty => run_next_ascii (P := Tryd.prog) w s pos ty hp hl⟩
        · refine ⟨((Utf8.decode s pos).1 : Int), (Utf8.decode s pos).2, ?_, fun ty => run_next_any w s pos ty hp⟩
          intro he
          have := even_low he
          have := (decode_high s pos hp (by omega)).1
          omega
      obtain ⟨r, d, hr, hnx⟩ := key
      have HA := Aside0.mk hr
      clear ha hr hbad
      go_wp2_with fail
      ((with_reducible refine (odd_yes r HA.out _).mono ?_); rintro e w2 ⟨rfl, rfl⟩)
      go_wp2
      go_ret
      exact ⟨⟨pos, rfl⟩, _, rfl⟩
theorem iter_below (w : World) (s : ByteArray) (pos : Nat) : Below w.heap.size w (w.iter s pos) := below_alloc (Below.refl _ _) _
set_option maxHeartbeats 4000000 in
set_option maxRecDepth 100000 in
theorem contains_no (s : ByteArray) (hs : Letters s) (w : World) : Calls Tryd.prog 47 #[.string s, .func (.func 46) #[] #[]] w fun e w' => e = .returned (.bool false) ∧ Below w.heap.size w w' := by
  have HC := Aside0.mk (fun W => indexFunc_no s hs W)
  clear hs
  go_enter Tryd.func47, Tryd.ntmps47
  go_wp2_with (go_at_call 65; go_in)
  ((with_reducible refine (HC.out _).mono ?_); rintro e w2 ⟨rfl, pos, rfl⟩)
  go_wp2
  go_ret
  exact ⟨rfl, iter_below w s pos⟩
set_option maxHeartbeats 4000000 in
set_option maxRecDepth 100000 in
theorem contains_yes (s : ByteArray) (q : Nat) (hq : BadAt s q) (w : World) : Calls Tryd.prog 47 #[.string s, .func (.func 46) #[] #[]] w fun e w' => e = .returned (.bool true) ∧ Below w.heap.size w w' := by
  have HC := Aside0.mk (fun W => indexFunc_yes s q hq W)
  clear hq
  go_enter Tryd.func47, Tryd.ntmps47
  go_wp2_with (go_at_call 65; go_in)
  ((with_reducible refine (HC.out _).mono ?_); rintro e w2 ⟨⟨p, rfl⟩, pos, rfl⟩)
  go_wp2
  go_ret
  exact ⟨rfl, iter_below w s pos⟩
set_option maxHeartbeats 4000000 in
set_option maxRecDepth 100000 in
theorem name_ok (s : ByteArray) (h : NameOk s) (w : World) : Calls Tryd.prog 34 #[.string s] w fun e w' => e = .returned (.int .i64 0) ∧ Below w.heap.size w w' := by
  obtain ⟨h1, h2, h3, h4, h5⟩ := h
  have HC := Aside0.mk (fun W => contains_no s h5 W)
  have e1 : s.toList ≠ [] := by rw [ByteArray.toList_eq]; exact h1
  have b1 : s.toList.isEmpty = false := by cases hl : s.toList with | nil => exact absurd hl e1 | cons _ _ => rfl
  have b2 : decide (13 < s.size) = false := decide_eq_false (by omega)
  have b2' : decide ((13 : Int) < (s.size : Int)) = false := decide_eq_false (by omega)
  have b3 : (s.toList == [46]) = false := by rw [beq_eq_false_iff_ne, ByteArray.toList_eq]; exact h3
  have b4 : (s.toList == [46, 46]) = false := by rw [beq_eq_false_iff_ne, ByteArray.toList_eq]; exact h4
  clear h1 h2 h3 h4 h5 e1
  go_enter Tryd.func34, Tryd.ntmps34
  go_wp2_with fail
  ((with_reducible refine (HC.out _).mono ?_); rintro e w2 ⟨rfl, hb⟩)
  have HB := Aside0.mk hb
  clear hb
  go_wp2
  go_ret
  exact ⟨rfl, HB.out⟩
set_option maxHeartbeats 4000000 in
set_option maxRecDepth 100000 in
theorem name_no (s : ByteArray) (h : ¬ NameOk s) (w : World) : Calls Tryd.prog 34 #[.string s] w fun e w' => e = .returned (.int .i64 16) ∧ Below w.heap.size w w' := by
  by_cases h1 : s.data.toList = []
  · have e1 : s.toList = [] := by rw [ByteArray.toList_eq]; exact h1
    have b1 : s.toList.isEmpty = true := by rw [e1]; rfl
    clear h h1
    go_enter Tryd.func34, Tryd.ntmps34
    go_wp2
    go_ret
    exact ⟨rfl, Below.refl _ _⟩
  have e1 : s.toList ≠ [] := by rw [ByteArray.toList_eq]; exact h1
  have b1 : s.toList.isEmpty = false := by cases hl : s.toList with | nil => exact absurd hl e1 | cons _ _ => rfl
  by_cases h2 : s.size ≤ 13
  rotate_left
  · have b2 : decide (13 < s.size) = true := decide_eq_true (by omega)
    have b2' : decide ((13 : Int) < (s.size : Int)) = true := decide_eq_true (by omega)
    clear h h1 e1
    go_enter Tryd.func34, Tryd.ntmps34
    go_wp2
    go_ret
    exact ⟨rfl, Below.refl _ _⟩
  have b2 : decide (13 < s.size) = false := decide_eq_false (by omega)
  have b2' : decide ((13 : Int) < (s.size : Int)) = false := decide_eq_false (by omega)
  by_cases h3 : s.data.toList = [46]
  · have b3 : (s.toList == [46]) = true := by rw [beq_iff_eq, ByteArray.toList_eq]; exact h3
    clear h h1 e1 h2 h3
    go_enter Tryd.func34, Tryd.ntmps34
    go_wp2
    go_ret
    exact ⟨rfl, Below.refl _ _⟩
  have b3 : (s.toList == [46]) = false := by rw [beq_eq_false_iff_ne, ByteArray.toList_eq]; exact h3
  by_cases h4 : s.data.toList = [46, 46]
  · have b4 : (s.toList == [46, 46]) = true := by rw [beq_iff_eq, ByteArray.toList_eq]; exact h4
    clear h h1 e1 h2 h3 h4
    go_enter Tryd.func34, Tryd.ntmps34
    go_wp2
    go_ret
    exact ⟨rfl, Below.refl _ _⟩
  have b4 : (s.toList == [46, 46]) = false := by rw [beq_eq_false_iff_ne, ByteArray.toList_eq]; exact h4
  rcases bad_or s with h5 | ⟨q, h5⟩
  · exact absurd ⟨h1, h2, h3, h4, h5⟩ h
  · have HC := Aside0.mk (fun W => contains_yes s q h5 W)
    clear h h1 e1 h2 h3 h4 h5
    go_enter Tryd.func34, Tryd.ntmps34
    go_wp2_with fail
    ((with_reducible refine (HC.out _).mono ?_); rintro e w2 ⟨rfl, hb⟩)
    have HB := Aside0.mk hb
    clear hb
    go_wp2
    go_ret
    exact ⟨rfl, HB.out⟩
theorem name_calls (s : ByteArray) (w : World) : Calls Tryd.prog 34 #[.string s] w fun e w' => e = .returned (.int .i64 (nameOut s)) ∧ Below w.heap.size w w' := by
  unfold nameOut
  by_cases h : NameOk s
  · rw [if_pos h]; exact name_ok s h w
  · rw [if_neg h]; exact name_no s h w
end Go.Proofs.YtdihhdmndjjknaaDoor.Codec
