/- The reference's word on names. -/
import Derived.Test.YtdihhdmndjjknaaDoorKWName
import Derived.Test.YtdihhdmndjjknaaDoorPWalkOrdersx5
namespace Go.Proofs.YtdihhdmndjjknaaDoor.Codec
open Go.RowKit Go.Proofs.YtdihhdmndjjknaaDoor.PWalkOrders Go.Proofs.YtdihhdmndjjknaaDoor.Plain Go.Proofs.YtdihhdmndjjknaaDoorW.PrintWords Go.Proofs.YtdihhdmndjjknaaDoorW.PrintLast Go.Proofs.YtdihhdmndjjknaaDoorW.PrintMore
set_option linter.unusedVariables false
set_option linter.unusedSimpArgs false
theorem rname_step (k : Nat) (s : ByteArray) (i : Int) (h0 : 0 ≤ i) (h1 : i < (s.size : Int)) (hs : s.size ≤ 13) : skerryref06_Name.l0 (k + 1) s i = if Even (bt s i) then skerryref06_Name.l0 k s (i + 1) else some 16 := by
  simp only [skerryref06_Name.l0]
  rw [if_pos h1, if_pos h0, w64 (x := i + 1) (by omega) (by omega)]
  obtain ⟨b, hb⟩ : ∃ b, bt s i = b := ⟨_, rfl⟩
  rw [hb]
  by_cases he : Even b
  · rw [if_pos he]
    unfold Even at he
    repeat' split
    all_goals first
      | rfl
      | (exfalso; omega)
  · rw [if_neg he]
    unfold Even at he
    repeat' split
    all_goals first
      | rfl
      | (exfalso; omega)
def EvenFrom (s : ByteArray) (i : Nat) : Prop := ∀ j : Nat, i ≤ j → j < s.size → Even (bt s (j : Int))
theorem rname_loop (s : ByteArray) (hs : s.size ≤ 13) : ∀ (d k i : Nat), s.size - i = d → i ≤ s.size → d < k → (EvenFrom s i → skerryref06_Name.l0 k s (i : Int) = some 0) ∧ (¬ EvenFrom s i → skerryref06_Name.l0 k s (i : Int) = some 16) := by
  intro d
  induction d with
  | zero =>
    intro k i hd hi hk
    obtain ⟨k, rfl⟩ : ∃ m, k = m + 1 := ⟨k - 1, by omega⟩
    simp only [skerryref06_Name.l0]
    rw [if_neg (by omega)]
    exact ⟨fun _ => rfl, fun h => absurd (fun j h1 h2 => by omega) h⟩
  | succ d ih =>
    intro k i hd hi hk
    obtain ⟨k, rfl⟩ : ∃ m, k = m + 1 := ⟨k - 1, by omega⟩
    rw [rname_step k s i (by omega) (by omega) hs]
    have h2 := ih k (i + 1) (by omega) (by omega) (by omega)
    rw [show ((i + 1 : Nat) : Int) = (i : Int) + 1 by omega] at h2
    by_cases he : Even (bt s (i : Int))
    · rw [if_pos he]
      refine ⟨fun q => h2.1 fun j h1 h3 => q j (by omega) h3, fun q => h2.2 fun c => q fun j h1 h3 => ?_⟩
      by_cases e : j = i
      · subst e; exact he
      · exact c j (by omega) h3
    · rw [if_neg he]
      exact ⟨fun q => absurd (q i (Nat.le_refl _) (by omega)) he, fun _ => rfl⟩
theorem letters_bt (s : ByteArray) : Letters s ↔ EvenFrom s 0 := by
  unfold Letters EvenFrom
  have e : ∀ (j : Nat) (h : j < s.size), bt s (j : Int) = ((s[j]'h).toNat : Int) := by
    intro j h
    unfold bt
    simp [h]
  constructor
  · intro q j _ h
    rw [e j h]
    exact q j h
  · intro q j h
    rw [← e j h]
    exact q j (Nat.zero_le _) h
theorem rname_is (s : ByteArray) (k : Nat) (hk : 20 ≤ k) : skerryref06_Name.f k s = some (nameOut s) := by
  obtain ⟨k, rfl⟩ : ∃ m, k = m + 1 := ⟨k - 1, by omega⟩
  have hsz : s.data.toList.length = s.size := by rw [Array.length_toList]; rfl
  have hb : ∀ b, skerryref06_Name.j0 (k + 1) s b = if b = true then some 16 else skerryref06_Name.l0 k s 0 := fun b => by simp only [skerryref06_Name.j0]
  unfold skerryref06_Name.f nameOut
  by_cases h1 : s.data.toList = []
  · have : s.size = 0 := by rw [← hsz, h1]; rfl
    rw [if_pos (by omega), hb, if_pos rfl, if_neg (fun q => q.1 h1)]
  have h1' : s.size ≠ 0 := fun h => h1 (List.eq_nil_of_length_eq_zero (by rw [hsz, h]))
  rw [if_neg (by omega)]
  by_cases h2 : s.size ≤ 13
  rotate_left
  · rw [if_pos (by omega), hb, if_pos rfl, if_neg (fun q => h2 q.2.1)]
  rw [if_neg (by omega), ByteArray.toList_eq]
  by_cases h3 : s.data.toList = [46]
  · rw [if_pos h3, hb, if_pos rfl, if_neg (fun q => q.2.2.1 h3)]
  rw [if_neg h3, hb]
  by_cases h4 : s.data.toList = [46, 46]
  · rw [if_pos (beq_iff_eq.2 h4), if_neg (fun q => q.2.2.2.1 h4)]
  rw [if_neg (by rw [beq_iff_eq]; exact h4)]
  have hl := rname_loop s h2 s.size k 0 (by omega) (by omega) (by omega)
  rw [show ((0 : Nat) : Int) = 0 from rfl] at hl
  by_cases h5 : Letters s
  · rw [hl.1 ((letters_bt s).1 h5), if_pos (show NameOk s from ⟨h1, h2, h3, h4, h5⟩)]
  · rw [hl.2 (fun q => h5 ((letters_bt s).2 q)), if_neg (fun q => h5 q.2.2.2.2)]
theorem rname_calls (s : ByteArray) (w : World) : Calls Tryd.prog 23 #[.string s] w fun e w' => e = .returned (.int .i64 (nameOut s)) ∧ Below w.heap.size w w' := by
  refine (skerryref06_Name.calls 20 s _ w (rname_is s 20 (Nat.le_refl _))).mono ?_
  rintro e w' ⟨rfl, hd⟩
  exact ⟨rfl, hd.below⟩
end Go.Proofs.YtdihhdmndjjknaaDoor.Codec
