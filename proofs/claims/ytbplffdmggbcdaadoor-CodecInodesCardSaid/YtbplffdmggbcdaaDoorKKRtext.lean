/- The reference reads a text of thirteen bytes: its word is the program's. -/
import Derived.Test.YtbplffdmggbcdaaDoorKFText
import Derived.Test.YtbplffdmggbcdaaDoorPureCodecInodes
namespace Go.Proofs.YtbplffdmggbcdaaDoor.Codec
open Go.RowKit Go.Proofs.YtbplffdmggbcdaaDoor.PCodecInodes Go.Proofs.YtbplffdmggbcdaaDoor.Plain Go.Proofs.YtbplffdmggbcdaaDoor.Pure Go.Proofs.YtbplffdmggbcdaaDoor.Field Go.Proofs.YtbplffdmggbcdaaDoorW.PrintWords Go.Proofs.YtbplffdmggbcdaaDoorW.PrintLast Go.Proofs.YtbplffdmggbcdaaDoorW.PrintMore
set_option linter.unusedVariables false
set_option linter.unusedSimpArgs false
def zs (p : List Int) : Nat := (p.takeWhile (fun x => x != 0)).length
theorem zs_cons (x : Int) (p : List Int) : zs (x :: p) = if x = 0 then 0 else zs p + 1 := by
  unfold zs
  rw [List.takeWhile_cons]
  by_cases c : x = 0
  · rw [if_pos c]; simp [c]
  · rw [if_neg c]; simp [c]
theorem zs_le (p : List Int) : zs p ≤ p.length := (List.takeWhile_sublist _).length_le
theorem zs_ahead : ∀ (p : List Int) (j : Nat), j < zs p → p.getD j 0 ≠ 0 := by
  intro p
  induction p with
  | nil => intro j h; exact absurd h (Nat.not_lt_zero _)
  | cons x p ih =>
    intro j h
    rw [zs_cons] at h
    by_cases c : x = 0
    · rw [if_pos c] at h; omega
    · rw [if_neg c] at h
      cases j with
      | zero => simpa using c
      | succ j => simpa using ih j (by omega)
theorem zs_at : ∀ (p : List Int), zs p < p.length → p.getD (zs p) 0 = 0 := by
  intro p
  induction p with
  | nil => intro h; exact absurd h (Nat.not_lt_zero _)
  | cons x p ih =>
    intro h
    rw [zs_cons] at h ⊢
    by_cases c : x = 0
    · rw [if_pos c]; simpa using c
    · rw [if_neg c] at h ⊢
      simpa using ih (by rw [List.length_cons] at h; omega)
theorem byte_zero {x : Int} (h : 0 ≤ x ∧ x < 256) : UInt8.ofNat x.toNat = 0 ↔ x = 0 := by
  constructor
  · intro e
    have h2 := congrArg UInt8.toNat e
    simp at h2
    omega
  · rintro rfl
    rfl
theorem first_map : ∀ (p : List Int), Bytes p → first (p.map fun n => UInt8.ofNat n.toNat) = zs p := by
  intro p
  induction p with
  | nil => intro _; rfl
  | cons x p ih =>
    intro h
    have hx := h x (by simp)
    rw [List.map_cons, first_cons, zs_cons, ih (fun y hy => h y (by simp [hy]))]
    by_cases c : x = 0
    · rw [if_pos c, if_pos ((byte_zero hx).2 c)]
    · rw [if_neg c, if_neg (fun e => c ((byte_zero hx).1 e))]
section
variable {l : List Int} (hb : Bytes l) (h16 : l.length = 16)
theorem segP_length (h16 : l.length = 16) : (field_part.seg l 2 13).length = 13 := by
  rw [field_part.seg_length ⟨by omega, by omega, by omega, by omega⟩]; rfl
theorem segP_rd (h16 : l.length = 16) (i : Nat) (hi : i < 13) : rd l (2 + (i : Int)) = (field_part.seg l 2 13).getD i 0 := by
  unfold field_part.seg rd
  rw [show (2 + (i : Int)).toNat = 2 + i by omega, show ((2 : Int) + 13).toNat = 15 from rfl, show (2 : Int).toNat = 2 from rfl]
  simp only [List.getD_eq_getElem?_getD]
  rw [List.getElem?_drop, List.getElem?_take, if_pos (by omega)]
theorem rtext_l0 (h16 : l.length = 16) : ∀ (d k i : Nat), zs (field_part.seg l 2 13) - i = d → i ≤ zs (field_part.seg l 2 13) → skerryref01_Text.l0 (k + d + 1) l 2 13 (i : Int) = skerryref01_Text.j1 k l 2 13 (zs (field_part.seg l 2 13) : Int) := by
  have hz := zs_le (field_part.seg l 2 13)
  rw [segP_length h16] at hz
  intro d
  induction d with
  | zero =>
    intro k i hd hi
    obtain rfl : i = zs (field_part.seg l 2 13) := by omega
    simp only [skerryref01_Text.l0, Nat.add_zero]
    by_cases c : zs (field_part.seg l 2 13) < 13
    · have h0 := zs_at (field_part.seg l 2 13) (by rw [segP_length h16]; exact c)
      rw [if_pos (by omega), w64 (by omega) (by omega), if_pos (by omega), if_pos (by omega), if_pos (by rw [segP_rd h16 _ c]; exact h0)]
    · rw [if_neg (by omega)]
  | succ d ih =>
    intro k i hd hi
    have hne := zs_ahead (field_part.seg l 2 13) i (by omega)
    rw [← segP_rd h16 i (by omega)] at hne
    have h := ih k (i + 1) (by omega) (by omega)
    rw [show k + (d + 1) + 1 = (k + d + 1) + 1 by omega]
    simp only [skerryref01_Text.l0]
    rw [if_pos (by omega), w64 (x := 2 + (i : Int)) (by omega) (by omega), if_pos (by omega), if_pos (by omega), if_neg hne, w64 (x := (i : Int) + 1) (by omega) (by omega)]
    exact h
def Rest (p : List Int) (i : Nat) : Prop := ∀ j, i ≤ j → j < 13 → p.getD j 0 = 0
theorem rtext_l1 (h16 : l.length = 16) (z : Nat) (hz : z ≤ 13) : ∀ (d k i : Nat), 13 - i = d → i ≤ 13 → (Rest (field_part.seg l 2 13) i → skerryref01_Text.l1 (k + d + 1) l 2 13 (z : Int) (i : Int) = some (strOfNums ((l.take (2 + z)).drop 2), 0)) ∧ (¬ Rest (field_part.seg l 2 13) i → skerryref01_Text.l1 (k + d + 1) l 2 13 (z : Int) (i : Int) = some (⟨#[]⟩, 4)) := by
  intro d
  induction d with
  | zero =>
    intro k i hd hi
    obtain rfl : i = 13 := by omega
    refine ⟨fun _ => ?_, fun h => absurd (fun j h1 h2 => by omega) h⟩
    simp only [skerryref01_Text.l1, Nat.add_zero]
    rw [if_neg (by omega), if_pos (by omega), w64 (x := 2 + (z : Int)) (by omega) (by omega), if_pos (by omega), if_pos (by omega), show (2 + (z : Int)).toNat = 2 + z by omega]
    rfl
  | succ d ih =>
    intro k i hd hi
    have h := ih k (i + 1) (by omega) (by omega)
    have hr := segP_rd h16 i (by omega)
    rw [show k + (d + 1) + 1 = (k + d + 1) + 1 by omega]
    simp only [skerryref01_Text.l1]
    rw [if_pos (by omega), w64 (x := 2 + (i : Int)) (by omega) (by omega), if_pos (by omega), if_pos (by omega), w64 (x := (i : Int) + 1) (by omega) (by omega), hr]
    by_cases c : (field_part.seg l 2 13).getD i 0 = 0
    · rw [if_pos c]
      refine ⟨fun q => h.1 fun j h1 h2 => q j (by omega) h2, fun q => h.2 fun c2 => q fun j h1 h2 => ?_⟩
      by_cases e : j = i
      · subst e; exact c
      · exact c2 j (by omega) h2
    · rw [if_neg c]
      exact ⟨fun q => absurd (q i (Nat.le_refl _) (by omega)) c, fun _ => rfl⟩
theorem segP_take (z : Nat) (hz : z ≤ 13) : (l.take (2 + z)).drop 2 = (field_part.seg l 2 13).take z := by
  unfold field_part.seg
  rw [show ((2 : Int) + 13).toNat = 15 from rfl, show (2 : Int).toNat = 2 from rfl, List.take_drop, List.take_take]
  congr 2
  omega
theorem rtext_is (hb : Bytes l) (h16 : l.length = 16) : skerryref01_Text.f 40 l 2 13 = some (textOut (field_part.seg l 2 13)) := by
  have hz := zs_le (field_part.seg l 2 13)
  rw [segP_length h16] at hz
  have hpb : Bytes (field_part.seg l 2 13) := by unfold field_part.seg; exact (hb.take _).drop _
  have hs : skerryref01_span.f l 2 13 = some 0 := by
    unfold skerryref01_span.f
    rw [if_neg (by omega), inside_is (by omega) (by omega), decide_eq_true (show field_part.Inside l 2 13 from ⟨by omega, by omega, by omega, by omega⟩)]
    rfl
  unfold skerryref01_Text.f
  rw [hs, Option.bind_some, if_pos rfl]
  have h0 := rtext_l0 h16 (zs (field_part.seg l 2 13)) (39 - zs (field_part.seg l 2 13)) 0 (by omega) (by omega)
  rw [show 39 - zs (field_part.seg l 2 13) + zs (field_part.seg l 2 13) + 1 = 40 by omega] at h0
  rw [show ((0 : Nat) : Int) = 0 from rfl] at h0
  rw [h0]
  obtain ⟨k, hk⟩ : ∃ k, 39 - zs (field_part.seg l 2 13) = k + (13 - zs (field_part.seg l 2 13)) + 1 + 1 := ⟨24, by omega⟩
  rw [hk]
  have hj : skerryref01_Text.j1 (k + (13 - zs (field_part.seg l 2 13)) + 1 + 1) l 2 13 (zs (field_part.seg l 2 13) : Int) = skerryref01_Text.l1 (k + (13 - zs (field_part.seg l 2 13)) + 1) l 2 13 (zs (field_part.seg l 2 13) : Int) (zs (field_part.seg l 2 13) : Int) := by simp only [skerryref01_Text.j1]
  rw [hj]
  have h1 := rtext_l1 h16 (zs (field_part.seg l 2 13)) hz _ k (zs (field_part.seg l 2 13)) rfl hz
  have hd := strOfNums_data (field_part.seg l 2 13)
  have hf := first_map _ hpb
  rw [← hd] at hf
  have hsz : (strOfNums (field_part.seg l 2 13)).size = 13 := by rw [strOfNums_size, segP_length h16]
  have ha : strOfNums ((l.take (2 + zs (field_part.seg l 2 13))).drop 2) = Field.ahead (strOfNums (field_part.seg l 2 13)) := by
    unfold Field.ahead
    rw [hf, Lib.extract_upto, hd, ← List.map_take]
    rw [segP_take _ hz]
    rfl
  have hbh : (∀ b ∈ (behind (strOfNums (field_part.seg l 2 13))).data.toList, b = 0) ↔ Rest (field_part.seg l 2 13) (zs (field_part.seg l 2 13)) := by
    unfold behind
    rw [hf, hsz]
    by_cases c : zs (field_part.seg l 2 13) = 13
    · rw [if_pos c, c]
      exact ⟨fun _ j h2 h3 => by omega, fun _ b hm => by simp at hm⟩
    · rw [if_neg c]
      have hbl : ∀ b, b ∈ ((strOfNums (field_part.seg l 2 13)).extract (zs (field_part.seg l 2 13) + 1) 13).data.toList ↔ b ∈ ((field_part.seg l 2 13).drop (zs (field_part.seg l 2 13) + 1)).map fun n => UInt8.ofNat n.toNat := by
        intro b
        rw [show (13 : Nat) = (strOfNums (field_part.seg l 2 13)).size from hsz.symm, Lib.extract_from, hd, List.map_drop]
      constructor
      · intro q j h2 h3
        by_cases e : j = zs (field_part.seg l 2 13)
        · rw [e]; exact zs_at _ (by rw [segP_length h16]; omega)
        · have hm : (field_part.seg l 2 13).getD j 0 ∈ (field_part.seg l 2 13).drop (zs (field_part.seg l 2 13) + 1) := by
            rw [List.getD, List.getElem?_eq_getElem (by rw [segP_length h16]; exact h3), Option.getD_some, List.mem_iff_getElem]
            exact ⟨j - (zs (field_part.seg l 2 13) + 1), by rw [List.length_drop, segP_length h16]; omega, by rw [List.getElem_drop]; congr 1; omega⟩
          have h4 := q _ ((hbl _).2 (List.mem_map.2 ⟨_, hm, rfl⟩))
          exact (byte_zero (hpb _ (List.mem_of_mem_drop hm))).1 h4
      · intro q b hm
        obtain ⟨x, hx, rfl⟩ := List.mem_map.1 ((hbl b).1 hm)
        obtain ⟨j, hj1, hj2⟩ := List.mem_iff_getElem.1 hx
        rw [List.length_drop, segP_length h16] at hj1
        rw [List.getElem_drop] at hj2
        have h5 := q (zs (field_part.seg l 2 13) + 1 + j) (by omega) (by omega)
        rw [List.getD, List.getElem?_eq_getElem (by rw [segP_length h16]; omega), Option.getD_some, hj2] at h5
        rw [h5]
        rfl
  unfold textOut
  by_cases c : Rest (field_part.seg l 2 13) (zs (field_part.seg l 2 13))
  · rw [h1.1 c, if_pos (hbh.2 c), ha]
  · rw [h1.2 c, if_neg (fun q => c (hbh.1 q))]
end
end Go.Proofs.YtbplffdmggbcdaaDoor.Codec
