/- Each of the functions that CrcKeeps calls answers: the plain part. -/
import Derived.Test.YtmjgmompcaanlacPCrcKeepsx0
import Derived.Test.YtmjgmompcaanlacPCrcKeepsx1
import Derived.Test.YtmjgmompcaanlacPCrcKeepsx2
import Derived.Test.YtmjgmompcaanlacPCrcKeepsx3
import Derived.Test.YtmjgmompcaanlacPlain
import Derived.Test.YtmjgmompcaanlacPlainCrc
namespace Go.Proofs.Ytmjgmompcaanlac.Pure
open Go.RowKit Go.Proofs.Ytmjgmompcaanlac.PCrcKeeps Go.Proofs.Ytmjgmompcaanlac.Plain Go.Proofs.YtmjgmompcaanlacW.PrintWords Go.Proofs.YtmjgmompcaanlacW.PrintLast Go.Proofs.YtmjgmompcaanlacW.PrintMore

theorem roll_is {s : Int} {l : List Int} (h0 : 0 ≤ s) (h1 : s < 4294967296) (hl : Bytes l) : crc_roll.f s l = some (crc s l) := by
  unfold crc_roll.f
  rw [if_pos ⟨h0, h1⟩, if_pos hl]
theorem sum_is {l : List Int} (hl : Bytes l) : crc_Sum.f l = some (crc 0 l) := by
  have h := crc_range (s := 0) (by omega) (by omega) hl
  unfold crc_Sum.f
  rw [roll_is (by omega) (by omega) hl]
  simp only [Option.bind_some]
  rw [w64 (by omega) (by omega)]
theorem add_is {s : Int} {l : List Int} (hl : Bytes l) (h0 : 0 ≤ s) (h1 : s < 4294967296) : crc_Add.f s l = some (crc s l, 0) := by
  have h := crc_range h0 h1 hl
  have g1 : ¬ s < 0 := by omega
  have g2 : s / 4294967296 = 0 := by omega
  have g3 : s % 4294967296 = s := by omega
  unfold crc_Add.f
  rw [if_neg g1, if_pos g2, g3, roll_is h0 h1 hl]
  simp only [Option.bind_some]
  rw [w64 (by omega) (by omega)]
/-- A frame. -/
def frm (l : List Int) : List Int := leB 2 (l.length : Int) ++ l ++ leB 4 (crc 0 (leB 2 (l.length : Int) ++ l))
theorem put_new {n : Nat} (hn : n = 2 ∨ n = 4) {v : Int} (h0 : 0 ≤ v) (h1 : v < 256 ^ n) : field_Put.f (List.replicate n 0) 0 n v = some (leB n v, 0) := by
  unfold field_Put.f
  have e : putB (List.replicate n 0) 0 n v = leB n v := by
    unfold putB
    rw [List.take_zero, List.nil_append, List.drop_eq_nil_of_le (by rw [List.length_replicate]; omega), List.append_nil]
  rw [if_pos (by rw [List.length_replicate]; omega), if_pos (by omega), if_pos (by unfold field_part.Inside; rw [List.length_replicate]; omega), if_pos ⟨h0, by rw [Int.toNat_natCast]; exact h1⟩, Int.toNat_natCast, show (0 : Int).toNat = 0 from rfl, e]
theorem put2 {v : Int} (h0 : 0 ≤ v) (h1 : v < 65536) : field_Put.f (List.replicate 2 0) 0 2 v = some (leB 2 v, 0) := put_new (n := 2) (.inl rfl) h0 h1
theorem put4 {v : Int} (h0 : 0 ≤ v) (h1 : v < 4294967296) : field_Put.f (List.replicate 4 0) 0 4 v = some (leB 4 v, 0) := put_new (n := 4) (.inr rfl) h0 h1
theorem cat2 {a b : List Int} (h : a.length + b.length < 140737488355328) : slices_Concat_byte_byte.f [a, b] = some (a ++ b) := by
  unfold slices_Concat_byte_byte.f
  have e : [a, b].flatten = a ++ b := by simp
  rw [e, if_pos ⟨by rw [List.length_append]; exact h, by show 2 < 140737488355328; omega⟩]
theorem frame_yes {l : List Int} (hl : Bytes l) (h : l.length ≤ 65535) : crc_Frame.f l = some (frm l, 0) := by
  have hF : Bytes (leB 2 (l.length : Int) ++ l) := (leB_bytes _ _).append hl
  have hr := crc_range (s := 0) (by omega) (by omega) hF
  unfold crc_Frame.f
  rw [if_pos (by decide), put2 (by omega) (by omega)]
  simp only [Option.bind_some, if_true]
  rw [cat2 (by rw [leB_length]; omega)]
  simp only [Option.bind_some]
  rw [if_pos (by decide), sum_is hF]
  simp only [Option.bind_some]
  rw [put4 hr.1 hr.2]
  simp only [Option.bind_some]
  rw [cat2 (by rw [List.length_append, leB_length, leB_length]; omega)]
  rfl
theorem frame_no {l : List Int} (h : ¬ l.length ≤ 65535) : crc_Frame.f l = some ([], 5) := by
  unfold crc_Frame.f
  have e : field_Put.f (List.replicate 2 0) 0 2 (l.length : Int) = some ([], 3) := by
    unfold field_Put.f
    rw [if_pos (by decide), if_pos (by omega), if_pos (by unfold field_part.Inside; rw [List.length_replicate]; omega), if_neg]
    rintro ⟨_, h2⟩
    have h3 : (l.length : Int) < 65536 := h2
    omega
  rw [if_pos (by decide), e]
  rfl
theorem frm_length {l : List Int} : (frm l).length = l.length + 6 := by
  unfold frm
  simp only [List.length_append, leB_length]
  omega
theorem frm_bytes {l : List Int} (hl : Bytes l) : Bytes (frm l) := ((leB_bytes _ _).append hl).append (leB_bytes _ _)
/-- What is read at a place. -/
def unf (l : List Int) (at_ : Int) : List Int × Int × Int :=
  if at_ < 0 ∨ (l.length : Int) < at_ then ([], 0, 2)
  else if ((l.drop at_.toNat).length : Int) < 2 ∨ ((l.drop at_.toNat).length : Int) - 6 < le (field_part.seg (l.drop at_.toNat) 0 2) then ([], 0, 21)
  else if le (field_part.seg (l.drop at_.toNat) (le (field_part.seg (l.drop at_.toNat) 0 2) + 2) 4) = crc 0 ((l.drop at_.toNat).take (le (field_part.seg (l.drop at_.toNat) 0 2) + 2).toNat) then
    (((l.drop at_.toNat).take (le (field_part.seg (l.drop at_.toNat) 0 2) + 2).toNat).drop 2, at_ + le (field_part.seg (l.drop at_.toNat) 0 2) + 6, 0)
  else ([], 0, 20)
theorem seg_bytes {l : List Int} (hl : Bytes l) (a n : Int) : Bytes (field_part.seg l a n) := by
  unfold field_part.seg
  exact (hl.take _).drop _
theorem seg_length {l : List Int} {a n : Int} (h : field_part.Inside l a n) : (field_part.seg l a n).length = n.toNat := by
  obtain ⟨h0, h1, h2, h3⟩ := h
  unfold field_part.seg
  rw [List.length_drop, List.length_take]
  omega
theorem le2_range {l : List Int} (hl : Bytes l) {a : Int} (h : field_part.Inside l a 2) : 0 ≤ le (field_part.seg l a 2) ∧ le (field_part.seg l a 2) < 65536 := by
  have h1 := le_range (seg_bytes hl a 2)
  rw [seg_length h] at h1
  exact h1
theorem get_yes {l : List Int} (hl : Bytes l) (hs : l.length ≤ 140737488351232) {a n : Int} (hn : n = 1 ∨ n = 2 ∨ n = 4) (h : field_part.Inside l a n) : field_Get.f l a n = some (le (field_part.seg l a n), 0) := by
  unfold field_Get.f
  rw [if_pos hl, if_pos hs, if_pos hn, if_pos h]
theorem get_no {l : List Int} (hl : Bytes l) (hs : l.length ≤ 140737488351232) {a n : Int} (hn : n = 1 ∨ n = 2 ∨ n = 4) (h : ¬ field_part.Inside l a n) : field_Get.f l a n = some (0, 2) := by
  unfold field_Get.f
  rw [if_pos hl, if_pos hs, if_pos hn, if_neg h]
theorem clone_is {l : List Int} (h : l.length ≤ 140737488351232) : slices_Clone_byte_byte.f l = some l := by
  unfold slices_Clone_byte_byte.f
  rw [if_pos (by omega)]
theorem unframe_is {l : List Int} (hl : Bytes l) (hs : l.length ≤ 140737488351232) {a : Int} (ha : -9223372036854775808 ≤ a ∧ a ≤ 9223372036854775807) (k : Nat) : crc_Unframe.f (k + 2) l a = some (unf l a) := by
  unfold crc_Unframe.f unf
  by_cases c1 : a < 0
  · rw [if_pos c1, if_pos (.inl c1)]
    simp [crc_Unframe.j0]
  rw [if_neg c1]
  by_cases c2 : (l.length : Int) < a
  · rw [if_pos (.inr c2), decide_eq_true (show a > (l.length : Int) by omega)]
    simp [crc_Unframe.j0]
  rw [if_neg (by omega), decide_eq_false (by omega)]
  simp only [crc_Unframe.j0, Bool.false_eq_true, if_false]
  rw [if_pos (by omega), if_pos (by omega)]
  have hdl : (l.drop a.toNat).length = l.length - a.toNat := List.length_drop
  obtain ⟨d, hd⟩ : ∃ d, l.drop a.toNat = d := ⟨_, rfl⟩
  have hD : Bytes d := hd ▸ hl.drop _
  rw [hd] at hdl ⊢
  by_cases c3 : field_part.Inside d 0 2
  · have hn := le2_range hD c3
    rw [get_yes hD (by omega) (by omega) c3]
    obtain ⟨n, hnn⟩ : ∃ n, le (field_part.seg d 0 2) = n := ⟨_, rfl⟩
    rw [hnn] at hn ⊢
    obtain ⟨_, _, _, i3⟩ := c3
    simp only [Option.bind_some, if_true]
    rw [w64 (x := (d.length : Int) - 6) (by omega) (by omega)]
    by_cases c4 : (d.length : Int) - 6 < n
    · rw [decide_eq_true c4, if_pos (.inr c4)]
      simp [crc_Unframe.j1]
    · rw [decide_eq_false c4, if_neg (by omega)]
      have g : field_part.Inside d (n + 2) 4 := by unfold field_part.Inside; omega
      simp only [crc_Unframe.j1, Bool.false_eq_true, if_false]
      rw [w64 (x := n + 2) (by omega) (by omega), get_yes hD (by omega) (by omega) g]
      simp only [Option.bind_some]
      rw [if_pos (by omega), if_pos (by omega), sum_is (hD.take _)]
      simp only [Option.bind_some]
      by_cases c5 : le (field_part.seg d (n + 2) 4) = crc 0 (d.take (n + 2).toNat)
      · rw [if_pos c5, if_pos c5, if_pos (by omega), clone_is (by rw [List.length_drop, List.length_take]; omega)]
        simp only [Option.bind_some]
        rw [w64 (x := a + n) (by omega) (by omega), w64 (x := a + n + 6) (by omega) (by omega)]
      · rw [if_neg c5, if_neg c5]
  · rw [get_no hD (by omega) (by omega) c3]
    have : (d.length : Int) < 2 := by
      unfold field_part.Inside at c3
      omega
    rw [if_pos (.inl this)]
    simp [crc_Unframe.j1]
theorem frame_some {l : List Int} (hl : Bytes l) : ∃ r e, crc_Frame.f l = some (r, e) ∧ Bytes r ∧ r.length ≤ 65541 := by
  by_cases h : l.length ≤ 65535
  · exact ⟨_, _, frame_yes hl h, frm_bytes hl, by rw [frm_length]; omega⟩
  · exact ⟨_, _, frame_no h, fun x hx => by simp at hx, by simp⟩
theorem unf_len (l : List Int) (a : Int) : (unf l a).1.length ≤ l.length := by
  unfold unf
  split
  · simp
  · split
    · simp
    · split
      · simp only [List.length_drop, List.length_take]; omega
      · simp
theorem unframe_some {l : List Int} (hl : Bytes l) (hs : l.length ≤ 140737488351232) {a : Int} (ha : -9223372036854775808 ≤ a ∧ a ≤ 9223372036854775807) : ∃ r n e, crc_Unframe.f 2 l a = some (r, n, e) ∧ r.length ≤ l.length :=
  ⟨_, _, _, unframe_is hl hs ha 0, unf_len l a⟩

end Go.Proofs.Ytmjgmompcaanlac.Pure
