/- Frames that stand one behind the other are read as they were written; one that is cut short, or has a byte turned, is refused: the plain law over lists and numbers. No conditions. -/
import Derived.Test.YtmjgmompcaanlacPCrcBackx4
import Derived.Test.YtmjgmompcaanlacPlain
import Derived.Test.YtmjgmompcaanlacPlainCrc
namespace Go.Proofs.Ytmjgmompcaanlac.Pure
open Go.RowKit Go.Proofs.Ytmjgmompcaanlac.PCrcBack Go.Proofs.Ytmjgmompcaanlac.Plain Go.Proofs.YtmjgmompcaanlacW.PrintWords Go.Proofs.YtmjgmompcaanlacW.PrintLast Go.Proofs.YtmjgmompcaanlacW.PrintMore

theorem roll_is {s : Int} {l : List Int} (h0 : 0 ≤ s) (h1 : s < 4294967296) (hl : Bytes l) : crc_roll.f s l = some (crc s l) := by
  unfold crc_roll.f
  rw [if_pos ⟨h0, h1⟩, if_pos hl]
theorem sum_is {l : List Int} (hl : Bytes l) : crc_Sum.f l = some (crc 0 l) := by
  have h := crc_range (s := 0) (by omega) (by omega) hl
  unfold crc_Sum.f
  rw [roll_is (by omega) (by omega) hl]
  simp only [Option.bind_some]
  rw [w64 (by omega) (by omega)]
/-- A frame. -/
def frm (l : List Int) : List Int := leB 2 (l.length : Int) ++ l ++ leB 4 (crc 0 (leB 2 (l.length : Int) ++ l))
theorem put_new {n : Nat} (hn : n = 2 ∨ n = 4) {v : Int} (h0 : 0 ≤ v) (h1 : v < 256 ^ n) : field_Put.f (List.replicate n 0) 0 n v = some (leB n v, 0) := by
  unfold field_Put.f
  have e : putB (List.replicate n 0) 0 n v = leB n v := by
    unfold putB
    rw [List.take_zero, List.nil_append, List.drop_eq_nil_of_le (by rw [List.length_replicate]; omega), List.append_nil]
  rw [if_pos (by rw [List.length_replicate]; omega), if_pos (by omega), if_pos (by unfold field_part.Inside; rw [List.length_replicate]; omega), if_pos ⟨h0, by rw [Int.toNat_natCast]; exact h1⟩, Int.toNat_natCast, show (0 : Int).toNat = 0 from rfl, e]
theorem put2 {v : Int} (h0 : 0 ≤ v) (h1 : v < 65536) : field_Put.f (List.replicate 2 0) 0 2 v = some (leB 2 v, 0) := put_new (n := 2) (.inl rfl) h0 h1
theorem put4 {v : Int} (h0 : 0 ≤ v) (h1 : v < 4294967296) : field_Put.f (List.replicate 4 0) 0 4 v = some (leB 4 v, 0) := put_new (n := 4) (.inr rfl) h0 h1
theorem cat2 {a b : List Int} (h : a.length + b.length < 140737488355328) : slices_Concat_byte_byte.f [a, b] = some (a ++ b) := by
  unfold slices_Concat_byte_byte.f
  have e : [a, b].flatten = a ++ b := by simp
  rw [e, if_pos ⟨by rw [List.length_append]; exact h, by show 2 < 140737488355328; omega⟩]
theorem frame_yes {l : List Int} (hl : Bytes l) (h : l.length ≤ 65535) : crc_Frame.f l = some (frm l, 0) := by
  have hF : Bytes (leB 2 (l.length : Int) ++ l) := (leB_bytes _ _).append hl
  have hr := crc_range (s := 0) (by omega) (by omega) hF
  unfold crc_Frame.f
  rw [if_pos (by decide), put2 (by omega) (by omega)]
  simp only [Option.bind_some, if_true]
  rw [cat2 (by rw [leB_length]; omega)]
  simp only [Option.bind_some]
  rw [if_pos (by decide), sum_is hF]
  simp only [Option.bind_some]
  rw [put4 hr.1 hr.2]
  simp only [Option.bind_some]
  rw [cat2 (by rw [List.length_append, leB_length, leB_length]; omega)]
  rfl
theorem frame_no {l : List Int} (h : ¬ l.length ≤ 65535) : crc_Frame.f l = some ([], 5) := by
  unfold crc_Frame.f
  have e : field_Put.f (List.replicate 2 0) 0 2 (l.length : Int) = some ([], 3) := by
    unfold field_Put.f
    rw [if_pos (by decide), if_pos (by omega), if_pos (by unfold field_part.Inside; rw [List.length_replicate]; omega), if_neg]
    rintro ⟨_, h2⟩
    have h3 : (l.length : Int) < 65536 := h2
    omega
  rw [if_pos (by decide), e]
  rfl
theorem frm_length {l : List Int} : (frm l).length = l.length + 6 := by
  unfold frm
  simp only [List.length_append, leB_length]
  omega
theorem frm_bytes {l : List Int} (hl : Bytes l) : Bytes (frm l) := ((leB_bytes _ _).append hl).append (leB_bytes _ _)
/-- What is read at a place. -/
def unf (l : List Int) (at_ : Int) : List Int × Int × Int :=
  if at_ < 0 ∨ (l.length : Int) < at_ then ([], 0, 2)
  else if ((l.drop at_.toNat).length : Int) < 2 ∨ ((l.drop at_.toNat).length : Int) - 6 < le (field_part.seg (l.drop at_.toNat) 0 2) then ([], 0, 21)
  else if le (field_part.seg (l.drop at_.toNat) (le (field_part.seg (l.drop at_.toNat) 0 2) + 2) 4) = crc 0 ((l.drop at_.toNat).take (le (field_part.seg (l.drop at_.toNat) 0 2) + 2).toNat) then
    (((l.drop at_.toNat).take (le (field_part.seg (l.drop at_.toNat) 0 2) + 2).toNat).drop 2, at_ + le (field_part.seg (l.drop at_.toNat) 0 2) + 6, 0)
  else ([], 0, 20)
theorem seg_bytes {l : List Int} (hl : Bytes l) (a n : Int) : Bytes (field_part.seg l a n) := by
  unfold field_part.seg
  exact (hl.take _).drop _
theorem seg_length {l : List Int} {a n : Int} (h : field_part.Inside l a n) : (field_part.seg l a n).length = n.toNat := by
  obtain ⟨h0, h1, h2, h3⟩ := h
  unfold field_part.seg
  rw [List.length_drop, List.length_take]
  omega
theorem le2_range {l : List Int} (hl : Bytes l) {a : Int} (h : field_part.Inside l a 2) : 0 ≤ le (field_part.seg l a 2) ∧ le (field_part.seg l a 2) < 65536 := by
  have h1 := le_range (seg_bytes hl a 2)
  rw [seg_length h] at h1
  exact h1
theorem get_yes {l : List Int} (hl : Bytes l) (hs : l.length ≤ 140737488351232) {a n : Int} (hn : n = 1 ∨ n = 2 ∨ n = 4) (h : field_part.Inside l a n) : field_Get.f l a n = some (le (field_part.seg l a n), 0) := by
  unfold field_Get.f
  rw [if_pos hl, if_pos hs, if_pos hn, if_pos h]
theorem get_no {l : List Int} (hl : Bytes l) (hs : l.length ≤ 140737488351232) {a n : Int} (hn : n = 1 ∨ n = 2 ∨ n = 4) (h : ¬ field_part.Inside l a n) : field_Get.f l a n = some (0, 2) := by
  unfold field_Get.f
  rw [if_pos hl, if_pos hs, if_pos hn, if_neg h]
theorem clone_is {l : List Int} (h : l.length ≤ 140737488351232) : slices_Clone_byte_byte.f l = some l := by
  unfold slices_Clone_byte_byte.f
  rw [if_pos (by omega)]
theorem unframe_is {l : List Int} (hl : Bytes l) (hs : l.length ≤ 140737488351232) {a : Int} (ha : -9223372036854775808 ≤ a ∧ a ≤ 9223372036854775807) (k : Nat) : crc_Unframe.f (k + 2) l a = some (unf l a) := by
  unfold crc_Unframe.f unf
  by_cases c1 : a < 0
  · rw [if_pos c1, if_pos (.inl c1)]
    simp [crc_Unframe.j0]
  rw [if_neg c1]
  by_cases c2 : (l.length : Int) < a
  · rw [if_pos (.inr c2), decide_eq_true (show a > (l.length : Int) by omega)]
    simp [crc_Unframe.j0]
  rw [if_neg (by omega), decide_eq_false (by omega)]
  simp only [crc_Unframe.j0, Bool.false_eq_true, if_false]
  rw [if_pos (by omega), if_pos (by omega)]
  have hdl : (l.drop a.toNat).length = l.length - a.toNat := List.length_drop
  obtain ⟨d, hd⟩ : ∃ d, l.drop a.toNat = d := ⟨_, rfl⟩
  have hD : Bytes d := hd ▸ hl.drop _
  rw [hd] at hdl ⊢
  by_cases c3 : field_part.Inside d 0 2
  · have hn := le2_range hD c3
    rw [get_yes hD (by omega) (by omega) c3]
    obtain ⟨n, hnn⟩ : ∃ n, le (field_part.seg d 0 2) = n := ⟨_, rfl⟩
    rw [hnn] at hn ⊢
    obtain ⟨_, _, _, i3⟩ := c3
    simp only [Option.bind_some, if_true]
    rw [w64 (x := (d.length : Int) - 6) (by omega) (by omega)]
    by_cases c4 : (d.length : Int) - 6 < n
    · rw [decide_eq_true c4, if_pos (.inr c4)]
      simp [crc_Unframe.j1]
    · rw [decide_eq_false c4, if_neg (by omega)]
      have g : field_part.Inside d (n + 2) 4 := by unfold field_part.Inside; omega
      simp only [crc_Unframe.j1, Bool.false_eq_true, if_false]
      rw [w64 (x := n + 2) (by omega) (by omega), get_yes hD (by omega) (by omega) g]
      simp only [Option.bind_some]
      rw [if_pos (by omega), if_pos (by omega), sum_is (hD.take _)]
      simp only [Option.bind_some]
      by_cases c5 : le (field_part.seg d (n + 2) 4) = crc 0 (d.take (n + 2).toNat)
      · rw [if_pos c5, if_pos c5, if_pos (by omega), clone_is (by rw [List.length_drop, List.length_take]; omega)]
        simp only [Option.bind_some]
        rw [w64 (x := a + n) (by omega) (by omega), w64 (x := a + n + 6) (by omega) (by omega)]
      · rw [if_neg c5, if_neg c5]
  · rw [get_no hD (by omega) (by omega) c3]
    have : (d.length : Int) < 2 := by
      unfold field_part.Inside at c3
      omega
    rw [if_pos (.inl this)]
    simp [crc_Unframe.j1]
theorem same_is (l m : List Int) (h : l = m) : skerryref01_SameBytes.f l m = some true := by
  subst h
  unfold skerryref01_SameBytes.f
  rw [beq_self_eq_true]
theorem seg_take {l : List Int} {n : Int} : field_part.seg l 0 n = l.take n.toNat := by
  unfold field_part.seg
  rw [Int.zero_add]
  rfl
theorem seg_at {p q : List Int} {a n : Int} (ha : a = (p.length : Int)) (h0 : 0 ≤ n) : field_part.seg (p ++ q) a n = q.take n.toNat := by
  unfold field_part.seg
  rw [show (a + n).toNat = p.length + n.toNat by omega, show a.toNat = p.length by omega, List.take_length_add_append, List.drop_left]
/-- Two bytes of a length, as many bytes, four bytes: what is read of them. -/
theorem unf_two {F S r : List Int} {m : Nat} (hm : m ≤ 65535) (hF : F.length = m + 2) (hS : S.length = 4) (h2 : F.take 2 = leB 2 (m : Int)) :
    unf (F ++ S ++ r) 0 = if le S = crc 0 F then (F.drop 2, (m : Int) + 6, 0) else ([], 0, 20) := by
  have e0 : (0 : Int).toNat = 0 := rfl
  have e1 : field_part.seg (F ++ S ++ r) 0 2 = leB 2 (m : Int) := by
    rw [seg_take, show (2 : Int).toNat = 2 from rfl, List.append_assoc, List.take_append_of_le_length (by omega), h2]
  have e2 : le (leB 2 (m : Int)) = (m : Int) := by
    rw [(le_leB (m : Int)).2.1]
    omega
  have e3 : field_part.seg (F ++ S ++ r) ((m : Int) + 2) 4 = S := by
    rw [List.append_assoc, seg_at (by omega) (by omega), show (4 : Int).toNat = 4 from rfl, List.take_append_of_le_length (by omega), List.take_of_length_le (by omega)]
  have e4 : (F ++ S ++ r).take ((m : Int) + 2).toNat = F := by
    rw [List.append_assoc, List.take_append_of_le_length (by omega), List.take_of_length_le (by omega)]
  unfold unf
  rw [if_neg (by omega), e0, List.drop_zero, e1, e2, if_neg (by rw [List.length_append, List.length_append]; omega), e3, e4, show (0 : Int) + (m : Int) + 6 = (m : Int) + 6 by omega]
theorem frm_eq (l : List Int) : frm l = (leB 2 (l.length : Int) ++ l) ++ leB 4 (crc 0 (leB 2 (l.length : Int) ++ l)) := rfl
theorem take_two (l : List Int) : (leB 2 (l.length : Int) ++ l).take 2 = leB 2 (l.length : Int) := by
  rw [List.take_append_of_le_length (by rw [leB_length]; omega), List.take_of_length_le (by rw [leB_length]; omega)]
theorem le_sum {l : List Int} (hl : Bytes l) : le (leB 4 (crc 0 l)) = crc 0 l := by
  have hr := crc_range (s := 0) (by omega) (by omega) hl
  rw [(le_leB _).2.2]
  omega
theorem unf_front {l : List Int} (hl : Bytes l) (h : l.length ≤ 65535) (r : List Int) : unf (frm l ++ r) 0 = (l, (l.length : Int) + 6, 0) := by
  rw [frm_eq, unf_two (m := l.length) h (by rw [List.length_append, leB_length]; omega) (leB_length _ _) (take_two l), if_pos (le_sum ((leB_bytes _ _).append hl))]
  rw [List.drop_append_of_le_length (by rw [leB_length]; omega), List.drop_of_length_le (by rw [leB_length]; omega), List.nil_append]
theorem unf_shift (p q : List Int) : unf (p ++ q) (p.length : Int) = ((unf q 0).1, if (unf q 0).2.2 = 0 then (p.length : Int) + (unf q 0).2.1 else 0, (unf q 0).2.2) := by
  have e : (p ++ q).drop (p.length : Int).toNat = q := by rw [Int.toNat_natCast, List.drop_left]
  have e0 : q.drop (0 : Int).toNat = q := rfl
  have h0 : ¬ ((p.length : Int) < 0 ∨ ((p ++ q).length : Int) < (p.length : Int)) := by rw [List.length_append]; omega
  have h1 : ¬ ((0 : Int) < 0 ∨ (q.length : Int) < 0) := by omega
  unfold unf
  rw [if_neg h0, if_neg h1, e, e0]
  by_cases c1 : (q.length : Int) < 2 ∨ (q.length : Int) - 6 < le (field_part.seg q 0 2)
  · rw [if_pos c1, if_pos c1]
    rfl
  · rw [if_neg c1, if_neg c1]
    by_cases c2 : le (field_part.seg q (le (field_part.seg q 0 2) + 2) 4) = crc 0 (q.take (le (field_part.seg q 0 2) + 2).toNat)
    · rw [if_pos c2, if_pos c2, if_pos rfl]
      simp only [Prod.mk.injEq, true_and, and_true]
      omega
    · rw [if_neg c2, if_neg c2]
      rfl
theorem unf_short {l : List Int} (h : l.length ≤ 65535) {i : Nat} (hi : i < (frm l).length) : (unf ((frm l).take i) 0).2.2 = 21 := by
  have hl6 := frm_length (l := l)
  have hlt : ((frm l).take i).length = i := by rw [List.length_take]; omega
  have e0 : ((frm l).take i).drop (0 : Int).toNat = (frm l).take i := rfl
  unfold unf
  rw [if_neg (by omega), e0, if_pos]
  rw [hlt]
  by_cases c : (i : Int) < 2
  · exact .inl c
  · refine .inr ?_
    have e : field_part.seg ((frm l).take i) 0 2 = leB 2 (l.length : Int) := by
      rw [seg_take, show (2 : Int).toNat = 2 from rfl, List.take_take, show min 2 i = 2 by omega, frm_eq, List.take_append_of_le_length (by rw [List.length_append, leB_length]; omega), take_two]
    rw [e, (le_leB _).2.1]
    omega
theorem le_set_ne : ∀ {S : List Int} {j : Nat} {v : Int} (h : j < S.length), v ≠ S[j] → le (S.set j v) ≠ le S
  | x :: S, 0, v, h, hv => by
    have hv' : v ≠ x := hv
    show v + 256 * le S ≠ x + 256 * le S
    omega
  | x :: S, j + 1, v, h, hv => by
    have ih := le_set_ne (S := S) (j := j) (v := v) (by simpa using h) hv
    show x + 256 * le (S.set j v) ≠ x + 256 * le S
    omega
theorem unf_turned {l : List Int} (hl : Bytes l) (h : l.length ≤ 65535) {i : Int} (i2 : 2 ≤ i) (hi : i < ((frm l).length : Int)) {v : Int} (v0 : 0 ≤ v) (v1 : v < 256) (hv : v ≠ rd (frm l) i) : (unf ((frm l).set i.toNat v) 0).2.2 = 20 := by
  have hl6 := frm_length (l := l)
  obtain ⟨F, hF⟩ : ∃ F, leB 2 (l.length : Int) ++ l = F := ⟨_, rfl⟩
  obtain ⟨S, hS⟩ : ∃ S, leB 4 (crc 0 F) = S := ⟨_, rfl⟩
  have e : frm l = F ++ S := by rw [frm_eq, hF, hS]
  have bF : Bytes F := hF ▸ (leB_bytes _ _).append hl
  have lF : F.length = l.length + 2 := by rw [← hF, List.length_append, leB_length]; omega
  have lS : S.length = 4 := by rw [← hS, leB_length]
  have tF : F.take 2 = leB 2 (l.length : Int) := hF ▸ take_two l
  have sS : le S = crc 0 F := by rw [← hS]; exact le_sum bF
  rw [e] at hv ⊢
  by_cases c : i.toNat < F.length
  · rw [List.set_append_left _ _ c]
    rw [rd_append_left c] at hv
    have ht : (F.set i.toNat v).take 2 = leB 2 (l.length : Int) := by
      rw [List.take_set, tF, List.set_eq_of_length_le (by rw [leB_length]; omega)]
    have hu := unf_two (F := F.set i.toNat v) (S := S) (r := []) h (by rw [List.length_set]; exact lF) lS ht
    rw [List.append_nil] at hu
    have hne := crc_flip (s := 0) (by omega) (by omega) bF (i := i) c v0 v1 hv
    rw [hu, if_neg (by rw [sS]; exact fun q => hne q.symm)]
  · rw [List.set_append_right _ _ (by omega)]
    rw [rd_append_right (by omega) (by omega), rd_get (by omega)] at hv
    have hu := unf_two (F := F) (S := S.set (i.toNat - F.length) v) (r := []) h lF (by rw [List.length_set]; exact lS) tF
    rw [List.append_nil] at hu
    have hne := le_set_ne (S := S) (j := i.toNat - F.length) (v := v) (by omega) (by
      intro q
      apply hv
      rw [q]
      congr 1
      omega)
    rw [hu, if_neg (by rw [← sS]; exact hne)]
theorem j2_is {l : List Int} (hl : Bytes l) (h : l.length ≤ 65535) {i x : Int} (x0 : 0 ≤ x) (x1 : x < 256) (k : Nat) : skerrylaw02_CrcBack.j2 (k + 3) i x (frm l) (decide (i ≥ ((frm l).length : Int))) = some true ∨ i < 0 := by
  have hl6 := frm_length (l := l)
  have hB := frm_bytes hl
  by_cases c0 : i < 0
  · exact .inr c0
  refine .inl ?_
  simp only [skerrylaw02_CrcBack.j2]
  by_cases c1 : i ≥ ((frm l).length : Int)
  · rw [decide_eq_true c1, if_pos rfl]
  · have hsh := unf_short (l := l) h (i := i.toNat) (by omega)
    rw [decide_eq_false c1, if_neg (by decide), if_pos (by omega), if_pos (by omega), unframe_is (hB.take _) (by rw [List.length_take]; omega) (by omega), Option.bind_some, if_pos hsh]
    by_cases c2 : x = 0
    · rw [if_pos c2]
    · rw [if_neg c2]
      by_cases c3 : i < 2
      · rw [if_pos c3]
      · have hr := hB.rd i
        have e := xor_u8 hr.1 hr.2 x0 x1
        have hlt : (rd (frm l) i).toNat ^^^ x.toNat < 256 := Nat.xor_lt_two_pow (n := 8) (by omega) (by omega)
        have hne : Go.bits .xor .u8 (rd (frm l) i) x ≠ rd (frm l) i := by
          rw [e]
          intro h
          have h2 : (rd (frm l) i).toNat ^^^ x.toNat = (rd (frm l) i).toNat := by omega
          have h3 : x.toNat ^^^ (rd (frm l) i).toNat = 0 ^^^ (rd (frm l) i).toNat := by rw [Nat.xor_comm, h2, Nat.zero_xor]
          have := xor_right_cancel h3
          omega
        have htu := unf_turned hl h (i := i) (by omega) (by omega) (v := Go.bits .xor .u8 (rd (frm l) i) x) (by omega) (by omega) hne
        rw [if_neg c3, Option.bind_some, if_pos (by rw [List.length_nil]; omega), Option.bind_some, List.nil_append, if_pos (by omega), unframe_is (hB.set _ (by omega) (by omega)) (by rw [List.length_set]; omega) (by omega), Option.bind_some, htu, beq_self_eq_true]
theorem CrcBack : skerrylaw02_CrcBack.Pure := by
  intro b c i x hmb hlb hwb hmc hlc hwc hi hx
  have hb := bytes_wf hwb
  have hc := bytes_wf hwc
  have hx := u8_wf hx
  have hw : skerrylaw02_wakes.f = some true := rfl
  refine ⟨10, ?_⟩
  unfold skerrylaw02_CrcBack.f
  rw [hw, Option.bind_some, if_pos rfl]
  have bad : ∀ (u v : List Int) (w : Bool), w = true → (¬ b.length ≤ 65535 ∨ ¬ c.length ≤ 65535) → skerrylaw02_CrcBack.j0 10 b c i x u v w = some true := by
    intro u v w hw' h
    simp only [skerrylaw02_CrcBack.j0]
    rw [if_pos hw']
    by_cases c1 : (b.length : Int) > 65535
    · rw [if_pos c1]
    · rw [if_neg c1, decide_eq_true (by omega)]
  by_cases c1 : b.length ≤ 65535
  · rw [frame_yes hb c1, Option.bind_some]
    by_cases c2 : c.length ≤ 65535
    · rw [frame_yes hc c2, Option.bind_some, if_pos rfl, show ((0 : Int) != 0) = false from rfl]
      simp only [skerrylaw02_CrcBack.j0]
      have lb := frm_length (l := b)
      have lc := frm_length (l := c)
      have bb := frm_bytes hb
      have bc := frm_bytes hc
      have lall : (frm b ++ frm c).length = b.length + 6 + (c.length + 6) := by rw [List.length_append]; omega
      have hu1 := unf_front hb c1 (frm c)
      have hu2 := unf_shift (frm b) (frm c)
      have hu3 := unf_front hc c2 []
      rw [List.append_nil] at hu3
      rw [hu3] at hu2
      simp only [if_true] at hu2
      rw [if_neg (by decide), Option.bind_some, if_pos (by rw [List.length_nil]; omega), Option.bind_some, List.nil_append, if_pos (by omega), Option.bind_some, unframe_is (bb.append bc) (by omega) (by omega), Option.bind_some, unframe_is (bb.append bc) (by omega) (by omega), Option.bind_some, hu1, hu2, if_pos rfl, if_pos rfl, if_pos (show (b.length : Int) + 6 = ((frm b).length : Int) by omega), if_pos (show ((frm b).length : Int) + ((c.length : Int) + 6) = ((frm b ++ frm c).length : Int) by omega), same_is _ _ rfl, Option.bind_some, if_pos rfl, same_is _ _ rfl, Option.bind_some, if_pos rfl]
      simp only [skerrylaw02_CrcBack.j1]
      rw [if_neg (by rw [w64 (by omega) (by omega), bne_iff_ne]; omega)]
      by_cases c3 : i < 0
      · rw [if_pos c3]
        simp [skerrylaw02_CrcBack.j2]
      · rw [if_neg c3]
        exact (j2_is hb c1 hx.1 hx.2 5).resolve_right c3
    · rw [frame_no c2, Option.bind_some, if_pos rfl]
      exact bad _ _ _ rfl (.inr c2)
  · rw [frame_no c1, Option.bind_some]
    by_cases c2 : c.length ≤ 65535
    · rw [frame_yes hc c2, Option.bind_some, if_neg (show ¬ ((5 : Int) = 0) by omega)]
      exact bad _ _ _ rfl (.inl c1)
    · rw [frame_no c2, Option.bind_some, if_neg (show ¬ ((5 : Int) = 0) by omega)]
      exact bad _ _ _ rfl (.inl c1)

end Go.Proofs.Ytmjgmompcaanlac.Pure
