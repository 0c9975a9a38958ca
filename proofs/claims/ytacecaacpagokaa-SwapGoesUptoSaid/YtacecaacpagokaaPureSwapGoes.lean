/- Records of swap files are written and read: the plain words over lists and numbers. No conditions. -/
import Derived.Test.YtacecaacpagokaaPSwapGoesx0
import Derived.Test.YtacecaacpagokaaPSwapGoesx1
import Derived.Test.YtacecaacpagokaaPSwapGoesx2
import Derived.Test.YtacecaacpagokaaPSwapGoesx3
import Derived.Test.YtacecaacpagokaaPSwapGoesx4
import Derived.Test.YtacecaacpagokaaPlain
import Derived.Test.YtacecaacpagokaaPlainCrc
namespace Go.Proofs.Ytacecaacpagokaa.Pure
open Go.RowKit Go.Proofs.Ytacecaacpagokaa.PSwapGoes Go.Proofs.Ytacecaacpagokaa.Plain Go.Proofs.YtacecaacpagokaaW.PrintWords Go.Proofs.YtacecaacpagokaaW.PrintLast Go.Proofs.YtacecaacpagokaaW.PrintMore

theorem roll_is {s : Int} {l : List Int} (h0 : 0 ≤ s) (h1 : s < 4294967296) (hl : Bytes l) : crc_roll.f s l = some (crc s l) := by
  unfold crc_roll.f
  rw [if_pos ⟨h0, h1⟩, if_pos hl]
theorem sum_is {l : List Int} (hl : Bytes l) : crc_Sum.f l = some (crc 0 l) := by
  have h := crc_range (s := 0) (by omega) (by omega) hl
  unfold crc_Sum.f
  rw [roll_is (by omega) (by omega) hl]
  simp only [Option.bind_some]
  rw [w64 (by omega) (by omega)]
/-- A frame. -/
def frm (l : List Int) : List Int := leB 2 (l.length : Int) ++ l ++ leB 4 (crc 0 (leB 2 (l.length : Int) ++ l))
theorem put_new {n : Nat} (hn : n = 2 ∨ n = 4) {v : Int} (h0 : 0 ≤ v) (h1 : v < 256 ^ n) : field_Put.f (List.replicate n 0) 0 n v = some (leB n v, 0) := by
  unfold field_Put.f
  have e : putB (List.replicate n 0) 0 n v = leB n v := by
    unfold putB
    rw [List.take_zero, List.nil_append, List.drop_eq_nil_of_le (by rw [List.length_replicate]; omega), List.append_nil]
  rw [if_pos (by rw [List.length_replicate]; omega), if_pos (by omega), if_pos (by unfold field_part.Inside; rw [List.length_replicate]; omega), if_pos ⟨h0, by rw [Int.toNat_natCast]; exact h1⟩, Int.toNat_natCast, show (0 : Int).toNat = 0 from rfl, e]
theorem put2 {v : Int} (h0 : 0 ≤ v) (h1 : v < 65536) : field_Put.f (List.replicate 2 0) 0 2 v = some (leB 2 v, 0) := put_new (n := 2) (.inl rfl) h0 h1
theorem put4 {v : Int} (h0 : 0 ≤ v) (h1 : v < 4294967296) : field_Put.f (List.replicate 4 0) 0 4 v = some (leB 4 v, 0) := put_new (n := 4) (.inr rfl) h0 h1
theorem cat2 {a b : List Int} (h : a.length + b.length < 140737488355328) : slices_Concat_byte_byte.f [a, b] = some (a ++ b) := by
  unfold slices_Concat_byte_byte.f
  have e : [a, b].flatten = a ++ b := by simp
  rw [e, if_pos ⟨by rw [List.length_append]; exact h, by show 2 < 140737488355328; omega⟩]
theorem frame_yes {l : List Int} (hl : Bytes l) (h : l.length ≤ 65535) : crc_Frame.f l = some (frm l, 0) := by
  have hF : Bytes (leB 2 (l.length : Int) ++ l) := (leB_bytes _ _).append hl
  have hr := crc_range (s := 0) (by omega) (by omega) hF
  unfold crc_Frame.f
  rw [if_pos (by decide), put2 (by omega) (by omega)]
  simp only [Option.bind_some, if_true]
  rw [cat2 (by rw [leB_length]; omega)]
  simp only [Option.bind_some]
  rw [if_pos (by decide), sum_is hF]
  simp only [Option.bind_some]
  rw [put4 hr.1 hr.2]
  simp only [Option.bind_some]
  rw [cat2 (by rw [List.length_append, leB_length, leB_length]; omega)]
  rfl
theorem frame_no {l : List Int} (h : ¬ l.length ≤ 65535) : crc_Frame.f l = some ([], 5) := by
  unfold crc_Frame.f
  have e : field_Put.f (List.replicate 2 0) 0 2 (l.length : Int) = some ([], 3) := by
    unfold field_Put.f
    rw [if_pos (by decide), if_pos (by omega), if_pos (by unfold field_part.Inside; rw [List.length_replicate]; omega), if_neg]
    rintro ⟨_, h2⟩
    have h3 : (l.length : Int) < 65536 := h2
    omega
  rw [if_pos (by decide), e]
  rfl
theorem frm_length {l : List Int} : (frm l).length = l.length + 6 := by
  unfold frm
  simp only [List.length_append, leB_length]
  omega
theorem frm_bytes {l : List Int} (hl : Bytes l) : Bytes (frm l) := ((leB_bytes _ _).append hl).append (leB_bytes _ _)
/-- What is read at a place. -/
def unf (l : List Int) (at_ : Int) : List Int × Int × Int :=
  if at_ < 0 ∨ (l.length : Int) < at_ then ([], 0, 2)
  else if ((l.drop at_.toNat).length : Int) < 2 ∨ ((l.drop at_.toNat).length : Int) - 6 < le (field_part.seg (l.drop at_.toNat) 0 2) then ([], 0, 21)
  else if le (field_part.seg (l.drop at_.toNat) (le (field_part.seg (l.drop at_.toNat) 0 2) + 2) 4) = crc 0 ((l.drop at_.toNat).take (le (field_part.seg (l.drop at_.toNat) 0 2) + 2).toNat) then
    (((l.drop at_.toNat).take (le (field_part.seg (l.drop at_.toNat) 0 2) + 2).toNat).drop 2, at_ + le (field_part.seg (l.drop at_.toNat) 0 2) + 6, 0)
  else ([], 0, 20)
theorem seg_bytes {l : List Int} (hl : Bytes l) (a n : Int) : Bytes (field_part.seg l a n) := by
  unfold field_part.seg
  exact (hl.take _).drop _
theorem seg_length {l : List Int} {a n : Int} (h : field_part.Inside l a n) : (field_part.seg l a n).length = n.toNat := by
  obtain ⟨h0, h1, h2, h3⟩ := h
  unfold field_part.seg
  rw [List.length_drop, List.length_take]
  omega
theorem le2_range {l : List Int} (hl : Bytes l) {a : Int} (h : field_part.Inside l a 2) : 0 ≤ le (field_part.seg l a 2) ∧ le (field_part.seg l a 2) < 65536 := by
  have h1 := le_range (seg_bytes hl a 2)
  rw [seg_length h] at h1
  exact h1
theorem get_yes {l : List Int} (hl : Bytes l) (hs : l.length ≤ 140737488351232) {a n : Int} (hn : n = 1 ∨ n = 2 ∨ n = 4) (h : field_part.Inside l a n) : field_Get.f l a n = some (le (field_part.seg l a n), 0) := by
  unfold field_Get.f
  rw [if_pos hl, if_pos hs, if_pos hn, if_pos h]
theorem get_no {l : List Int} (hl : Bytes l) (hs : l.length ≤ 140737488351232) {a n : Int} (hn : n = 1 ∨ n = 2 ∨ n = 4) (h : ¬ field_part.Inside l a n) : field_Get.f l a n = some (0, 2) := by
  unfold field_Get.f
  rw [if_pos hl, if_pos hs, if_pos hn, if_neg h]
theorem clone_is {l : List Int} (h : l.length ≤ 140737488351232) : slices_Clone_byte_byte.f l = some l := by
  unfold slices_Clone_byte_byte.f
  rw [if_pos (by omega)]
theorem unframe_is {l : List Int} (hl : Bytes l) (hs : l.length ≤ 140737488351232) {a : Int} (ha : -9223372036854775808 ≤ a ∧ a ≤ 9223372036854775807) (k : Nat) : crc_Unframe.f (k + 2) l a = some (unf l a) := by
  unfold crc_Unframe.f unf
  by_cases c1 : a < 0
  · rw [if_pos c1, if_pos (.inl c1)]
    simp [crc_Unframe.j0]
  rw [if_neg c1]
  by_cases c2 : (l.length : Int) < a
  · rw [if_pos (.inr c2), decide_eq_true (show a > (l.length : Int) by omega)]
    simp [crc_Unframe.j0]
  rw [if_neg (by omega), decide_eq_false (by omega)]
  simp only [crc_Unframe.j0, Bool.false_eq_true, if_false]
  rw [if_pos (by omega), if_pos (by omega)]
  have hdl : (l.drop a.toNat).length = l.length - a.toNat := List.length_drop
  obtain ⟨d, hd⟩ : ∃ d, l.drop a.toNat = d := ⟨_, rfl⟩
  have hD : Bytes d := hd ▸ hl.drop _
  rw [hd] at hdl ⊢
  by_cases c3 : field_part.Inside d 0 2
  · have hn := le2_range hD c3
    rw [get_yes hD (by omega) (by omega) c3]
    obtain ⟨n, hnn⟩ : ∃ n, le (field_part.seg d 0 2) = n := ⟨_, rfl⟩
    rw [hnn] at hn ⊢
    obtain ⟨_, _, _, i3⟩ := c3
    simp only [Option.bind_some, if_true]
    rw [w64 (x := (d.length : Int) - 6) (by omega) (by omega)]
    by_cases c4 : (d.length : Int) - 6 < n
    · rw [decide_eq_true c4, if_pos (.inr c4)]
      simp [crc_Unframe.j1]
    · rw [decide_eq_false c4, if_neg (by omega)]
      have g : field_part.Inside d (n + 2) 4 := by unfold field_part.Inside; omega
      simp only [crc_Unframe.j1, Bool.false_eq_true, if_false]
      rw [w64 (x := n + 2) (by omega) (by omega), get_yes hD (by omega) (by omega) g]
      simp only [Option.bind_some]
      rw [if_pos (by omega), if_pos (by omega), sum_is (hD.take _)]
      simp only [Option.bind_some]
      by_cases c5 : le (field_part.seg d (n + 2) 4) = crc 0 (d.take (n + 2).toNat)
      · rw [if_pos c5, if_pos c5, if_pos (by omega), clone_is (by rw [List.length_drop, List.length_take]; omega)]
        simp only [Option.bind_some]
        rw [w64 (x := a + n) (by omega) (by omega), w64 (x := a + n + 6) (by omega) (by omega)]
      · rw [if_neg c5, if_neg c5]
  · rw [get_no hD (by omega) (by omega) c3]
    have : (d.length : Int) < 2 := by
      unfold field_part.Inside at c3
      omega
    rw [if_pos (.inl this)]
    simp [crc_Unframe.j1]
/-- Has a number room in n bytes? -/
def Fits (n : Nat) (v : Int) : Prop := 0 ≤ v ∧ v < 256 ^ n
instance (n : Nat) (v : Int) : Decidable (Fits n v) := by unfold Fits; infer_instance
/-- What is put for a number: its bytes, or an error. -/
def Put (n : Nat) (v : Int) : List Int × Int := if Fits n v then (leB n v, 0) else ([], 3)
theorem put_is {n : Nat} (hn : n = 1 ∨ n = 2 ∨ n = 4) (v : Int) : field_Put.f (List.replicate n 0) 0 n v = some (Put n v) := by
  unfold field_Put.f Put
  have e : putB (List.replicate n 0) 0 n v = leB n v := by
    unfold putB
    rw [List.take_zero, List.nil_append, List.drop_eq_nil_of_le (by rw [List.length_replicate]; omega), List.append_nil]
  rw [if_pos (by rw [List.length_replicate]; omega), if_pos (by omega), if_pos (by unfold field_part.Inside; rw [List.length_replicate]; omega), Int.toNat_natCast]
  by_cases c : Fits n v
  · rw [if_pos (show 0 ≤ v ∧ v < 256 ^ n from c), if_pos c, show (0 : Int).toNat = 0 from rfl, e]
  · rw [if_neg (show ¬ (0 ≤ v ∧ v < 256 ^ n) from c), if_neg c]
theorem Put_cases (n : Nat) (v : Int) : (Fits n v ∧ Put n v = (leB n v, 0)) ∨ (¬ Fits n v ∧ Put n v = ([], 3)) := by
  unfold Put
  by_cases c : Fits n v
  · rw [if_pos c]; exact .inl ⟨c, rfl⟩
  · rw [if_neg c]; exact .inr ⟨c, rfl⟩
theorem Put_length (n : Nat) (v : Int) : (Put n v).1.length ≤ n := by
  rcases Put_cases n v with ⟨_, h⟩ | ⟨_, h⟩ <;> rw [h]
  · show (leB n v).length ≤ n; rw [leB_length]; exact Nat.le_refl _
  · exact Nat.zero_le _
theorem Put_bytes (n : Nat) (v : Int) : Bytes (Put n v).1 := by
  rcases Put_cases n v with ⟨_, h⟩ | ⟨_, h⟩ <;> rw [h]
  · exact leB_bytes n v
  · exact Bytes.nil
/-- What a writer holds behind one number more. -/
def wnum (n : Nat) (s : List Int × Int) (v : Int) : List Int × Int := (s.1 ++ (Put n v).1, if s.2 = 0 then (Put n v).2 else s.2)
/-- What a writer holds behind some. -/
def wnums (n : Nat) (s : List Int × Int) (l : List Int) : List Int × Int := l.foldl (wnum n) s
theorem wnum_bytes {n : Nat} {s : List Int × Int} (h : Bytes s.1) (v : Int) : Bytes (wnum n s v).1 := h.append (Put_bytes n v)
theorem wnum_length (n : Nat) (s : List Int × Int) (v : Int) : (wnum n s v).1.length ≤ s.1.length + n := by
  unfold wnum
  rw [List.length_append]
  have := Put_length n v
  omega
theorem wnums_snoc (n : Nat) (s : List Int × Int) (l : List Int) (v : Int) : wnums n s (l ++ [v]) = wnum n (wnums n s l) v := by unfold wnums; rw [List.foldl_append]; rfl
theorem wnums_length (n : Nat) (l : List Int) : ∀ s : List Int × Int, (wnums n s l).1.length ≤ s.1.length + n * l.length := by
  induction l with
  | nil => intro s; exact Nat.le_add_right _ _
  | cons v l ih =>
    intro s
    have h1 := ih (wnum n s v)
    have h2 := wnum_length n s v
    show (wnums n (wnum n s v) l).1.length ≤ _
    rw [List.length_cons, Nat.mul_succ]
    omega
theorem wnums_bytes {n : Nat} (l : List Int) : ∀ {s : List Int × Int}, Bytes s.1 → Bytes (wnums n s l).1 := by
  induction l with
  | nil => intro s h; exact h
  | cons v l ih => intro s h; exact ih (wnum_bytes h v)
/-- Where all fit, all are written. -/
theorem wnums_ok {n : Nat} (l : List Int) : ∀ {bs : List Int}, (∀ v ∈ l, Fits n v) → wnums n (bs, 0) l = (bs ++ (l.map (leB n)).flatten, 0) := by
  induction l with
  | nil => intro bs _; simp [wnums]
  | cons v l ih =>
    intro bs h
    have e : wnum n (bs, 0) v = (bs ++ leB n v, 0) := by
      unfold wnum Put
      rw [if_pos (h v (by simp))]
      rfl
    show wnums n (wnum n (bs, 0) v) l = _
    rw [e, ih (fun x hx => h x (by simp [hx]))]
    simp [List.append_assoc]
theorem wnums_bad {n : Nat} (l : List Int) : ∀ {s : List Int × Int}, s.2 = 3 ∨ (s.2 = 0 ∧ ∃ v ∈ l, ¬ Fits n v) → (wnums n s l).2 = 3 := by
  induction l with
  | nil =>
    intro s h
    rcases h with h | ⟨_, v, hv, _⟩
    · exact h
    · cases hv
  | cons v l ih =>
    intro s h
    show (wnums n (wnum n s v) l).2 = 3
    apply ih
    rcases h with h | ⟨h, x, hx, hn⟩
    · left
      unfold wnum
      rw [if_neg (by rw [h]; decide)]
      exact h
    · rcases Put_cases n v with ⟨hf, e⟩ | ⟨_, e⟩
      · right
        refine ⟨?_, x, ?_, hn⟩
        · unfold wnum; rw [if_pos h, e]
        · rcases List.mem_cons.1 hx with rfl | hx
          · exact absurd hf hn
          · exact hx
      · left
        unfold wnum
        rw [if_pos h, e]
theorem wnums_err (n : Nat) (l : List Int) : ∀ {s : List Int × Int}, s.2 = 0 ∨ s.2 = 3 → (wnums n s l).2 = 0 ∨ (wnums n s l).2 = 3 := by
  induction l with
  | nil => intro s h; exact h
  | cons v l ih =>
    intro s h
    apply ih
    unfold wnum
    rcases h with h | h
    · rw [if_pos h]
      rcases Put_cases n v with ⟨_, e⟩ | ⟨_, e⟩ <;> rw [e]
      · exact .inl rfl
      · exact .inr rfl
    · rw [if_neg (by rw [h]; decide)]
      exact .inr h
/-- A name's bytes in a directory (t: at most 13), or its error. -/
def dirOut (x : Int) (t : List Int) : List Int × Int := if Fits 2 x then (leB 2 x ++ t ++ List.replicate (14 - t.length) 0, 0) else ([], 3)
/-- What a writer holds behind a record's numbers. -/
def recNums (b q s0 s1 s2 s3 a n : Int) : List Int × Int := wnums 2 (wnums 4 ([], 0) [b, q, a, n]) [s0, s1, s2, s3]
/-- A record's bytes, or its error. -/
def recOut (b q s0 s1 s2 s3 a n : Int) (t : List Int) : List Int × Int :=
  if (recNums b q s0 s1 s2 s3 a n).2 = 0 then (if ((recNums b q s0 s1 s2 s3 a n).1 ++ t).length ≤ 65535 then (frm ((recNums b q s0 s1 s2 s3 a n).1 ++ t), 0) else ([], 5)) else ([], 3)
theorem recNums_err (b q s0 s1 s2 s3 a n : Int) : (recNums b q s0 s1 s2 s3 a n).2 = 0 ∨ (recNums b q s0 s1 s2 s3 a n).2 = 3 := wnums_err 2 _ (wnums_err 4 _ (.inl rfl))
theorem recNums_bytes (b q s0 s1 s2 s3 a n : Int) : Bytes (recNums b q s0 s1 s2 s3 a n).1 := wnums_bytes _ (wnums_bytes _ Bytes.nil)
theorem recNums_length (b q s0 s1 s2 s3 a n : Int) : (recNums b q s0 s1 s2 s3 a n).1.length ≤ 24 := by
  have h1 := wnums_length 2 [s0, s1, s2, s3] (wnums 4 ([], 0) [b, q, a, n])
  have h2 := wnums_length 4 [b, q, a, n] ([], 0)
  unfold recNums
  simp only [List.length_cons, List.length_nil] at h1 h2
  omega
theorem frame_out {l : List Int} (hl : Bytes l) : crc_Frame.f l = some (if l.length ≤ 65535 then (frm l, 0) else ([], 5)) := by
  by_cases c : l.length ≤ 65535
  · rw [if_pos c]; exact frame_yes hl c
  · rw [if_neg c]; exact frame_no c

end Go.Proofs.Ytacecaacpagokaa.Pure
