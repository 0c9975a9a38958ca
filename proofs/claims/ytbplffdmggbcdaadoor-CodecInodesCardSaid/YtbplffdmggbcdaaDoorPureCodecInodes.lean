/- Inodes and names in directories, in plain words. No conditions. -/
import Derived.Test.YtbplffdmggbcdaaDoorPCodecInodesx0
import Derived.Test.YtbplffdmggbcdaaDoorPCodecInodesx1
import Derived.Test.YtbplffdmggbcdaaDoorPCodecInodesx2
import Derived.Test.YtbplffdmggbcdaaDoorPCodecInodesx3
import Derived.Test.YtbplffdmggbcdaaDoorPCodecInodesx4
import Derived.Test.YtbplffdmggbcdaaDoorPlain
namespace Go.Proofs.YtbplffdmggbcdaaDoor.Pure
open Go.RowKit Go.Proofs.YtbplffdmggbcdaaDoor.PCodecInodes Go.Proofs.YtbplffdmggbcdaaDoor.Plain Go.Proofs.YtbplffdmggbcdaaDoorW.PrintWords Go.Proofs.YtbplffdmggbcdaaDoorW.PrintLast Go.Proofs.YtbplffdmggbcdaaDoorW.PrintMore

theorem seg_zero (l : List Int) (a : Int) : field_part.seg l a 0 = [] := by
  unfold field_part.seg
  simp
theorem seg_cons {l : List Int} {a n : Int} (h0 : 0 ≤ a) (hn : 0 ≤ n) (h : a < (l.length : Int)) : field_part.seg l a (n + 1) = rd l a :: field_part.seg l (a + 1) n := by
  unfold field_part.seg
  have e : (a + (n + 1)).toNat = (a + 1 + n).toNat := by omega
  have h2 : a.toNat < (l.take (a + 1 + n).toNat).length := by rw [List.length_take]; omega
  rw [e, List.drop_eq_getElem_cons h2, rd_get (by omega), show (a + 1).toNat = a.toNat + 1 by omega]
  congr 1
  exact List.getElem_take
theorem seg1 {l : List Int} {a : Int} (h : field_part.Inside l a 1) : le (field_part.seg l a 1) = rd l a := by
  obtain ⟨h0, _, h1, h2⟩ := h
  rw [show (1 : Int) = 0 + 1 from rfl, seg_cons h0 (by omega) (by omega), seg_zero]
  show rd l a + 256 * 0 = _
  omega
theorem seg2 {l : List Int} {a : Int} (h : field_part.Inside l a 2) : le (field_part.seg l a 2) = rd l a + 256 * rd l (a + 1) := by
  obtain ⟨h0, _, h1, h2⟩ := h
  rw [show (2 : Int) = 0 + 1 + 1 from rfl, seg_cons h0 (by omega) (by omega), seg_cons (by omega) (by omega) (by omega), seg_zero]
  show rd l a + 256 * (rd l (a + 1) + 256 * 0) = _
  omega
theorem seg4 {l : List Int} {a : Int} (h : field_part.Inside l a 4) : le (field_part.seg l a 4) = rd l a + 256 * (rd l (a + 1) + 256 * (rd l (a + 2) + 256 * rd l (a + 3))) := by
  obtain ⟨h0, _, h1, h2⟩ := h
  rw [show (4 : Int) = 0 + 1 + 1 + 1 + 1 from rfl, seg_cons h0 (by omega) (by omega), seg_cons (by omega) (by omega) (by omega), seg_cons (by omega) (by omega) (by omega), seg_cons (by omega) (by omega) (by omega), seg_zero]
  rw [show a + 1 + 1 = a + 2 by omega, show a + 2 + 1 = a + 3 by omega]
  show rd l a + 256 * (rd l (a + 1) + 256 * (rd l (a + 2) + 256 * (rd l (a + 3) + 256 * 0))) = _
  omega
theorem inside_is {l : List Int} (hs : l.length ≤ 140737488351232) {a n : Int} (ha : -9223372036854775808 ≤ a ∧ a ≤ 9223372036854775807) : skerryref01_inside.f l a n = some (decide (field_part.Inside l a n)) := by
  unfold skerryref01_inside.f
  by_cases h0 : a ≥ 0
  · rw [if_pos h0]
    by_cases h1 : n ≥ 0
    · rw [if_pos h1]
      by_cases h2 : a ≤ (l.length : Int)
      · rw [if_pos h2, w64 (by omega) (by omega)]
        congr 1
        apply decide_eq_decide.2
        unfold field_part.Inside
        omega
      · rw [if_neg h2, decide_eq_false (by unfold field_part.Inside; omega)]
    · rw [if_neg h1, decide_eq_false (by unfold field_part.Inside; omega)]
  · rw [if_neg h0, decide_eq_false (by unfold field_part.Inside; omega)]
theorem rget_end (k : Nat) (l : List Int) (a v : Int) {i : Int} (hi : i < 0) : skerryref01_Get.l0 (k + 1) l a v i = some (v, 0) := by
  simp only [skerryref01_Get.l0]
  rw [if_neg (by omega)]
theorem rget_step (k : Nat) {l : List Int} (hl : Bytes l) {a v i : Int} (hs : l.length ≤ 140737488351232) (ha : 0 ≤ a) (hi : 0 ≤ i) (h : a + i < (l.length : Int)) (v0 : 0 ≤ v) (v1 : v < 4294967296) : skerryref01_Get.l0 (k + 1) l a v i = skerryref01_Get.l0 k l a (256 * v + rd l (a + i)) (i - 1) := by
  have hr := hl.rd (a + i)
  simp only [skerryref01_Get.l0]
  rw [if_pos (by omega), w64 (x := a + i) (by omega) (by omega), if_pos (by omega), if_pos h, w64 (x := rd l (a + i)) (by omega) (by omega), w64 (x := 256 * v) (by omega) (by omega), w64 (x := 256 * v + rd l (a + i)) (by omega) (by omega), w64 (x := i - 1) (by omega) (by omega)]
theorem rget_yes {l : List Int} (hl : Bytes l) (hs : l.length ≤ 140737488351232) {a n : Int} (hn : n = 1 ∨ n = 2 ∨ n = 4) (h : field_part.Inside l a n) (k : Nat) : skerryref01_Get.f (k + 8) l a n = some (le (field_part.seg l a n), 0) := by
  have hi := inside_is (l := l) hs (a := a) (n := n) (by obtain ⟨h0, h1, h2, h3⟩ := h; omega)
  rw [decide_eq_true h] at hi
  have hf : skerryref01_Get.f (k + 8) l a n = skerryref01_Get.j0 (k + 8) l a n false := by
    unfold skerryref01_Get.f
    rcases hn with rfl | rfl | rfl
    · rw [if_pos rfl]
    · rw [if_neg (by omega), if_pos rfl]
    · rw [if_neg (by omega), if_neg (by omega)]; rfl
  rw [hf]
  simp only [skerryref01_Get.j0, Bool.false_eq_true, if_false]
  rw [hi]
  simp only [Option.bind_some, if_true]
  have hin := h
  obtain ⟨h0, h1, h2, h3⟩ := h
  have b0 := hl.rd a
  have b1 := hl.rd (a + 1)
  have b2 := hl.rd (a + 2)
  have b3 := hl.rd (a + 3)
  rcases hn with rfl | rfl | rfl
  · rw [seg1 hin, w64 (by omega) (by omega), show (1 : Int) - 1 = 0 from rfl, rget_step _ hl hs h0 (by omega) (by omega) (by omega) (by omega), rget_end _ _ _ _ (by omega)]
    simp
  · rw [seg2 hin, w64 (by omega) (by omega), show (2 : Int) - 1 = 1 from rfl, rget_step _ hl hs h0 (by omega) (by omega) (by omega) (by omega), rget_step _ hl hs h0 (by omega) (by omega) (by omega) (by omega), rget_end _ _ _ _ (by omega), show (1 : Int) - 1 = 0 from rfl, Int.add_zero]
    congr 2
    omega
  · rw [seg4 hin, w64 (by omega) (by omega), show (4 : Int) - 1 = 3 from rfl, rget_step _ hl hs h0 (by omega) (by omega) (by omega) (by omega), show (3 : Int) - 1 = 2 from rfl, rget_step _ hl hs h0 (by omega) (by omega) (by omega) (by omega), show (2 : Int) - 1 = 1 from rfl, rget_step _ hl hs h0 (by omega) (by omega) (by omega) (by omega), show (1 : Int) - 1 = 0 from rfl, rget_step _ hl hs h0 (by omega) (by omega) (by omega) (by omega), rget_end _ _ _ _ (by omega), Int.add_zero]
    congr 2
    omega
theorem rget_range {l : List Int} (hs : l.length ≤ 140737488351232) {a n : Int} (ha : -9223372036854775808 ≤ a ∧ a ≤ 9223372036854775807) (hn : n = 1 ∨ n = 2 ∨ n = 4) (h : ¬ field_part.Inside l a n) (k : Nat) : skerryref01_Get.f (k + 8) l a n = some (0, 2) := by
  have hi := inside_is (l := l) hs (a := a) (n := n) ha
  rw [decide_eq_false h] at hi
  have hf : skerryref01_Get.f (k + 8) l a n = skerryref01_Get.j0 (k + 8) l a n false := by
    unfold skerryref01_Get.f
    rcases hn with rfl | rfl | rfl
    · rw [if_pos rfl]
    · rw [if_neg (by omega), if_pos rfl]
    · rw [if_neg (by omega), if_neg (by omega)]; rfl
  rw [hf]
  simp only [skerryref01_Get.j0, Bool.false_eq_true, if_false]
  rw [hi]
  simp
theorem rget_arg (l : List Int) (a : Int) {n : Int} (hn : ¬ (n = 1 ∨ n = 2 ∨ n = 4)) (k : Nat) : skerryref01_Get.f (k + 8) l a n = some (0, 1) := by
  unfold skerryref01_Get.f
  rw [if_neg (by omega), if_neg (by omega), bne_iff_ne.2 (by omega)]
  simp [skerryref01_Get.j0]
theorem get_yes {l : List Int} (hl : Bytes l) (hs : l.length ≤ 140737488351232) {a n : Int} (hn : n = 1 ∨ n = 2 ∨ n = 4) (h : field_part.Inside l a n) : field_Get.f l a n = some (le (field_part.seg l a n), 0) := by
  unfold field_Get.f
  rw [if_pos hl, if_pos hs, if_pos hn, if_pos h]
/-- Has a number room in n bytes? -/
def Fits (n : Nat) (v : Int) : Prop := 0 ≤ v ∧ v < 256 ^ n
instance (n : Nat) (v : Int) : Decidable (Fits n v) := by unfold Fits; infer_instance
/-- What is put for a number: its bytes, or an error. -/
def Put (n : Nat) (v : Int) : List Int × Int := if Fits n v then (leB n v, 0) else ([], 3)
theorem put_is {n : Nat} (hn : n = 1 ∨ n = 2 ∨ n = 4) (v : Int) : field_Put.f (List.replicate n 0) 0 n v = some (Put n v) := by
  unfold field_Put.f Put
  have e : putB (List.replicate n 0) 0 n v = leB n v := by
    unfold putB
    rw [List.take_zero, List.nil_append, List.drop_eq_nil_of_le (by rw [List.length_replicate]; omega), List.append_nil]
  rw [if_pos (by rw [List.length_replicate]; omega), if_pos (by omega), if_pos (by unfold field_part.Inside; rw [List.length_replicate]; omega), Int.toNat_natCast]
  by_cases c : Fits n v
  · rw [if_pos (show 0 ≤ v ∧ v < 256 ^ n from c), if_pos c, show (0 : Int).toNat = 0 from rfl, e]
  · rw [if_neg (show ¬ (0 ≤ v ∧ v < 256 ^ n) from c), if_neg c]
theorem Put_cases (n : Nat) (v : Int) : (Fits n v ∧ Put n v = (leB n v, 0)) ∨ (¬ Fits n v ∧ Put n v = ([], 3)) := by
  unfold Put
  by_cases c : Fits n v
  · rw [if_pos c]; exact .inl ⟨c, rfl⟩
  · rw [if_neg c]; exact .inr ⟨c, rfl⟩
theorem Put_length (n : Nat) (v : Int) : (Put n v).1.length ≤ n := by
  rcases Put_cases n v with ⟨_, h⟩ | ⟨_, h⟩ <;> rw [h]
  · show (leB n v).length ≤ n; rw [leB_length]; exact Nat.le_refl _
  · exact Nat.zero_le _
theorem Put_bytes (n : Nat) (v : Int) : Bytes (Put n v).1 := by
  rcases Put_cases n v with ⟨_, h⟩ | ⟨_, h⟩ <;> rw [h]
  · exact leB_bytes n v
  · exact Bytes.nil
/-- What a writer holds behind one number more. -/
def wnum (n : Nat) (s : List Int × Int) (v : Int) : List Int × Int := (s.1 ++ (Put n v).1, if s.2 = 0 then (Put n v).2 else s.2)
/-- What a writer holds behind some. -/
def wnums (n : Nat) (s : List Int × Int) (l : List Int) : List Int × Int := l.foldl (wnum n) s
theorem wnum_bytes {n : Nat} {s : List Int × Int} (h : Bytes s.1) (v : Int) : Bytes (wnum n s v).1 := h.append (Put_bytes n v)
theorem wnum_length (n : Nat) (s : List Int × Int) (v : Int) : (wnum n s v).1.length ≤ s.1.length + n := by
  unfold wnum
  rw [List.length_append]
  have := Put_length n v
  omega
theorem wnums_snoc (n : Nat) (s : List Int × Int) (l : List Int) (v : Int) : wnums n s (l ++ [v]) = wnum n (wnums n s l) v := by unfold wnums; rw [List.foldl_append]; rfl
theorem wnums_length (n : Nat) (l : List Int) : ∀ s : List Int × Int, (wnums n s l).1.length ≤ s.1.length + n * l.length := by
  induction l with
  | nil => intro s; exact Nat.le_add_right _ _
  | cons v l ih =>
    intro s
    have h1 := ih (wnum n s v)
    have h2 := wnum_length n s v
    show (wnums n (wnum n s v) l).1.length ≤ _
    rw [List.length_cons, Nat.mul_succ]
    omega
theorem wnums_bytes {n : Nat} (l : List Int) : ∀ {s : List Int × Int}, Bytes s.1 → Bytes (wnums n s l).1 := by
  induction l with
  | nil => intro s h; exact h
  | cons v l ih => intro s h; exact ih (wnum_bytes h v)
/-- Where all fit, all are written. -/
theorem wnums_ok {n : Nat} (l : List Int) : ∀ {bs : List Int}, (∀ v ∈ l, Fits n v) → wnums n (bs, 0) l = (bs ++ (l.map (leB n)).flatten, 0) := by
  induction l with
  | nil => intro bs _; simp [wnums]
  | cons v l ih =>
    intro bs h
    have e : wnum n (bs, 0) v = (bs ++ leB n v, 0) := by
      unfold wnum Put
      rw [if_pos (h v (by simp))]
      rfl
    show wnums n (wnum n (bs, 0) v) l = _
    rw [e, ih (fun x hx => h x (by simp [hx]))]
    simp [List.append_assoc]
theorem wnums_bad {n : Nat} (l : List Int) : ∀ {s : List Int × Int}, s.2 = 3 ∨ (s.2 = 0 ∧ ∃ v ∈ l, ¬ Fits n v) → (wnums n s l).2 = 3 := by
  induction l with
  | nil =>
    intro s h
    rcases h with h | ⟨_, v, hv, _⟩
    · exact h
    · cases hv
  | cons v l ih =>
    intro s h
    show (wnums n (wnum n s v) l).2 = 3
    apply ih
    rcases h with h | ⟨h, x, hx, hn⟩
    · left
      unfold wnum
      rw [if_neg (by rw [h]; decide)]
      exact h
    · rcases Put_cases n v with ⟨hf, e⟩ | ⟨_, e⟩
      · right
        refine ⟨?_, x, ?_, hn⟩
        · unfold wnum; rw [if_pos h, e]
        · rcases List.mem_cons.1 hx with rfl | hx
          · exact absurd hf hn
          · exact hx
      · left
        unfold wnum
        rw [if_pos h, e]
theorem wnums_err (n : Nat) (l : List Int) : ∀ {s : List Int × Int}, s.2 = 0 ∨ s.2 = 3 → (wnums n s l).2 = 0 ∨ (wnums n s l).2 = 3 := by
  induction l with
  | nil => intro s h; exact h
  | cons v l ih =>
    intro s h
    apply ih
    unfold wnum
    rcases h with h | h
    · rw [if_pos h]
      rcases Put_cases n v with ⟨_, e⟩ | ⟨_, e⟩ <;> rw [e]
      · exact .inl rfl
      · exact .inr rfl
    · rw [if_neg (by rw [h]; decide)]
      exact .inr h
/-- A name's bytes in a directory (t: at most 13), or its error. -/
def dirOut (x : Int) (t : List Int) : List Int × Int := if Fits 2 x then (leB 2 x ++ t ++ List.replicate (14 - t.length) 0, 0) else ([], 3)

end Go.Proofs.YtbplffdmggbcdaaDoor.Pure
