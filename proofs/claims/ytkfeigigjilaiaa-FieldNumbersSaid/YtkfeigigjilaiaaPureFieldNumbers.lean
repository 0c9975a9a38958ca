/- Every number that is read or written at every place is what the reference says: the plain law over lists and numbers. No conditions. -/
import Derived.Test.YtkfeigigjilaiaaPFieldNumbersx2
import Derived.Test.YtkfeigigjilaiaaPlain
namespace Go.Proofs.Ytkfeigigjilaiaa.Pure
open Go.RowKit Go.Proofs.Ytkfeigigjilaiaa.PFieldNumbers Go.Proofs.Ytkfeigigjilaiaa.Plain Go.Proofs.YtkfeigigjilaiaaW.PrintWords Go.Proofs.YtkfeigigjilaiaaW.PrintLast Go.Proofs.YtkfeigigjilaiaaW.PrintMore

theorem seg_zero (l : List Int) (a : Int) : field_part.seg l a 0 = [] := by
  unfold field_part.seg
  simp
theorem seg_cons {l : List Int} {a n : Int} (h0 : 0 ≤ a) (hn : 0 ≤ n) (h : a < (l.length : Int)) : field_part.seg l a (n + 1) = rd l a :: field_part.seg l (a + 1) n := by
  unfold field_part.seg
  have e : (a + (n + 1)).toNat = (a + 1 + n).toNat := by omega
  have h2 : a.toNat < (l.take (a + 1 + n).toNat).length := by rw [List.length_take]; omega
  rw [e, List.drop_eq_getElem_cons h2, rd_get (by omega), show (a + 1).toNat = a.toNat + 1 by omega]
  congr 1
  exact List.getElem_take
theorem seg1 {l : List Int} {a : Int} (h : field_part.Inside l a 1) : le (field_part.seg l a 1) = rd l a := by
  obtain ⟨h0, _, h1, h2⟩ := h
  rw [show (1 : Int) = 0 + 1 from rfl, seg_cons h0 (by omega) (by omega), seg_zero]
  show rd l a + 256 * 0 = _
  omega
theorem seg2 {l : List Int} {a : Int} (h : field_part.Inside l a 2) : le (field_part.seg l a 2) = rd l a + 256 * rd l (a + 1) := by
  obtain ⟨h0, _, h1, h2⟩ := h
  rw [show (2 : Int) = 0 + 1 + 1 from rfl, seg_cons h0 (by omega) (by omega), seg_cons (by omega) (by omega) (by omega), seg_zero]
  show rd l a + 256 * (rd l (a + 1) + 256 * 0) = _
  omega
theorem seg4 {l : List Int} {a : Int} (h : field_part.Inside l a 4) : le (field_part.seg l a 4) = rd l a + 256 * (rd l (a + 1) + 256 * (rd l (a + 2) + 256 * rd l (a + 3))) := by
  obtain ⟨h0, _, h1, h2⟩ := h
  rw [show (4 : Int) = 0 + 1 + 1 + 1 + 1 from rfl, seg_cons h0 (by omega) (by omega), seg_cons (by omega) (by omega) (by omega), seg_cons (by omega) (by omega) (by omega), seg_cons (by omega) (by omega) (by omega), seg_zero]
  rw [show a + 1 + 1 = a + 2 by omega, show a + 2 + 1 = a + 3 by omega]
  show rd l a + 256 * (rd l (a + 1) + 256 * (rd l (a + 2) + 256 * (rd l (a + 3) + 256 * 0))) = _
  omega
theorem inside_is {l : List Int} (hs : l.length ≤ 140737488351232) {a n : Int} (ha : -9223372036854775808 ≤ a ∧ a ≤ 9223372036854775807) : skerryref01_inside.f l a n = some (decide (field_part.Inside l a n)) := by
  unfold skerryref01_inside.f
  by_cases h0 : a ≥ 0
  · rw [if_pos h0]
    by_cases h1 : n ≥ 0
    · rw [if_pos h1]
      by_cases h2 : a ≤ (l.length : Int)
      · rw [if_pos h2, w64 (by omega) (by omega)]
        congr 1
        apply decide_eq_decide.2
        unfold field_part.Inside
        omega
      · rw [if_neg h2, decide_eq_false (by unfold field_part.Inside; omega)]
    · rw [if_neg h1, decide_eq_false (by unfold field_part.Inside; omega)]
  · rw [if_neg h0, decide_eq_false (by unfold field_part.Inside; omega)]
theorem rget_end (k : Nat) (l : List Int) (a v : Int) {i : Int} (hi : i < 0) : skerryref01_Get.l0 (k + 1) l a v i = some (v, 0) := by
  simp only [skerryref01_Get.l0]
  rw [if_neg (by omega)]
theorem rget_step (k : Nat) {l : List Int} (hl : Bytes l) {a v i : Int} (hs : l.length ≤ 140737488351232) (ha : 0 ≤ a) (hi : 0 ≤ i) (h : a + i < (l.length : Int)) (v0 : 0 ≤ v) (v1 : v < 4294967296) : skerryref01_Get.l0 (k + 1) l a v i = skerryref01_Get.l0 k l a (256 * v + rd l (a + i)) (i - 1) := by
  have hr := hl.rd (a + i)
  simp only [skerryref01_Get.l0]
  rw [if_pos (by omega), w64 (x := a + i) (by omega) (by omega), if_pos (by omega), if_pos h, w64 (x := rd l (a + i)) (by omega) (by omega), w64 (x := 256 * v) (by omega) (by omega), w64 (x := 256 * v + rd l (a + i)) (by omega) (by omega), w64 (x := i - 1) (by omega) (by omega)]
theorem rget_yes {l : List Int} (hl : Bytes l) (hs : l.length ≤ 140737488351232) {a n : Int} (hn : n = 1 ∨ n = 2 ∨ n = 4) (h : field_part.Inside l a n) (k : Nat) : skerryref01_Get.f (k + 8) l a n = some (le (field_part.seg l a n), 0) := by
  have hi := inside_is (l := l) hs (a := a) (n := n) (by obtain ⟨h0, h1, h2, h3⟩ := h; omega)
  rw [decide_eq_true h] at hi
  have hf : skerryref01_Get.f (k + 8) l a n = skerryref01_Get.j0 (k + 8) l a n false := by
    unfold skerryref01_Get.f
    rcases hn with rfl | rfl | rfl
    · rw [if_pos rfl]
    · rw [if_neg (by omega), if_pos rfl]
    · rw [if_neg (by omega), if_neg (by omega)]; rfl
  rw [hf]
  simp only [skerryref01_Get.j0, Bool.false_eq_true, if_false]
  rw [hi]
  simp only [Option.bind_some, if_true]
  have hin := h
  obtain ⟨h0, h1, h2, h3⟩ := h
  have b0 := hl.rd a
  have b1 := hl.rd (a + 1)
  have b2 := hl.rd (a + 2)
  have b3 := hl.rd (a + 3)
  rcases hn with rfl | rfl | rfl
  · rw [seg1 hin, w64 (by omega) (by omega), show (1 : Int) - 1 = 0 from rfl, rget_step _ hl hs h0 (by omega) (by omega) (by omega) (by omega), rget_end _ _ _ _ (by omega)]
    simp
  · rw [seg2 hin, w64 (by omega) (by omega), show (2 : Int) - 1 = 1 from rfl, rget_step _ hl hs h0 (by omega) (by omega) (by omega) (by omega), rget_step _ hl hs h0 (by omega) (by omega) (by omega) (by omega), rget_end _ _ _ _ (by omega), show (1 : Int) - 1 = 0 from rfl, Int.add_zero]
    congr 2
    omega
  · rw [seg4 hin, w64 (by omega) (by omega), show (4 : Int) - 1 = 3 from rfl, rget_step _ hl hs h0 (by omega) (by omega) (by omega) (by omega), show (3 : Int) - 1 = 2 from rfl, rget_step _ hl hs h0 (by omega) (by omega) (by omega) (by omega), show (2 : Int) - 1 = 1 from rfl, rget_step _ hl hs h0 (by omega) (by omega) (by omega) (by omega), show (1 : Int) - 1 = 0 from rfl, rget_step _ hl hs h0 (by omega) (by omega) (by omega) (by omega), rget_end _ _ _ _ (by omega), Int.add_zero]
    congr 2
    omega
theorem rget_range {l : List Int} (hs : l.length ≤ 140737488351232) {a n : Int} (ha : -9223372036854775808 ≤ a ∧ a ≤ 9223372036854775807) (hn : n = 1 ∨ n = 2 ∨ n = 4) (h : ¬ field_part.Inside l a n) (k : Nat) : skerryref01_Get.f (k + 8) l a n = some (0, 2) := by
  have hi := inside_is (l := l) hs (a := a) (n := n) ha
  rw [decide_eq_false h] at hi
  have hf : skerryref01_Get.f (k + 8) l a n = skerryref01_Get.j0 (k + 8) l a n false := by
    unfold skerryref01_Get.f
    rcases hn with rfl | rfl | rfl
    · rw [if_pos rfl]
    · rw [if_neg (by omega), if_pos rfl]
    · rw [if_neg (by omega), if_neg (by omega)]; rfl
  rw [hf]
  simp only [skerryref01_Get.j0, Bool.false_eq_true, if_false]
  rw [hi]
  simp
theorem rget_arg (l : List Int) (a : Int) {n : Int} (hn : ¬ (n = 1 ∨ n = 2 ∨ n = 4)) (k : Nat) : skerryref01_Get.f (k + 8) l a n = some (0, 1) := by
  unfold skerryref01_Get.f
  rw [if_neg (by omega), if_neg (by omega), bne_iff_ne.2 (by omega)]
  simp [skerryref01_Get.j0]
theorem rput_most (k : Nat) (l : List Int) (a v : Int) {n m i : Int} (hi : i < n) (m0 : 0 ≤ m) (m1 : m ≤ 16777216) (i0 : 0 ≤ i) (n1 : n ≤ 4) : skerryref01_Put.l0 (k + 1) l a n v m i = skerryref01_Put.l0 k l a n v (m * 256) (i + 1) := by
  simp only [skerryref01_Put.l0]
  rw [if_pos hi, w64 (x := m * 256) (by omega) (by omega), w64 (x := i + 1) (by omega) (by omega)]
theorem rput_test (k : Nat) (l : List Int) (a v : Int) {n m : Int} : skerryref01_Put.l0 (k + 1) l a n v m n = skerryref01_Put.j1 k l a n v (decide (¬ (0 ≤ v ∧ v < m))) := by
  simp only [skerryref01_Put.l0]
  rw [if_neg (by omega)]
  by_cases c : v < 0
  · rw [if_pos c, decide_eq_true (by omega)]
  · rw [if_neg c]
    congr 1
    apply decide_eq_decide.2
    omega
theorem rput_begin (k : Nat) (l : List Int) (a v : Int) {n : Int} (hn : n = 1 ∨ n = 2 ∨ n = 4) : ∃ q, k + 4 ≤ q ∧ skerryref01_Put.l0 (k + 8) l a n v 256 1 = skerryref01_Put.j1 q l a n v (decide (¬ (0 ≤ v ∧ v < 256 ^ n.toNat))) := by
  rcases hn with rfl | rfl | rfl
  · refine ⟨k + 7, by omega, ?_⟩
    rw [rput_test]
    rfl
  · refine ⟨k + 6, by omega, ?_⟩
    rw [rput_most _ l a v (by omega) (by omega) (by omega) (by omega) (by omega), show (1 : Int) + 1 = 2 from rfl, rput_test]
    rfl
  · refine ⟨k + 4, by omega, ?_⟩
    rw [rput_most _ l a v (by omega) (by omega) (by omega) (by omega) (by omega), rput_most _ l a v (by omega) (by omega) (by omega) (by omega) (by omega), rput_most _ l a v (by omega) (by omega) (by omega) (by omega) (by omega), show (1 : Int) + 1 + 1 + 1 = 4 from rfl, rput_test]
    rfl
theorem rput_loop {l : List Int} (hs : l.length ≤ 140737488351232) {a v : Int} (n : Nat) (hn : n ≤ 4) (ha : 0 ≤ a) (h : a.toNat + n ≤ l.length) (hv : 0 ≤ v) (hv2 : v ≤ 9223372036854775807) (d : Nat) : ∀ (k i : Nat), n - i = d → i ≤ n → d < k →
    skerryref01_Put.l1 k a n (v / 256 ^ i) (putB l a.toNat i v) i = some (putB l a.toNat n v, 0) := by
  induction d with
  | zero =>
    intro k i hd hi hk
    obtain ⟨k, rfl⟩ : ∃ m, k = m + 1 := ⟨k - 1, by omega⟩
    have : i = n := by omega
    subst this
    simp only [skerryref01_Put.l1]
    rw [if_neg (by omega)]
  | succ d ih =>
    intro k i hd hi hk
    obtain ⟨k, rfl⟩ : ∃ m, k = m + 1 := ⟨k - 1, by omega⟩
    have hl := putB_length (l := l) (a := a.toNat) (n := i) (by omega) v
    have hq0 : 0 ≤ v / 256 ^ i := Int.ediv_nonneg hv (Int.le_of_lt (Int.pow_pos (by decide)))
    have hq1 : v / 256 ^ i ≤ v := Int.ediv_le_self _ hv
    simp only [skerryref01_Put.l1]
    rw [if_pos (by omega), w64 (x := a + (i : Int)) (by omega) (by omega), if_pos (by omega), if_pos (by omega), Int.tdiv_eq_ediv_of_nonneg hq0, Int.tmod_eq_emod_of_nonneg hq0, w64 (by omega) (by omega), w64 (x := (i : Int) + 1) (by omega) (by omega), Int.emod_emod_of_dvd _ (by decide), show (a + (i : Int)).toNat = a.toNat + i by omega, putB_set (by omega)]
    have e : v / 256 ^ i / 256 = v / 256 ^ (i + 1) := by rw [Int.ediv_ediv_of_nonneg (Int.le_of_lt (Int.pow_pos (by decide))), Int.pow_succ]
    rw [e]
    exact ih k (i + 1) (by omega) (by omega) (by omega)
theorem rput_yes {l : List Int} (hl : Bytes l) (hs : l.length ≤ 140737488351232) {a n v : Int} (hn : n = 1 ∨ n = 2 ∨ n = 4) (h : field_part.Inside l a n) (hv : v ≤ 9223372036854775807) {k : Nat} (hk : 2 ≤ k) : skerryref01_Put.f (k + 8) l a n v = some (if 0 ≤ v ∧ v < 256 ^ n.toNat then (putB l a.toNat n.toNat v, 0) else ([], 3)) := by
  unfold skerryref01_Put.f
  rw [rget_yes hl hs hn h k]
  simp only [Option.bind_some, if_true]
  obtain ⟨q, hq, e⟩ := rput_begin k l a v hn
  rw [e]
  obtain ⟨q, rfl⟩ : ∃ m, q = m + 1 := ⟨q - 1, by omega⟩
  by_cases c : 0 ≤ v ∧ v < 256 ^ n.toNat
  · rw [if_pos c, decide_eq_false (by simpa using c)]
    simp only [skerryref01_Put.j1, Bool.false_eq_true, if_false, List.nil_append, List.length_nil, Option.bind_some]
    rw [if_pos (by omega)]
    obtain ⟨h0, h1, h2, h3⟩ := h
    have hx := rput_loop hs n.toNat (by omega) h0 (by omega) c.1 hv n.toNat q 0 (by omega) (by omega) (by omega)
    rw [putB_zero, Int.toNat_of_nonneg h1, show v / 256 ^ 0 = v by simp] at hx
    exact hx
  · rw [if_neg c, decide_eq_true c]
    simp [skerryref01_Put.j1]
theorem FieldNumbers : skerrylaw01_FieldNumbers.Pure := by
  intro l a n v hm hlen hwf ha hn hv
  have hl := bytes_wf hwf
  have ha := i64_wf ha
  have hv := i64_wf hv
  have hs : l.length ≤ 140737488351232 := by omega
  refine ⟨8 + 8, ?_⟩
  have hw : skerrylaw01_wakes.f = some true := by decide +kernel
  unfold skerrylaw01_FieldNumbers.f
  rw [hw]
  simp only [Option.bind_some, if_true]
  unfold field_Get.f field_Put.f
  rw [if_pos hl, if_pos hs, if_pos hs]
  simp only [Option.bind_some]
  by_cases h1 : n = 1 ∨ n = 2 ∨ n = 4
  · rw [if_pos h1, if_pos h1]
    by_cases h2 : field_part.Inside l a n
    · rw [if_pos h2, if_pos h2, rget_yes hl hs h1 h2 8, rput_yes hl hs h1 h2 (by omega) (k := 8) (by omega)]
      simp [skerryref01_SameBytes.f]
    · have e : skerryref01_Put.f (8 + 8) l a n v = some ([], 2) := by
        unfold skerryref01_Put.f
        rw [rget_range hs ha h1 h2 8]
        simp
      rw [if_neg h2, if_neg h2, rget_range hs ha h1 h2 8, e]
      simp [skerryref01_SameBytes.f]
  · have e : skerryref01_Put.f (8 + 8) l a n v = some ([], 1) := by
      unfold skerryref01_Put.f
      rw [rget_arg l a h1 8]
      simp
    rw [if_neg h1, if_neg h1, rget_arg l a h1 8, e]
    simp [skerryref01_SameBytes.f]

end Go.Proofs.Ytkfeigigjilaiaa.Pure
