/- A super block and a log's header are read, in plain words. No conditions. -/
import Derived.Test.YtbplffdmggbcdaaPCodecHeadsx7
import Derived.Test.YtbplffdmggbcdaaPlain
import Derived.Test.YtbplffdmggbcdaaPureCodecHeads
import Derived.Test.YtbplffdmggbcdaaPlainCrc
namespace Go.Proofs.Ytbplffdmggbcdaa.Pure
open Go.RowKit Go.Proofs.Ytbplffdmggbcdaa.PCodecHeads Go.Proofs.Ytbplffdmggbcdaa.Plain Go.Proofs.YtbplffdmggbcdaaW.PrintWords Go.Proofs.YtbplffdmggbcdaaW.PrintLast Go.Proofs.YtbplffdmggbcdaaW.PrintMore

theorem seg_zero (l : List Int) (a : Int) : field_part.seg l a 0 = [] := by
  unfold field_part.seg
  simp
theorem seg_cons {l : List Int} {a n : Int} (h0 : 0 ≤ a) (hn : 0 ≤ n) (h : a < (l.length : Int)) : field_part.seg l a (n + 1) = rd l a :: field_part.seg l (a + 1) n := by
  unfold field_part.seg
  have e : (a + (n + 1)).toNat = (a + 1 + n).toNat := by omega
  have h2 : a.toNat < (l.take (a + 1 + n).toNat).length := by rw [List.length_take]; omega
  rw [e, List.drop_eq_getElem_cons h2, rd_get (by omega), show (a + 1).toNat = a.toNat + 1 by omega]
  congr 1
  exact List.getElem_take
theorem seg1 {l : List Int} {a : Int} (h : field_part.Inside l a 1) : le (field_part.seg l a 1) = rd l a := by
  obtain ⟨h0, _, h1, h2⟩ := h
  rw [show (1 : Int) = 0 + 1 from rfl, seg_cons h0 (by omega) (by omega), seg_zero]
  show rd l a + 256 * 0 = _
  omega
theorem seg2 {l : List Int} {a : Int} (h : field_part.Inside l a 2) : le (field_part.seg l a 2) = rd l a + 256 * rd l (a + 1) := by
  obtain ⟨h0, _, h1, h2⟩ := h
  rw [show (2 : Int) = 0 + 1 + 1 from rfl, seg_cons h0 (by omega) (by omega), seg_cons (by omega) (by omega) (by omega), seg_zero]
  show rd l a + 256 * (rd l (a + 1) + 256 * 0) = _
  omega
theorem seg4 {l : List Int} {a : Int} (h : field_part.Inside l a 4) : le (field_part.seg l a 4) = rd l a + 256 * (rd l (a + 1) + 256 * (rd l (a + 2) + 256 * rd l (a + 3))) := by
  obtain ⟨h0, _, h1, h2⟩ := h
  rw [show (4 : Int) = 0 + 1 + 1 + 1 + 1 from rfl, seg_cons h0 (by omega) (by omega), seg_cons (by omega) (by omega) (by omega), seg_cons (by omega) (by omega) (by omega), seg_cons (by omega) (by omega) (by omega), seg_zero]
  rw [show a + 1 + 1 = a + 2 by omega, show a + 2 + 1 = a + 3 by omega]
  show rd l a + 256 * (rd l (a + 1) + 256 * (rd l (a + 2) + 256 * (rd l (a + 3) + 256 * 0))) = _
  omega
theorem inside_is {l : List Int} (hs : l.length ≤ 140737488351232) {a n : Int} (ha : -9223372036854775808 ≤ a ∧ a ≤ 9223372036854775807) : skerryref01_inside.f l a n = some (decide (field_part.Inside l a n)) := by
  unfold skerryref01_inside.f
  by_cases h0 : a ≥ 0
  · rw [if_pos h0]
    by_cases h1 : n ≥ 0
    · rw [if_pos h1]
      by_cases h2 : a ≤ (l.length : Int)
      · rw [if_pos h2, w64 (by omega) (by omega)]
        congr 1
        apply decide_eq_decide.2
        unfold field_part.Inside
        omega
      · rw [if_neg h2, decide_eq_false (by unfold field_part.Inside; omega)]
    · rw [if_neg h1, decide_eq_false (by unfold field_part.Inside; omega)]
  · rw [if_neg h0, decide_eq_false (by unfold field_part.Inside; omega)]
theorem rget_end (k : Nat) (l : List Int) (a v : Int) {i : Int} (hi : i < 0) : skerryref01_Get.l0 (k + 1) l a v i = some (v, 0) := by
  simp only [skerryref01_Get.l0]
  rw [if_neg (by omega)]
theorem rget_step (k : Nat) {l : List Int} (hl : Bytes l) {a v i : Int} (hs : l.length ≤ 140737488351232) (ha : 0 ≤ a) (hi : 0 ≤ i) (h : a + i < (l.length : Int)) (v0 : 0 ≤ v) (v1 : v < 4294967296) : skerryref01_Get.l0 (k + 1) l a v i = skerryref01_Get.l0 k l a (256 * v + rd l (a + i)) (i - 1) := by
  have hr := hl.rd (a + i)
  simp only [skerryref01_Get.l0]
  rw [if_pos (by omega), w64 (x := a + i) (by omega) (by omega), if_pos (by omega), if_pos h, w64 (x := rd l (a + i)) (by omega) (by omega), w64 (x := 256 * v) (by omega) (by omega), w64 (x := 256 * v + rd l (a + i)) (by omega) (by omega), w64 (x := i - 1) (by omega) (by omega)]
theorem rget_yes {l : List Int} (hl : Bytes l) (hs : l.length ≤ 140737488351232) {a n : Int} (hn : n = 1 ∨ n = 2 ∨ n = 4) (h : field_part.Inside l a n) (k : Nat) : skerryref01_Get.f (k + 8) l a n = some (le (field_part.seg l a n), 0) := by
  have hi := inside_is (l := l) hs (a := a) (n := n) (by obtain ⟨h0, h1, h2, h3⟩ := h; omega)
  rw [decide_eq_true h] at hi
  have hf : skerryref01_Get.f (k + 8) l a n = skerryref01_Get.j0 (k + 8) l a n false := by
    unfold skerryref01_Get.f
    rcases hn with rfl | rfl | rfl
    · rw [if_pos rfl]
    · rw [if_neg (by omega), if_pos rfl]
    · rw [if_neg (by omega), if_neg (by omega)]; rfl
  rw [hf]
  simp only [skerryref01_Get.j0, Bool.false_eq_true, if_false]
  rw [hi]
  simp only [Option.bind_some, if_true]
  have hin := h
  obtain ⟨h0, h1, h2, h3⟩ := h
  have b0 := hl.rd a
  have b1 := hl.rd (a + 1)
  have b2 := hl.rd (a + 2)
  have b3 := hl.rd (a + 3)
  rcases hn with rfl | rfl | rfl
  · rw [seg1 hin, w64 (by omega) (by omega), show (1 : Int) - 1 = 0 from rfl, rget_step _ hl hs h0 (by omega) (by omega) (by omega) (by omega), rget_end _ _ _ _ (by omega)]
    simp
  · rw [seg2 hin, w64 (by omega) (by omega), show (2 : Int) - 1 = 1 from rfl, rget_step _ hl hs h0 (by omega) (by omega) (by omega) (by omega), rget_step _ hl hs h0 (by omega) (by omega) (by omega) (by omega), rget_end _ _ _ _ (by omega), show (1 : Int) - 1 = 0 from rfl, Int.add_zero]
    congr 2
    omega
  · rw [seg4 hin, w64 (by omega) (by omega), show (4 : Int) - 1 = 3 from rfl, rget_step _ hl hs h0 (by omega) (by omega) (by omega) (by omega), show (3 : Int) - 1 = 2 from rfl, rget_step _ hl hs h0 (by omega) (by omega) (by omega) (by omega), show (2 : Int) - 1 = 1 from rfl, rget_step _ hl hs h0 (by omega) (by omega) (by omega) (by omega), show (1 : Int) - 1 = 0 from rfl, rget_step _ hl hs h0 (by omega) (by omega) (by omega) (by omega), rget_end _ _ _ _ (by omega), Int.add_zero]
    congr 2
    omega
theorem rget_range {l : List Int} (hs : l.length ≤ 140737488351232) {a n : Int} (ha : -9223372036854775808 ≤ a ∧ a ≤ 9223372036854775807) (hn : n = 1 ∨ n = 2 ∨ n = 4) (h : ¬ field_part.Inside l a n) (k : Nat) : skerryref01_Get.f (k + 8) l a n = some (0, 2) := by
  have hi := inside_is (l := l) hs (a := a) (n := n) ha
  rw [decide_eq_false h] at hi
  have hf : skerryref01_Get.f (k + 8) l a n = skerryref01_Get.j0 (k + 8) l a n false := by
    unfold skerryref01_Get.f
    rcases hn with rfl | rfl | rfl
    · rw [if_pos rfl]
    · rw [if_neg (by omega), if_pos rfl]
    · rw [if_neg (by omega), if_neg (by omega)]; rfl
  rw [hf]
  simp only [skerryref01_Get.j0, Bool.false_eq_true, if_false]
  rw [hi]
  simp
theorem rget_arg (l : List Int) (a : Int) {n : Int} (hn : ¬ (n = 1 ∨ n = 2 ∨ n = 4)) (k : Nat) : skerryref01_Get.f (k + 8) l a n = some (0, 1) := by
  unfold skerryref01_Get.f
  rw [if_neg (by omega), if_neg (by omega), bne_iff_ne.2 (by omega)]
  simp [skerryref01_Get.j0]
theorem get_yes {l : List Int} (hl : Bytes l) (hs : l.length ≤ 140737488351232) {a n : Int} (hn : n = 1 ∨ n = 2 ∨ n = 4) (h : field_part.Inside l a n) : field_Get.f l a n = some (le (field_part.seg l a n), 0) := by
  unfold field_Get.f
  rw [if_pos hl, if_pos hs, if_pos hn, if_pos h]
open Go.Proofs.Ytbplffdmggbcdaa.Pure (pw mk pw_iff size_is rmake_is rsuper_is rhead_is superOut headOut sealB superH headH check_is make_is)
def nm (l : List Int) (a n : Int) : Int := le (field_part.seg l a n)
theorem num_is {l : List Int} (hl : Bytes l) (hs : l.length ≤ 140737488351232) (h64 : 64 ≤ l.length) {k : Nat} (hk : 8 ≤ k) {a n : Int} (hn : n = 1 ∨ n = 2 ∨ n = 4) (ha : 0 ≤ a) (ha2 : a ≤ 32) : skerryref06_num.f k l a n = some (nm l a n) := by
  obtain ⟨k, rfl⟩ : ∃ m, k = m + 8 := ⟨k - 8, by omega⟩
  unfold skerryref06_num.f
  rw [rget_yes hl hs hn (by unfold field_part.Inside; omega) k]
  rfl
abbrev T13 := Int × Int × Int × Int × Int × Int × Int × Int × Int × Int × Int × Int × Int
def Z13 : T13 := (0, 0, 0, 0, 0, 0, 0, 0, 0, 0, 0, 0, 4)
def err13 (m : T13) : Int := m.2.2.2.2.2.2.2.2.2.2.2.2
/-- What a super block's reader answers. -/
def unsuperOut (l : List Int) : T13 :=
  if pw (l.length : Int) = true then
    (if err13 (mk (nm l 4 2) (nm l 6 2) (nm l 8 2) (nm l 10 2)) = 0 then
      (if (strOfNums (sealB (superH (nm l 4 2) (nm l 6 2) (nm l 8 2) (nm l 10 2)) (nm l 4 2))).toList = (strOfNums l).toList then mk (nm l 4 2) (nm l 6 2) (nm l 8 2) (nm l 10 2) else Z13) else Z13) else Z13
theorem mk_sound (a0 a1 a2 a3 : Int) (h : err13 (mk a0 a1 a2 a3) = 0) : ∃ a4 a5 a6 a7 a8 a9 a10 a11, mk a0 a1 a2 a3 = (a0, a1, a2, a3, a4, a5, a6, a7, a8, a9, a10, a11, 0) ∧ plan_Check.f a0 a1 a2 a3 a4 a5 a6 a7 a8 a9 a10 a11 = some 0 := by
  obtain ⟨m, hm⟩ : ∃ m, mk a0 a1 a2 a3 = m := ⟨_, rfl⟩
  have hform : err13 m = 0 → ∃ a4 a5 a6 a7 a8 a9 a10 a11, m = (a0, a1, a2, a3, a4, a5, a6, a7, a8, a9, a10, a11, 0) := by
    intro he
    rw [← hm] at he ⊢
    unfold mk at he ⊢
    by_cases g : Go.Proofs.Ytbplffdmggbcdaa.Pure.Good a0 a1 a2 a3
    · rw [if_pos g] at he ⊢
      unfold plan_Make.spec at he ⊢
      by_cases c : a0 * a1 > 1048576
      · rw [if_pos c] at he
        exact absurd he (by unfold err13; decide)
      · rw [if_neg c] at he ⊢
        split at he
        · exact absurd he (by unfold err13; decide)
        · rename_i d
          rw [if_neg d]
          exact ⟨_, _, _, _, _, _, _, _, rfl⟩
    · rw [if_neg g] at he
      exact absurd he (by unfold err13; decide)
  rw [hm] at h
  obtain ⟨a4, a5, a6, a7, a8, a9, a10, a11, e⟩ := hform h
  refine ⟨a4, a5, a6, a7, a8, a9, a10, a11, by rw [hm, e], ?_⟩
  unfold plan_Check.f
  rw [make_is, hm, e, Option.bind_some]
  simp only [beq_self_eq_true, Bool.not_true, Bool.false_or]
  rfl
theorem runsuper_is {l : List Int} (hl : Bytes l) (hs : l.length ≤ 140737488351232) {k : Nat} (hk : 3000000 < k) : skerryref06_Unsuper.f k l = some (unsuperOut l) := by
  unfold skerryref06_Unsuper.f unsuperOut
  have hk8 : 8 ≤ k := by omega
  have hsz : skerryref05_Size.f k (l.length : Int) = some (pw (l.length : Int)) := by
    obtain ⟨m, rfl⟩ : ∃ m, k = m + 8 := ⟨k - 8, by omega⟩
    exact size_is m _
  rw [hsz, Option.bind_some]
  by_cases hp : pw (l.length : Int) = true
  · rw [if_pos hp, if_pos hp]
    have h64 : 64 ≤ l.length := by have := (pw_iff _).1 hp; omega
    rw [num_is hl hs h64 hk8 (by omega) (by omega) (by omega), Option.bind_some, num_is hl hs h64 hk8 (by omega) (by omega) (by omega), Option.bind_some, num_is hl hs h64 hk8 (by omega) (by omega) (by omega), Option.bind_some, num_is hl hs h64 hk8 (by omega) (by omega) (by omega), Option.bind_some, rmake_is hk, Option.bind_some]
    by_cases he : err13 (mk (nm l 4 2) (nm l 6 2) (nm l 8 2) (nm l 10 2)) = 0
    · obtain ⟨a4, a5, a6, a7, a8, a9, a10, a11, e, hc⟩ := mk_sound _ _ _ _ he
      rw [if_pos he, e]
      simp only [if_true]
      rw [rsuper_is _ _ _ _ _ _ _ _ _ _ _ _ hk, Option.bind_some]
      unfold superOut
      rw [if_pos hc]
      split <;> rfl
    · rw [if_neg he]
      exact if_neg he
  · rw [if_neg hp, if_neg hp]
    rfl
/-- What a header's reader answers. -/
def unheadOut (l : List Int) : Int × Int × Int × Int :=
  if pw (l.length : Int) = true then (if (strOfNums (headOut (nm l 4 4) (nm l 8 2) (nm l 10 2) (l.length : Int)).1).toList = (strOfNums l).toList then (nm l 4 4, nm l 8 2, nm l 10 2, 0) else (0, 0, 0, 4)) else (0, 0, 0, 4)
theorem runhead_is {l : List Int} (hl : Bytes l) (hs : l.length ≤ 140737488351232) {k : Nat} (hk : 6000 ≤ k) : skerryref06_Unheader.f k l = some (unheadOut l) := by
  unfold skerryref06_Unheader.f unheadOut
  have hk8 : 8 ≤ k := by omega
  have hsz : skerryref05_Size.f k (l.length : Int) = some (pw (l.length : Int)) := by
    obtain ⟨m, rfl⟩ : ∃ m, k = m + 8 := ⟨k - 8, by omega⟩
    exact size_is m _
  rw [hsz, Option.bind_some]
  by_cases hp : pw (l.length : Int) = true
  · rw [if_pos hp, if_pos hp]
    have h64 : 64 ≤ l.length := by have := (pw_iff _).1 hp; omega
    rw [num_is hl hs h64 hk8 (by omega) (by omega) (by omega), Option.bind_some, num_is hl hs h64 hk8 (by omega) (by omega) (by omega), Option.bind_some, num_is hl hs h64 hk8 (by omega) (by omega) (by omega), Option.bind_some, rhead_is _ _ _ _ hk, Option.bind_some]
    split <;> rfl
  · rw [if_neg hp, if_neg hp]
theorem str_ne {l : List Int} (h : 0 < l.length) : ¬ (strOfNums ([] : List Int)).toList = (strOfNums l).toList := by
  intro q
  have h1 := congrArg List.length q
  simp [ByteArray.toList_eq, strOfNums] at h1
  omega

end Go.Proofs.Ytbplffdmggbcdaa.Pure
