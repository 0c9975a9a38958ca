/- What is written is read again: super blocks, headers, inodes, records, names: the plain words. No conditions. -/
import Derived.Test.YtbplffdmggbcdaaDoorPCodecKeepsx0
import Derived.Test.YtbplffdmggbcdaaDoorPCodecKeepsx1
import Derived.Test.YtbplffdmggbcdaaDoorPCodecKeepsx2
import Derived.Test.YtbplffdmggbcdaaDoorPCodecKeepsx3
import Derived.Test.YtbplffdmggbcdaaDoorPCodecKeepsx4
import Derived.Test.YtbplffdmggbcdaaDoorPCodecKeepsx5
import Derived.Test.YtbplffdmggbcdaaDoorPCodecKeepsx6
import Derived.Test.YtbplffdmggbcdaaDoorPlain
import Derived.Test.YtbplffdmggbcdaaDoorPlainCrc
namespace Go.Proofs.YtbplffdmggbcdaaDoor.Pure
open Go.RowKit Go.Proofs.YtbplffdmggbcdaaDoor.PCodecKeeps Go.Proofs.YtbplffdmggbcdaaDoor.Plain Go.Proofs.YtbplffdmggbcdaaDoorW.PrintWords Go.Proofs.YtbplffdmggbcdaaDoorW.PrintLast Go.Proofs.YtbplffdmggbcdaaDoorW.PrintMore

theorem roll_is {s : Int} {l : List Int} (h0 : 0 ≤ s) (h1 : s < 4294967296) (hl : Bytes l) : crc_roll.f s l = some (crc s l) := by
  unfold crc_roll.f
  rw [if_pos ⟨h0, h1⟩, if_pos hl]
theorem sum_is {l : List Int} (hl : Bytes l) : crc_Sum.f l = some (crc 0 l) := by
  have h := crc_range (s := 0) (by omega) (by omega) hl
  unfold crc_Sum.f
  rw [roll_is (by omega) (by omega) hl]
  simp only [Option.bind_some]
  rw [w64 (by omega) (by omega)]
/-- The seven sizes of a block. -/
def pw (n : Int) : Bool := n == 64 || n == 128 || n == 256 || n == 512 || n == 1024 || n == 2048 || n == 4096
def one (o : Option Int) : Bool := match o with
  | some t => t == 1
  | none => false
def chk (p : Nat → Bool) : Nat → Nat → Bool
  | 0, a => p a
  | d + 1, a => chk p d a && chk p d (a + 2 ^ d)
theorem chk_all (p : Nat → Bool) : ∀ (d a : Nat), chk p d a = true → ∀ i, i < 2 ^ d → p (a + i) = true
  | 0, a, h, i, hi => by
    obtain rfl : i = 0 := by omega
    exact h
  | d + 1, a, h, i, hi => by
    simp only [chk, Bool.and_eq_true] at h
    rw [Nat.pow_succ] at hi
    by_cases c : i < 2 ^ d
    · exact chk_all p d a h.1 i c
    · have := chk_all p d (a + 2 ^ d) h.2 (i - 2 ^ d) (by omega)
      rw [show a + 2 ^ d + (i - 2 ^ d) = a + i by omega] at this
      exact this
def onep (n : Nat) : Bool := one (bits_OnesCount.f (IntKind.u64.wrap (n : Int))) == pw (n : Int)
theorem ones_chk : chk onep 12 64 = true := by decide +kernel
theorem ones_all {n : Nat} (h0 : 64 ≤ n) (h1 : n ≤ 4096) : one (bits_OnesCount.f (IntKind.u64.wrap (n : Int))) = pw (n : Int) := by
  have h := chk_all onep 12 64 ones_chk (n - 64) (by omega)
  rw [show 64 + (n - 64) = n by omega] at h
  unfold onep at h
  exact beq_iff_eq.1 h
theorem ones_some (a : Int) : ∃ t, bits_OnesCount.f a = some t := by
  unfold bits_OnesCount.f bits_OnesCount64.f
  exact ⟨_, rfl⟩
theorem ones_is {a : Int} (h0 : 64 ≤ a) (h1 : a ≤ 4096) : ∃ t, bits_OnesCount.f (IntKind.u64.wrap a) = some t ∧ (t = 1 ↔ pw a = true) := by
  obtain ⟨n, rfl⟩ := Int.eq_ofNat_of_zero_le (show 0 ≤ a by omega)
  obtain ⟨t, ht⟩ := ones_some (IntKind.u64.wrap (n : Int))
  refine ⟨t, ht, ?_⟩
  have h2 := ones_all (n := n) (by omega) (by omega)
  rw [ht] at h2
  rw [← h2]
  show t = 1 ↔ (t == 1) = true
  exact beq_iff_eq.symm
theorem pw_iff (a : Int) : pw a = true ↔ a = 64 ∨ a = 128 ∨ a = 256 ∨ a = 512 ∨ a = 1024 ∨ a = 2048 ∨ a = 4096 := by
  unfold pw
  simp only [Bool.or_eq_true, beq_iff_eq, or_assoc]
/-- Is it a plan's size? -/
def Good (a0 a1 a2 a3 : Int) : Prop := pw a0 = true ∧ (1 ≤ a1 ∧ a1 ≤ 4096) ∧ (2 ≤ a2 ∧ a2 ≤ 1024) ∧ (4 ≤ a3 ∧ a3 ≤ 512)
instance (a0 a1 a2 a3 : Int) : Decidable (Good a0 a1 a2 a3) := by unfold Good; infer_instance
def mk (a0 a1 a2 a3 : Int) : Int × Int × Int × Int × Int × Int × Int × Int × Int × Int × Int × Int × Int := if Good a0 a1 a2 a3 then plan_Make.spec a0 a1 a2 a3 else (0, 0, 0, 0, 0, 0, 0, 0, 0, 0, 0, 0, 1)
theorem make_is (a0 a1 a2 a3 : Int) : plan_Make.f a0 a1 a2 a3 = some (mk a0 a1 a2 a3) := by
  unfold plan_Make.f mk
  by_cases c : 64 ≤ a0 ∧ a0 ≤ 4096
  · obtain ⟨t, ht, hiff⟩ := ones_is c.1 c.2
    rw [if_pos c, ht, Option.bind_some]
    congr 1
    by_cases d : t = 1 ∧ (1 ≤ a1 ∧ a1 ≤ 4096) ∧ (2 ≤ a2 ∧ a2 ≤ 1024) ∧ (4 ≤ a3 ∧ a3 ≤ 512)
    · rw [if_pos d, if_pos (show Good a0 a1 a2 a3 from ⟨hiff.1 d.1, d.2⟩)]
    · rw [if_neg d, if_neg (fun q : Good a0 a1 a2 a3 => d ⟨hiff.2 q.1, q.2⟩)]
  · rw [if_neg c, if_neg (fun q : Good a0 a1 a2 a3 => by have := (pw_iff a0).1 q.1; omega)]
theorem sh_lt {n s : Int} (h2 : 1 ≤ s) (j : Int) : j * s < n ↔ j < plan_Make.sh n s := by
  unfold plan_Make.sh
  have h := Int.le_ediv_iff_mul_le (a := j + 1) (b := n + s - 1) (c := s) (by omega)
  have e : (j + 1) * s = j * s + s := by rw [Int.add_mul, Int.one_mul]
  rw [e] at h
  constructor
  · intro q
    have := h.2 (by omega)
    omega
  · intro q
    have := h.1 (by omega)
    omega
theorem ite_of {α : Type} {b : Bool} {x y : α} (h : b = false → False) : (if b = true then x else y) = x := by
  cases b
  · exact (h rfl).elim
  · rfl
/-- Is it a plan as one is made? -/
def Sound (a0 a1 a2 a3 a4 a5 a6 a7 a8 a9 a10 a11 : Int) : Prop :=
  Good a0 a1 a2 a3 ∧ a0 * a1 ≤ 1048576 ∧ 2 + a3 + plan_Make.sh a2 (8 * a0) + plan_Make.sh a1 (8 * a0) + plan_Make.sh (a2 * 32) a0 < a1 ∧
  2 = a4 ∧ 2 + a3 = a5 ∧ plan_Make.sh a2 (8 * a0) = a6 ∧ 2 + a3 + plan_Make.sh a2 (8 * a0) = a7 ∧ plan_Make.sh a1 (8 * a0) = a8 ∧
  2 + a3 + plan_Make.sh a2 (8 * a0) + plan_Make.sh a1 (8 * a0) = a9 ∧ plan_Make.sh (a2 * 32) a0 = a10 ∧ 2 + a3 + plan_Make.sh a2 (8 * a0) + plan_Make.sh a1 (8 * a0) + plan_Make.sh (a2 * 32) a0 = a11
section
variable {a0 a1 a2 a3 a4 a5 a6 a7 a8 a9 a10 a11 : Int}
theorem check_is (a0 a1 a2 a3 a4 a5 a6 a7 a8 a9 a10 a11 : Int) : plan_Check.f a0 a1 a2 a3 a4 a5 a6 a7 a8 a9 a10 a11 = some 0 ∧ Sound a0 a1 a2 a3 a4 a5 a6 a7 a8 a9 a10 a11 ∨ plan_Check.f a0 a1 a2 a3 a4 a5 a6 a7 a8 a9 a10 a11 = some 4 ∧ ¬ Sound a0 a1 a2 a3 a4 a5 a6 a7 a8 a9 a10 a11 := by
  unfold plan_Check.f
  rw [make_is, Option.bind_some]
  unfold mk
  by_cases g : Good a0 a1 a2 a3
  · rw [if_pos g]
    unfold plan_Make.spec
    by_cases c : a0 * a1 > 1048576
    · rw [if_pos c]
      exact Or.inr ⟨rfl, fun s => by have := s.2.1; omega⟩
    · rw [if_neg c]
      by_cases d : a1 ≤ 2 + a3 + plan_Make.sh a2 (8 * a0) + plan_Make.sh a1 (8 * a0) + plan_Make.sh (a2 * 32) a0
      · rw [if_pos d]
        exact Or.inr ⟨rfl, fun s => by have := s.2.2.1; omega⟩
      · rw [if_neg d]
        by_cases q : 2 = a4 ∧ 2 + a3 = a5 ∧ plan_Make.sh a2 (8 * a0) = a6 ∧ 2 + a3 + plan_Make.sh a2 (8 * a0) = a7 ∧ plan_Make.sh a1 (8 * a0) = a8 ∧ 2 + a3 + plan_Make.sh a2 (8 * a0) + plan_Make.sh a1 (8 * a0) = a9 ∧ plan_Make.sh (a2 * 32) a0 = a10 ∧ 2 + a3 + plan_Make.sh a2 (8 * a0) + plan_Make.sh a1 (8 * a0) + plan_Make.sh (a2 * 32) a0 = a11
        · refine Or.inl ⟨?_, g, by omega, by omega, q⟩
          obtain ⟨rfl, rfl, rfl, rfl, rfl, rfl, rfl, rfl⟩ := q
          simp only [beq_self_eq_true, Bool.not_true, Bool.false_or]
          rfl
        · refine Or.inr ⟨?_, fun s => q s.2.2.2⟩
          show (if (0 : Int) = 0 then (if (_ : Bool) = true then some 4 else some 0) else some 4) = some 4
          rw [if_pos rfl]
          apply ite_of
          intro z
          apply q
          simpa using z
  · rw [if_neg g]
    exact Or.inr ⟨rfl, fun s => g s.1⟩
/-- What a sound plan is, in numbers. -/
theorem Sound.facts (s : Sound a0 a1 a2 a3 a4 a5 a6 a7 a8 a9 a10 a11) : (a0 = 64 ∨ a0 = 128 ∨ a0 = 256 ∨ a0 = 512 ∨ a0 = 1024 ∨ a0 = 2048 ∨ a0 = 4096) ∧ (1 ≤ a1 ∧ a1 ≤ 4096) ∧ (2 ≤ a2 ∧ a2 ≤ 1024) ∧ (4 ≤ a3 ∧ a3 ≤ 512) ∧ a4 = 2 ∧ a5 = 2 + a3 ∧ 1 ≤ a6 ∧ a7 = a5 + a6 ∧ 1 ≤ a8 ∧ a9 = a7 + a8 ∧ 1 ≤ a10 ∧ a11 = a9 + a10 ∧ a11 < a1 ∧ ∀ n, 0 ≤ n → n < a2 → n / (a0 / 32) < a10 := by
  obtain ⟨⟨g0, g1, g2, g3⟩, _, h1, rfl, rfl, rfl, rfl, rfl, rfl, rfl, rfl⟩ := s
  have g0 := (pw_iff a0).1 g0
  have e6 := (sh_lt (n := a2) (s := 8 * a0) (by omega) 0).1 (by omega)
  have e8 := (sh_lt (n := a1) (s := 8 * a0) (by omega) 0).1 (by omega)
  have e10 := (sh_lt (n := a2 * 32) (s := a0) (by omega) 0).1 (by omega)
  refine ⟨g0, g1, g2, g3, rfl, rfl, by omega, rfl, by omega, rfl, by omega, rfl, h1, fun n n0 n1 => ?_⟩
  apply (sh_lt (by omega) _).1
  have : n / (a0 / 32) * a0 ≤ n * 32 := by
    rcases g0 with rfl | rfl | rfl | rfl | rfl | rfl | rfl <;> omega
  omega
end
theorem put_new {n : Nat} (hn : n = 2 ∨ n = 4) {v : Int} (h0 : 0 ≤ v) (h1 : v < 256 ^ n) : field_Put.f (List.replicate n 0) 0 n v = some (leB n v, 0) := by
  unfold field_Put.f
  have e : putB (List.replicate n 0) 0 n v = leB n v := by
    unfold putB
    rw [List.take_zero, List.nil_append, List.drop_eq_nil_of_le (by rw [List.length_replicate]; omega), List.append_nil]
  rw [if_pos (by rw [List.length_replicate]; omega), if_pos (by omega), if_pos (by unfold field_part.Inside; rw [List.length_replicate]; omega), if_pos ⟨h0, by rw [Int.toNat_natCast]; exact h1⟩, Int.toNat_natCast, show (0 : Int).toNat = 0 from rfl, e]
theorem put2 {v : Int} (h0 : 0 ≤ v) (h1 : v < 65536) : field_Put.f (List.replicate 2 0) 0 2 v = some (leB 2 v, 0) := put_new (n := 2) (.inl rfl) h0 h1
theorem cat2 {a b : List Int} (h : a.length + b.length < 140737488355328) : slices_Concat_byte_byte.f [a, b] = some (a ++ b) := by
  unfold slices_Concat_byte_byte.f
  have e : [a, b].flatten = a ++ b := by simp
  rw [e, if_pos ⟨by rw [List.length_append]; exact h, by show 2 < 140737488355328; omega⟩]
/-- What is read at a place. -/
def unf (l : List Int) (at_ : Int) : List Int × Int × Int :=
  if at_ < 0 ∨ (l.length : Int) < at_ then ([], 0, 2)
  else if ((l.drop at_.toNat).length : Int) < 2 ∨ ((l.drop at_.toNat).length : Int) - 6 < le (field_part.seg (l.drop at_.toNat) 0 2) then ([], 0, 21)
  else if le (field_part.seg (l.drop at_.toNat) (le (field_part.seg (l.drop at_.toNat) 0 2) + 2) 4) = crc 0 ((l.drop at_.toNat).take (le (field_part.seg (l.drop at_.toNat) 0 2) + 2).toNat) then
    (((l.drop at_.toNat).take (le (field_part.seg (l.drop at_.toNat) 0 2) + 2).toNat).drop 2, at_ + le (field_part.seg (l.drop at_.toNat) 0 2) + 6, 0)
  else ([], 0, 20)
theorem seg_bytes {l : List Int} (hl : Bytes l) (a n : Int) : Bytes (field_part.seg l a n) := by
  unfold field_part.seg
  exact (hl.take _).drop _
theorem seg_length {l : List Int} {a n : Int} (h : field_part.Inside l a n) : (field_part.seg l a n).length = n.toNat := by
  obtain ⟨h0, h1, h2, h3⟩ := h
  unfold field_part.seg
  rw [List.length_drop, List.length_take]
  omega
theorem le2_range {l : List Int} (hl : Bytes l) {a : Int} (h : field_part.Inside l a 2) : 0 ≤ le (field_part.seg l a 2) ∧ le (field_part.seg l a 2) < 65536 := by
  have h1 := le_range (seg_bytes hl a 2)
  rw [seg_length h] at h1
  exact h1
theorem get_yes {l : List Int} (hl : Bytes l) (hs : l.length ≤ 140737488351232) {a n : Int} (hn : n = 1 ∨ n = 2 ∨ n = 4) (h : field_part.Inside l a n) : field_Get.f l a n = some (le (field_part.seg l a n), 0) := by
  unfold field_Get.f
  rw [if_pos hl, if_pos hs, if_pos hn, if_pos h]
theorem get_no {l : List Int} (hl : Bytes l) (hs : l.length ≤ 140737488351232) {a n : Int} (hn : n = 1 ∨ n = 2 ∨ n = 4) (h : ¬ field_part.Inside l a n) : field_Get.f l a n = some (0, 2) := by
  unfold field_Get.f
  rw [if_pos hl, if_pos hs, if_pos hn, if_neg h]
theorem clone_is {l : List Int} (h : l.length ≤ 140737488351232) : slices_Clone_byte_byte.f l = some l := by
  unfold slices_Clone_byte_byte.f
  rw [if_pos (by omega)]
theorem unframe_is {l : List Int} (hl : Bytes l) (hs : l.length ≤ 140737488351232) {a : Int} (ha : -9223372036854775808 ≤ a ∧ a ≤ 9223372036854775807) (k : Nat) : crc_Unframe.f (k + 2) l a = some (unf l a) := by
  unfold crc_Unframe.f unf
  by_cases c1 : a < 0
  · rw [if_pos c1, if_pos (.inl c1)]
    simp [crc_Unframe.j0]
  rw [if_neg c1]
  by_cases c2 : (l.length : Int) < a
  · rw [if_pos (.inr c2), decide_eq_true (show a > (l.length : Int) by omega)]
    simp [crc_Unframe.j0]
  rw [if_neg (by omega), decide_eq_false (by omega)]
  simp only [crc_Unframe.j0, Bool.false_eq_true, if_false]
  rw [if_pos (by omega), if_pos (by omega)]
  have hdl : (l.drop a.toNat).length = l.length - a.toNat := List.length_drop
  obtain ⟨d, hd⟩ : ∃ d, l.drop a.toNat = d := ⟨_, rfl⟩
  have hD : Bytes d := hd ▸ hl.drop _
  rw [hd] at hdl ⊢
  by_cases c3 : field_part.Inside d 0 2
  · have hn := le2_range hD c3
    rw [get_yes hD (by omega) (by omega) c3]
    obtain ⟨n, hnn⟩ : ∃ n, le (field_part.seg d 0 2) = n := ⟨_, rfl⟩
    rw [hnn] at hn ⊢
    obtain ⟨_, _, _, i3⟩ := c3
    simp only [Option.bind_some, if_true]
    rw [w64 (x := (d.length : Int) - 6) (by omega) (by omega)]
    by_cases c4 : (d.length : Int) - 6 < n
    · rw [decide_eq_true c4, if_pos (.inr c4)]
      simp [crc_Unframe.j1]
    · rw [decide_eq_false c4, if_neg (by omega)]
      have g : field_part.Inside d (n + 2) 4 := by unfold field_part.Inside; omega
      simp only [crc_Unframe.j1, Bool.false_eq_true, if_false]
      rw [w64 (x := n + 2) (by omega) (by omega), get_yes hD (by omega) (by omega) g]
      simp only [Option.bind_some]
      rw [if_pos (by omega), if_pos (by omega), sum_is (hD.take _)]
      simp only [Option.bind_some]
      by_cases c5 : le (field_part.seg d (n + 2) 4) = crc 0 (d.take (n + 2).toNat)
      · rw [if_pos c5, if_pos c5, if_pos (by omega), clone_is (by rw [List.length_drop, List.length_take]; omega)]
        simp only [Option.bind_some]
        rw [w64 (x := a + n) (by omega) (by omega), w64 (x := a + n + 6) (by omega) (by omega)]
      · rw [if_neg c5, if_neg c5]
  · rw [get_no hD (by omega) (by omega) c3]
    have : (d.length : Int) < 2 := by
      unfold field_part.Inside at c3
      omega
    rw [if_pos (.inl this)]
    simp [crc_Unframe.j1]
/-- Has a number room in n bytes? -/
def Fits (n : Nat) (v : Int) : Prop := 0 ≤ v ∧ v < 256 ^ n
instance (n : Nat) (v : Int) : Decidable (Fits n v) := by unfold Fits; infer_instance
/-- What is put for a number: its bytes, or an error. -/
def Put (n : Nat) (v : Int) : List Int × Int := if Fits n v then (leB n v, 0) else ([], 3)
theorem put_is {n : Nat} (hn : n = 1 ∨ n = 2 ∨ n = 4) (v : Int) : field_Put.f (List.replicate n 0) 0 n v = some (Put n v) := by
  unfold field_Put.f Put
  have e : putB (List.replicate n 0) 0 n v = leB n v := by
    unfold putB
    rw [List.take_zero, List.nil_append, List.drop_eq_nil_of_le (by rw [List.length_replicate]; omega), List.append_nil]
  rw [if_pos (by rw [List.length_replicate]; omega), if_pos (by omega), if_pos (by unfold field_part.Inside; rw [List.length_replicate]; omega), Int.toNat_natCast]
  by_cases c : Fits n v
  · rw [if_pos (show 0 ≤ v ∧ v < 256 ^ n from c), if_pos c, show (0 : Int).toNat = 0 from rfl, e]
  · rw [if_neg (show ¬ (0 ≤ v ∧ v < 256 ^ n) from c), if_neg c]
theorem Put_cases (n : Nat) (v : Int) : (Fits n v ∧ Put n v = (leB n v, 0)) ∨ (¬ Fits n v ∧ Put n v = ([], 3)) := by
  unfold Put
  by_cases c : Fits n v
  · rw [if_pos c]; exact .inl ⟨c, rfl⟩
  · rw [if_neg c]; exact .inr ⟨c, rfl⟩
theorem Put_length (n : Nat) (v : Int) : (Put n v).1.length ≤ n := by
  rcases Put_cases n v with ⟨_, h⟩ | ⟨_, h⟩ <;> rw [h]
  · show (leB n v).length ≤ n; rw [leB_length]; exact Nat.le_refl _
  · exact Nat.zero_le _
theorem Put_bytes (n : Nat) (v : Int) : Bytes (Put n v).1 := by
  rcases Put_cases n v with ⟨_, h⟩ | ⟨_, h⟩ <;> rw [h]
  · exact leB_bytes n v
  · exact Bytes.nil
/-- What a writer holds behind one number more. -/
def wnum (n : Nat) (s : List Int × Int) (v : Int) : List Int × Int := (s.1 ++ (Put n v).1, if s.2 = 0 then (Put n v).2 else s.2)
/-- What a writer holds behind some. -/
def wnums (n : Nat) (s : List Int × Int) (l : List Int) : List Int × Int := l.foldl (wnum n) s
theorem wnum_bytes {n : Nat} {s : List Int × Int} (h : Bytes s.1) (v : Int) : Bytes (wnum n s v).1 := h.append (Put_bytes n v)
theorem wnum_length (n : Nat) (s : List Int × Int) (v : Int) : (wnum n s v).1.length ≤ s.1.length + n := by
  unfold wnum
  rw [List.length_append]
  have := Put_length n v
  omega
theorem wnums_snoc (n : Nat) (s : List Int × Int) (l : List Int) (v : Int) : wnums n s (l ++ [v]) = wnum n (wnums n s l) v := by unfold wnums; rw [List.foldl_append]; rfl
theorem wnums_length (n : Nat) (l : List Int) : ∀ s : List Int × Int, (wnums n s l).1.length ≤ s.1.length + n * l.length := by
  induction l with
  | nil => intro s; exact Nat.le_add_right _ _
  | cons v l ih =>
    intro s
    have h1 := ih (wnum n s v)
    have h2 := wnum_length n s v
    show (wnums n (wnum n s v) l).1.length ≤ _
    rw [List.length_cons, Nat.mul_succ]
    omega
theorem wnums_bytes {n : Nat} (l : List Int) : ∀ {s : List Int × Int}, Bytes s.1 → Bytes (wnums n s l).1 := by
  induction l with
  | nil => intro s h; exact h
  | cons v l ih => intro s h; exact ih (wnum_bytes h v)
/-- Where all fit, all are written. -/
theorem wnums_ok {n : Nat} (l : List Int) : ∀ {bs : List Int}, (∀ v ∈ l, Fits n v) → wnums n (bs, 0) l = (bs ++ (l.map (leB n)).flatten, 0) := by
  induction l with
  | nil => intro bs _; simp [wnums]
  | cons v l ih =>
    intro bs h
    have e : wnum n (bs, 0) v = (bs ++ leB n v, 0) := by
      unfold wnum Put
      rw [if_pos (h v (by simp))]
      rfl
    show wnums n (wnum n (bs, 0) v) l = _
    rw [e, ih (fun x hx => h x (by simp [hx]))]
    simp [List.append_assoc]
theorem wnums_bad {n : Nat} (l : List Int) : ∀ {s : List Int × Int}, s.2 = 3 ∨ (s.2 = 0 ∧ ∃ v ∈ l, ¬ Fits n v) → (wnums n s l).2 = 3 := by
  induction l with
  | nil =>
    intro s h
    rcases h with h | ⟨_, v, hv, _⟩
    · exact h
    · cases hv
  | cons v l ih =>
    intro s h
    show (wnums n (wnum n s v) l).2 = 3
    apply ih
    rcases h with h | ⟨h, x, hx, hn⟩
    · left
      unfold wnum
      rw [if_neg (by rw [h]; decide)]
      exact h
    · rcases Put_cases n v with ⟨hf, e⟩ | ⟨_, e⟩
      · right
        refine ⟨?_, x, ?_, hn⟩
        · unfold wnum; rw [if_pos h, e]
        · rcases List.mem_cons.1 hx with rfl | hx
          · exact absurd hf hn
          · exact hx
      · left
        unfold wnum
        rw [if_pos h, e]
theorem wnums_err (n : Nat) (l : List Int) : ∀ {s : List Int × Int}, s.2 = 0 ∨ s.2 = 3 → (wnums n s l).2 = 0 ∨ (wnums n s l).2 = 3 := by
  induction l with
  | nil => intro s h; exact h
  | cons v l ih =>
    intro s h
    apply ih
    unfold wnum
    rcases h with h | h
    · rw [if_pos h]
      rcases Put_cases n v with ⟨_, e⟩ | ⟨_, e⟩ <;> rw [e]
      · exact .inl rfl
      · exact .inr rfl
    · rw [if_neg (by rw [h]; decide)]
      exact .inr h
/-- A name's bytes in a directory (t: at most 13), or its error. -/
def dirOut (x : Int) (t : List Int) : List Int × Int := if Fits 2 x then (leB 2 x ++ t ++ List.replicate (14 - t.length) 0, 0) else ([], 3)
/-- What stands ahead of the sum, the sum, and zeros. -/
def sealB (h : List Int) (b : Int) : List Int := h ++ leB 4 (crc 0 h) ++ List.replicate (b.toNat - 16) 0
def superH (b n i g : Int) : List Int := [83, 75, 82, 89] ++ leB 2 b ++ leB 2 n ++ leB 2 i ++ leB 2 g
def headH (s t u : Int) : List Int := [83, 76, 79, 71] ++ leB 4 s ++ leB 2 t ++ leB 2 u
theorem superH_length (b n i g : Int) : (superH b n i g).length = 12 := by unfold superH; simp only [List.length_append, leB_length]; rfl
theorem headH_length (s t u : Int) : (headH s t u).length = 12 := by unfold headH; simp only [List.length_append, leB_length]; rfl
theorem superH_bytes (b n i g : Int) : Bytes (superH b n i g) := ((((show Bytes [83, 75, 82, 89] by intro x hx; simp at hx; omega).append (leB_bytes _ _)).append (leB_bytes _ _)).append (leB_bytes _ _)).append (leB_bytes _ _)
/-- A super block's bytes, or its error. -/
def superOut (a0 a1 a2 a3 a4 a5 a6 a7 a8 a9 a10 a11 : Int) : List Int × Int := if plan_Check.f a0 a1 a2 a3 a4 a5 a6 a7 a8 a9 a10 a11 = some 0 then (sealB (superH a0 a1 a2 a3) a0, 0) else ([], 4)
/-- A log's header, or its error. -/
def headOut (s t u b : Int) : List Int × Int := if pw b = true then (if Fits 4 s ∧ Fits 2 t ∧ Fits 2 u then (sealB (headH s t u) b, 0) else ([], 3)) else ([], 1)
def nm (l : List Int) (a n : Int) : Int := le (field_part.seg l a n)
abbrev T13 := Int × Int × Int × Int × Int × Int × Int × Int × Int × Int × Int × Int × Int
def Z13 : T13 := (0, 0, 0, 0, 0, 0, 0, 0, 0, 0, 0, 0, 4)
def err13 (m : T13) : Int := m.2.2.2.2.2.2.2.2.2.2.2.2
/-- What a super block's reader answers. -/
def unsuperOut (l : List Int) : T13 :=
  if pw (l.length : Int) = true then
    (if err13 (mk (nm l 4 2) (nm l 6 2) (nm l 8 2) (nm l 10 2)) = 0 then
      (if (strOfNums (sealB (superH (nm l 4 2) (nm l 6 2) (nm l 8 2) (nm l 10 2)) (nm l 4 2))).toList = (strOfNums l).toList then mk (nm l 4 2) (nm l 6 2) (nm l 8 2) (nm l 10 2) else Z13) else Z13) else Z13
theorem mk_sound (a0 a1 a2 a3 : Int) (h : err13 (mk a0 a1 a2 a3) = 0) : ∃ a4 a5 a6 a7 a8 a9 a10 a11, mk a0 a1 a2 a3 = (a0, a1, a2, a3, a4, a5, a6, a7, a8, a9, a10, a11, 0) ∧ plan_Check.f a0 a1 a2 a3 a4 a5 a6 a7 a8 a9 a10 a11 = some 0 := by
  obtain ⟨m, hm⟩ : ∃ m, mk a0 a1 a2 a3 = m := ⟨_, rfl⟩
  have hform : err13 m = 0 → ∃ a4 a5 a6 a7 a8 a9 a10 a11, m = (a0, a1, a2, a3, a4, a5, a6, a7, a8, a9, a10, a11, 0) := by
    intro he
    rw [← hm] at he ⊢
    unfold mk at he ⊢
    by_cases g : Good a0 a1 a2 a3
    · rw [if_pos g] at he ⊢
      unfold plan_Make.spec at he ⊢
      by_cases c : a0 * a1 > 1048576
      · rw [if_pos c] at he
        exact absurd he (by unfold err13; decide)
      · rw [if_neg c] at he ⊢
        split at he
        · exact absurd he (by unfold err13; decide)
        · rename_i d
          rw [if_neg d]
          exact ⟨_, _, _, _, _, _, _, _, rfl⟩
    · rw [if_neg g] at he
      exact absurd he (by unfold err13; decide)
  rw [hm] at h
  obtain ⟨a4, a5, a6, a7, a8, a9, a10, a11, e⟩ := hform h
  refine ⟨a4, a5, a6, a7, a8, a9, a10, a11, by rw [hm, e], ?_⟩
  unfold plan_Check.f
  rw [make_is, hm, e, Option.bind_some]
  simp only [beq_self_eq_true, Bool.not_true, Bool.false_or]
  rfl
/-- What a header's reader answers. -/
def unheadOut (l : List Int) : Int × Int × Int × Int :=
  if pw (l.length : Int) = true then (if (strOfNums (headOut (nm l 4 4) (nm l 8 2) (nm l 10 2) (l.length : Int)).1).toList = (strOfNums l).toList then (nm l 4 4, nm l 8 2, nm l 10 2, 0) else (0, 0, 0, 4)) else (0, 0, 0, 4)
theorem str_ne {l : List Int} (h : 0 < l.length) : ¬ (strOfNums ([] : List Int)).toList = (strOfNums l).toList := by
  intro q
  have h1 := congrArg List.length q
  simp [ByteArray.toList_eq, strOfNums] at h1
  omega

end Go.Proofs.YtbplffdmggbcdaaDoor.Pure
