/- Plain words on numbers, lists of bytes and bits, for this session's pure proofs. -/
import Derived.Test.YtacecaacpagokaaWWords
import Derived.Test.YtacecaacpagokaaWMore
import Derived.Laws.BitsLemmas
namespace Go.Proofs.Ytacecaacpagokaa.Plain
open Go.RowKit Go.Proofs.YtacecaacpagokaaW.PrintWords Go.Proofs.YtacecaacpagokaaW.PrintMore

theorem w64 {x : Int} (h1 : -9223372036854775808 ≤ x) (h2 : x ≤ 9223372036854775807) : wrap64 x = x := by unfold wrap64; omega
theorem w64' {x : Int} (h : -9223372036854775808 ≤ x ∧ x ≤ 9223372036854775807) : wrap64 x = x := w64 h.1 h.2

/-- All are bytes. -/
def Bytes (l : List Int) : Prop := ∀ x ∈ l, 0 ≤ x ∧ x < 256
instance (l : List Int) : Decidable (Bytes l) := by unfold Bytes; infer_instance
theorem bytes_wf {l : List Int} (h : ∀ x ∈ l, (Lit.int .u8 x).wf = true) : Bytes l := by
  intro x hx
  have := h x hx
  simp [Lit.wf, IntKind.min, IntKind.max, IntKind.bits, IntKind.signed] at this
  omega
theorem i64_wf {x : Int} (h : (Lit.int .i64 x).wf = true) : -9223372036854775808 ≤ x ∧ x ≤ 9223372036854775807 := by
  simp [Lit.wf, IntKind.min, IntKind.max, IntKind.bits, IntKind.signed] at h
  omega
theorem u8_wf {x : Int} (h : (Lit.int .u8 x).wf = true) : 0 ≤ x ∧ x < 256 := by
  simp [Lit.wf, IntKind.min, IntKind.max, IntKind.bits, IntKind.signed] at h
  omega
theorem rd_mem {l : List Int} {i : Int} (h1 : i.toNat < l.length) : rd l i ∈ l := by
  unfold rd
  rw [List.getD_eq_getElem?_getD, List.getElem?_eq_getElem h1]
  exact List.getElem_mem h1
theorem rd_out {l : List Int} {i : Int} (h1 : l.length ≤ i.toNat) : rd l i = 0 := by
  unfold rd
  rw [List.getD_eq_getElem?_getD, List.getElem?_eq_none h1]
  rfl
theorem rd_get {l : List Int} {i : Int} (h1 : i.toNat < l.length) : rd l i = l[i.toNat] := by
  unfold rd
  rw [List.getD_eq_getElem?_getD, List.getElem?_eq_getElem h1]
  rfl
theorem Bytes.rd {l : List Int} (h : Bytes l) (i : Int) : 0 ≤ rd l i ∧ rd l i < 256 := by
  by_cases h1 : i.toNat < l.length
  · exact h _ (rd_mem h1)
  · rw [rd_out (by omega)]
    simp
theorem Bytes.set {l : List Int} (h : Bytes l) (j : Nat) {v : Int} (h0 : 0 ≤ v) (h1 : v < 256) : Bytes (l.set j v) := by
  intro x hx
  rcases List.mem_or_eq_of_mem_set hx with hx | hx
  · exact h x hx
  · subst hx
    exact ⟨h0, h1⟩
theorem Bytes.append {a b : List Int} (ha : Bytes a) (hb : Bytes b) : Bytes (a ++ b) := by
  intro x hx
  rcases List.mem_append.1 hx with hx | hx
  · exact ha x hx
  · exact hb x hx
theorem Bytes.zeros (n : Nat) : Bytes (List.replicate n 0) := by
  intro x hx
  rw [List.mem_replicate] at hx
  omega
theorem Bytes.take {l : List Int} (h : Bytes l) (n : Nat) : Bytes (l.take n) := fun x hx => h x (List.mem_of_mem_take hx)
theorem Bytes.drop {l : List Int} (h : Bytes l) (n : Nat) : Bytes (l.drop n) := fun x hx => h x (List.mem_of_mem_drop hx)
theorem Bytes.nil : Bytes [] := fun x hx => absurd hx (by simp)
theorem Bytes.cons {a : Int} {l : List Int} (h0 : 0 ≤ a) (h1 : a < 256) (h : Bytes l) : Bytes (a :: l) := by
  intro x hx
  rcases List.mem_cons.1 hx with hx | hx
  · subst hx; exact ⟨h0, h1⟩
  · exact h x hx
theorem set_rd {l : List Int} {i : Int} (h : i.toNat < l.length) : l.set i.toNat (rd l i) = l := by
  rw [rd_get h]
  simp
theorem rd_set_same {l : List Int} {i : Int} (v : Int) (h : i.toNat < l.length) : rd (l.set i.toNat v) i = v := by
  unfold rd
  rw [List.getD_eq_getElem?_getD, List.getElem?_set_self h]
  rfl
theorem rd_set_other {l : List Int} {i j : Int} (v : Int) (h : i.toNat ≠ j.toNat) : rd (l.set i.toNat v) j = rd l j := by
  unfold rd
  rw [List.getD_eq_getElem?_getD, List.getD_eq_getElem?_getD, List.getElem?_set_ne h]
theorem rd_append_left {a b : List Int} {i : Int} (h : i.toNat < a.length) : rd (a ++ b) i = rd a i := by
  unfold rd
  rw [List.getD_eq_getElem?_getD, List.getD_eq_getElem?_getD, List.getElem?_append_left h]
theorem rd_append_right {a b : List Int} {i : Int} (h : a.length ≤ i.toNat) (h0 : 0 ≤ i) : rd (a ++ b) i = rd b (i - (a.length : Int)) := by
  unfold rd
  rw [List.getD_eq_getElem?_getD, List.getD_eq_getElem?_getD, List.getElem?_append_right h]
  congr 2
  omega
theorem list_ext {a b : List Int} (hl : a.length = b.length) (h : ∀ i : Int, 0 ≤ i → i < (a.length : Int) → rd a i = rd b i) : a = b := by
  apply List.ext_getElem hl
  intro n h1 h2
  have := h n (by omega) (by omega)
  rwa [rd_get (by simpa using h1), rd_get (by simpa using h2)] at this

/-- The number that bytes are, the first one the least. -/
def le : List Int → Int
  | [] => 0
  | x :: l => x + 256 * le l
theorem le_range : ∀ {l : List Int}, Bytes l → 0 ≤ le l ∧ le l < 256 ^ l.length := by
  intro l
  induction l with
  | nil => intro _; decide
  | cons x l ih =>
    intro h
    have hx := h x (by simp)
    have hl := ih (fun y hy => h y (by simp [hy]))
    rw [List.length_cons, Int.pow_succ]
    unfold le
    omega
/-- The same, from the last byte on. -/
def acc (l : List Int) : Int := l.foldl (fun v x => v * 256 + x) 0
theorem acc_snoc (l : List Int) (x : Int) : acc (l ++ [x]) = acc l * 256 + x := by unfold acc; simp
theorem acc_reverse (l : List Int) : acc l.reverse = le l := by
  induction l with
  | nil => rfl
  | cons x l ih =>
    rw [List.reverse_cons, acc_snoc, ih]
    show le l * 256 + x = x + 256 * le l
    omega
theorem acc_range {l : List Int} (h : Bytes l) : 0 ≤ acc l ∧ acc l < 256 ^ l.length := by
  have e : acc l = le l.reverse := by rw [← acc_reverse, List.reverse_reverse]
  have := le_range (l := l.reverse) (fun y hy => h y (List.mem_reverse.1 hy))
  rw [e]
  rwa [List.length_reverse] at this
theorem or_low {v x : Int} (v0 : 0 ≤ v) (v1 : v < 16777216) (x0 : 0 ≤ x) (x1 : x < 256) : Go.bits .or .i64 (v * 256) x = v * 256 + x :=
  bits_join .i64 63 (by decide) (fun n h0 h1 => by rw [IntKind.wrap_i64]; omega) 8 (v * 256) x (by omega) (by omega) (by omega) x0 x1 (by omega)

/-- The first n bytes of a number, the least one first. -/
def leB (n : Nat) (v : Int) : List Int := (List.range n).map fun k => v / 256 ^ k % 256
theorem leB_length (n : Nat) (v : Int) : (leB n v).length = n := by unfold leB; simp
theorem leB_succ (n : Nat) (v : Int) : leB (n + 1) v = leB n v ++ [v / 256 ^ n % 256] := by unfold leB; simp [List.range_succ]
theorem leB_bytes (n : Nat) (v : Int) : Bytes (leB n v) := by
  intro x hx
  obtain ⟨k, _, rfl⟩ := List.mem_map.1 hx
  omega
theorem le_leB (v : Int) : le (leB 1 v) = v % 256 ∧ le (leB 2 v) = v % 65536 ∧ le (leB 4 v) = v % 4294967296 := by
  refine ⟨?_, ?_, ?_⟩
  · show v / 1 % 256 + 256 * 0 = _
    omega
  · show v / 1 % 256 + 256 * (v / 256 % 256 + 256 * 0) = _
    omega
  · show v / 1 % 256 + 256 * (v / 256 % 256 + 256 * (v / 65536 % 256 + 256 * (v / 16777216 % 256 + 256 * 0))) = _
    omega
/-- Bytes with n bytes of a number at a place. -/
def putB (l : List Int) (a : Nat) (n : Nat) (v : Int) : List Int := l.take a ++ leB n v ++ l.drop (a + n)
theorem putB_zero (l : List Int) (a : Nat) (v : Int) : putB l a 0 v = l := by unfold putB leB; simp
theorem putB_length {l : List Int} {a n : Nat} (h : a + n ≤ l.length) (v : Int) : (putB l a n v).length = l.length := by
  unfold putB
  simp only [List.length_append, List.length_take, List.length_drop, leB_length]
  omega
theorem putB_set {l : List Int} {a n : Nat} (h : a + n < l.length) (v : Int) : (putB l a n v).set (a + n) (v / 256 ^ n % 256) = putB l a (n + 1) v := by
  unfold putB
  have hl : (l.take a ++ leB n v).length = a + n := by
    rw [List.length_append, List.length_take, leB_length]
    omega
  rw [List.set_append_right _ _ (by omega), hl, Nat.sub_self, List.drop_eq_getElem_cons h, List.set_cons_zero, leB_succ]
  simp [Nat.add_assoc]
theorem putB_bytes {l : List Int} (h : Bytes l) (a n : Nat) (v : Int) : Bytes (putB l a n v) := ((h.take a).append (leB_bytes n v)).append (h.drop _)

/-! ### bits of bytes -/
/-- Bit j of a byte turned on, and off, as the program's words say. -/
def onb (x j : Int) : Int := Go.bits .or .u8 x (shl .u8 1 j)
def offb (x j : Int) : Int := Go.bits .andNot .u8 x (shl .u8 1 j)
theorem on_all : ∀ x : Fin 256, ∀ j : Fin 8, onb (x.val : Int) (j.val : Int) = if (x.val : Int) / 2 ^ j.val % 2 = 1 then (x.val : Int) else (x.val : Int) + 2 ^ j.val := by decide +kernel
theorem off_all : ∀ x : Fin 256, ∀ j : Fin 8, offb (x.val : Int) (j.val : Int) = if (x.val : Int) / 2 ^ j.val % 2 = 1 then (x.val : Int) - 2 ^ j.val else (x.val : Int) := by decide +kernel
theorem range_all : ∀ x : Fin 256, ∀ j : Fin 8, 0 ≤ onb (x.val : Int) (j.val : Int) ∧ onb (x.val : Int) (j.val : Int) < 256 ∧ 0 ≤ offb (x.val : Int) (j.val : Int) ∧ offb (x.val : Int) (j.val : Int) < 256 := by decide +kernel
theorem onbit_all : ∀ x : Fin 256, ∀ j i : Fin 8, onb (x.val : Int) (j.val : Int) / 2 ^ i.val % 2 = if i = j then 1 else (x.val : Int) / 2 ^ i.val % 2 := by decide +kernel
theorem offbit_all : ∀ x : Fin 256, ∀ j i : Fin 8, offb (x.val : Int) (j.val : Int) / 2 ^ i.val % 2 = if i = j then 0 else (x.val : Int) / 2 ^ i.val % 2 := by decide +kernel
theorem and_all : ∀ x : Fin 256, ∀ j : Fin 8, Go.bits .and .u8 (shr .u8 (x.val : Int) (j.val : Int)) 1 = (x.val : Int) / 2 ^ j.val % 2 := by decide +kernel
section
variable {x j i : Int} (h0 : 0 ≤ x) (h1 : x < 256) (j0 : 0 ≤ j) (j1 : j < 8)
include h0 h1 j0 j1
theorem onb_is : onb x j = if x / 2 ^ j.toNat % 2 = 1 then x else x + 2 ^ j.toNat := by
  have h := on_all ⟨x.toNat, by omega⟩ ⟨j.toNat, by omega⟩
  simp only [Int.toNat_of_nonneg h0, Int.toNat_of_nonneg j0] at h
  exact h
theorem offb_is : offb x j = if x / 2 ^ j.toNat % 2 = 1 then x - 2 ^ j.toNat else x := by
  have h := off_all ⟨x.toNat, by omega⟩ ⟨j.toNat, by omega⟩
  simp only [Int.toNat_of_nonneg h0, Int.toNat_of_nonneg j0] at h
  exact h
theorem onb_byte : 0 ≤ onb x j ∧ onb x j < 256 := by
  have h := range_all ⟨x.toNat, by omega⟩ ⟨j.toNat, by omega⟩
  simp only [Int.toNat_of_nonneg h0, Int.toNat_of_nonneg j0] at h
  exact ⟨h.1, h.2.1⟩
theorem offb_byte : 0 ≤ offb x j ∧ offb x j < 256 := by
  have h := range_all ⟨x.toNat, by omega⟩ ⟨j.toNat, by omega⟩
  simp only [Int.toNat_of_nonneg h0, Int.toNat_of_nonneg j0] at h
  exact ⟨h.2.2.1, h.2.2.2⟩
theorem and_bit : Go.bits .and .u8 (shr .u8 x j) 1 = x / 2 ^ j.toNat % 2 := by
  have h := and_all ⟨x.toNat, by omega⟩ ⟨j.toNat, by omega⟩
  simp only [Int.toNat_of_nonneg h0, Int.toNat_of_nonneg j0] at h
  exact h
variable (i0 : 0 ≤ i) (i1 : i < 8)
include i0 i1
theorem onb_bit : onb x j / 2 ^ i.toNat % 2 = if i = j then 1 else x / 2 ^ i.toNat % 2 := by
  have h := onbit_all ⟨x.toNat, by omega⟩ ⟨j.toNat, by omega⟩ ⟨i.toNat, by omega⟩
  simp only [Int.toNat_of_nonneg h0, Int.toNat_of_nonneg j0, Fin.mk.injEq] at h
  rw [h]
  by_cases e : i = j
  · rw [if_pos (by omega), if_pos e]
  · rw [if_neg (by omega), if_neg e]
theorem offb_bit : offb x j / 2 ^ i.toNat % 2 = if i = j then 0 else x / 2 ^ i.toNat % 2 := by
  have h := offbit_all ⟨x.toNat, by omega⟩ ⟨j.toNat, by omega⟩ ⟨i.toNat, by omega⟩
  simp only [Int.toNat_of_nonneg h0, Int.toNat_of_nonneg j0, Fin.mk.injEq] at h
  rw [h]
  by_cases e : i = j
  · rw [if_pos (by omega), if_pos e]
  · rw [if_neg (by omega), if_neg e]
end
theorem pow_le (j : Nat) (h : j < 8) : (1 : Int) ≤ 2 ^ j ∧ (2 : Int) ^ j ≤ 128 := by
  have : ∀ j : Fin 8, (1 : Int) ≤ 2 ^ j.val ∧ (2 : Int) ^ j.val ≤ 128 := by decide
  exact this ⟨j, h⟩
/-- Bit i of bytes: 0 or 1. -/
def bitAt (l : List Int) (i : Int) : Int := rd l (i / 8) / 2 ^ (i % 8).toNat % 2
theorem bitAt_01 (l : List Int) (i : Int) : bitAt l i = 0 ∨ bitAt l i = 1 := by unfold bitAt; omega
/-- Bytes with bit i on or off. -/
def setBit (l : List Int) (i : Int) (on : Bool) : List Int := l.set (i / 8).toNat (if on then onb (rd l (i / 8)) (i % 8) else offb (rd l (i / 8)) (i % 8))
theorem setBit_length (l : List Int) (i : Int) (on : Bool) : (setBit l i on).length = l.length := by unfold setBit; simp
theorem setBit_bytes {l : List Int} (h : Bytes l) (i : Int) (on : Bool) : Bytes (setBit l i on) := by
  have r := h.rd (i / 8)
  have a := onb_byte r.1 r.2 (show 0 ≤ i % 8 by omega) (show i % 8 < 8 by omega)
  have b := offb_byte r.1 r.2 (show 0 ≤ i % 8 by omega) (show i % 8 < 8 by omega)
  unfold setBit
  cases on
  · exact h.set _ b.1 b.2
  · exact h.set _ a.1 a.2
theorem bitAt_set {l : List Int} (h : Bytes l) {i j : Int} (i0 : 0 ≤ i) (i1 : i < 8 * (l.length : Int)) (j0 : 0 ≤ j) (on : Bool) : bitAt (setBit l i on) j = if j = i then (if on then 1 else 0) else bitAt l j := by
  have r := h.rd (i / 8)
  unfold bitAt setBit
  by_cases e : i / 8 = j / 8
  · rw [← e, rd_set_same _ (by omega)]
    cases on
    · simp only [Bool.false_eq_true, if_false]
      rw [offb_bit r.1 r.2 (by omega) (by omega) (by omega) (by omega)]
      by_cases e2 : j = i
      · rw [if_pos (by omega), if_pos e2]
      · rw [if_neg (by omega), if_neg e2]
    · simp only [if_true]
      rw [onb_bit r.1 r.2 (by omega) (by omega) (by omega) (by omega)]
      by_cases e2 : j = i
      · rw [if_pos (by omega), if_pos e2]
      · rw [if_neg (by omega), if_neg e2]
  · rw [rd_set_other _ (by omega), if_neg (by omega)]
theorem setBit_back {l : List Int} (h : Bytes l) {i : Int} (i0 : 0 ≤ i) (i1 : i < 8 * (l.length : Int)) (on : Bool) : setBit (setBit l i on) i (bitAt l i == 1) = l := by
  have r := h.rd (i / 8)
  have e1 : rd (setBit l i on) (i / 8) = if on then onb (rd l (i / 8)) (i % 8) else offb (rd l (i / 8)) (i % 8) := by
    unfold setBit
    rw [rd_set_same _ (by omega)]
  have q0 : 0 ≤ i % 8 := by omega
  have q1 : i % 8 < 8 := by omega
  have a := onb_is r.1 r.2 q0 q1
  have b := offb_is r.1 r.2 q0 q1
  have ar := onb_byte r.1 r.2 q0 q1
  have br := offb_byte r.1 r.2 q0 q1
  have aa := onb_is ar.1 ar.2 q0 q1
  have ab := offb_is ar.1 ar.2 q0 q1
  have ba := onb_is br.1 br.2 q0 q1
  have bb := offb_is br.1 br.2 q0 q1
  rw [onb_bit r.1 r.2 q0 q1 q0 q1, if_pos rfl] at aa ab
  rw [offb_bit r.1 r.2 q0 q1 q0 q1, if_pos rfl] at ba bb
  have key : (if (bitAt l i == 1) then onb (rd (setBit l i on) (i / 8)) (i % 8) else offb (rd (setBit l i on) (i / 8)) (i % 8)) = rd l (i / 8) := by
    rw [e1]
    unfold bitAt
    by_cases c : rd l (i / 8) / 2 ^ (i % 8).toNat % 2 = 1
    · simp only [c, if_true, beq_self_eq_true] at a b ⊢
      cases on
      · simp only [Bool.false_eq_true, if_false, ba]
        rw [b]
        simp
      · simp only [if_true, aa]
        exact a
    · simp only [c, if_false, beq_eq_false_iff_ne.2 c, Bool.false_eq_true] at a b ⊢
      cases on
      · simp only [Bool.false_eq_true, if_false, bb]
        rw [b]
        simp
      · simp only [if_true, ab]
        rw [a]
        simp
  show (setBit l i on).set (i / 8).toNat (if (bitAt l i == 1) then onb (rd (setBit l i on) (i / 8)) (i % 8) else offb (rd (setBit l i on) (i / 8)) (i % 8)) = l
  rw [key]
  unfold setBit
  rw [List.set_set]
  exact set_rd (by omega)
theorem setBit_same {l : List Int} (h : Bytes l) {i : Int} (i0 : 0 ≤ i) (i1 : i < 8 * (l.length : Int)) : setBit l i (bitAt l i == 1) = l := by
  have r := h.rd (i / 8)
  have q0 : 0 ≤ i % 8 := by omega
  have q1 : i % 8 < 8 := by omega
  have a := onb_is r.1 r.2 q0 q1
  have b := offb_is r.1 r.2 q0 q1
  unfold setBit bitAt
  by_cases c : rd l (i / 8) / 2 ^ (i % 8).toNat % 2 = 1
  · simp only [c, if_true, beq_self_eq_true] at a ⊢
    rw [a]
    exact set_rd (by omega)
  · simp only [c, if_false, beq_eq_false_iff_ne.2 c, Bool.false_eq_true] at b ⊢
    rw [b]
    exact set_rd (by omega)
end Go.Proofs.Ytacecaacpagokaa.Plain
