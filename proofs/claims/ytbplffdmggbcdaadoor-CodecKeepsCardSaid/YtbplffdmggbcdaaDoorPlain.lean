/- Plain words on numbers, lists of bytes and bits, for this session's pure proofs. -/
import Derived.Test.YtbplffdmggbcdaaDoorWWords
import Derived.Test.YtbplffdmggbcdaaDoorWMore
import Derived.Laws.BitsLemmas
namespace Go.Proofs.YtbplffdmggbcdaaDoor.Plain
open Go.RowKit Go.Proofs.YtbplffdmggbcdaaDoorW.PrintWords Go.Proofs.YtbplffdmggbcdaaDoorW.PrintMore

theorem w64 {x : Int} (h1 : -9223372036854775808 ≤ x) (h2 : x ≤ 9223372036854775807) : wrap64 x = x := by unfold wrap64; omega
/-- All are bytes. -/
def Bytes (l : List Int) : Prop := ∀ x ∈ l, 0 ≤ x ∧ x < 256
instance (l : List Int) : Decidable (Bytes l) := by unfold Bytes; infer_instance
theorem bytes_wf {l : List Int} (h : ∀ x ∈ l, (Lit.int .u8 x).wf = true) : Bytes l := by
  intro x hx
  have := h x hx
  simp [Lit.wf, IntKind.min, IntKind.max, IntKind.bits, IntKind.signed] at this
  omega
theorem rd_mem {l : List Int} {i : Int} (h1 : i.toNat < l.length) : rd l i ∈ l := by
  unfold rd
  rw [List.getD_eq_getElem?_getD, List.getElem?_eq_getElem h1]
  exact List.getElem_mem h1
theorem rd_out {l : List Int} {i : Int} (h1 : l.length ≤ i.toNat) : rd l i = 0 := by
  unfold rd
  rw [List.getD_eq_getElem?_getD, List.getElem?_eq_none h1]
  rfl
theorem rd_get {l : List Int} {i : Int} (h1 : i.toNat < l.length) : rd l i = l[i.toNat] := by
  unfold rd
  rw [List.getD_eq_getElem?_getD, List.getElem?_eq_getElem h1]
  rfl
theorem Bytes.rd {l : List Int} (h : Bytes l) (i : Int) : 0 ≤ rd l i ∧ rd l i < 256 := by
  by_cases h1 : i.toNat < l.length
  · exact h _ (rd_mem h1)
  · rw [rd_out (by omega)]
    simp
theorem Bytes.set {l : List Int} (h : Bytes l) (j : Nat) {v : Int} (h0 : 0 ≤ v) (h1 : v < 256) : Bytes (l.set j v) := by
  intro x hx
  rcases List.mem_or_eq_of_mem_set hx with hx | hx
  · exact h x hx
  · subst hx
    exact ⟨h0, h1⟩
theorem Bytes.append {a b : List Int} (ha : Bytes a) (hb : Bytes b) : Bytes (a ++ b) := by
  intro x hx
  rcases List.mem_append.1 hx with hx | hx
  · exact ha x hx
  · exact hb x hx
theorem Bytes.zeros (n : Nat) : Bytes (List.replicate n 0) := by
  intro x hx
  rw [List.mem_replicate] at hx
  omega
theorem Bytes.take {l : List Int} (h : Bytes l) (n : Nat) : Bytes (l.take n) := fun x hx => h x (List.mem_of_mem_take hx)
theorem Bytes.drop {l : List Int} (h : Bytes l) (n : Nat) : Bytes (l.drop n) := fun x hx => h x (List.mem_of_mem_drop hx)
theorem Bytes.nil : Bytes [] := fun x hx => absurd hx (by simp)
theorem Bytes.cons {a : Int} {l : List Int} (h0 : 0 ≤ a) (h1 : a < 256) (h : Bytes l) : Bytes (a :: l) := by
  intro x hx
  rcases List.mem_cons.1 hx with hx | hx
  · subst hx; exact ⟨h0, h1⟩
  · exact h x hx
/-- The number that bytes are, the first one the least. -/
def le : List Int → Int
  | [] => 0
  | x :: l => x + 256 * le l
theorem le_range : ∀ {l : List Int}, Bytes l → 0 ≤ le l ∧ le l < 256 ^ l.length := by
  intro l
  induction l with
  | nil => intro _; decide
  | cons x l ih =>
    intro h
    have hx := h x (by simp)
    have hl := ih (fun y hy => h y (by simp [hy]))
    rw [List.length_cons, Int.pow_succ]
    unfold le
    omega
/-- The same, from the last byte on. -/
def acc (l : List Int) : Int := l.foldl (fun v x => v * 256 + x) 0
theorem acc_snoc (l : List Int) (x : Int) : acc (l ++ [x]) = acc l * 256 + x := by unfold acc; simp
theorem acc_reverse (l : List Int) : acc l.reverse = le l := by
  induction l with
  | nil => rfl
  | cons x l ih =>
    rw [List.reverse_cons, acc_snoc, ih]
    show le l * 256 + x = x + 256 * le l
    omega
theorem acc_range {l : List Int} (h : Bytes l) : 0 ≤ acc l ∧ acc l < 256 ^ l.length := by
  have e : acc l = le l.reverse := by rw [← acc_reverse, List.reverse_reverse]
  have := le_range (l := l.reverse) (fun y hy => h y (List.mem_reverse.1 hy))
  rw [e]
  rwa [List.length_reverse] at this
theorem or_low {v x : Int} (v0 : 0 ≤ v) (v1 : v < 16777216) (x0 : 0 ≤ x) (x1 : x < 256) : Go.bits .or .i64 (v * 256) x = v * 256 + x :=
  bits_join .i64 63 (by decide) (fun n h0 h1 => by rw [IntKind.wrap_i64]; omega) 8 (v * 256) x (by omega) (by omega) (by omega) x0 x1 (by omega)

/-- The first n bytes of a number, the least one first. -/
def leB (n : Nat) (v : Int) : List Int := (List.range n).map fun k => v / 256 ^ k % 256
theorem leB_length (n : Nat) (v : Int) : (leB n v).length = n := by unfold leB; simp
theorem leB_succ (n : Nat) (v : Int) : leB (n + 1) v = leB n v ++ [v / 256 ^ n % 256] := by unfold leB; simp [List.range_succ]
theorem leB_bytes (n : Nat) (v : Int) : Bytes (leB n v) := by
  intro x hx
  obtain ⟨k, _, rfl⟩ := List.mem_map.1 hx
  omega
/-- Bytes with n bytes of a number at a place. -/
def putB (l : List Int) (a : Nat) (n : Nat) (v : Int) : List Int := l.take a ++ leB n v ++ l.drop (a + n)
theorem putB_zero (l : List Int) (a : Nat) (v : Int) : putB l a 0 v = l := by unfold putB leB; simp
theorem putB_set {l : List Int} {a n : Nat} (h : a + n < l.length) (v : Int) : (putB l a n v).set (a + n) (v / 256 ^ n % 256) = putB l a (n + 1) v := by
  unfold putB
  have hl : (l.take a ++ leB n v).length = a + n := by
    rw [List.length_append, List.length_take, leB_length]
    omega
  rw [List.set_append_right _ _ (by omega), hl, Nat.sub_self, List.drop_eq_getElem_cons h, List.set_cons_zero, leB_succ]
  simp [Nat.add_assoc]
/-! ### bits of bytes -/
section
variable {x j i : Int} (h0 : 0 ≤ x) (h1 : x < 256) (j0 : 0 ≤ j) (j1 : j < 8)
include h0 h1 j0 j1
variable (i0 : 0 ≤ i) (i1 : i < 8)
include i0 i1
end
end Go.Proofs.YtbplffdmggbcdaaDoor.Plain
