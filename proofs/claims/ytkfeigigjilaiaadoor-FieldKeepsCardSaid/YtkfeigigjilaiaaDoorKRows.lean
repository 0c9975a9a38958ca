/- Rows of bytes of one's own, a family of them, and what BytesApart does to it: the plain part. -/
import Derived.Test.YtkfeigigjilaiaaDoorKMark
import Derived.Maps.AppendAt
import Derived.ArgAppend
namespace Go.Proofs.YtkfeigigjilaiaaDoor.Keeps
open Go.RowKit Go.Proofs.YtkfeigigjilaiaaDoorW.PrintWords Go.Proofs.YtkfeigigjilaiaaDoorW.PrintLast Go.Proofs.YtkfeigigjilaiaaDoorW.PrintMore
set_option linter.unusedVariables false
set_option linter.unusedSimpArgs false
def M (n L : Nat) : List Int := (List.range L).map fun j => mk ((n + j : Nat) : Int)
theorem M_len (n L : Nat) : (M n L).length = L := by simp [M]
theorem M_succ (n L : Nat) : M n (L + 1) = M n L ++ [mk ((n + L : Nat) : Int)] := by simp [M, List.range_succ]
theorem M_at (n L j : Nat) (h : j < L) : (M n L)[j]? = some (mk ((n + j : Nat) : Int)) := by simp [M, h]
theorem M_zero (n : Nat) : M n 0 = [] := rfl
def off (L : Nat → Nat) : Nat → Nat
  | 0 => 0
  | k + 1 => off L k + L k
theorem off_le (L : Nat → Nat) (c : Nat) : ∀ n, (∀ k, k < n → L k ≤ c) → off L n ≤ n * c := by
  intro n
  induction n with
  | zero => intro _; simp [off]
  | succ n ih => intro h; have h1 := ih fun k hk => h k (by omega); have h2 := h n (by omega); rw [off, Nat.succ_mul]; omega
theorem off_mono (L : Nat → Nat) : ∀ n i, i ≤ n → off L i ≤ off L n := by
  intro n
  induction n with
  | zero => intro i h; obtain rfl : i = 0 := by omega
            exact Nat.le_refl _
  | succ n ih =>
    intro i h
    rcases Nat.lt_or_ge n i with c | c
    · obtain rfl : i = n + 1 := by omega
      exact Nat.le_refl _
    · exact Nat.le_trans (ih i c) (by rw [off]; omega)
/-- A row of bytes of one's own: without room, or a whole block. -/
def Row (w : World) (v : Value) (b : Option Nat) (xs : List Int) : Prop :=
  ((∃ A, v = .slice A 0 0) ∧ b = none ∧ xs = []) ∨ ∃ g cap cur, v = .slice (some ⟨g, 0, none⟩) xs.length cap ∧ b = some g ∧ xs.length ≤ cap ∧ cap ≤ maxLen ∧ w.heap[g]? = some (.cells cur 5 (0, 0)) ∧ cur.size = cap ∧ cur.toList.take xs.length = nums .u8 xs
/-- A row as it reads. -/
def Rd (w : World) (v : Value) (b : Option Nat) (xs : List Int) : Prop :=
  ((∃ A, v = .slice A 0 0) ∧ xs = []) ∨ ∃ g cap cur, v = .slice (some ⟨g, 0, none⟩) xs.length cap ∧ b = some g ∧ w.heap[g]? = some (.cells cur 5 (0, 0)) ∧ cur.toList.take xs.length = nums .u8 xs
theorem Row.rd {w : World} {v : Value} {b : Option Nat} {xs : List Int} (h : Row w v b xs) : Rd w v b xs := by
  rcases h with ⟨h1, _, h3⟩ | ⟨g, cap, cur, h1, h2, _, _, h5, _, h7⟩
  · exact .inl ⟨h1, h3⟩
  · exact .inr ⟨g, cap, cur, h1, h2, h5, h7⟩
theorem Row.keep {w W : World} {v : Value} {b : Option Nat} {xs : List Int} (h : Row w v b xs) (hk : ∀ g, b = some g → W.heap[g]? = w.heap[g]?) : Row W v b xs := by
  rcases h with h | ⟨g, cap, cur, h1, h2, h3, h4, h5, h6, h7⟩
  · exact .inl h
  · exact .inr ⟨g, cap, cur, h1, h2, h3, h4, (hk g h2).trans h5, h6, h7⟩
theorem Rd.keep {w W : World} {v : Value} {b : Option Nat} {xs : List Int} (h : Rd w v b xs) (hk : ∀ g, b = some g → W.heap[g]? = w.heap[g]?) : Rd W v b xs := by
  rcases h with h | ⟨g, cap, cur, h1, h2, h5, h7⟩
  · exact .inl h
  · exact .inr ⟨g, cap, cur, h1, h2, (hk g h2).trans h5, h7⟩
theorem Rd.form {w : World} {v : Value} {b : Option Nat} {xs : List Int} (h : Rd w v b xs) : ∃ A c, v = .slice A xs.length c := by
  rcases h with ⟨⟨A, rfl⟩, rfl⟩ | ⟨g, cap, cur, rfl, _⟩
  · exact ⟨A, 0, rfl⟩
  · exact ⟨_, cap, rfl⟩
theorem Rd.at {w : World} {v : Value} {b : Option Nat} {xs : List Int} (h : Rd w v b xs) (j : Nat) (x : Int) (hj : xs[j]? = some x) : ∃ g cap, v = .slice (some ⟨g, 0, none⟩) xs.length cap ∧ w.cell? ⟨g, j, none⟩ = some (.int .u8 x) := by
  rcases h with ⟨⟨A, rfl⟩, rfl⟩ | ⟨g, cap, cur, rfl, _, h5, h7⟩
  · cases hj
  · refine ⟨g, cap, rfl, ?_⟩
    have hl : j < xs.length := by
      rcases Nat.lt_or_ge j xs.length with c | c
      · exact c
      · rw [List.getElem?_eq_none c] at hj; cases hj
    have hx : cur.toList[j]? = (nums .u8 xs)[j]? := by rw [← h7, List.getElem?_take, if_pos hl]
    rw [blk_cell h5 j, ← Array.getElem?_toList, hx]
    simp [nums, hj]
theorem Row.set {w : World} {g : Nat} {v : Value} {xs : List Int} (h : Row w v (some g) xs) (i : Nat) (x : Int) (hi : i < xs.length) : Row (w.setCell ⟨g, i, none⟩ (.int .u8 x)) v (some g) (xs.set i x) := by
  rcases h with ⟨_, h, _⟩ | ⟨g', cap, cur, rfl, h2, h3, h4, h5, h6, h7⟩
  · cases h
  · cases h2
    have hc : cur.toList.toArray = cur := by simp
    refine .inr ⟨g, cap, (cur.toList.set i (.int .u8 x)).toArray, by rw [List.length_set], rfl, by rw [List.length_set]; exact h3, h4, ?_, by simp; exact h6, ?_⟩
    · have h5' : w.heap[g]? = some (.cells cur.toList.toArray 5 (0, 0)) := by rw [hc]; exact h5
      rw [setCell_eq_setRow w g i _ 5 (0, 0) _ h5', setRow_heap w g _ _ 5 (0, 0) h5']
      simp only [List.setIfInBounds_toArray]
    · rw [List.length_set]
      show (cur.toList.set i (.int .u8 x)).take xs.length = _
      rw [List.take_set, h7]
      simp [nums, List.map_set]
theorem Row.cell {w : World} {v : Value} {b : Option Nat} {xs : List Int} (h : Row w v b xs) (i : Nat) (hi : i < xs.length) : ∃ g cap u, b = some g ∧ v = .slice (some ⟨g, 0, none⟩) xs.length cap ∧ w.cell? ⟨g, i, none⟩ = some u ∧ w.frozen? ⟨g, i, none⟩ = false := by
  rcases h with ⟨_, _, rfl⟩ | ⟨g, cap, cur, rfl, h2, h3, h4, h5, h6, h7⟩
  · simp at hi
  · refine ⟨g, cap, cur[i]'(by omega), h2, rfl, ?_, blk_frozen h5 _⟩
    rw [blk_cell h5 i, Array.getElem?_eq_getElem]
theorem Row.lt {w : World} {v : Value} {b : Option Nat} {xs : List Int} (h : Row w v b xs) : ∀ g, b = some g → g < w.heap.size := by
  intro g hg
  rcases h with ⟨_, h, _⟩ | ⟨g', cap, cur, rfl, h2, h3, h4, h5, h6, h7⟩
  · rw [h] at hg; cases hg
  · rw [h2] at hg; cases hg
    exact (Array.getElem?_eq_some_iff.1 h5).1
/-- A row that was grown over the same block still has its beginning. -/
theorem Rd.before {w : World} {v v' : Value} {g : Nat} {xs ys : List Int} {c : Nat} (h : Row w v' (some g) (xs ++ ys)) (hv : v = .slice (some ⟨g, 0, none⟩) xs.length c) : Rd w v (some g) xs := by
  rcases h with ⟨_, h, _⟩ | ⟨g', cap, cur, rfl, h2, h3, h4, h5, h6, h7⟩
  · cases h
  · cases h2
    refine .inr ⟨g, c, cur, hv, rfl, h5, ?_⟩
    have : cur.toList.take xs.length = (cur.toList.take (xs ++ ys).length).take xs.length := by rw [List.take_take, List.length_append]; congr 1; omega
    rw [this, h7, nums_append, List.take_append_of_le_length (by simp [nums]), List.take_of_length_le (by simp [nums])]
theorem Row.of_owns {w : World} {base : Nat} {v : Value} {xs : List Int} (h : w.ownsRow base 5 1 v xs.length (nums .u8 xs)) : Row w v v.ownBlock xs := by
  obtain ⟨_, h0 | ⟨g, cap, cur, rfl, hb, hh, hn, hm, hs, ht⟩⟩ := h
  · obtain ⟨rfl, h1⟩ := h0
    exact .inl ⟨⟨_, rfl⟩, rfl, List.eq_nil_of_length_eq_zero h1⟩
  · exact .inr ⟨g, cap, cur, rfl, rfl, hn, hm, hh, by omega, by rw [Nat.mul_one] at ht; exact ht⟩
/-- The frame: what was there when the call began is as it was, but for the blocks of S. -/
structure Fr (S : Nat → Prop) (w w' : World) : Prop where
  os : w'.os = w.os
  tape : w'.tape = w.tape
  output : w'.output = w.output
  size : w.heap.size ≤ w'.heap.size
  block : ∀ k, k < w.heap.size → ¬ S k → w'.heap[k]? = w.heap[k]?
theorem Fr.refl (S : Nat → Prop) (w : World) : Fr S w w := ⟨rfl, rfl, rfl, Nat.le_refl _, fun _ _ _ => rfl⟩
theorem Fr.drewN {S : Nat → Prop} {w w' : World} (h : Fr S w w') (n : Nat) : Fr S w (w'.drewN n) := ⟨h.os, h.tape, h.output, h.size, h.block⟩
theorem Fr.alloc {S : Nat → Prop} {w w' : World} (h : Fr S w w') (o : Obj) : Fr S w (w'.alloc o) :=
  ⟨h.os, h.tape, h.output, by have := h.size; simp; omega, fun k hk hs => by rw [Below.heap_alloc _ _ _ (by have := h.size; omega)]; exact h.block k hk hs⟩
theorem Fr.setCell {S : Nat → Prop} {w w' : World} (h : Fr S w w') {p : Addr} (hp : S p.block ∨ w.heap.size ≤ p.block) (u : Value) : Fr S w (w'.setCell p u) :=
  ⟨h.os, h.tape, h.output, by have := h.size; simp [World.setCell]; omega, fun k hk hs => by
    rw [Below.heap_setCell]
    · exact h.block k hk hs
    · rintro rfl; rcases hp with c | c
      · exact hs c
      · omega⟩
theorem Fr.grown {S : Nat → Prop} {w w1 w2 : World} {row : Option Nat} (h : Fr S w w1) (hg : w1.grownBy w2 row) (hr : ∀ k, row = some k → S k ∨ w.heap.size ≤ k) : Fr S w w2 :=
  ⟨hg.os.trans h.os, hg.tape.trans h.tape, hg.output.trans h.output, Nat.le_trans h.size hg.size, fun k hk hs => by
    rw [hg.block k (by have := h.size; omega)]
    · exact h.block k hk hs
    · intro e; rcases hr k e.symm with c | c
      · exact hs c
      · omega⟩
/-- A family of rows, no two over one block, none over block G. -/
structure Fam (n : Nat) (vs : Nat → Value) (bs : Nat → Option Nat) (L : Nat → Nat) (G B : Nat) : Prop where
  apart : ∀ k l, k < n → l < n → k ≠ l → ∀ g, bs k = some g → bs l ≠ some g
  head : ∀ k, k < n → bs k ≠ some G
  lt : ∀ k, k < n → ∀ g, bs k = some g → g < B
  hG : G < B
  small : n ≤ 1000
  len : ∀ k, k < n → L k ≤ 140737488355000
def Ours (n : Nat) (bs : Nat → Option Nat) (g : Nat) : Prop := ∃ k, k < n ∧ bs k = some g
theorem Fam.notG {n : Nat} {vs : Nat → Value} {bs : Nat → Option Nat} {L : Nat → Nat} {G B : Nat} (F : Fam n vs bs L G B) : ¬ Ours n bs G := fun ⟨k, hk, e⟩ => F.head k hk e
theorem Fam.offs {n : Nat} {vs : Nat → Value} {bs : Nat → Option Nat} {L : Nat → Nat} {G B : Nat} (F : Fam n vs bs L G B) (i : Nat) (hi : i ≤ n) : off L i ≤ 140737488355000000 := by
  have h1 := off_le L _ n F.len
  have h2 := off_mono L n i hi
  have h3 := F.small
  have h4 : n * 140737488355000 ≤ 1000 * 140737488355000 := Nat.mul_le_mul_right _ h3
  omega
/-- A row whose first m bytes are marked. -/
def P (w : World) (v : Value) (b : Option Nat) (L o m : Nat) : Prop := ∃ ys, Row w v b ys ∧ ys.length = L ∧ ys.take m = M o m
theorem P.keep {w W : World} {v : Value} {b : Option Nat} {L o m : Nat} (h : P w v b L o m) (hk : ∀ g, b = some g → W.heap[g]? = w.heap[g]?) : P W v b L o m := by
  obtain ⟨ys, h1, h2, h3⟩ := h
  exact ⟨ys, h1.keep hk, h2, h3⟩
theorem P.full {w : World} {v : Value} {b : Option Nat} {L o : Nat} (h : P w v b L o L) : Row w v b (M o L) := by
  obtain ⟨ys, h1, h2, h3⟩ := h
  rw [← h3, List.take_of_length_le (by omega)]
  exact h1
theorem P.form {w : World} {v : Value} {b : Option Nat} {L o m : Nat} (h : P w v b L o m) : ∃ A c, v = .slice A L c := by
  obtain ⟨ys, h1, h2, h3⟩ := h
  rw [← h2]
  exact h1.rd.form
theorem P.start {w : World} {v : Value} {b : Option Nat} {ys : List Int} (h : Row w v b ys) (o : Nat) : P w v b ys.length o 0 := ⟨ys, h, rfl, by simp [M]⟩
theorem take_set_next (ys : List Int) (m : Nat) (x : Int) (h : m < ys.length) : (ys.set m x).take (m + 1) = ys.take m ++ [x] := by
  rw [List.take_succ_eq_append_getElem (by simpa using h)]
  congr 1
  · rw [List.take_set_of_le (Nat.le_refl _)]
  · simp
theorem P.step {w : World} {v : Value} {b : Option Nat} {L o m : Nat} (h : P w v b L o m) (hm : m < L) : ∃ g cap u, b = some g ∧ v = .slice (some ⟨g, 0, none⟩) L cap ∧ w.cell? ⟨g, m, none⟩ = some u ∧ w.frozen? ⟨g, m, none⟩ = false ∧
    ∀ k, P ((w.setCell ⟨g, m, none⟩ (.int .u8 (mk ((o + m : Nat) : Int)))).drewN k) v b L o (m + 1) := by
  obtain ⟨ys, h1, rfl, h3⟩ := h
  obtain ⟨g, cap, u, rfl, hv, hc, hf⟩ := h1.cell m hm
  refine ⟨g, cap, u, rfl, hv, hc, hf, fun k => ⟨ys.set m _, (h1.set m _ hm).keep (fun _ _ => rfl), by simp, ?_⟩⟩
  rw [take_set_next _ _ _ hm, h3, M_succ]
def prg (L : Nat → Nat) (i j k : Nat) : Nat := if k < i then L k else if k = i then j else 0
structure All (w : World) (n : Nat) (vs : Nat → Value) (bs : Nat → Option Nat) (L : Nat → Nat) (i j : Nat) : Prop where mk :: (out : ∀ k, k < n → P w (vs k) (bs k) (L k) (off L k) (prg L i j k))
theorem All.keep {w W : World} {n : Nat} {vs : Nat → Value} {bs : Nat → Option Nat} {L : Nat → Nat} {i j : Nat} (h : All w n vs bs L i j) (hk : ∀ g, Ours n bs g → W.heap[g]? = w.heap[g]?) : All W n vs bs L i j :=
  ⟨fun k hk' => (h.out k hk').keep fun g e => hk g ⟨k, hk', e⟩⟩
theorem All.next {w : World} {n : Nat} {vs : Nat → Value} {bs : Nat → Option Nat} {L : Nat → Nat} {i : Nat} (h : All w n vs bs L i (L i)) : All w n vs bs L (i + 1) 0 := by
  refine ⟨fun k hk => ?_⟩
  have := h.out k hk
  have e : prg L i (L i) k = prg L (i + 1) 0 k := by
    unfold prg
    rcases Nat.lt_trichotomy k i with c | c | c
    · rw [if_pos c, if_pos (by omega)]
    · subst c; rw [if_neg (by omega), if_pos rfl, if_pos (by omega)]
    · rw [if_neg (by omega), if_neg (by omega), if_neg (by omega)]; split <;> rfl
  rw [← e]; exact this
theorem All.at {w : World} {n : Nat} {vs : Nat → Value} {bs : Nat → Option Nat} {L : Nat → Nat} {i j : Nat} (h : All w n vs bs L i j) (hi : i < n) : P w (vs i) (bs i) (L i) (off L i) j := by
  have := h.out i hi
  rw [prg, if_neg (by omega), if_pos rfl] at this
  exact this
theorem All.step {w : World} {n : Nat} {vs : Nat → Value} {bs : Nat → Option Nat} {L : Nat → Nat} {G B i j : Nat} (F : Fam n vs bs L G B) (h : All w n vs bs L i j) (hi : i < n) (hj : j < L i) :
    ∃ g cap u, Ours n bs g ∧ vs i = .slice (some ⟨g, 0, none⟩) (L i) cap ∧ w.cell? ⟨g, j, none⟩ = some u ∧ w.frozen? ⟨g, j, none⟩ = false ∧
      ∀ k, All ((w.setCell ⟨g, j, none⟩ (.int .u8 (Keeps.mk ((off L i + j : Nat) : Int)))).drewN k) n vs bs L i (j + 1) := by
  obtain ⟨g, cap, u, hb, hv, hc, hf, hs⟩ := (h.at hi).step hj
  refine ⟨g, cap, u, ⟨i, hi, hb⟩, hv, hc, hf, fun q => ⟨fun k hk => ?_⟩⟩
  rcases Decidable.em (k = i) with rfl | hne
  · have : prg L k (j + 1) k = j + 1 := by rw [prg, if_neg (by omega), if_pos rfl]
    rw [this]; exact hs q
  · have e : prg L i (j + 1) k = prg L i j k := by
      unfold prg; simp only [if_neg hne]
    rw [e]
    refine (h.out k hk).keep fun g' hg' => ?_
    show ((w.setCell ⟨g, j, none⟩ _).heap)[g']? = _
    exact Below.heap_setCell _ _ _ _ (fun e' => F.apart k i hk hi hne g' hg' (by rw [e']; exact hb))
theorem All.done {w : World} {n : Nat} {vs : Nat → Value} {bs : Nat → Option Nat} {L : Nat → Nat} (h : All w n vs bs L n 0) : ∀ k, k < n → Row w (vs k) (bs k) (M (off L k) (L k)) := by
  intro k hk
  have := h.out k hk
  rw [prg, if_pos hk] at this
  exact this.full
end Go.Proofs.YtkfeigigjilaiaaDoor.Keeps
