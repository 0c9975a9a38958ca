/- Texts of this claim, merged. -/
import Derived.Test.YtbplffdmggbcdaaDoorKMark
import Derived.Maps.AppendAt
import Derived.ArgAppend
import Derived.Test.YtbplffdmggbcdaaDoorWTab
import Derived.StillTailTactics
import Derived.StillTactics
import Derived.Outline
import Derived.Deep.QuietTactic
import Derived.BigQuiet
import Derived.Deep.CutRange
namespace Go.Proofs.YtbplffdmggbcdaaDoor.KeepsI
open Go.RowKit Go.Proofs.YtbplffdmggbcdaaDoorW.PrintWords Go.Proofs.YtbplffdmggbcdaaDoorW.PrintLast Go.Proofs.YtbplffdmggbcdaaDoorW.PrintMore
set_option linter.unusedVariables false
set_option linter.unusedSimpArgs false
theorem info3 : (Tryd.prog.info? 3).map (fun i => (i.zero, i.size, i.bytes)) = some (some (.int .i64 0), 1, 8) := by kernel_rfl
def M (n L : Nat) : List Int := (List.range L).map fun j => ((n + j : Nat) : Int)
theorem M_len (n L : Nat) : (M n L).length = L := by simp [M]
theorem M_succ (n L : Nat) : M n (L + 1) = M n L ++ [((n + L : Nat) : Int)] := by simp [M, List.range_succ]
theorem M_at (n L j : Nat) (h : j < L) : (M n L)[j]? = some (((n + j : Nat) : Int)) := by simp [M, h]
theorem M_zero (n : Nat) : M n 0 = [] := rfl
def off (L : Nat → Nat) : Nat → Nat
  | 0 => 0
  | k + 1 => off L k + L k
theorem off_le (L : Nat → Nat) (c : Nat) : ∀ n, (∀ k, k < n → L k ≤ c) → off L n ≤ n * c := by
  intro n
  induction n with
  | zero => intro _; simp [off]
  | succ n ih => intro h; have h1 := ih fun k hk => h k (by omega); have h2 := h n (by omega); rw [off, Nat.succ_mul]; omega
theorem off_mono (L : Nat → Nat) : ∀ n i, i ≤ n → off L i ≤ off L n := by
  intro n
  induction n with
  | zero => intro i h; obtain rfl : i = 0 := by omega
            exact Nat.le_refl _
  | succ n ih =>
    intro i h
    rcases Nat.lt_or_ge n i with c | c
    · obtain rfl : i = n + 1 := by omega
      exact Nat.le_refl _
    · exact Nat.le_trans (ih i c) (by rw [off]; omega)
/-- A row of bytes of one's own: without room, or a whole block. -/
def Row (w : World) (v : Value) (b : Option Nat) (xs : List Int) : Prop :=
  ((∃ A, v = .slice A 0 0) ∧ b = none ∧ xs = []) ∨ ∃ g cap cur, v = .slice (some ⟨g, 0, none⟩) xs.length cap ∧ b = some g ∧ xs.length ≤ cap ∧ cap ≤ maxLen ∧ w.heap[g]? = some (.cells cur 3 (0, 0)) ∧ cur.size = cap ∧ cur.toList.take xs.length = nums .i64 xs
/-- A row as it reads. -/
def Rd (w : World) (v : Value) (b : Option Nat) (xs : List Int) : Prop :=
  ((∃ A, v = .slice A 0 0) ∧ xs = []) ∨ ∃ g cap cur, v = .slice (some ⟨g, 0, none⟩) xs.length cap ∧ b = some g ∧ w.heap[g]? = some (.cells cur 3 (0, 0)) ∧ cur.toList.take xs.length = nums .i64 xs
theorem Row.rd {w : World} {v : Value} {b : Option Nat} {xs : List Int} (h : Row w v b xs) : Rd w v b xs := by
  rcases h with ⟨h1, _, h3⟩ | ⟨g, cap, cur, h1, h2, _, _, h5, _, h7⟩
  · exact .inl ⟨h1, h3⟩
  · exact .inr ⟨g, cap, cur, h1, h2, h5, h7⟩
theorem Row.keep {w W : World} {v : Value} {b : Option Nat} {xs : List Int} (h : Row w v b xs) (hk : ∀ g, b = some g → W.heap[g]? = w.heap[g]?) : Row W v b xs := by
  rcases h with h | ⟨g, cap, cur, h1, h2, h3, h4, h5, h6, h7⟩
  · exact .inl h
  · exact .inr ⟨g, cap, cur, h1, h2, h3, h4, (hk g h2).trans h5, h6, h7⟩
theorem Rd.keep {w W : World} {v : Value} {b : Option Nat} {xs : List Int} (h : Rd w v b xs) (hk : ∀ g, b = some g → W.heap[g]? = w.heap[g]?) : Rd W v b xs := by
  rcases h with h | ⟨g, cap, cur, h1, h2, h5, h7⟩
  · exact .inl h
  · exact .inr ⟨g, cap, cur, h1, h2, (hk g h2).trans h5, h7⟩
theorem Rd.form {w : World} {v : Value} {b : Option Nat} {xs : List Int} (h : Rd w v b xs) : ∃ A c, v = .slice A xs.length c := by
  rcases h with ⟨⟨A, rfl⟩, rfl⟩ | ⟨g, cap, cur, rfl, _⟩
  · exact ⟨A, 0, rfl⟩
  · exact ⟨_, cap, rfl⟩
theorem Rd.at {w : World} {v : Value} {b : Option Nat} {xs : List Int} (h : Rd w v b xs) (j : Nat) (x : Int) (hj : xs[j]? = some x) : ∃ g cap, v = .slice (some ⟨g, 0, none⟩) xs.length cap ∧ w.cell? ⟨g, j, none⟩ = some (.int .i64 x) := by
  rcases h with ⟨⟨A, rfl⟩, rfl⟩ | ⟨g, cap, cur, rfl, _, h5, h7⟩
  · cases hj
  · refine ⟨g, cap, rfl, ?_⟩
    have hl : j < xs.length := by
      rcases Nat.lt_or_ge j xs.length with c | c
      · exact c
      · rw [List.getElem?_eq_none c] at hj; cases hj
    have hx : cur.toList[j]? = (nums .i64 xs)[j]? := by rw [← h7, List.getElem?_take, if_pos hl]
    rw [blk_cell h5 j, ← Array.getElem?_toList, hx]
    simp [nums, hj]
theorem Row.set {w : World} {g : Nat} {v : Value} {xs : List Int} (h : Row w v (some g) xs) (i : Nat) (x : Int) (hi : i < xs.length) : Row (w.setCell ⟨g, i, none⟩ (.int .i64 x)) v (some g) (xs.set i x) := by
  rcases h with ⟨_, h, _⟩ | ⟨g', cap, cur, rfl, h2, h3, h4, h5, h6, h7⟩
  · cases h
  · cases h2
    have hc : cur.toList.toArray = cur := by simp
    refine .inr ⟨g, cap, (cur.toList.set i (.int .i64 x)).toArray, by rw [List.length_set], rfl, by rw [List.length_set]; exact h3, h4, ?_, by simp; exact h6, ?_⟩
    · have h5' : w.heap[g]? = some (.cells cur.toList.toArray 3 (0, 0)) := by rw [hc]; exact h5
      rw [setCell_eq_setRow w g i _ 3 (0, 0) _ h5', setRow_heap w g _ _ 3 (0, 0) h5']
      simp only [List.setIfInBounds_toArray]
    · rw [List.length_set]
      show (cur.toList.set i (.int .i64 x)).take xs.length = _
      rw [List.take_set, h7]
      simp [nums, List.map_set]
theorem Row.cell {w : World} {v : Value} {b : Option Nat} {xs : List Int} (h : Row w v b xs) (i : Nat) (hi : i < xs.length) : ∃ g cap u, b = some g ∧ v = .slice (some ⟨g, 0, none⟩) xs.length cap ∧ w.cell? ⟨g, i, none⟩ = some u ∧ w.frozen? ⟨g, i, none⟩ = false := by
  rcases h with ⟨_, _, rfl⟩ | ⟨g, cap, cur, rfl, h2, h3, h4, h5, h6, h7⟩
  · simp at hi
  · refine ⟨g, cap, cur[i]'(by omega), h2, rfl, ?_, blk_frozen h5 _⟩
    rw [blk_cell h5 i, Array.getElem?_eq_getElem]
theorem Row.lt {w : World} {v : Value} {b : Option Nat} {xs : List Int} (h : Row w v b xs) : ∀ g, b = some g → g < w.heap.size := by
  intro g hg
  rcases h with ⟨_, h, _⟩ | ⟨g', cap, cur, rfl, h2, h3, h4, h5, h6, h7⟩
  · rw [h] at hg; cases hg
  · rw [h2] at hg; cases hg
    exact (Array.getElem?_eq_some_iff.1 h5).1
/-- A row that was grown over the same block still has its beginning. -/
theorem Rd.before {w : World} {v v' : Value} {g : Nat} {xs ys : List Int} {c : Nat} (h : Row w v' (some g) (xs ++ ys)) (hv : v = .slice (some ⟨g, 0, none⟩) xs.length c) : Rd w v (some g) xs := by
  rcases h with ⟨_, h, _⟩ | ⟨g', cap, cur, rfl, h2, h3, h4, h5, h6, h7⟩
  · cases h
  · cases h2
    refine .inr ⟨g, c, cur, hv, rfl, h5, ?_⟩
    have : cur.toList.take xs.length = (cur.toList.take (xs ++ ys).length).take xs.length := by rw [List.take_take, List.length_append]; congr 1; omega
    rw [this, h7, nums_append, List.take_append_of_le_length (by simp [nums]), List.take_of_length_le (by simp [nums])]
theorem Row.of_owns {w : World} {base : Nat} {v : Value} {xs : List Int} (h : w.ownsRow base 3 1 v xs.length (nums .i64 xs)) : Row w v v.ownBlock xs := by
  obtain ⟨_, h0 | ⟨g, cap, cur, rfl, hb, hh, hn, hm, hs, ht⟩⟩ := h
  · obtain ⟨rfl, h1⟩ := h0
    exact .inl ⟨⟨_, rfl⟩, rfl, List.eq_nil_of_length_eq_zero h1⟩
  · exact .inr ⟨g, cap, cur, rfl, rfl, hn, hm, hh, by omega, by rw [Nat.mul_one] at ht; exact ht⟩
/-- The frame: what was there when the call began is as it was, but for the blocks of S. -/
structure Fr (S : Nat → Prop) (w w' : World) : Prop where
  os : w'.os = w.os
  tape : w'.tape = w.tape
  output : w'.output = w.output
  size : w.heap.size ≤ w'.heap.size
  block : ∀ k, k < w.heap.size → ¬ S k → w'.heap[k]? = w.heap[k]?
theorem Fr.refl (S : Nat → Prop) (w : World) : Fr S w w := ⟨rfl, rfl, rfl, Nat.le_refl _, fun _ _ _ => rfl⟩
theorem Fr.drewN {S : Nat → Prop} {w w' : World} (h : Fr S w w') (n : Nat) : Fr S w (w'.drewN n) := ⟨h.os, h.tape, h.output, h.size, h.block⟩
theorem Fr.alloc {S : Nat → Prop} {w w' : World} (h : Fr S w w') (o : Obj) : Fr S w (w'.alloc o) :=
  ⟨h.os, h.tape, h.output, by have := h.size; simp; omega, fun k hk hs => by rw [Below.heap_alloc _ _ _ (by have := h.size; omega)]; exact h.block k hk hs⟩
theorem Fr.setCell {S : Nat → Prop} {w w' : World} (h : Fr S w w') {p : Addr} (hp : S p.block ∨ w.heap.size ≤ p.block) (u : Value) : Fr S w (w'.setCell p u) :=
  ⟨h.os, h.tape, h.output, by have := h.size; simp [World.setCell]; omega, fun k hk hs => by
    rw [Below.heap_setCell]
    · exact h.block k hk hs
    · rintro rfl; rcases hp with c | c
      · exact hs c
      · omega⟩
theorem Fr.grown {S : Nat → Prop} {w w1 w2 : World} {row : Option Nat} (h : Fr S w w1) (hg : w1.grownBy w2 row) (hr : ∀ k, row = some k → S k ∨ w.heap.size ≤ k) : Fr S w w2 :=
  ⟨hg.os.trans h.os, hg.tape.trans h.tape, hg.output.trans h.output, Nat.le_trans h.size hg.size, fun k hk hs => by
    rw [hg.block k (by have := h.size; omega)]
    · exact h.block k hk hs
    · intro e; rcases hr k e.symm with c | c
      · exact hs c
      · omega⟩
/-- A family of rows, no two over one block, none over block G. -/
structure Fam (n : Nat) (vs : Nat → Value) (bs : Nat → Option Nat) (L : Nat → Nat) (G B : Nat) : Prop where
  apart : ∀ k l, k < n → l < n → k ≠ l → ∀ g, bs k = some g → bs l ≠ some g
  head : ∀ k, k < n → bs k ≠ some G
  lt : ∀ k, k < n → ∀ g, bs k = some g → g < B
  hG : G < B
  small : n ≤ 1000
  len : ∀ k, k < n → L k ≤ 17592186044000
def Ours (n : Nat) (bs : Nat → Option Nat) (g : Nat) : Prop := ∃ k, k < n ∧ bs k = some g
theorem Fam.notG {n : Nat} {vs : Nat → Value} {bs : Nat → Option Nat} {L : Nat → Nat} {G B : Nat} (F : Fam n vs bs L G B) : ¬ Ours n bs G := fun ⟨k, hk, e⟩ => F.head k hk e
theorem Fam.offs {n : Nat} {vs : Nat → Value} {bs : Nat → Option Nat} {L : Nat → Nat} {G B : Nat} (F : Fam n vs bs L G B) (i : Nat) (hi : i ≤ n) : off L i ≤ 17592186044000000 := by
  have h1 := off_le L _ n F.len
  have h2 := off_mono L n i hi
  have h3 := F.small
  have h4 : n * 17592186044000 ≤ 1000 * 17592186044000 := Nat.mul_le_mul_right _ h3
  omega
/-- A row whose first m bytes are marked. -/
def P (w : World) (v : Value) (b : Option Nat) (L o m : Nat) : Prop := ∃ ys, Row w v b ys ∧ ys.length = L ∧ ys.take m = M o m
theorem P.keep {w W : World} {v : Value} {b : Option Nat} {L o m : Nat} (h : P w v b L o m) (hk : ∀ g, b = some g → W.heap[g]? = w.heap[g]?) : P W v b L o m := by
  obtain ⟨ys, h1, h2, h3⟩ := h
  exact ⟨ys, h1.keep hk, h2, h3⟩
theorem P.full {w : World} {v : Value} {b : Option Nat} {L o : Nat} (h : P w v b L o L) : Row w v b (M o L) := by
  obtain ⟨ys, h1, h2, h3⟩ := h
  rw [← h3, List.take_of_length_le (by omega)]
  exact h1
theorem P.form {w : World} {v : Value} {b : Option Nat} {L o m : Nat} (h : P w v b L o m) : ∃ A c, v = .slice A L c := by
  obtain ⟨ys, h1, h2, h3⟩ := h
  rw [← h2]
  exact h1.rd.form
theorem P.start {w : World} {v : Value} {b : Option Nat} {ys : List Int} (h : Row w v b ys) (o : Nat) : P w v b ys.length o 0 := ⟨ys, h, rfl, by simp [M]⟩
theorem take_set_next (ys : List Int) (m : Nat) (x : Int) (h : m < ys.length) : (ys.set m x).take (m + 1) = ys.take m ++ [x] := by
  rw [List.take_succ_eq_append_getElem (by simpa using h)]
  congr 1
  · rw [List.take_set_of_le (Nat.le_refl _)]
  · simp
theorem P.step {w : World} {v : Value} {b : Option Nat} {L o m : Nat} (h : P w v b L o m) (hm : m < L) : ∃ g cap u, b = some g ∧ v = .slice (some ⟨g, 0, none⟩) L cap ∧ w.cell? ⟨g, m, none⟩ = some u ∧ w.frozen? ⟨g, m, none⟩ = false ∧
    ∀ k, P ((w.setCell ⟨g, m, none⟩ (.int .i64 (((o + m : Nat) : Int)))).drewN k) v b L o (m + 1) := by
  obtain ⟨ys, h1, rfl, h3⟩ := h
  obtain ⟨g, cap, u, rfl, hv, hc, hf⟩ := h1.cell m hm
  refine ⟨g, cap, u, rfl, hv, hc, hf, fun k => ⟨ys.set m _, (h1.set m _ hm).keep (fun _ _ => rfl), by simp, ?_⟩⟩
  rw [take_set_next _ _ _ hm, h3, M_succ]
def prg (L : Nat → Nat) (i j k : Nat) : Nat := if k < i then L k else if k = i then j else 0
structure All (w : World) (n : Nat) (vs : Nat → Value) (bs : Nat → Option Nat) (L : Nat → Nat) (i j : Nat) : Prop where mk :: (out : ∀ k, k < n → P w (vs k) (bs k) (L k) (off L k) (prg L i j k))
theorem All.keep {w W : World} {n : Nat} {vs : Nat → Value} {bs : Nat → Option Nat} {L : Nat → Nat} {i j : Nat} (h : All w n vs bs L i j) (hk : ∀ g, Ours n bs g → W.heap[g]? = w.heap[g]?) : All W n vs bs L i j :=
  ⟨fun k hk' => (h.out k hk').keep fun g e => hk g ⟨k, hk', e⟩⟩
theorem All.next {w : World} {n : Nat} {vs : Nat → Value} {bs : Nat → Option Nat} {L : Nat → Nat} {i : Nat} (h : All w n vs bs L i (L i)) : All w n vs bs L (i + 1) 0 := by
  refine ⟨fun k hk => ?_⟩
  have := h.out k hk
  have e : prg L i (L i) k = prg L (i + 1) 0 k := by
    unfold prg
    rcases Nat.lt_trichotomy k i with c | c | c
    · rw [if_pos c, if_pos (by omega)]
    · subst c; rw [if_neg (by omega), if_pos rfl, if_pos (by omega)]
    · rw [if_neg (by omega), if_neg (by omega), if_neg (by omega)]; split <;> rfl
  rw [← e]; exact this
theorem All.at {w : World} {n : Nat} {vs : Nat → Value} {bs : Nat → Option Nat} {L : Nat → Nat} {i j : Nat} (h : All w n vs bs L i j) (hi : i < n) : P w (vs i) (bs i) (L i) (off L i) j := by
  have := h.out i hi
  rw [prg, if_neg (by omega), if_pos rfl] at this
  exact this
theorem All.step {w : World} {n : Nat} {vs : Nat → Value} {bs : Nat → Option Nat} {L : Nat → Nat} {G B i j : Nat} (F : Fam n vs bs L G B) (h : All w n vs bs L i j) (hi : i < n) (hj : j < L i) :
    ∃ g cap u, Ours n bs g ∧ vs i = .slice (some ⟨g, 0, none⟩) (L i) cap ∧ w.cell? ⟨g, j, none⟩ = some u ∧ w.frozen? ⟨g, j, none⟩ = false ∧
      ∀ k, All ((w.setCell ⟨g, j, none⟩ (.int .i64 (((off L i + j : Nat) : Int)))).drewN k) n vs bs L i (j + 1) := by
  obtain ⟨g, cap, u, hb, hv, hc, hf, hs⟩ := (h.at hi).step hj
  refine ⟨g, cap, u, ⟨i, hi, hb⟩, hv, hc, hf, fun q => ⟨fun k hk => ?_⟩⟩
  rcases Decidable.em (k = i) with rfl | hne
  · have : prg L k (j + 1) k = j + 1 := by rw [prg, if_neg (by omega), if_pos rfl]
    rw [this]; exact hs q
  · have e : prg L i (j + 1) k = prg L i j k := by
      unfold prg; simp only [if_neg hne]
    rw [e]
    refine (h.out k hk).keep fun g' hg' => ?_
    show ((w.setCell ⟨g, j, none⟩ _).heap)[g']? = _
    exact Below.heap_setCell _ _ _ _ (fun e' => F.apart k i hk hi hne g' hg' (by rw [e']; exact hb))
theorem All.done {w : World} {n : Nat} {vs : Nat → Value} {bs : Nat → Option Nat} {L : Nat → Nat} (h : All w n vs bs L n 0) : ∀ k, k < n → Row w (vs k) (bs k) (M (off L k) (L k)) := by
  intro k hk
  have := h.out k hk
  rw [prg, if_pos hk] at this
  exact this.full
end Go.Proofs.YtbplffdmggbcdaaDoor.KeepsI

namespace Go.Proofs.YtbplffdmggbcdaaDoor.KeepsI
open Go.RowKit Go.Proofs.YtbplffdmggbcdaaDoorW.PrintWords Go.Proofs.YtbplffdmggbcdaaDoorW.PrintLast Go.Proofs.YtbplffdmggbcdaaDoorW.PrintMore
set_option linter.unusedVariables false
set_option linter.unusedSimpArgs false
theorem Row.owns {w : World} {v : Value} {g : Nat} {xs : List Int} (h : Row w v (some g) xs) : w.ownsRow 0 3 1 v xs.length (nums .i64 xs) := by
  rcases h with ⟨_, h, _⟩ | ⟨g', cap, cur, rfl, h2, h3, h4, h5, h6, h7⟩
  · cases h
  · exact ⟨by simp [nums], .inr ⟨g', cap, cur, rfl, Nat.zero_le _, h5, h3, h4, by omega, by rw [Nat.mul_one]; exact h7⟩⟩
theorem Row.of_owns' {w : World} {base : Nat} {v : Value} {xs : List Int} (h : w.ownsRow base 3 1 v xs.length (nums .i64 xs)) (hp : 0 < xs.length) : ∃ g, base ≤ g ∧ v.ownBlock = some g ∧ Row w v (some g) xs := by
  obtain ⟨_, h0 | ⟨g, cap, cur, rfl, hb, hh, hn, hm, hs, ht⟩⟩ := h
  · omega
  · exact ⟨g, hb, rfl, .inr ⟨g, cap, cur, rfl, rfl, hn, hm, hh, by omega, by rw [Nat.mul_one] at ht; exact ht⟩⟩
theorem run_append_row (ty : TypeId) (W : World) (v : Value) (cb : Option Nat) (xs : List Int) (x : Int) (ad : Addr) (c : Nat) (h : Row W v cb xs) (hx : W.cell? ad = some (.int .i64 x)) (hl : (xs.length + 1) * 8 ≤ 140737488355328) :
    ∃ v' w' h', (Builtin.append_ #[59, 59] ty #[v, .slice (some ad) 1 c]).run Tryd.prog W = .ok v' w' ∧ Row w' v' (some h') (xs ++ [x]) ∧ ((cb = some h' ∧ W.grownBy w' cb) ∨ (W.heap.size ≤ h' ∧ W.grownBy w' none)) := by
  obtain ⟨i, hi, h3⟩ := Option.map_eq_some_iff.1 info3
  simp only [Prod.mk.injEq] at h3
  obtain ⟨hz, hs, hb⟩ := h3
  have had : ad.add 0 = ad := by unfold Addr.add; split <;> simp_all
  have hnews : ∀ j u, [Value.int .i64 x][j]? = some u → W.cell? (ad.add j) = some u := by
    intro j u hu
    cases j with
    | zero => rw [had, hx]; simpa using hu
    | succ j => simp at hu
  have hnum : nums .i64 xs ++ [Value.int .i64 x] = nums .i64 (xs ++ [x]) := by simp [nums]
  have hlen : (xs ++ [x]).length = xs.length + 1 := by simp
  have hmax : xs.length + 1 ≤ maxLen := by unfold maxLen; omega
  have grown : ∀ v' w' base, W.heap.size ≤ base → w'.ownsRow base 3 1 v' (xs.length + 1) (nums .i64 xs ++ [Value.int .i64 x]) → ∃ h', base ≤ h' ∧ Row w' v' (some h') (xs ++ [x]) := by
    intro v' w' base _ ho
    rw [hnum, ← hlen] at ho
    obtain ⟨g, h1, _, h2⟩ := Row.of_owns' ho (by omega)
    exact ⟨g, h1, h2⟩
  rcases h with ⟨⟨A, rfl⟩, rfl, rfl⟩ | ⟨g, cap, cur, rfl, rfl, h3, h4, h5, h6, h7⟩
  · cases A with
    | none =>
      obtain ⟨v', w', hrun, ho, hg, _⟩ := run_append_own (P := Tryd.prog) W W.heap.size 59 ty 3 i (.int .i64 0) 1 8 Tryd.underlying59 hi hz hs hb rfl (by decide) (.slice none 0 0) 0 [] (World.ownsRow_nil _ _ _ _) ad 1 c [.int .i64 x] rfl hnews (by simp [Value.oneCell']) (by simpa using hmax) (by omega) (Nat.le_refl _)
      obtain ⟨h', hb', hr⟩ := grown v' w' _ (Nat.le_refl _) ho
      exact ⟨v', w', h', hrun, hr, .inr ⟨hb', hg⟩⟩
    | some b =>
      obtain ⟨v', w', hrun, ho, hg⟩ := run_append_arg_grows (P := Tryd.prog) W 59 ty 3 i (.int .i64 0) 1 8 Tryd.underlying59 hi hz hs hb rfl (by decide) b 0 0 [] rfl (by intro j u hu; simp at hu) ad 1 c [.int .i64 x] rfl hnews (by omega) (by simpa using hmax) (by omega)
      obtain ⟨h', hb', hr⟩ := grown v' w' _ (Nat.le_refl _) ho
      exact ⟨v', w', h', hrun, hr, .inr ⟨hb', hg⟩⟩
  · by_cases hroom : xs.length + 1 ≤ cap
    · have hown : W.ownsRow 0 3 1 (.slice (some ⟨g, 0, none⟩) xs.length cap) xs.length (nums .i64 xs) := ⟨by simp [nums], .inr ⟨g, cap, cur, rfl, Nat.zero_le _, h5, h3, h4, by omega, by rw [Nat.mul_one]; exact h7⟩⟩
      have hr := run_append_room (P := Tryd.prog) W 59 ty 3 i Tryd.underlying59 hi g xs.length cap cur h5 ad 1 c [.int .i64 x] (by rw [hs]; rfl) hnews (by simp [Value.oneCell']) hroom (by rw [hs]; simp; omega)
      refine ⟨_, _, g, hr, .inr ⟨g, cap, _, by rw [hlen], rfl, by rw [hlen]; exact hroom, h4, setRow_heap W g cur _ 3 _ h5, ?_, ?_⟩, .inl ⟨rfl, ⟨rfl, rfl, rfl, by simp, fun k _ hk => setRow_other W g k _ (fun e => hk (by rw [e]))⟩⟩⟩
      · rw [hs]; simp; omega
      · rw [hs, hlen, ← hnum, ← h7]
        simp only [Nat.mul_one]
        rw [List.append_assoc, ← List.append_assoc, List.take_append_of_le_length (by simp; omega)]
        exact List.take_of_length_le (by simp; omega)
    · have hcells : ∀ j u, (nums .i64 xs)[j]? = some u → W.cell? ((⟨g, 0, none⟩ : Addr).add j) = some u := by
        intro j u hu
        have hadd : (⟨g, 0, none⟩ : Addr).add j = ⟨g, j, none⟩ := by unfold Addr.add; split <;> simp_all
        rw [hadd, blk_cell h5 j]
        rw [← h7, List.getElem?_take] at hu
        split at hu
        · simpa using hu
        · cases hu
      obtain ⟨v', w', hrun, ho, hg⟩ := run_append_arg_grows (P := Tryd.prog) W 59 ty 3 i (.int .i64 0) 1 8 Tryd.underlying59 hi hz hs hb rfl (by decide) ⟨g, 0, none⟩ xs.length cap (nums .i64 xs) (by simp [nums]) hcells ad 1 c [.int .i64 x] rfl hnews (by omega) hmax (by omega)
      obtain ⟨h', hb', hr⟩ := grown v' w' _ (Nat.le_refl _) ho
      exact ⟨v', w', h', hrun, hr, .inr ⟨hb', hg⟩⟩
theorem wpList_append_row {ops : Array Oper} {rest : List Oper} {o : Oper} {a : Act} {Q : Exit → Act → World → Prop} {W : World} (hgd : o.guard = none) (s y : Operand) (ho : o.op = .call { callee := .builtin .append, args := #[s, y], argTypes := #[59, 59] })
    (v : Value) (cb : Option Nat) (xs : List Int) (x : Int) (ad : Addr) (c : Nat) (hs : a.eval s = v) (hy : a.eval y = .slice (some ad) 1 c) (h : Row W v cb xs) (hx : W.cell? ad = some (.int .i64 x)) (hl : (xs.length + 1) * 8 ≤ 140737488355328)
    (hK : ∀ v' w' h', Row w' v' (some h') (xs ++ [x]) → ((cb = some h' ∧ W.grownBy w' cb) ∨ (W.heap.size ≤ h' ∧ W.grownBy w' none)) → wpList Tryd.prog ops Q rest (a.put o.dst v') w') : wpList Tryd.prog ops Q (o :: rest) a W := by
  refine wpList_plain hgd fun K hK' => ?_
  obtain ⟨v', w', h', hrun, h1, h2⟩ := run_append_row o.type W v cb xs x ad c h hx hl
  unfold Oper.wp
  simp [execOp, ho, resolve, invoke, builtin, hs, hy, hrun, Result.andThen]
  exact hK' _ _ (hK v' w' h' h1 h2)
theorem owns_keep {w W : World} {base : Nat} {e : TypeId} {size : Nat} {v : Value} {n : Nat} {xs : List Value} (h : w.ownsRow base e size v n xs) (hk : ∀ g, v.ownBlock = some g → W.heap[g]? = w.heap[g]?) : W.ownsRow base e size v n xs := by
  refine ⟨h.1, ?_⟩
  rcases h.2 with hn | ⟨g, cap, cur, rfl, hb, hgg, rest⟩
  · exact .inl hn
  · exact .inr ⟨g, cap, cur, rfl, hb, (hk g rfl).trans hgg, rest⟩
/-- i rows are grown; those from f on are as they were; B0: the heap's size when the call began. -/
structure St (w : World) (B0 n : Nat) (vs : Nat → Value) (bs : Nat → Option Nat) (L : Nat → Nat) (i f : Nat) (gs : Nat → Value) (cs : Nat → Nat) (gv : Value) : Prop where
  rows : ∀ k, k < n → Rd w (vs k) (bs k) (M (off L k) (L k))
  full : ∀ k, f ≤ k → k < n → Row w (vs k) (bs k) (M (off L k) (L k))
  grown : ∀ k, k < i → Row w (gs k) (some (cs k)) (M (off L k) (L k) ++ M (off L n + 6 * k) 6)
  kinds : ∀ k, k < i → bs k = some (cs k) ∨ B0 ≤ cs k
  apart : ∀ k l, k < i → l < i → k ≠ l → cs k ≠ cs l
  own : w.ownsRow B0 59 1 gv i ((List.range i).map gs)
  sep : ∀ k, k < i → gv.ownBlock ≠ some (cs k)
  size : B0 ≤ w.heap.size
/-- Row i, j of whose marks are appended. -/
structure Cur (w : World) (B0 n : Nat) (bs : Nat → Option Nat) (L : Nat → Nat) (i : Nat) (cs : Nat → Nat) (gv : Value) (j : Nat) (g : Value) (cb : Option Nat) : Prop where
  row : Row w g cb (M (off L i) (L i) ++ M (off L n + 6 * i) j)
  kind : cb = bs i ∨ ∃ h, cb = some h ∧ B0 ≤ h ∧ (∀ k, k < i → cs k ≠ h) ∧ gv.ownBlock ≠ some h
variable {w W : World} {B0 n : Nat} {vs : Nat → Value} {bs : Nat → Option Nat} {L : Nat → Nat} {G i f : Nat} {gs : Nat → Value} {cs : Nat → Nat} {gv : Value}
theorem Cur.ne (F : Fam n vs bs L G B0) (S : St w B0 n vs bs L i f gs cs gv) (hi : i < n) {j : Nat} {g : Value} {cb : Option Nat} (C : Cur w B0 n bs L i cs gv j g cb) (h : Nat) (hb : cb = some h) : (∀ k, k < i → cs k ≠ h) ∧ gv.ownBlock ≠ some h := by
  rcases C.kind with c | ⟨h', c, h1, h2, h3⟩
  · rw [hb] at c
    refine ⟨fun k hk e => ?_, fun e => ?_⟩
    · rcases S.kinds k hk with q | q
      · exact F.apart k i (by omega) hi (by omega) _ q (by rw [← c, e])
      · have := F.lt i hi h c.symm; omega
    · have := (S.own.lt h e).1
      have := F.lt i hi h c.symm
      omega
  · rw [hb] at c; cases c; exact ⟨h2, h3⟩
theorem St.keep (S : St w B0 n vs bs L i f gs cs gv) (hs : w.heap.size ≤ W.heap.size) (hk : ∀ g, g < w.heap.size → W.heap[g]? = w.heap[g]?) : St W B0 n vs bs L i f gs cs gv := by
  have hrd : ∀ k, k < n → Rd W (vs k) (bs k) (M (off L k) (L k)) := by
    intro k hk'
    rcases S.rows k hk' with h | ⟨g, cap, cur, h1, h2, h5, h7⟩
    · exact .inl h
    · exact .inr ⟨g, cap, cur, h1, h2, (hk g (Array.getElem?_eq_some_iff.1 h5).1).trans h5, h7⟩
  exact ⟨hrd, fun k h1 h2 => (S.full k h1 h2).keep fun g hg => hk g ((S.full k h1 h2).lt g hg), fun k h1 => (S.grown k h1).keep fun g hg => hk g ((S.grown k h1).lt g hg), S.kinds, S.apart, owns_keep S.own fun g hg => hk g (S.own.lt g hg).2, S.sep, Nat.le_trans S.size hs⟩
theorem Cur.keep {j : Nat} {g : Value} {cb : Option Nat} (C : Cur w B0 n bs L i cs gv j g cb) (hk : ∀ g, g < w.heap.size → W.heap[g]? = w.heap[g]?) : Cur W B0 n bs L i cs gv j g cb :=
  ⟨C.row.keep fun g hg => hk g (C.row.lt g hg), C.kind⟩
/-- One mark is appended to row i. -/
theorem grow_step (F : Fam n vs bs L G B0) (S : St w B0 n vs bs L i (i + 1) gs cs gv) (hi : i < n) {j : Nat} {g : Value} {cb : Option Nat} (C : Cur w B0 n bs L i cs gv j g cb) {v' : Value} {w' : World} {h' : Nat}
    (hr : Row w' v' (some h') (M (off L i) (L i) ++ M (off L n + 6 * i) j ++ [((off L n + 6 * i + j : Nat) : Int)])) (hg : (cb = some h' ∧ w.grownBy w' cb) ∨ (w.heap.size ≤ h' ∧ w.grownBy w' none)) :
    St w' B0 n vs bs L i (i + 1) gs cs gv ∧ Cur w' B0 n bs L i cs gv (j + 1) v' (some h') := by
  rw [List.append_assoc, ← M_succ] at hr
  rcases hg with ⟨rfl, hg⟩ | ⟨hge, hg⟩
  · have hne := C.ne F S hi h' rfl
    have hlt := C.row.lt h' rfl
    have far : ∀ k, k < w.heap.size → k ≠ h' → w'.heap[k]? = w.heap[k]? := fun k hk hne => hg.block k hk (by intro e; cases e; exact hne rfl)
    refine ⟨⟨fun k hk => ?_, fun k h1 h2 => (S.full k h1 h2).keep fun q hq => far q ((S.full k h1 h2).lt q hq) ?_, fun k h1 => (S.grown k h1).keep fun q hq => far q ((S.grown k h1).lt q hq) ?_, S.kinds, S.apart, owns_keep S.own fun q hq => far q (S.own.lt q hq).2 ?_, S.sep, Nat.le_trans S.size hg.size⟩, ⟨hr, ?_⟩⟩
    · have hR := S.rows k hk
      by_cases hb : bs k = some h'
      · have hki : k = i := by
          rcases C.kind with c | ⟨q, c, c1, _⟩
          · exact Decidable.byContradiction fun hne => F.apart k i hk hi hne h' hb c.symm
          · cases c; have := F.lt k hk h' hb; omega
        subst hki
        rcases hR with hR | ⟨q, cap, cur, h1, h2, h5, h7⟩
        · exact .inl hR
        · rw [hb] at h2; cases h2
          rw [hb]
          exact Rd.before hr h1
      · rcases hR with hR | ⟨q, cap, cur, h1, h2, h5, h7⟩
        · exact .inl hR
        · exact .inr ⟨q, cap, cur, h1, h2, (far q (Array.getElem?_eq_some_iff.1 h5).1 (by rintro rfl; exact hb h2)).trans h5, h7⟩
    · rintro rfl
      rcases C.kind with c | ⟨p, c, c1, _⟩
      · exact F.apart k i h2 hi (by omega) _ hq c.symm
      · cases c; have := F.lt k h2 _ hq; omega
    · rintro rfl; cases hq; exact hne.1 k h1 rfl
    · rintro rfl; exact hne.2 hq
    · rcases C.kind with c | c
      · exact .inl c
      · exact .inr c
  · have far : ∀ k, k < w.heap.size → w'.heap[k]? = w.heap[k]? := fun k hk => hg.block k hk (by simp)
    refine ⟨S.keep hg.size far, ⟨hr, .inr ⟨h', rfl, Nat.le_trans S.size hge, fun k hk e => ?_, fun e => ?_⟩⟩⟩
    · have := (S.grown k hk).lt _ rfl; omega
    · have := (S.own.lt _ e).2; omega
/-- The grown row is appended to the list of them. -/
theorem grow_next (F : Fam n vs bs L G B0) (S : St w B0 n vs bs L i (i + 1) gs cs gv) (hi : i < n) {g : Value} {h : Nat} (C : Cur w B0 n bs L i cs gv 6 g (some h)) {v' : Value} {w' : World}
    (ho : w'.ownsRow B0 59 1 v' (i + 1) ((List.range i).map gs ++ [g])) (hg : w.grownBy w' gv.ownBlock) (hv : v'.ownBlock = gv.ownBlock ∨ v'.ownBlock = some w.heap.size) :
    ∃ gs' cs', St w' B0 n vs bs L (i + 1) (i + 1) gs' cs' v' := by
  have hne := C.ne F S hi h rfl
  have far : ∀ k, k < w.heap.size → gv.ownBlock ≠ some k → w'.heap[k]? = w.heap[k]? := fun k hk hne => hg.block k hk (fun e => hne e.symm)
  have farb : ∀ k, k < n → ∀ q, bs k = some q → gv.ownBlock ≠ some q := fun k hk q hq e => by have := (S.own.lt q e).1; have := F.lt k hk q hq; omega
  have hup : ∀ k, k < i → (fun k => if k = i then g else gs k) k = gs k := fun k hk => if_neg (by omega)
  refine ⟨fun k => if k = i then g else gs k, fun k => if k = i then h else cs k, ⟨fun k hk => ?_, fun k h1 h2 => (S.full k h1 h2).keep fun q hq => far q ((S.full k h1 h2).lt q hq) (farb k h2 q hq), fun k h1 => ?_, fun k h1 => ?_, fun k l hk hl hne' => ?_, ?_, fun k hk => ?_, Nat.le_trans S.size hg.size⟩⟩
  · rcases S.rows k hk with hR | ⟨q, cap, cur, h1, h2, h5, h7⟩
    · exact .inl hR
    · exact .inr ⟨q, cap, cur, h1, h2, (far q (Array.getElem?_eq_some_iff.1 h5).1 (farb k hk q h2)).trans h5, h7⟩
  · by_cases e : k = i
    · subst e
      simp only [if_true]
      exact C.row.keep fun q hq => far q (C.row.lt q hq) (by cases hq; exact hne.2)
    · simp only [if_neg e]
      exact (S.grown k (by omega)).keep fun q hq => far q ((S.grown k (by omega)).lt q hq) (by cases hq; exact S.sep k (by omega))
  · by_cases e : k = i
    · subst e
      simp only [if_true]
      rcases C.kind with c | ⟨q, c, c1, _⟩
      · exact .inl c.symm
      · cases c; exact .inr c1
    · simp only [if_neg e]; exact S.kinds k (by omega)
  · by_cases e1 : k = i
    · subst e1
      simp only [if_true, if_neg (show l ≠ k by omega)]
      exact fun e => hne.1 l (by omega) e.symm
    · by_cases e2 : l = i
      · subst e2
        simp only [if_true, if_neg e1]
        exact hne.1 k (by omega)
      · simp only [if_neg e1, if_neg e2]
        exact S.apart k l (by omega) (by omega) hne'
  · rw [List.range_succ, List.map_append]
    have : (List.range i).map (fun k => if k = i then g else gs k) = (List.range i).map gs := List.map_congr_left fun k hk => hup k (List.mem_range.1 hk)
    rw [this]
    simpa using ho
  · by_cases e : k = i
    · subst e
      simp only [if_true]
      rcases hv with c | c
      · rw [c]; exact hne.2
      · rw [c]; intro e; have e := Option.some.inj e; have := C.row.lt _ rfl; omega
    · simp only [if_neg e]
      rcases hv with c | c
      · rw [c]; exact S.sep k (by omega)
      · rw [c]; intro e'; have e' := Option.some.inj e'; have := (S.grown k (by omega)).lt _ rfl; omega
end Go.Proofs.YtbplffdmggbcdaaDoor.KeepsI

namespace Go.Proofs.YtbplffdmggbcdaaDoor.KeepsI
open Go.RowKit Go.Proofs.YtbplffdmggbcdaaDoorW.PrintWords Go.Proofs.YtbplffdmggbcdaaDoorW.PrintLast Go.Proofs.YtbplffdmggbcdaaDoorW.PrintMore
set_option linter.unusedVariables false
set_option linter.unusedSimpArgs false
theorem Fr.drawn {S : Nat → Prop} {w w1 w2 : World} (h : Fr S w w1) (d : Drawn0 w1 w2) : Fr S w w2 := by
  obtain ⟨n, rfl⟩ := d
  exact h.drewN n
theorem Rd.drawn {w w2 : World} {v : Value} {b : Option Nat} {xs : List Int} (h : Rd w v b xs) (d : Drawn0 w w2) : Rd w2 v b xs := by
  obtain ⟨n, rfl⟩ := d
  exact h.keep fun _ _ => rfl
theorem cell_drawn {w w2 : World} (d : Drawn0 w w2) (a : Addr) : w2.cell? a = w.cell? a := by
  obtain ⟨n, rfl⟩ := d
  rfl
theorem Drawn0.stepN {w w1 : World} (d : Drawn0 w w1) (n : Nat) : Drawn0 w (w1.drewN n) := by
  obtain ⟨m, rfl⟩ := d
  exact ⟨⟨m + n, by rw [World.drewN_drewN]⟩⟩
theorem infoSI : ∃ i, Tryd.prog.info? 59 = some i ∧ i.zero = some (.slice none 0 0) ∧ i.size = 1 ∧ i.bytes = 24 := by
  obtain ⟨i, hi, h3⟩ := Option.map_eq_some_iff.1 (show (Tryd.prog.info? 59).map (fun i => (i.zero, i.size, i.bytes)) = some (some (.slice none 0 0), 1, 24) by kernel_rfl)
  simp only [Prod.mk.injEq] at h3
  exact ⟨i, hi, h3⟩
theorem World.news_of_block' {w : World} {g : Nat} {t : TypeId} {x : Value} (h : w.heap[g]? = some (.cells #[x] t (0, 0))) : ∀ j u, [x][j]? = some u → w.cell? ((⟨g, 0, none⟩ : Addr).add j) = some u := by
  intro j u hu
  have ha : (⟨g, 0, none⟩ : Addr).add j = ⟨g, j, none⟩ := by unfold Addr.add; split <;> simp_all
  rw [ha, blk_cell h j]
  simpa using hu
set_option maxHeartbeats 16000000 in
set_option maxRecDepth 100000 in
theorem apart_calls (G c n : Nat) (vs : Nat → Value) (bs : Nat → Option Nat) (L : Nat → Nat) (w : World) (F : Fam n vs bs L G w.heap.size) (hpos : 0 < n) (hA : All w n vs bs L 0 0) (hH : ∀ k, k < n → w.cell? ⟨G, k, none⟩ = some (vs k)) :
    Calls Tryd.prog 30 #[.slice (some ⟨G, 0, none⟩) n c] w fun e w' => e = .returned (.bool true) ∧ Fr (Ours n bs) w w' := by
  have FF := Aside0.mk F
  have HA := Aside0.mk hA
  have HH := Aside0.mk hH
  have hn : n ≤ 1000 := F.small
  clear F hA hH
  have hHead : Aside0 (∀ w', Fr (Ours n bs) w w' → ∀ k, k < n → w'.cell? ⟨G, k, none⟩ = some (vs k)) := ⟨fun w' h k hk => (World.cell?_of_block (w := w) (h.block G FF.out.hG FF.out.notG)).trans (HH.out k hk)⟩
  go_enter Tryd.func30, Tryd.ntmps30
  go_wp2
  go_loopg [3, 4] n (fun kq v3 v4 w' => ∃ i : Nat, v4 = .int .i64 (i : Int) ∧ i ≤ n ∧ n - i ≤ kq ∧ v3 = .int .i64 (off L i : Int) ∧ Aside0 (All w' n vs bs L i 0) ∧ Aside0 (Fr (Ours n bs) w w'))
  case atStart => exact ⟨0, rfl, by omega, by omega, rfl, HA, ⟨Fr.refl _ _⟩⟩
  case round =>
    obtain ⟨i, rfl, hi, hk, rfl, HA1, HF1⟩ := hrel
    by_cases hlt : i < n
    · cases gk with
      | zero => omega
      | succ k1 =>
        have d0 : decide ((i : Int) < (n : Int)) = true := decide_eq_true (by omega)
        obtain ⟨A, ca, hv⟩ := (HA1.out.at hlt).form
        have HV := Aside0.mk hv
        clear hv
        have HI := Aside0.mk hlt
        have hoff := FF.out.offs i (by omega)
        have hLi := FF.out.len i hlt
        obtain ⟨q0, hq0⟩ : ∃ q0, off L i = q0 := ⟨_, rfl⟩
        have HQ := Aside0.mk hq0
        rw [hq0] at hoff ⊢
        clear hq0
        obtain ⟨Li, hLi0⟩ : ∃ Li, L i = Li := ⟨_, rfl⟩
        rw [hLi0] at hLi
        have HL := Aside0.mk hLi0
        rw [hLi0] at HV
        clear hLi0
        go_wp2
        obtain ⟨wo, rfl⟩ : ∃ wo : World, wo = wr := ⟨_, rfl⟩
        go_loopg [3, 5] Li (fun kq v3 v5 w' => ∃ j : Nat, v5 = .int .i64 (j : Int) ∧ j ≤ Li ∧ Li - j ≤ kq ∧ v3 = .int .i64 ((q0 + j : Nat) : Int) ∧ Aside0 (All w' n vs bs L i j) ∧ Aside0 (Fr (Ours n bs) w w'))
        case atStart => exact ⟨0, rfl, by omega, by omega, rfl, HA1, HF1⟩
        case round =>
          obtain ⟨j, rfl, hj, hkj, rfl, HA2, HF2⟩ := hrel
          have hc0 := hHead.out _ HF2.out i HI.out
          rw [HV.out] at hc0
          have p0 : (0 : Int) ≤ (i : Int) := by omega
          have p1 : (i : Int) < (n : Int) := by omega
          by_cases hltj : j < Li
          · cases gk with
            | zero => omega
            | succ k2 =>
              have d1 : decide ((j : Int) < (Li : Int)) = true := decide_eq_true (by omega)
              have p2 : (0 : Int) ≤ (j : Int) := by omega
              have p3 : (j : Int) < (Li : Int) := by omega
              obtain ⟨g, cap, u, hours, hv, hcell, hfr, hnext⟩ := HA2.out.step FF.out HI.out (by rw [HL.out]; exact hltj)
              rw [HV.out] at hv
              rw [HL.out] at hv
              injection hv with hv1 hv2 hv3
              subst hv1 hv3
              have HO := Aside0.mk hours
              have HN := Aside0.mk hnext
              clear hours hnext
              clear hv2
              go_wp2
              go_roundg k2
              case measure => omega
              case rel =>
                refine ⟨j + 1, rfl, by omega, by omega, by go_num, ⟨?_⟩, ⟨?_⟩⟩
                · have hz := HN.out 0
                  rw [HQ.out] at hz
                  exact hz
                · exact HF2.out.setCell (p := ⟨g, j, none⟩) (.inl HO.out) _
          · obtain rfl : j = Li := by omega
            have d1 : decide ((j : Int) < (j : Int)) = false := decide_eq_false (by omega)
            go_wp2
            go_roundg k1
            case measure => omega
            case rel =>
              refine ⟨i + 1, rfl, by omega, by omega, ?_, ⟨?_⟩, HF2⟩
              · rw [← HQ.out, ← HL.out]; rfl
              · exact All.next (by rw [HL.out]; exact HA2.out)
    · obtain rfl : i = n := by omega
      have d0 : decide ((i : Int) < (i : Int)) = false := decide_eq_false (by omega)
      have hS : St wr w.heap.size i vs bs L 0 0 (fun _ => .slice none 0 0) (fun _ => 0) (.slice none 0 0) := ⟨fun k hk => (HA1.out.done k hk).rd, fun k _ hk => HA1.out.done k hk, fun k hk => by omega, fun k hk => by omega, fun k l hk => by omega, World.ownsRow_nil _ _ _ _, fun k hk => by omega, HF1.out.size⟩
      have HS := Aside0.mk hS
      clear hS HA1 HA HH
      go_wp2
      obtain ⟨N0, hN0⟩ : ∃ N0, off L i = N0 := ⟨_, rfl⟩
      have hNb : N0 ≤ 17592186044000000 := by rw [← hN0]; exact FF.out.offs i (Nat.le_refl _)
      have HN0 := Aside0.mk hN0
      rw [hN0]
      clear hN0
      obtain ⟨wo, rfl⟩ : ∃ wo : World, wo = wr := ⟨_, rfl⟩
      go_loopg [6, 7, 8] i (fun kq v6 v7 v8 w' => ∃ (q : Nat) (gs : Nat → Value) (cs : Nat → Nat), v8 = .int .i64 (q : Int) ∧ q ≤ i ∧ i - q ≤ kq ∧ v7 = .int .i64 ((N0 + 6 * q : Nat) : Int) ∧ Aside0 (St w' w.heap.size i vs bs L q q gs cs v6) ∧ Aside0 (Fr (Ours i bs) w w'))
      case atStart => exact ⟨0, _, _, rfl, by omega, by omega, rfl, HS, HF1⟩
      case round =>
        obtain ⟨q, gs, cs, rfl, hq, hkq, rfl, HS1, HF2⟩ := hrel
        by_cases hlt2 : q < i
        · cases gk with
          | zero => omega
          | succ k1 =>
            have d1 : decide ((q : Int) < (i : Int)) = true := decide_eq_true (by omega)
            have p0 : (0 : Int) ≤ (q : Int) := by omega
            have p1 : (q : Int) < (i : Int) := by omega
            have hc0 := hHead.out _ HF2.out q hlt2
            have HC : Aside0 (Cur wr w.heap.size i bs L q cs u6 0 (vs q) (bs q)) := ⟨⟨by simp only [M_zero, List.append_nil]; exact HS1.out.full q (Nat.le_refl _) hlt2, .inl rfl⟩⟩
            have HS2 : Aside0 (St wr w.heap.size i vs bs L q (q + 1) gs cs u6) := ⟨⟨HS1.out.rows, fun k h1 h2 => HS1.out.full k (by omega) h2, HS1.out.grown, HS1.out.kinds, HS1.out.apart, HS1.out.own, HS1.out.sep, HS1.out.size⟩⟩
            have HI := Aside0.mk hlt2
            have hLq := FF.out.len q hlt2
            have HLq := Aside0.mk hLq
            clear hLq HS1
            go_wp2
            obtain ⟨wi, rfl⟩ : ∃ wi : World, wi = wr := ⟨_, rfl⟩
            go_loopg [7, 9, 10] 6 (fun kq v7 v9 v10 w' => ∃ (t : Nat) (cb : Option Nat), v10 = .int .i64 (t : Int) ∧ t ≤ 6 ∧ 6 - t ≤ kq ∧ v7 = .int .i64 ((N0 + 6 * q + t : Nat) : Int) ∧ Aside0 (St w' w.heap.size i vs bs L q (q + 1) gs cs u6) ∧ Aside0 (Cur w' w.heap.size i bs L q cs u6 t v9 cb) ∧ Aside0 (0 < t → ∃ h, cb = some h) ∧ Aside0 (Fr (Ours i bs) w w'))
            case atStart => exact ⟨0, _, rfl, by omega, by omega, rfl, HS2, HC, ⟨fun h => by omega⟩, HF2⟩
            case round =>
              obtain ⟨t, cb, rfl, ht, hkt, rfl, HS3, HC3, HB3, HF3⟩ := hrel
              by_cases hlt3 : t < 6
              · cases gk with
                | zero => omega
                | succ k2 =>
                  have d2 : decide ((t : Int) < 6) = true := decide_eq_true (by omega)
                  have HT := Aside0.mk hlt3
                  have HSa := Aside0.mk (HS3.out.keep (W := wr.alloc (.cells #[.int .i64 (((N0 + 6 * q + t : Nat) : Int))] 3)) (by simp) (fun k hk => Below.heap_alloc _ _ _ hk))
                  have HCa := Aside0.mk (HC3.out.keep (W := wr.alloc (.cells #[.int .i64 (((N0 + 6 * q + t : Nat) : Int))] 3)) (fun k hk => Below.heap_alloc _ _ _ hk))
                  have HFa := Aside0.mk (HF3.out.alloc (.cells #[.int .i64 (((N0 + 6 * q + t : Nat) : Int))] 3))
                  have HX := Aside0.mk ((blk_cell (blk_new wr (.cells #[.int .i64 (((N0 + 6 * q + t : Nat) : Int))] 3)) 0).trans rfl)
                  have HLen : Aside0 (((M (off L q) (L q) ++ M (off L i + 6 * q) t).length + 1) * 8 ≤ 140737488355328) := ⟨by rw [List.length_append, M_len, M_len]; have := HLq.out; omega⟩
                  clear HS3 HC3 HF3 HB3
                  go_wp2_with (at_builtin; refine wpList_append_row (by rfl) (.tmp 54) (.tmp 56) (by rfl) _ _ _ _ _ _ (by rfl) (by rfl) HCa.out.row HX.out HLen.out ?_; intro v' w' h' hrow hgr; have HR := Aside0.mk hrow; have HGr := Aside0.mk hgr; clear hrow hgr)
                  go_roundg k2
                  case measure => omega
                  case rel =>
                    have hS0 := grow_step FF.out HSa.out HI.out HCa.out (by rw [HN0.out]; have z := HR.out; rw [HN0.out] at z; exact z) HGr.out
                    refine ⟨t + 1, some h', rfl, by omega, by omega, by go_num, ⟨hS0.1⟩, ⟨hS0.2⟩, ⟨fun _ => ⟨h', rfl⟩⟩, ⟨?_⟩⟩
                    rcases HGr.out with ⟨e, hg⟩ | ⟨e, hg⟩
                    · refine HFa.out.grown hg fun k hk => ?_
                      rcases HCa.out.kind with c | ⟨p, c, c1, _⟩
                      · exact .inl ⟨q, HI.out, by rw [← c, hk]⟩
                      · rw [hk] at c; cases c; exact .inr c1
                    · exact HFa.out.grown hg fun k hk => by cases hk
              · obtain rfl : t = 6 := by omega
                have d2 : decide ((6 : Int) < 6) = false := by decide
                obtain ⟨h0, rfl⟩ := HB3.out (by omega)
                obtain ⟨A9, n9, c9, rfl⟩ : ∃ A n c, u9 = .slice A n c := by obtain ⟨A, c, h⟩ := HC3.out.row.rd.form; exact ⟨A, _, c, h⟩
                have HSa := Aside0.mk (HS3.out.keep (W := wr.alloc (.cells #[.slice A9 n9 c9] 59)) (by simp) (fun k hk => Below.heap_alloc _ _ _ hk))
                have HCa := Aside0.mk (HC3.out.keep (W := wr.alloc (.cells #[.slice A9 n9 c9] 59)) (fun k hk => Below.heap_alloc _ _ _ hk))
                have HFa := Aside0.mk (HF3.out.alloc (.cells #[.slice A9 n9 c9] 59))
                have HX := Aside0.mk (World.news_of_block' (blk_new wr (.cells #[.slice A9 n9 c9] 59)))
                clear HS3 HC3 HF3 HB3
                obtain ⟨i24, hi24, hz24, hs24, hb24⟩ := infoSI
                go_wp2_with (at_builtin; refine wpList_append_own_at _ (by rfl) (.tmp 60) (.tmp 62) 68 (by rfl) w.heap.size 59 i24 (.slice none 0 0) 1 24 Tryd.underlying68 hi24 hz24 hs24 hb24 rfl (by decide) _ _ _ (by rfl) HSa.out.own ⟨wr.heap.size, 0, none⟩ 1 1 [.slice A9 n9 c9] (by rfl) rfl HX.out (by simp [Value.oneCell']) (by unfold maxLen; omega) (by omega) HSa.out.size ?_; intro v' w' hown hgr _ hat; have HR := Aside0.mk hown; have HGr := Aside0.mk hgr; have HAt := Aside0.mk hat; clear hown hgr hat)
                clear hi24 hz24 hs24 hb24
                go_roundg k1
                case measure => omega
                case rel =>
                  obtain ⟨gs', cs', hS'⟩ := grow_next FF.out HSa.out HI.out HCa.out HR.out HGr.out HAt.out
                  have hq1 := HI.out
                  refine ⟨q + 1, gs', cs', by go_num, by omega, by omega, by go_num, ⟨hS'⟩, ⟨HFa.out.grown HGr.out fun k hk => .inr ?_⟩⟩
                  exact (HSa.out.own.lt k hk).1
        · obtain rfl : q = i := by omega
          have d1 : decide ((q : Int) < (q : Int)) = false := decide_eq_false (by omega)
          obtain ⟨hv, capv, hu6, hgs⟩ : ∃ hv capv, u6 = .slice (some ⟨hv, 0, none⟩) q capv ∧ ∀ k, k < q → wr.cell? ⟨hv, k, none⟩ = some (gs k) := by
            rcases HS1.out.own.2 with ⟨_, h0⟩ | ⟨g, cap, cur, h1, _⟩
            · omega
            · refine ⟨g, cap, h1, fun k hk => ?_⟩
              have := HS1.out.own.cells (g := g) (by rw [h1]; rfl) k (gs k) (by simp [hk])
              have ha : (⟨g, 0, none⟩ : Addr).add k = ⟨g, k, none⟩ := by unfold Addr.add; split <;> simp_all
              rw [ha] at this
              exact this
          have HGs := Aside0.mk hgs
          subst hu6
          have HRows := Aside0.mk HS1.out.rows
          have HGrown := Aside0.mk HS1.out.grown
          clear HS1 hgs HS
          go_wp2
          obtain ⟨wc, rfl⟩ : ∃ wc : World, wc = wr := ⟨_, rfl⟩
          go_loopg [3, 11] q (fun kq v3 v11 w' => ∃ i : Nat, v11 = .int .i64 (i : Int) ∧ i ≤ q ∧ q - i ≤ kq ∧ v3 = .int .i64 (off L i : Int) ∧ Aside0 (Drawn0 wc w'))
          case atStart => exact ⟨0, rfl, by omega, by omega, rfl, ⟨Drawn0.refl _⟩⟩
          case round =>
            obtain ⟨i, rfl, hi2, hk2, rfl, HD1⟩ := hrel
            by_cases hlt2 : i < q
            · cases gk with
              | zero => omega
              | succ k1 =>
                have d2 : decide ((i : Int) < (q : Int)) = true := decide_eq_true (by omega)
                have p0 : (0 : Int) ≤ (i : Int) := by omega
                have p1 : (i : Int) < (q : Int) := by omega
                have hoff := FF.out.offs i (by omega)
                have hLi := FF.out.len i hlt2
                obtain ⟨q0, hq0⟩ : ∃ q0, off L i = q0 := ⟨_, rfl⟩
                have HQ := Aside0.mk hq0
                obtain ⟨Li, hLi0⟩ : ∃ Li, L i = Li := ⟨_, rfl⟩
                have HL := Aside0.mk hLi0
                have HRw : Aside0 (Rd wc (vs i) (bs i) (M q0 Li)) := ⟨by rw [← hq0, ← hLi0]; exact HRows.out i hlt2⟩
                rw [hq0] at hoff ⊢
                rw [hLi0] at hLi
                clear hq0 hLi0
                obtain ⟨A, ca, hvf⟩ := HRw.out.form
                rw [M_len] at hvf
                have HV := Aside0.mk hvf
                clear hvf
                have HI := Aside0.mk hlt2
                go_wp2
                go_loopg [3, 12] Li (fun kq v3 v12 w' => ∃ j : Nat, v12 = .int .i64 (j : Int) ∧ j ≤ Li ∧ Li - j ≤ kq ∧ v3 = .int .i64 ((q0 + j : Nat) : Int) ∧ Aside0 (Drawn0 wc w'))
                case atStart => exact ⟨0, rfl, by omega, by omega, rfl, HD1⟩
                case round =>
                  obtain ⟨j, rfl, hj, hkj, rfl, HD2⟩ := hrel
                  have hc0 := hHead.out _ (HF2.out.drawn HD2.out) i HI.out
                  rw [HV.out] at hc0
                  by_cases hltj : j < Li
                  · cases gk with
                    | zero => omega
                    | succ k2 =>
                      have d3 : decide ((j : Int) < (Li : Int)) = true := decide_eq_true (by omega)
                      have p2 : (0 : Int) ≤ (j : Int) := by omega
                      have p3 : (j : Int) < (Li : Int) := by omega
                      obtain ⟨g, cap, hvg, hcell⟩ := (HRw.out.drawn HD2.out).at j _ (M_at q0 Li j hltj)
                      rw [M_len] at hvg
                      rw [HV.out] at hvg
                      injection hvg with hv1 hv2 hv3
                      subst hv1 hv3
                      clear hv2
                      go_wp2
                      go_roundg k2
                      case measure => omega
                      case rel => exact ⟨j + 1, rfl, by omega, by omega, by go_num, HD2⟩
                  · obtain rfl : j = Li := by omega
                    have d3 : decide ((j : Int) < (j : Int)) = false := decide_eq_false (by omega)
                    go_wp2
                    go_roundg k1
                    case measure => omega
                    case rel => exact ⟨i + 1, rfl, by omega, by omega, by rw [← HQ.out, ← HL.out]; rfl, HD2⟩
            · obtain rfl : i = q := by omega
              have d2 : decide ((i : Int) < (i : Int)) = false := decide_eq_false (by omega)
              rw [HN0.out]
              go_wp2
              go_loopg [3, 13] i (fun kq v3 v13 w' => ∃ a : Nat, v13 = .int .i64 (a : Int) ∧ a ≤ i ∧ i - a ≤ kq ∧ v3 = .int .i64 ((N0 + 6 * a : Nat) : Int) ∧ Aside0 (Drawn0 wc w'))
              case atStart => exact ⟨0, rfl, by omega, by omega, rfl, HD1⟩
              case round =>
                obtain ⟨a, rfl, ha, hka, rfl, HD2⟩ := hrel
                by_cases hlta : a < i
                · cases gk with
                  | zero => omega
                  | succ k1 =>
                    have d3 : decide ((a : Int) < (i : Int)) = true := decide_eq_true (by omega)
                    have p0 : (0 : Int) ≤ (a : Int) := by omega
                    have p1 : (a : Int) < (i : Int) := by omega
                    have hLa := FF.out.len a hlta
                    obtain ⟨La, hLa0⟩ : ∃ La, L a = La := ⟨_, rfl⟩
                    have HL := Aside0.mk hLa0
                    obtain ⟨A, ca, hvf⟩ := (HRows.out a hlta).form
                    rw [M_len, hLa0] at hvf
                    have HV := Aside0.mk hvf
                    have HGw : Aside0 (Rd wc (gs a) (some (cs a)) (M (off L a) La ++ M (N0 + 6 * a) 6)) := ⟨by have z := (HGrown.out a hlta).rd; rw [HN0.out, hLa0] at z; exact z⟩
                    obtain ⟨Ag, cg, hgf⟩ := HGw.out.form
                    rw [List.length_append, M_len, M_len] at hgf
                    have HGf := Aside0.mk hgf
                    rw [hLa0] at hLa
                    have HI := Aside0.mk hlta
                    clear hvf hgf hLa0
                    have hc0 := hHead.out _ (HF2.out.drawn HD2.out) a HI.out
                    rw [HV.out] at hc0
                    go_wp2
                    clear hc0
                    go_loopg [3, 14] 6 (fun kq v3 v14 w' => ∃ t : Nat, v14 = .int .i64 ((La + t : Nat) : Int) ∧ t ≤ 6 ∧ 6 - t ≤ kq ∧ v3 = .int .i64 ((N0 + 6 * a + t : Nat) : Int) ∧ Aside0 (Drawn0 wc w'))
                    case atStart => exact ⟨0, rfl, by omega, by omega, rfl, HD2⟩
                    case round =>
                      obtain ⟨t, rfl, ht, hkt, rfl, HD3⟩ := hrel
                      have hc0 := (cell_drawn HD3.out _).trans (HGs.out a HI.out)
                      rw [HGf.out] at hc0
                      by_cases hltt : t < 6
                      · cases gk with
                        | zero => omega
                        | succ k2 =>
                          obtain ⟨m, hm⟩ : ∃ m, La + t = m := ⟨_, rfl⟩
                          obtain ⟨lg, hlg⟩ : ∃ lg, La + 6 = lg := ⟨_, rfl⟩
                          have HM := Aside0.mk hm
                          have HLG := Aside0.mk hlg
                          have d4 : decide ((m : Int) < (lg : Int)) = true := decide_eq_true (by omega)
                          have p2 : (0 : Int) ≤ (m : Int) := by omega
                          have p3 : (m : Int) < (lg : Int) := by omega
                          have p4 : m ≤ 17592186044010 := by omega
                          obtain ⟨g, cap, hvg, hcell⟩ := (HGw.out.drawn HD3.out).at m (((N0 + 6 * a + t : Nat) : Int)) (by rw [List.getElem?_append_right (by rw [M_len]; omega), M_len, show m - La = t by omega]; exact M_at _ _ _ hltt)
                          rw [List.length_append, M_len, M_len] at hvg
                          rw [HGf.out] at hvg
                          injection hvg with hv1 hv2 hv3
                          subst hv1 hv3
                          rw [hlg] at hc0
                          rw [hm]
                          clear hv2 hm hlg
                          go_wp2
                          go_roundg k2
                          case measure => omega
                          case rel => exact ⟨t + 1, by rw [← Nat.add_assoc, HM.out]; go_num, by omega, by omega, by go_num, HD3⟩
                      · obtain rfl : t = 6 := by omega
                        have d4 : decide (((La + 6 : Nat) : Int) < ((La + 6 : Nat) : Int)) = false := decide_eq_false (by omega)
                        obtain ⟨lg, hlg⟩ : ∃ lg, La + 6 = lg := ⟨_, rfl⟩
                        rw [hlg] at hc0 d4 ⊢
                        clear hlg
                        go_wp2
                        go_roundg k1
                        case measure => omega
                        case rel => exact ⟨a + 1, by go_num, by omega, by omega, by go_num, HD3⟩
                · obtain rfl : a = i := by omega
                  have d3 : decide ((a : Int) < (a : Int)) = false := decide_eq_false (by omega)
                  go_wp2
                  go_ret
                  exact ⟨rfl, HF2.out.drawn HD2.out⟩
end Go.Proofs.YtbplffdmggbcdaaDoor.KeepsI

namespace Go.Proofs.YtbplffdmggbcdaaDoor.KeepsI
open Go.RowKit Go.Proofs.YtbplffdmggbcdaaDoorW.PrintWords Go.Proofs.YtbplffdmggbcdaaDoorW.PrintLast Go.Proofs.YtbplffdmggbcdaaDoorW.PrintMore
set_option linter.unusedVariables false
set_option linter.unusedSimpArgs false
/-- A row of bytes whose block, if there is one, lies from lo on, below hi. -/
def Got (w : World) (v : Value) (xs : List Int) (lo hi : Nat) : Prop := ∃ b, Row w v b xs ∧ ∀ g, b = some g → lo ≤ g ∧ g < hi
theorem Got.below {w w' : World} {v : Value} {xs : List Int} {lo hi B : Nat} (h : Got w v xs lo hi) (hb : Below B w w') (hB : hi ≤ B) : Got w' v xs lo hi := by
  obtain ⟨b, h1, h2⟩ := h
  exact ⟨b, h1.keep fun g hg => hb.block g (by have := h2 g hg; omega), h2⟩
theorem Got.of_R {w : World} {base : Nat} {ok : Nat → Prop} {v : Value} {xs : List Int} (h : (Kd.int .i64).R 3 w base ok v xs) : Got w v xs base w.heap.size := by
  have ho := Kd.own_of_R (enc := Value.int .i64) (h1 := fun _ => rfl) h
  exact ⟨v.ownBlock, Row.of_owns ho, fun g hg => ho.lt g hg⟩
theorem Got.nil (w : World) (lo hi : Nat) : Got w (.slice none 0 0) [] lo hi := ⟨none, .inl ⟨⟨_, rfl⟩, rfl, rfl⟩, fun g hg => by cases hg⟩
theorem Got.bare (w : World) (A : Option Addr) (lo hi : Nat) : Got w (.slice A 0 0) [] lo hi := ⟨none, .inl ⟨⟨_, rfl⟩, rfl, rfl⟩, fun g hg => by cases hg⟩
theorem Got.block {w : World} {g n m : Nat} {cur xs : List Int} (h : w.heap[g]? = some (.cells (nums .i64 cur).toArray 3 (0, 0))) (hn : xs.length = n) (hl : cur.length = m) (hnm : n ≤ m) (hm : m ≤ maxLen) (ht : cur.take n = xs) : Got w (.slice (some ⟨g, 0, none⟩) n m) xs g (g + 1) := by
  subst hn
  refine ⟨some g, .inr ⟨g, m, _, rfl, rfl, hnm, hm, h, by simpa [nums] using hl, ?_⟩, fun g' e => by cases e; omega⟩
  show (nums .i64 cur).take xs.length = _
  have : (nums .i64 cur).take xs.length = nums .i64 (cur.take xs.length) := by simp [nums, List.map_take]
  rw [this, ht]
open Classical in
theorem apart_fr (n c : Nat) (vs : Nat → Value) (xs : Nat → List Int) (lo hi : Nat → Nat) (W : World) (hn : 0 < n) (hn' : n ≤ 1000) (hg : ∀ k, k < n → Got W (vs k) (xs k) (lo k) (hi k)) (hdis : ∀ k l, k < n → l < n → k < l → hi k ≤ lo l ∨ hi l ≤ lo k)
    (hlen : ∀ k, k < n → (xs k).length ≤ 17592186044000) (G : Nat) (hG : W.heap.size = G) (cells : Array Value) (hc : ∀ k, k < n → cells[k]? = some (vs k)) :
    Calls Tryd.prog 30 #[.slice (some ⟨G, 0, none⟩) n c] (W.alloc (.cells cells 59)) fun e w' => e = .returned (.bool true) ∧ Fr (fun g => ∃ k, k < n ∧ lo k ≤ g ∧ g < hi k) (W.alloc (.cells cells 59)) w' := by
  subst hG
  let bs : Nat → Option Nat := fun k => if h : k < n then Classical.choose (hg k h) else none
  have hbs : ∀ k, k < n → Row W (vs k) (bs k) (xs k) ∧ ∀ g, bs k = some g → lo k ≤ g ∧ g < hi k := by
    intro k hk
    have : bs k = Classical.choose (hg k hk) := dif_pos hk
    rw [this]
    exact Classical.choose_spec (hg k hk)
  have hlt : ∀ k, k < n → ∀ g, bs k = some g → g < W.heap.size := fun k hk g e => (hbs k hk).1.lt g e
  have hF : Fam n vs bs (fun k => (xs k).length) W.heap.size (W.alloc (.cells cells 59)).heap.size := by
    refine ⟨fun k l hk hl hne g e1 e2 => ?_, fun k hk e => ?_, fun k hk g e => ?_, by simp, hn', hlen⟩
    · have h1 := (hbs k hk).2 g e1
      have h2 := (hbs l hl).2 g e2
      rcases Nat.lt_or_gt_of_ne hne with q | q
      · have := hdis k l hk hl q; omega
      · have := hdis l k hl hk q; omega
    · have := hlt k hk _ e; omega
    · have := hlt k hk g e; simp; omega
  refine (apart_calls W.heap.size c n vs bs _ _ hF hn ⟨fun k hk => ?_⟩ fun k hk => ?_).mono ?_
  · have := P.start ((hbs k hk).1.keep (W := W.alloc (.cells cells 59)) fun g e => Below.heap_alloc _ _ _ (hlt k hk g e)) (off (fun k => (xs k).length) k)
    have e : prg (fun k => (xs k).length) 0 0 k = 0 := by unfold prg; rw [if_neg (by omega)]; split <;> rfl
    rw [e]; exact this
  · exact (blk_cell (blk_new W (.cells cells 59)) k).trans (hc k hk)
  · rintro e w' ⟨rfl, h⟩
    refine ⟨rfl, ⟨h.os, h.tape, h.output, h.size, fun k hk hs => h.block k hk ?_⟩⟩
    rintro ⟨q, hq, e⟩
    have := (hbs q hq).2 k e
    exact hs ⟨q, hq, this.1, this.2⟩
theorem apart_got (n c : Nat) (vs : Nat → Value) (xs : Nat → List Int) (lo hi : Nat → Nat) (base : Nat) (W : World) (hn : 0 < n) (hn' : n ≤ 1000) (hg : ∀ k, k < n → Got W (vs k) (xs k) (lo k) (hi k)) (hdis : ∀ k l, k < n → l < n → k < l → hi k ≤ lo l ∨ hi l ≤ lo k)
    (hlen : ∀ k, k < n → (xs k).length ≤ 17592186044000) (hbase : ∀ k, k < n → base ≤ lo k) (hW : base ≤ W.heap.size) (G : Nat) (hG : W.heap.size = G) (cells : Array Value) (hc : ∀ k, k < n → cells[k]? = some (vs k)) :
    Calls Tryd.prog 30 #[.slice (some ⟨G, 0, none⟩) n c] (W.alloc (.cells cells 59)) fun e w' => e = .returned (.bool true) ∧ Below base (W.alloc (.cells cells 59)) w' :=
  (apart_fr n c vs xs lo hi W hn hn' hg hdis hlen G hG cells hc).mono fun _ _ ⟨h1, h⟩ => ⟨h1, ⟨h.os, h.tape, h.output, h.size, fun k hk => h.block k (by simp; omega) (fun ⟨q, hq, h2, _⟩ => by have := hbase q hq; omega)⟩⟩
/-- Intervals one behind the other. -/
theorem sorted_apart {n : Nat} {lo hi : Nat → Nat} (h1 : ∀ k, k < n → lo k ≤ hi k) (h2 : ∀ k, k + 1 < n → hi k ≤ lo (k + 1)) : ∀ k l, k < n → l < n → k < l → hi k ≤ lo l ∨ hi l ≤ lo k := by
  intro k l hk hl hkl
  refine .inl ?_
  have : ∀ d, k + 1 + d < n → hi k ≤ lo (k + 1 + d) := by
    intro d
    induction d with
    | zero => exact fun h => h2 k h
    | succ d ih => intro h; have a := ih (by omega); have b := h1 (k + 1 + d) (by omega); have c := h2 (k + 1 + d) h; rw [show k + 1 + (d + 1) = k + 1 + d + 1 by omega]; omega
  have := this (l - (k + 1)) (by omega)
  rw [show k + 1 + (l - (k + 1)) = l by omega] at this
  exact this
end Go.Proofs.YtbplffdmggbcdaaDoor.KeepsI
