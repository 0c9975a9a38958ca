/- BytesApart over rows that were made one behind the other. -/
import Derived.Test.YtkfeigigjilaiaaDoorKApart
namespace Go.Proofs.YtkfeigigjilaiaaDoor.Keeps
open Go.RowKit Go.Proofs.YtkfeigigjilaiaaDoorW.PrintWords Go.Proofs.YtkfeigigjilaiaaDoorW.PrintLast Go.Proofs.YtkfeigigjilaiaaDoorW.PrintMore
set_option linter.unusedVariables false
set_option linter.unusedSimpArgs false
/-- A row of bytes whose block, if there is one, lies from lo on, below hi. -/
def Got (w : World) (v : Value) (xs : List Int) (lo hi : Nat) : Prop := ∃ b, Row w v b xs ∧ ∀ g, b = some g → lo ≤ g ∧ g < hi
theorem Got.below {w w' : World} {v : Value} {xs : List Int} {lo hi B : Nat} (h : Got w v xs lo hi) (hb : Below B w w') (hB : hi ≤ B) : Got w' v xs lo hi := by
  obtain ⟨b, h1, h2⟩ := h
  exact ⟨b, h1.keep fun g hg => hb.block g (by have := h2 g hg; omega), h2⟩
theorem Got.of_R {w : World} {base : Nat} {ok : Nat → Prop} {v : Value} {xs : List Int} (h : (Kd.int .u8).R 5 w base ok v xs) : Got w v xs base w.heap.size := by
  have ho := Kd.own_of_R (enc := Value.int .u8) (h1 := fun _ => rfl) h
  exact ⟨v.ownBlock, Row.of_owns ho, fun g hg => ho.lt g hg⟩
theorem Got.nil (w : World) (lo hi : Nat) : Got w (.slice none 0 0) [] lo hi := ⟨none, .inl ⟨⟨_, rfl⟩, rfl, rfl⟩, fun g hg => by cases hg⟩
theorem Got.bare (w : World) (A : Option Addr) (lo hi : Nat) : Got w (.slice A 0 0) [] lo hi := ⟨none, .inl ⟨⟨_, rfl⟩, rfl, rfl⟩, fun g hg => by cases hg⟩
theorem Got.block {w : World} {g n m : Nat} {cur xs : List Int} (h : w.heap[g]? = some (.cells (nums .u8 cur).toArray 5 (0, 0))) (hn : xs.length = n) (hl : cur.length = m) (hnm : n ≤ m) (hm : m ≤ maxLen) (ht : cur.take n = xs) : Got w (.slice (some ⟨g, 0, none⟩) n m) xs g (g + 1) := by
  subst hn
  refine ⟨some g, .inr ⟨g, m, _, rfl, rfl, hnm, hm, h, by simpa [nums] using hl, ?_⟩, fun g' e => by cases e; omega⟩
  show (nums .u8 cur).take xs.length = _
  have : (nums .u8 cur).take xs.length = nums .u8 (cur.take xs.length) := by simp [nums, List.map_take]
  rw [this, ht]
open Classical in
theorem apart_fr (n c : Nat) (vs : Nat → Value) (xs : Nat → List Int) (lo hi : Nat → Nat) (W : World) (hn : 0 < n) (hn' : n ≤ 1000) (hg : ∀ k, k < n → Got W (vs k) (xs k) (lo k) (hi k)) (hdis : ∀ k l, k < n → l < n → k < l → hi k ≤ lo l ∨ hi l ≤ lo k)
    (hlen : ∀ k, k < n → (xs k).length ≤ 140737488355000) (G : Nat) (hG : W.heap.size = G) (cells : Array Value) (hc : ∀ k, k < n → cells[k]? = some (vs k)) :
    Calls Tryd.prog 14 #[.slice (some ⟨G, 0, none⟩) n c] (W.alloc (.cells cells 22)) fun e w' => e = .returned (.bool true) ∧ Fr (fun g => ∃ k, k < n ∧ lo k ≤ g ∧ g < hi k) (W.alloc (.cells cells 22)) w' := by
  subst hG
  let bs : Nat → Option Nat := fun k => if h : k < n then Classical.choose (hg k h) else none
  have hbs : ∀ k, k < n → Row W (vs k) (bs k) (xs k) ∧ ∀ g, bs k = some g → lo k ≤ g ∧ g < hi k := by
    intro k hk
    have : bs k = Classical.choose (hg k hk) := dif_pos hk
    rw [this]
    exact Classical.choose_spec (hg k hk)
  have hlt : ∀ k, k < n → ∀ g, bs k = some g → g < W.heap.size := fun k hk g e => (hbs k hk).1.lt g e
  have hF : Fam n vs bs (fun k => (xs k).length) W.heap.size (W.alloc (.cells cells 22)).heap.size := by
    refine ⟨fun k l hk hl hne g e1 e2 => ?_, fun k hk e => ?_, fun k hk g e => ?_, by simp, hn', hlen⟩
    · have h1 := (hbs k hk).2 g e1
      have h2 := (hbs l hl).2 g e2
      rcases Nat.lt_or_gt_of_ne hne with q | q
      · have := hdis k l hk hl q; omega
      · have := hdis l k hl hk q; omega
    · have := hlt k hk _ e; omega
    · have := hlt k hk g e; simp; omega
  refine (apart_calls W.heap.size c n vs bs _ _ hF hn ⟨fun k hk => ?_⟩ fun k hk => ?_).mono ?_
  · have := P.start ((hbs k hk).1.keep (W := W.alloc (.cells cells 22)) fun g e => Below.heap_alloc _ _ _ (hlt k hk g e)) (off (fun k => (xs k).length) k)
    have e : prg (fun k => (xs k).length) 0 0 k = 0 := by unfold prg; rw [if_neg (by omega)]; split <;> rfl
    rw [e]; exact this
  · exact (blk_cell (blk_new W (.cells cells 22)) k).trans (hc k hk)
  · rintro e w' ⟨rfl, h⟩
    refine ⟨rfl, ⟨h.os, h.tape, h.output, h.size, fun k hk hs => h.block k hk ?_⟩⟩
    rintro ⟨q, hq, e⟩
    have := (hbs q hq).2 k e
    exact hs ⟨q, hq, this.1, this.2⟩
theorem apart_got (n c : Nat) (vs : Nat → Value) (xs : Nat → List Int) (lo hi : Nat → Nat) (base : Nat) (W : World) (hn : 0 < n) (hn' : n ≤ 1000) (hg : ∀ k, k < n → Got W (vs k) (xs k) (lo k) (hi k)) (hdis : ∀ k l, k < n → l < n → k < l → hi k ≤ lo l ∨ hi l ≤ lo k)
    (hlen : ∀ k, k < n → (xs k).length ≤ 140737488355000) (hbase : ∀ k, k < n → base ≤ lo k) (hW : base ≤ W.heap.size) (G : Nat) (hG : W.heap.size = G) (cells : Array Value) (hc : ∀ k, k < n → cells[k]? = some (vs k)) :
    Calls Tryd.prog 14 #[.slice (some ⟨G, 0, none⟩) n c] (W.alloc (.cells cells 22)) fun e w' => e = .returned (.bool true) ∧ Below base (W.alloc (.cells cells 22)) w' :=
  (apart_fr n c vs xs lo hi W hn hn' hg hdis hlen G hG cells hc).mono fun _ _ ⟨h1, h⟩ => ⟨h1, ⟨h.os, h.tape, h.output, h.size, fun k hk => h.block k (by simp; omega) (fun ⟨q, hq, h2, _⟩ => by have := hbase q hq; omega)⟩⟩
/-- Intervals one behind the other. -/
theorem sorted_apart {n : Nat} {lo hi : Nat → Nat} (h1 : ∀ k, k < n → lo k ≤ hi k) (h2 : ∀ k, k + 1 < n → hi k ≤ lo (k + 1)) : ∀ k l, k < n → l < n → k < l → hi k ≤ lo l ∨ hi l ≤ lo k := by
  intro k l hk hl hkl
  refine .inl ?_
  have : ∀ d, k + 1 + d < n → hi k ≤ lo (k + 1 + d) := by
    intro d
    induction d with
    | zero => exact fun h => h2 k h
    | succ d ih => intro h; have a := ih (by omega); have b := h1 (k + 1 + d) (by omega); have c := h2 (k + 1 + d) h; rw [show k + 1 + (d + 1) = k + 1 + d + 1 by omega]; omega
  have := this (l - (k + 1)) (by omega)
  rw [show k + 1 + (l - (k + 1)) = l by omega] at this
  exact this
end Go.Proofs.YtkfeigigjilaiaaDoor.Keeps
