/- skerryref01.mark: its contract; rows of one's own, by their cells. -/
import Derived.Test.YtkfeigigjilaiaaDoorKKept
namespace Go.Proofs.YtkfeigigjilaiaaDoor.Keeps
open Go.RowKit Go.Proofs.YtkfeigigjilaiaaDoorW.PrintWords Go.Proofs.YtkfeigigjilaiaaDoorW.PrintLast Go.Proofs.YtkfeigigjilaiaaDoorW.PrintMore
set_option linter.unusedVariables false
set_option linter.unusedSimpArgs false
def mk (n : Int) : Int := wrap64 (wrap64 (wrap64 (n * 7) + wrap64 (n.tdiv 36)) + 3) % 256
set_option maxHeartbeats 4000000 in
set_option maxRecDepth 100000 in
theorem mark_calls (n : Int) (w : World) : Calls Tryd.prog 24 #[.int .i64 n] w fun e w' => e = .returned (.int .u8 (mk n)) ∧ w' = w := by
  go_enter Tryd.func24, Tryd.ntmps24
  go_wp2
  go_ret
  exact ⟨rfl, rfl⟩
/-- A row of bytes of one's own: the block b (none: nil), its room. -/
def Own (w : World) (v : Value) (b : Option Nat) (xs : List Int) : Prop :=
  (v = .slice none 0 0 ∧ b = none ∧ xs = []) ∨
    ∃ (g cap : Nat) (cur : List Value), v = .slice (some ⟨g, 0, none⟩) xs.length cap ∧ b = some g ∧ xs.length ≤ cap ∧ cap ≤ cur.length ∧ cap ≤ 9223372036854775807 ∧ w.heap[g]? = some (.cells cur.toArray 5 (0, 0)) ∧ cur.take xs.length = nums .u8 xs
theorem Own.keep {w W : World} {v : Value} {b : Option Nat} {xs : List Int} (h : Own w v b xs) (hk : ∀ g, b = some g → W.heap[g]? = w.heap[g]?) : Own W v b xs := by
  rcases h with h | ⟨g, cap, cur, h1, h2, h3, h4, h5, h6, h7⟩
  · exact .inl h
  · exact .inr ⟨g, cap, cur, h1, h2, h3, h4, h5, (hk g h2).trans h6, h7⟩
theorem Own.reads {w : World} {v : Value} {b : Option Nat} {xs : List Int} (h : Own w v b xs) : ∃ A c, v = .slice A xs.length c ∧ xs.length ≤ c ∧ ReadsInt w .u8 A xs.length xs := by
  rcases h with ⟨rfl, rfl, rfl⟩ | ⟨g, cap, cur, rfl, rfl, h3, h4, h5, h6, h7⟩
  · exact ⟨none, 0, rfl, Nat.le_refl _, rfl, by simp, by simp⟩
  · refine ⟨_, cap, rfl, h3, rfl, by omega, fun _ => ⟨_, rfl, fun j hj => ?_⟩⟩
    have ha : (⟨g, 0, none⟩ : Addr).add j = ⟨g, j, none⟩ := by unfold Addr.add; split <;> simp_all
    have hx : cur[j]? = (nums .u8 xs)[j]? := by
      rw [← h7, List.getElem?_take, if_pos hj]
    rw [ha, blk_cell h6 j, List.getElem?_toArray, hx]
    simp only [nums, List.getElem?_map]
    rw [List.getD_eq_getElem?_getD, List.getElem?_eq_getElem hj]
    rfl
/-- One cell is written. -/
theorem Own.set {w : World} {g : Nat} {v : Value} {xs : List Int} (h : Own w v (some g) xs) (i : Nat) (x : Int) (hi : i < xs.length) : Own (w.setCell ⟨g, i, none⟩ (.int .u8 x)) v (some g) (xs.set i x) := by
  rcases h with ⟨_, h, _⟩ | ⟨g', cap, cur, rfl, h2, h3, h4, h5, h6, h7⟩
  · cases h
  · cases h2
    refine .inr ⟨g, cap, cur.set i (.int .u8 x), by rw [List.length_set], rfl, by rw [List.length_set]; exact h3, by rw [List.length_set]; exact h4, h5, ?_, ?_⟩
    · rw [setCell_eq_setRow w g i _ 5 (0, 0) _ h6, setRow_heap w g _ _ 5 (0, 0) h6]
      simp
    · rw [List.length_set, List.take_set, h7]
      simp [nums, List.map_set]
/-- The row's block is written behind what the row has. -/
theorem Own.over {w : World} {g : Nat} {v : Value} {xs : List Int} (h : Own w v (some g) xs) (cur cur' : List Value) (hc : w.heap[g]? = some (.cells cur.toArray 5 (0, 0))) (hl : cur'.length = cur.length) (ht : cur'.take xs.length = cur.take xs.length) :
    Own (w.setRow g cur'.toArray) v (some g) xs := by
  rcases h with ⟨_, h, _⟩ | ⟨g', cap, cur0, rfl, h2, h3, h4, h5, h6, h7⟩
  · cases h
  · cases h2
    have he : cur0 = cur := by
      have := h6.symm.trans hc
      simp only [Option.some.injEq, Obj.cells.injEq, and_true] at this
      exact congrArg Array.toList this
    subst he
    exact .inr ⟨g, cap, cur', rfl, rfl, h3, by rw [hl]; exact h4, h5, setRow_heap w g _ _ 5 (0, 0) h6, by rw [ht, h7]⟩
/-- append of one byte where there is room: the row, and every row over the same block that is no longer. -/
theorem Own.room {w : World} {g cap : Nat} {ys : List Int} (h : Own w (.slice (some ⟨g, 0, none⟩) ys.length cap) (some g) ys) (x : Int) (hlt : ys.length + 1 ≤ cap) :
    ∃ cur cur' : List Value, w.heap[g]? = some (.cells cur.toArray 5 (0, 0)) ∧ cur' = cur.take ys.length ++ [.int .u8 x] ++ cur.drop (ys.length + 1) ∧ ys.length + 1 ≤ cur.length ∧
      Own (w.setRow g cur'.toArray) (.slice (some ⟨g, 0, none⟩) (ys.length + 1) cap) (some g) (ys ++ [x]) ∧
      (∀ v xs, Own w v (some g) xs → xs.length ≤ ys.length → Own (w.setRow g cur'.toArray) v (some g) xs) := by
  rcases h with ⟨h, _⟩ | ⟨g', cap', cur, hv, h2, h3, h4, h5, h6, h7⟩
  · cases h
  · cases h2
    obtain rfl : cap = cap' := by simpa using hv
    have hl : (cur.take ys.length ++ [Value.int .u8 x] ++ cur.drop (ys.length + 1)).length = cur.length := by simp; omega
    refine ⟨cur, _, h6, rfl, by omega, .inr ⟨g, cap, _, by rw [List.length_append]; rfl, rfl, by simp; omega, by rw [hl]; exact h4, h5, setRow_heap w g _ _ 5 (0, 0) h6, ?_⟩, fun v xs hx hle => hx.over cur _ h6 hl ?_⟩
    · rw [h7, List.take_append_of_le_length (by simp [nums]), nums_append]
      exact List.take_of_length_le (by simp [nums])
    · rw [List.append_assoc, List.take_append_of_le_length (by rw [List.length_take]; omega), List.take_take]
      congr 1
      omega
/-- The library's rows of one's own. -/
theorem Own.of_owns {w : World} {base : Nat} {v : Value} {xs : List Int} (h : w.ownsRow base 5 1 v xs.length (nums .u8 xs)) : ∃ b, Own w v b xs ∧ v.ownBlock = b ∧ ∀ g, b = some g → base ≤ g := by
  obtain ⟨_, h0 | ⟨g, cap, cur, rfl, hb, hh, hn, hm, hs, ht⟩⟩ := h
  · obtain ⟨rfl, h1⟩ := h0
    exact ⟨none, .inl ⟨rfl, rfl, List.eq_nil_of_length_eq_zero h1⟩, rfl, fun g hg => by cases hg⟩
  · refine ⟨some g, .inr ⟨g, cap, cur.toList, rfl, rfl, hn, by rw [Array.length_toList, hs]; omega, by simpa [maxLen] using hm, by simpa using hh, ?_⟩, rfl, fun g' hg => by cases hg; exact hb⟩
    rw [Nat.mul_one] at ht
    exact ht
/-- A printed contract's row. -/
theorem Own.of_R {w : World} {base : Nat} {ok : Nat → Prop} {v : Value} {xs : List Int} (h : (Kd.int .u8).R 5 w base ok v xs) : ∃ b, Own w v b xs ∧ v.ownBlock = b ∧ ∀ g, b = some g → base ≤ g :=
  Own.of_owns (Kd.own_of_R (enc := Value.int .u8) (h1 := fun _ => rfl) h)
end Go.Proofs.YtkfeigigjilaiaaDoor.Keeps
