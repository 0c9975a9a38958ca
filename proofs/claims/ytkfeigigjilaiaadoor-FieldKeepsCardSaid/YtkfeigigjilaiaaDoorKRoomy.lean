/- skerryref01.Roomy: its contract. No conditions beyond the length. -/
import Derived.Test.YtkfeigigjilaiaaDoorPFieldKeepsx0
import Derived.Laws.CopyOwn
import Derived.Laws.OwnMore
namespace Go.Proofs.YtkfeigigjilaiaaDoor.Keeps
open Go.RowKit Go.Proofs.YtkfeigigjilaiaaDoorW.PrintWords Go.Proofs.YtkfeigigjilaiaaDoorW.PrintLast Go.Proofs.YtkfeigigjilaiaaDoorW.PrintMore
set_option linter.unusedVariables false
set_option linter.unusedSimpArgs false
theorem info5 : (Tryd.prog.info? 5).map (fun i => (i.zero, i.size, i.bytes)) = some (some (.int .u8 0), 1, 1) := by kernel_rfl
theorem info5s : (Tryd.prog.info? 5).map (·.size) = some 1 := by kernel_rfl
def fill (l : List Int) (i : Nat) : List Int := l ++ List.replicate (i - l.length) 165 ++ List.replicate (l.length + 4 - i) 0
theorem fill_len (l : List Int) (i : Nat) (h : l.length ≤ i) (h' : i ≤ l.length + 4) : (fill l i).length = l.length + 4 := by simp [fill]; omega
theorem made_eq (m : Nat) : madeCells #[Value.int .u8 0] m = (nums .u8 (List.replicate m 0)).toArray := by
  apply Array.ext'
  rw [Go.toList_madeCells_one]
  simp [nums]
theorem splice_fill (l : List Int) : splice (nums .u8 (List.replicate (l.length + 4) 0)) 0 (nums .u8 l) = nums .u8 (fill l l.length) := by
  simp [splice, nums, fill, List.drop_replicate]
theorem fill_set (l : List Int) (i : Nat) (h : l.length ≤ i) (h' : i < l.length + 4) : (fill l i).set i 165 = fill l (i + 1) := by
  apply List.ext_getElem?
  intro k
  rw [List.getElem?_set]
  simp only [fill, List.getElem?_append, List.getElem?_replicate, List.length_append, List.length_replicate]
  split <;> repeat' split
  all_goals first | omega | rfl | skip
theorem copy_src {W : World} {A : Option Addr} {l : List Int} (h : ReadsInt W .u8 A l.length l) (hp : 0 < (nums .u8 l).length) : ∃ ad, A = some ad ∧ ∀ j v, (nums .u8 l)[j]? = some v → W.cell? (ad.add j) = some v := by
  obtain ⟨ad, e, hc⟩ := h.2.2 (by simpa [nums] using hp)
  refine ⟨ad, e, fun j v hv => ?_⟩
  have hj : j < l.length := by
    rcases Nat.lt_or_ge j l.length with c | c
    · exact c
    · rw [List.getElem?_eq_none (by simpa [nums] using c)] at hv; cases hv
  rw [hc j hj]
  simp only [nums, List.getElem?_map] at hv
  rw [List.getD_eq_getElem?_getD]
  rw [List.getElem?_eq_getElem hj] at hv ⊢
  simpa using hv
theorem make_room (n m : Nat) (h : n ≤ m) (hm : m ≤ 281474976710656) (W : World) : (Instr.makeSlice 22 (.int .i64 (n : Int)) (.int .i64 (m : Int))).run Tryd.prog W = .ok (.slice (some ⟨W.heap.size, 0, none⟩) n m) (W.alloc (.cells (nums .u8 (List.replicate m 0)).toArray 5)) := by
  obtain ⟨i, hi, h3⟩ := Option.map_eq_some_iff.1 info5
  simp only [Prod.mk.injEq] at h3
  obtain ⟨hz, hs, hb⟩ := h3
  have := run_make (P := Tryd.prog) W 22 5 i (.int .u8 0) Tryd.underlying22 hi hz .i64 .i64 n m (by omega) (by omega) (by rw [hb]; omega) (by omega)
  rw [this, hs, ← made_eq]
  simp [Value.cells]
theorem cut_room (A : Option Addr) (n m : Nat) (W : World) : (Instr.slice 22 (.slice A n m) none (some (.int .i64 (m : Int))) none).run Tryd.prog W = .ok (.slice A m m) W := by
  obtain ⟨i, hi, h3⟩ := Option.map_eq_some_iff.1 info5
  simp only [Prod.mk.injEq] at h3
  obtain ⟨hz, hs, hb⟩ := h3
  have hel : Tryd.prog.elem 22 = 5 := by simp [Program.elem, Tryd.underlying22]
  have hu : Tryd.prog.underlying 22 = some (.slice (Tryd.prog.elem 22)) := by rw [hel]; exact Tryd.underlying22
  have ha : (A.map fun x => x.add 0) = A := by cases A <;> simp [Addr.add]
  rw [run_slice_h W 22 A n m hu .i64 m (by omega) (by omega), hel]
  simp [sizeOf, typeInfo, hi, hs, sliced, Result.andThen, ha]
set_option maxHeartbeats 4000000 in
set_option maxRecDepth 100000 in
theorem roomy_calls (A : Option Addr) (c : Nat) (l : List Int) (w : World) (hr : ReadsInt w .u8 A l.length l) (hl : l.length ≤ 281474976710000) :
    Calls Tryd.prog 9 #[.slice A l.length c] w fun e w' => e = .returned (.slice (some ⟨w.heap.size, 0, none⟩) l.length (l.length + 4)) ∧ w'.heap[w.heap.size]? = some (.cells (nums .u8 (fill l (l.length + 4))).toArray 5 (0, 0)) ∧ Below w.heap.size w w' := by
  have HR := Aside0.mk (hr.below (below_alloc (Below.refl w.heap.size w) (.cells (nums .u8 (List.replicate (l.length + 4) 0)).toArray 5)))
  have HB1 := Aside0.mk (below_alloc (Below.refl w.heap.size w) (.cells (nums .u8 (List.replicate (l.length + 4) 0)).toArray 5))
  have HG := Aside0.mk (blk_new w (.cells (nums .u8 (List.replicate (l.length + 4) 0)).toArray 5))
  have HS := Aside0.mk (splice_fill l)
  clear hr
  obtain ⟨m, hm⟩ : ∃ m, l.length + 4 = m := ⟨_, rfl⟩
  have hw4 : IntKind.i64.wrap ((l.length : Int) + 4) = (m : Int) := by rw [IntKind.wrap_i64]; omega
  rw [hm] at HR HB1 HG HS ⊢
  have hmk := make_room l.length m (by omega) (by omega)
  have hcut := fun A => cut_room A l.length m
  go_enter Tryd.func9, Tryd.ntmps9
  go_wp2_with (first | ((with_reducible refine gate_builtin (b := .copy) (xs := #[.tmp 12, .tmp 13]) rfl ?_); refine wpList_copy_splice rfl (.tmp 12) (.tmp 13) 22 22 rfl 5 Tryd.underlying22 info5s (some ⟨w.heap.size, 0, none⟩) A l.length m l.length c rfl rfl w.heap.size 0 (nums .u8 (List.replicate m 0)) 5 HG.out (nums .u8 l) (by rw [nums_length]; exact (Nat.min_self _).symm) (fun hp => ⟨rfl, copy_src HR.out hp⟩) (by rw [nums_length, nums_length, List.length_replicate]; omega) (by intro v hv; simp only [nums, List.mem_map] at hv; obtain ⟨q, _, rfl⟩ := hv; rfl) w.heap.size w HB1.out (Nat.le_refl _) ?_; intro w2 hg2 hb2; have HG2 := Aside0.mk (show w2.heap[w.heap.size]? = some (.cells (nums .u8 (fill l l.length)).toArray 5 (0, 0)) from HS.out ▸ hg2); have HB2 := Aside0.mk hb2; clear hg2 hb2))
  clear HR HB1 HG HS hmk hw4
  generalize hq : w.heap.size = g at HG2 HB2 ⊢
  go_loopg [5] 4 (fun kq v5 w' => ∃ i : Nat, v5 = .int .i64 (i : Int) ∧ l.length ≤ i ∧ i ≤ m ∧ m - i ≤ kq ∧ Aside0 (w'.heap[g]? = some (.cells (nums .u8 (fill l i)).toArray 5 (0, 0))) ∧ Aside0 (Below g w w'))
  case atStart => exact ⟨l.length, rfl, Nat.le_refl _, by omega, by omega, HG2, HB2⟩
  case round =>
    obtain ⟨i, rfl, hi1, hi2, hk, HG3, HB3⟩ := hrel
    by_cases hlt : i < m
    · have d0 : decide ((i : Int) < (m : Int)) = true := decide_eq_true (by omega)
      have p0 : (0 : Int) ≤ (i : Int) := by omega
      have q0 : (i : Int) < (m : Int) := by omega
      cases gk with
      | zero => omega
      | succ k1 =>
        have hl4 : i < (nums .u8 (fill l i)).length := by rw [nums_length, fill_len l i hi1 (by omega)]; omega
        have hc0 : wr.cell? ⟨g, i, none⟩ = some ((nums .u8 (fill l i))[i]'hl4) := (blk_cell HG3.out i).trans (by simp [List.getElem?_eq_getElem hl4])
        have hf0 : wr.frozen? ⟨g, i, none⟩ = false := blk_frozen HG3.out _
        have hrow : (wr.setCell ⟨g, i, none⟩ (.int .u8 165)).heap[g]? = some (.cells (nums .u8 (fill l (i + 1))).toArray 5 (0, 0)) := by
          rw [setCell_eq_setRow wr g i _ 5 (0, 0) (.int .u8 165) HG3.out, setRow_heap wr g _ _ 5 (0, 0) HG3.out, ← fill_set l i hi1 (by omega)]
          simp [nums, List.map_set]
        go_wp2
        go_roundg k1
        case measure => omega
        case rel => exact ⟨i + 1, rfl, by omega, by omega, by omega, ⟨hrow⟩, ⟨HB3.out.setCell (Nat.le_refl _) _⟩⟩
    · have d0 : decide ((i : Int) < (m : Int)) = false := decide_eq_false (by omega)
      obtain rfl : i = m := by omega
      go_wp2
      go_ret
      subst hq
      exact ⟨rfl, HG3.out, HB3.out⟩
end Go.Proofs.YtkfeigigjilaiaaDoor.Keeps
