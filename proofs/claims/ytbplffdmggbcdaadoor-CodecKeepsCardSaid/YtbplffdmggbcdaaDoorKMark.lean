/- Texts of this claim, merged. -/
import Derived.Test.YtbplffdmggbcdaaDoorPCodecKeepsx0
import Derived.Laws.CopyOwn
import Derived.Laws.OwnMore
import Derived.Test.YtbplffdmggbcdaaDoorWTab
namespace Go.Proofs.YtbplffdmggbcdaaDoor.Keeps
open Go.RowKit Go.Proofs.YtbplffdmggbcdaaDoorW.PrintWords Go.Proofs.YtbplffdmggbcdaaDoorW.PrintLast Go.Proofs.YtbplffdmggbcdaaDoorW.PrintMore
set_option linter.unusedVariables false
set_option linter.unusedSimpArgs false
theorem info5 : (Tryd.prog.info? 5).map (fun i => (i.zero, i.size, i.bytes)) = some (some (.int .u8 0), 1, 1) := by kernel_rfl
theorem info5s : (Tryd.prog.info? 5).map (·.size) = some 1 := by kernel_rfl
def fill (l : List Int) (i : Nat) : List Int := l ++ List.replicate (i - l.length) 165 ++ List.replicate (l.length + 4 - i) 0
theorem fill_len (l : List Int) (i : Nat) (h : l.length ≤ i) (h' : i ≤ l.length + 4) : (fill l i).length = l.length + 4 := by simp [fill]; omega
theorem made_eq (m : Nat) : madeCells #[Value.int .u8 0] m = (nums .u8 (List.replicate m 0)).toArray := by
  apply Array.ext'
  rw [Go.toList_madeCells_one]
  simp [nums]
theorem splice_fill (l : List Int) : splice (nums .u8 (List.replicate (l.length + 4) 0)) 0 (nums .u8 l) = nums .u8 (fill l l.length) := by
  simp [splice, nums, fill, List.drop_replicate]
theorem fill_set (l : List Int) (i : Nat) (h : l.length ≤ i) (h' : i < l.length + 4) : (fill l i).set i 165 = fill l (i + 1) := by
  apply List.ext_getElem?
  intro k
  rw [List.getElem?_set]
  simp only [fill, List.getElem?_append, List.getElem?_replicate, List.length_append, List.length_replicate]
  split <;> repeat' split
  all_goals first | omega | rfl | skip
theorem copy_src {W : World} {A : Option Addr} {l : List Int} (h : ReadsInt W .u8 A l.length l) (hp : 0 < (nums .u8 l).length) : ∃ ad, A = some ad ∧ ∀ j v, (nums .u8 l)[j]? = some v → W.cell? (ad.add j) = some v := by
  obtain ⟨ad, e, hc⟩ := h.2.2 (by simpa [nums] using hp)
  refine ⟨ad, e, fun j v hv => ?_⟩
  have hj : j < l.length := by
    rcases Nat.lt_or_ge j l.length with c | c
    · exact c
    · rw [List.getElem?_eq_none (by simpa [nums] using c)] at hv; cases hv
  rw [hc j hj]
  simp only [nums, List.getElem?_map] at hv
  rw [List.getD_eq_getElem?_getD]
  rw [List.getElem?_eq_getElem hj] at hv ⊢
  simpa using hv
theorem make_room (n m : Nat) (h : n ≤ m) (hm : m ≤ 281474976710656) (W : World) : (Instr.makeSlice 27 (.int .i64 (n : Int)) (.int .i64 (m : Int))).run Tryd.prog W = .ok (.slice (some ⟨W.heap.size, 0, none⟩) n m) (W.alloc (.cells (nums .u8 (List.replicate m 0)).toArray 5)) := by
  obtain ⟨i, hi, h3⟩ := Option.map_eq_some_iff.1 info5
  simp only [Prod.mk.injEq] at h3
  obtain ⟨hz, hs, hb⟩ := h3
  have := run_make (P := Tryd.prog) W 27 5 i (.int .u8 0) Tryd.underlying27 hi hz .i64 .i64 n m (by omega) (by omega) (by rw [hb]; omega) (by omega)
  rw [this, hs, ← made_eq]
  simp [Value.cells]
theorem cut_room (A : Option Addr) (n m : Nat) (W : World) : (Instr.slice 27 (.slice A n m) none (some (.int .i64 (m : Int))) none).run Tryd.prog W = .ok (.slice A m m) W := by
  obtain ⟨i, hi, h3⟩ := Option.map_eq_some_iff.1 info5
  simp only [Prod.mk.injEq] at h3
  obtain ⟨hz, hs, hb⟩ := h3
  have hel : Tryd.prog.elem 27 = 5 := by simp [Program.elem, Tryd.underlying27]
  have hu : Tryd.prog.underlying 27 = some (.slice (Tryd.prog.elem 27)) := by rw [hel]; exact Tryd.underlying27
  have ha : (A.map fun x => x.add 0) = A := by cases A <;> simp [Addr.add]
  rw [run_slice_h W 27 A n m hu .i64 m (by omega) (by omega), hel]
  simp [sizeOf, typeInfo, hi, hs, sliced, Result.andThen, ha]
set_option maxHeartbeats 4000000 in
set_option maxRecDepth 100000 in
theorem roomy_calls (A : Option Addr) (c : Nat) (l : List Int) (w : World) (hr : ReadsInt w .u8 A l.length l) (hl : l.length ≤ 281474976710000) :
    Calls Tryd.prog 24 #[.slice A l.length c] w fun e w' => e = .returned (.slice (some ⟨w.heap.size, 0, none⟩) l.length (l.length + 4)) ∧ w'.heap[w.heap.size]? = some (.cells (nums .u8 (fill l (l.length + 4))).toArray 5 (0, 0)) ∧ Below w.heap.size w w' := by
  have HR := Aside0.mk (hr.below (below_alloc (Below.refl w.heap.size w) (.cells (nums .u8 (List.replicate (l.length + 4) 0)).toArray 5)))
  have HB1 := Aside0.mk (below_alloc (Below.refl w.heap.size w) (.cells (nums .u8 (List.replicate (l.length + 4) 0)).toArray 5))
  have HG := Aside0.mk (blk_new w (.cells (nums .u8 (List.replicate (l.length + 4) 0)).toArray 5))
  have HS := Aside0.mk (splice_fill l)
  clear hr
  obtain ⟨m, hm⟩ : ∃ m, l.length + 4 = m := ⟨_, rfl⟩
  have hw4 : IntKind.i64.wrap ((l.length : Int) + 4) = (m : Int) := by rw [IntKind.wrap_i64]; omega
  rw [hm] at HR HB1 HG HS ⊢
  have hmk := make_room l.length m (by omega) (by omega)
  have hcut := fun A => cut_room A l.length m
  go_enter Tryd.func24, Tryd.ntmps24
  go_wp2_with (first | ((with_reducible refine gate_builtin (b := .copy) (xs := #[.tmp 12, .tmp 13]) rfl ?_); refine wpList_copy_splice rfl (.tmp 12) (.tmp 13) 27 27 rfl 5 Tryd.underlying27 info5s (some ⟨w.heap.size, 0, none⟩) A l.length m l.length c rfl rfl w.heap.size 0 (nums .u8 (List.replicate m 0)) 5 HG.out (nums .u8 l) (by rw [nums_length]; exact (Nat.min_self _).symm) (fun hp => ⟨rfl, copy_src HR.out hp⟩) (by rw [nums_length, nums_length, List.length_replicate]; omega) (by intro v hv; simp only [nums, List.mem_map] at hv; obtain ⟨q, _, rfl⟩ := hv; rfl) w.heap.size w HB1.out (Nat.le_refl _) ?_; intro w2 hg2 hb2; have HG2 := Aside0.mk (show w2.heap[w.heap.size]? = some (.cells (nums .u8 (fill l l.length)).toArray 5 (0, 0)) from HS.out ▸ hg2); have HB2 := Aside0.mk hb2; clear hg2 hb2))
  clear HR HB1 HG HS hmk hw4
  generalize hq : w.heap.size = g at HG2 HB2 ⊢
  go_loopg [5] 4 (fun kq v5 w' => ∃ i : Nat, v5 = .int .i64 (i : Int) ∧ l.length ≤ i ∧ i ≤ m ∧ m - i ≤ kq ∧ Aside0 (w'.heap[g]? = some (.cells (nums .u8 (fill l i)).toArray 5 (0, 0))) ∧ Aside0 (Below g w w'))
  case atStart => exact ⟨l.length, rfl, Nat.le_refl _, by omega, by omega, HG2, HB2⟩
  case round =>
    obtain ⟨i, rfl, hi1, hi2, hk, HG3, HB3⟩ := hrel
    by_cases hlt : i < m
    · have d0 : decide ((i : Int) < (m : Int)) = true := decide_eq_true (by omega)
      have p0 : (0 : Int) ≤ (i : Int) := by omega
      have q0 : (i : Int) < (m : Int) := by omega
      cases gk with
      | zero => omega
      | succ k1 =>
        have hl4 : i < (nums .u8 (fill l i)).length := by rw [nums_length, fill_len l i hi1 (by omega)]; omega
        have hc0 : wr.cell? ⟨g, i, none⟩ = some ((nums .u8 (fill l i))[i]'hl4) := (blk_cell HG3.out i).trans (by simp [List.getElem?_eq_getElem hl4])
        have hf0 : wr.frozen? ⟨g, i, none⟩ = false := blk_frozen HG3.out _
        have hrow : (wr.setCell ⟨g, i, none⟩ (.int .u8 165)).heap[g]? = some (.cells (nums .u8 (fill l (i + 1))).toArray 5 (0, 0)) := by
          rw [setCell_eq_setRow wr g i _ 5 (0, 0) (.int .u8 165) HG3.out, setRow_heap wr g _ _ 5 (0, 0) HG3.out, ← fill_set l i hi1 (by omega)]
          simp [nums, List.map_set]
        go_wp2
        go_roundg k1
        case measure => omega
        case rel => exact ⟨i + 1, rfl, by omega, by omega, by omega, ⟨hrow⟩, ⟨HB3.out.setCell (Nat.le_refl _) _⟩⟩
    · have d0 : decide ((i : Int) < (m : Int)) = false := decide_eq_false (by omega)
      obtain rfl : i = m := by omega
      go_wp2
      go_ret
      subst hq
      exact ⟨rfl, HG3.out, HB3.out⟩
end Go.Proofs.YtbplffdmggbcdaaDoor.Keeps

namespace Go.Proofs.YtbplffdmggbcdaaDoor.Keeps
open Go.RowKit Go.Proofs.YtbplffdmggbcdaaDoorW.PrintWords Go.Proofs.YtbplffdmggbcdaaDoorW.PrintLast Go.Proofs.YtbplffdmggbcdaaDoorW.PrintMore
set_option linter.unusedVariables false
set_option linter.unusedSimpArgs false
theorem cut_to (A : Option Addr) (n c m : Nat) (h : n ≤ m) (W : World) : (Instr.slice 27 (.slice A c m) none (some (.int .i64 (n : Int))) none).run Tryd.prog W = .ok (.slice A n m) W := by
  obtain ⟨i, hi, h3⟩ := Option.map_eq_some_iff.1 info5
  simp only [Prod.mk.injEq] at h3
  obtain ⟨hz, hs, hb⟩ := h3
  have hel : Tryd.prog.elem 27 = 5 := by simp [Program.elem, Tryd.underlying27]
  have hu : Tryd.prog.underlying 27 = some (.slice (Tryd.prog.elem 27)) := by rw [hel]; exact Tryd.underlying27
  have ha : (A.map fun x => x.add 0) = A := by cases A <;> simp [Addr.add]
  rw [run_slice_h W 27 A c m hu .i64 n (by omega) (by omega), hel]
  simp [sizeOf, typeInfo, hi, hs, sliced, Result.andThen, ha]
theorem row_int {w : World} {A : Option Addr} {xs : List Int} (h : ReadsInt w .u8 A xs.length xs) : (Kd.int .u8).C w A xs.length xs := Kd.C_of_reads (d := (0 : Int)) (h1 := fun _ => rfl) (readsInt_of.1 h)
theorem fill_at (l : List Int) (i : Nat) (h : l.length ≤ i) (h' : i < l.length + 4) : (nums .u8 (fill l (l.length + 4)))[i]? = some (.int .u8 165) := by
  simp only [nums, fill, List.getElem?_map]
  rw [List.getElem?_append_left (by simp; omega), List.getElem?_append_right h, List.getElem?_replicate, if_pos (by omega)]
  rfl
theorem reads_fill {w : World} {g : Nat} {l : List Int} (hg : w.heap[g]? = some (.cells (nums .u8 (fill l (l.length + 4))).toArray 5 (0, 0))) (hl : l.length ≤ 9223372036854775807) : ReadsInt w .u8 (some ⟨g, 0, none⟩) l.length l := by
  refine ⟨rfl, hl, fun _ => ⟨_, rfl, fun j hj => ?_⟩⟩
  have ha : (⟨g, 0, none⟩ : Addr).add j = ⟨g, j, none⟩ := by unfold Addr.add; split <;> simp_all
  rw [ha, blk_cell hg j]
  simp only [nums, fill, List.getElem?_toArray, List.getElem?_map]
  rw [List.append_assoc, List.getElem?_append_left hj, List.getD_eq_getElem?_getD, List.getElem?_eq_getElem hj]
  rfl
def kept.T7 : Bool × List (List Nat × List Nat) := (true, [([], []), ([], []), ([1], [1]), ([0, 2], [0, 2]), ([3], [3]), ([], []), ([5], [5]), ([4, 6], [4, 6]), ([7, 0, 1, 2, 3, 4, 5, 6, 7], [7])])
def kept.B7 : List Nat := [0, 0, 2, 7, 15, 0, 32, 127, 255]
theorem kept.tab7 : rtab .any (opsOf Tryd.f28 7) = kept.T7 := by kernel_rfl
theorem kept.bits7 : waitsOk kept.T7.2 kept.B7 = true := by kernel_rfl
set_option maxHeartbeats 4000000 in
set_option maxRecDepth 100000 in
theorem kept_calls (g : Nat) (A : Option Addr) (c : Nat) (l : List Int) (w : World) (hg : w.heap[g]? = some (.cells (nums .u8 (fill l (l.length + 4))).toArray 5 (0, 0))) (hr : ReadsInt w .u8 A l.length l) (hl : l.length ≤ 281474976710000) :
    Calls Tryd.prog 28 #[.slice (some ⟨g, 0, none⟩) l.length (l.length + 4), .slice A l.length c] w fun e w' => e = .returned (.bool true) ∧ Drawn0 w w' := by
  have HG := Aside0.mk hg
  have hat := fun i h h' => (blk_cell hg i).trans (List.getElem?_toArray.trans (fill_at l i h h'))
  have HRA := Aside0.mk hr
  have HRG := Aside0.mk (fun k => reads_fill (w := w.drewN k) hg (by omega))
  clear hg hr
  obtain ⟨m, hm⟩ : ∃ m, l.length + 4 = m := ⟨_, rfl⟩
  have hw4 : IntKind.i64.wrap ((l.length : Int) + 4) = (m : Int) := by rw [IntKind.wrap_i64]; omega
  rw [hm] at HG hat ⊢
  have hcut := fun A => cut_room A l.length m
  have hcut2 := fun A => cut_to A l.length m m (by omega)
  go_enter Tryd.func28, Tryd.ntmps28
  go_wp2
  repeat (go_quiet (fail); try go_wp2)
  go_loopg [6] 4 (fun kq v6 w' => ∃ i : Nat, v6 = .int .i64 (i : Int) ∧ l.length ≤ i ∧ i ≤ m ∧ m - i ≤ kq ∧ Drawn0 w w')
  case atStart => exact ⟨l.length, rfl, Nat.le_refl _, by omega, by omega, by repeat (first | exact Drawn0.refl _ | apply Drawn0.step)⟩
  case round =>
    obtain ⟨i, rfl, hi1, hi2, hk, ⟨m1, rfl⟩⟩ := hrel
    by_cases hlt : i < m
    · have d0 : decide ((i : Int) < (m : Int)) = true := decide_eq_true (by omega)
      have p0 : (0 : Int) ≤ (i : Int) := by omega
      have q0 : (i : Int) < (m : Int) := by omega
      have hc0 := hat i hi1 hlt
      cases gk with
      | zero => omega
      | succ k1 =>
        clear hcut hcut2 hat
        go_wp2
        repeat (go_quiet (fail); try go_wp2)
        go_roundg k1
        case measure => omega
        case rel => exact ⟨i + 1, rfl, by omega, by omega, by omega, by repeat (first | exact Drawn0.refl _ | apply Drawn0.step)⟩
    · have d0 : decide ((i : Int) < (m : Int)) = false := decide_eq_false (by omega)
      obtain rfl : i = m := by omega
      clear hat
      go_wp2
      -- GENBEG
      refine start_ (n := 9) (S := (fun w' => ReadsInt w' .u8 (some ⟨g, 0, none⟩) l.length l ∧ ReadsInt w' .u8 A l.length l)) (ds := []) #[false, false, false, false, false, false, false, false, false] (by kernel_rfl) rfl rfl ⟨HRG.out m1, (show ReadsInt (w.drewN m1) .u8 A l.length l from HRA.out)⟩ (fun hHeld => ?_); refine with_tabW kept.tab7 kept.bits7 (fun HT_ HW_ => ?_)
      refine pure_ (i := 0) (N := (some 25)) (v := ?_) (a' := ?_) #[true, false, false, false, false, false, false, false, false] rfl rfl (any_of HT_.out (by kernel_rfl)) (fun _ _ _ h => h) (Or.inl ⟨by rfl, ?_⟩) ?_ ?_
      rotate_left
      · intro w'
        go_simp
        with_reducible rfl
      rotate_left
      · simp only [Act.put, List.setIfInBounds_toArray, List.set_cons_zero, List.set_cons_succ, i64_w, i32_w]
        rfl
      refine pure_ (i := 1) (N := (some 26)) (v := ?_) (a' := ?_) #[true, true, false, false, false, false, false, false, false] rfl rfl (any_of HT_.out (by kernel_rfl)) (fun _ _ _ h => h) (Or.inl ⟨by rfl, ?_⟩) ?_ ?_
      rotate_left
      · intro w'
        go_simp
        with_reducible rfl
      rotate_left
      · simp only [Act.put, List.setIfInBounds_toArray, List.set_cons_zero, List.set_cons_succ, i64_w, i32_w]
        rfl
      refine pure_ (i := 2) (N := (some 27)) (v := ?_) (a' := ?_) #[true, true, true, false, false, false, false, false, false] rfl rfl (any_of HT_.out (by kernel_rfl)) (fun _ _ _ h => h) (Or.inl ⟨by rfl, ?_⟩) ?_ ?_
      rotate_left
      · intro w'
        go_simp
        with_reducible rfl
      rotate_left
      · simp only [Act.put, List.setIfInBounds_toArray, List.set_cons_zero, List.set_cons_succ, i64_w, i32_w]
        rfl
      refine pure_ (i := 3) (N := (some 28)) (v := ?_) (a' := ?_) #[true, true, true, true, false, false, false, false, false] rfl rfl (any_of HT_.out (by kernel_rfl)) (fun _ _ _ h => h) (Or.inl ⟨by rfl, ?_⟩) ?_ ?_
      rotate_left
      · intro w'
        go_simp
        with_reducible rfl
      rotate_left
      · simp only [Act.put, List.setIfInBounds_toArray, List.set_cons_zero, List.set_cons_succ, i64_w, i32_w]
        rfl
      refine take_ (i := 4) (N := (some 29)) (v := ?_) (a' := ?_) #[true, true, true, true, true, false, false, false, false] rfl rfl (take_ofW HT_.out HW_.out (by kernel_rfl)) (fun _ _ _ h => h) (Or.inl ⟨by rfl, ?_⟩) hHeld ?_ ?_
      rotate_left
      · rintro w' ⟨s0, s1⟩
        have hcv := Kd.C_string (P := Tryd.prog) (w := w') (A := some ⟨g, 0, none⟩) (c := i) Tryd.underlying27 Tryd.underlying5 Tryd.underlying9 (row_int s0)
        go_simp
        with_reducible rfl
      rotate_left
      · simp only [Act.put, List.setIfInBounds_toArray, List.set_cons_zero, List.set_cons_succ, i64_w, i32_w]
        rfl
      refine pure_ (i := 5) (N := (some 30)) (v := ?_) (a' := ?_) #[true, true, true, true, true, true, false, false, false] rfl rfl (any_of HT_.out (by kernel_rfl)) (fun _ _ _ h => h) (Or.inl ⟨by rfl, ?_⟩) ?_ ?_
      rotate_left
      · intro w'
        go_simp
        with_reducible rfl
      rotate_left
      · simp only [Act.put, List.setIfInBounds_toArray, List.set_cons_zero, List.set_cons_succ, i64_w, i32_w]
        rfl
      refine take_ (i := 6) (N := (some 31)) (v := ?_) (a' := ?_) #[true, true, true, true, true, true, true, false, false] rfl rfl (take_ofW HT_.out HW_.out (by kernel_rfl)) (fun _ _ _ h => h) (Or.inl ⟨by rfl, ?_⟩) hHeld ?_ ?_
      rotate_left
      · rintro w' ⟨s0, s1⟩
        have hcv := Kd.C_string (P := Tryd.prog) (w := w') (A := A) (c := c) Tryd.underlying27 Tryd.underlying5 Tryd.underlying9 (row_int s1)
        go_simp
        with_reducible rfl
      rotate_left
      · simp only [Act.put, List.setIfInBounds_toArray, List.set_cons_zero, List.set_cons_succ, i64_w, i32_w]
        rfl
      refine pure_ (i := 7) (N := (some 32)) (v := ?_) (a' := ?_) #[true, true, true, true, true, true, true, true, false] rfl rfl (any_of HT_.out (by kernel_rfl)) (fun _ _ _ h => h) (Or.inl ⟨by rfl, ?_⟩) ?_ ?_
      rotate_left
      · intro w'
        go_simp
        with_reducible rfl
      rotate_left
      · simp only [Act.put, List.setIfInBounds_toArray, List.set_cons_zero, List.set_cons_succ, i64_w, i32_w]
        rfl
      refine pure_ (i := 8) (N := (some 4)) (v := ?_) (a' := ?_) #[true, true, true, true, true, true, true, true, true] rfl rfl (any_of HT_.out (by kernel_rfl)) (fun _ _ _ h => h) (Or.inl ⟨by rfl, ?_⟩) ?_ ?_
      rotate_left
      · intro w'
        go_simp
        with_reducible rfl
      rotate_left
      · simp only [Act.put, List.setIfInBounds_toArray, List.set_cons_zero, List.set_cons_succ, i64_w, i32_w]
        rfl
      refine done_ (done_of HT_.out (by kernel_rfl)) ?_
      -- GENEND

      go_wp2
      go_ret

      exact ⟨by first | rfl | (simp; done), by repeat (first | exact Drawn0.refl _ | apply Drawn0.step)⟩
end Go.Proofs.YtbplffdmggbcdaaDoor.Keeps

namespace Go.Proofs.YtbplffdmggbcdaaDoor.Keeps
open Go.RowKit Go.Proofs.YtbplffdmggbcdaaDoorW.PrintWords Go.Proofs.YtbplffdmggbcdaaDoorW.PrintLast Go.Proofs.YtbplffdmggbcdaaDoorW.PrintMore
set_option linter.unusedVariables false
set_option linter.unusedSimpArgs false
def mk (n : Int) : Int := wrap64 (wrap64 (wrap64 (n * 7) + wrap64 (n.tdiv 36)) + 3) % 256
set_option maxHeartbeats 4000000 in
set_option maxRecDepth 100000 in
theorem mark_calls (n : Int) (w : World) : Calls Tryd.prog 56 #[.int .i64 n] w fun e w' => e = .returned (.int .u8 (mk n)) ∧ w' = w := by
  go_enter Tryd.func56, Tryd.ntmps56
  go_wp2
  go_ret
  exact ⟨rfl, rfl⟩
/-- A row of bytes of one's own: the block b (none: nil), its room. -/
def Own (w : World) (v : Value) (b : Option Nat) (xs : List Int) : Prop :=
  (v = .slice none 0 0 ∧ b = none ∧ xs = []) ∨
    ∃ (g cap : Nat) (cur : List Value), v = .slice (some ⟨g, 0, none⟩) xs.length cap ∧ b = some g ∧ xs.length ≤ cap ∧ cap ≤ cur.length ∧ cap ≤ 9223372036854775807 ∧ w.heap[g]? = some (.cells cur.toArray 5 (0, 0)) ∧ cur.take xs.length = nums .u8 xs
theorem Own.keep {w W : World} {v : Value} {b : Option Nat} {xs : List Int} (h : Own w v b xs) (hk : ∀ g, b = some g → W.heap[g]? = w.heap[g]?) : Own W v b xs := by
  rcases h with h | ⟨g, cap, cur, h1, h2, h3, h4, h5, h6, h7⟩
  · exact .inl h
  · exact .inr ⟨g, cap, cur, h1, h2, h3, h4, h5, (hk g h2).trans h6, h7⟩
theorem Own.reads {w : World} {v : Value} {b : Option Nat} {xs : List Int} (h : Own w v b xs) : ∃ A c, v = .slice A xs.length c ∧ xs.length ≤ c ∧ ReadsInt w .u8 A xs.length xs := by
  rcases h with ⟨rfl, rfl, rfl⟩ | ⟨g, cap, cur, rfl, rfl, h3, h4, h5, h6, h7⟩
  · exact ⟨none, 0, rfl, Nat.le_refl _, rfl, by simp, by simp⟩
  · refine ⟨_, cap, rfl, h3, rfl, by omega, fun _ => ⟨_, rfl, fun j hj => ?_⟩⟩
    have ha : (⟨g, 0, none⟩ : Addr).add j = ⟨g, j, none⟩ := by unfold Addr.add; split <;> simp_all
    have hx : cur[j]? = (nums .u8 xs)[j]? := by
      rw [← h7, List.getElem?_take, if_pos hj]
    rw [ha, blk_cell h6 j, List.getElem?_toArray, hx]
    simp only [nums, List.getElem?_map]
    rw [List.getD_eq_getElem?_getD, List.getElem?_eq_getElem hj]
    rfl
/-- One cell is written. -/
theorem Own.set {w : World} {g : Nat} {v : Value} {xs : List Int} (h : Own w v (some g) xs) (i : Nat) (x : Int) (hi : i < xs.length) : Own (w.setCell ⟨g, i, none⟩ (.int .u8 x)) v (some g) (xs.set i x) := by
  rcases h with ⟨_, h, _⟩ | ⟨g', cap, cur, rfl, h2, h3, h4, h5, h6, h7⟩
  · cases h
  · cases h2
    refine .inr ⟨g, cap, cur.set i (.int .u8 x), by rw [List.length_set], rfl, by rw [List.length_set]; exact h3, by rw [List.length_set]; exact h4, h5, ?_, ?_⟩
    · rw [setCell_eq_setRow w g i _ 5 (0, 0) _ h6, setRow_heap w g _ _ 5 (0, 0) h6]
      simp
    · rw [List.length_set, List.take_set, h7]
      simp [nums, List.map_set]
/-- The row's block is written behind what the row has. -/
theorem Own.over {w : World} {g : Nat} {v : Value} {xs : List Int} (h : Own w v (some g) xs) (cur cur' : List Value) (hc : w.heap[g]? = some (.cells cur.toArray 5 (0, 0))) (hl : cur'.length = cur.length) (ht : cur'.take xs.length = cur.take xs.length) :
    Own (w.setRow g cur'.toArray) v (some g) xs := by
  rcases h with ⟨_, h, _⟩ | ⟨g', cap, cur0, rfl, h2, h3, h4, h5, h6, h7⟩
  · cases h
  · cases h2
    have he : cur0 = cur := by
      have := h6.symm.trans hc
      simp only [Option.some.injEq, Obj.cells.injEq, and_true] at this
      exact congrArg Array.toList this
    subst he
    exact .inr ⟨g, cap, cur', rfl, rfl, h3, by rw [hl]; exact h4, h5, setRow_heap w g _ _ 5 (0, 0) h6, by rw [ht, h7]⟩
/-- append of one byte where there is room: the row, and every row over the same block that is no longer. -/
theorem Own.room {w : World} {g cap : Nat} {ys : List Int} (h : Own w (.slice (some ⟨g, 0, none⟩) ys.length cap) (some g) ys) (x : Int) (hlt : ys.length + 1 ≤ cap) :
    ∃ cur cur' : List Value, w.heap[g]? = some (.cells cur.toArray 5 (0, 0)) ∧ cur' = cur.take ys.length ++ [.int .u8 x] ++ cur.drop (ys.length + 1) ∧ ys.length + 1 ≤ cur.length ∧
      Own (w.setRow g cur'.toArray) (.slice (some ⟨g, 0, none⟩) (ys.length + 1) cap) (some g) (ys ++ [x]) ∧
      (∀ v xs, Own w v (some g) xs → xs.length ≤ ys.length → Own (w.setRow g cur'.toArray) v (some g) xs) := by
  rcases h with ⟨h, _⟩ | ⟨g', cap', cur, hv, h2, h3, h4, h5, h6, h7⟩
  · cases h
  · cases h2
    obtain rfl : cap = cap' := by simpa using hv
    have hl : (cur.take ys.length ++ [Value.int .u8 x] ++ cur.drop (ys.length + 1)).length = cur.length := by simp; omega
    refine ⟨cur, _, h6, rfl, by omega, .inr ⟨g, cap, _, by rw [List.length_append]; rfl, rfl, by simp; omega, by rw [hl]; exact h4, h5, setRow_heap w g _ _ 5 (0, 0) h6, ?_⟩, fun v xs hx hle => hx.over cur _ h6 hl ?_⟩
    · rw [h7, List.take_append_of_le_length (by simp [nums]), nums_append]
      exact List.take_of_length_le (by simp [nums])
    · rw [List.append_assoc, List.take_append_of_le_length (by rw [List.length_take]; omega), List.take_take]
      congr 1
      omega
/-- The library's rows of one's own. -/
theorem Own.of_owns {w : World} {base : Nat} {v : Value} {xs : List Int} (h : w.ownsRow base 5 1 v xs.length (nums .u8 xs)) : ∃ b, Own w v b xs ∧ v.ownBlock = b ∧ ∀ g, b = some g → base ≤ g := by
  obtain ⟨_, h0 | ⟨g, cap, cur, rfl, hb, hh, hn, hm, hs, ht⟩⟩ := h
  · obtain ⟨rfl, h1⟩ := h0
    exact ⟨none, .inl ⟨rfl, rfl, List.eq_nil_of_length_eq_zero h1⟩, rfl, fun g hg => by cases hg⟩
  · refine ⟨some g, .inr ⟨g, cap, cur.toList, rfl, rfl, hn, by rw [Array.length_toList, hs]; omega, by simpa [maxLen] using hm, by simpa using hh, ?_⟩, rfl, fun g' hg => by cases hg; exact hb⟩
    rw [Nat.mul_one] at ht
    exact ht
/-- A printed contract's row. -/
theorem Own.of_R {w : World} {base : Nat} {ok : Nat → Prop} {v : Value} {xs : List Int} (h : (Kd.int .u8).R 5 w base ok v xs) : ∃ b, Own w v b xs ∧ v.ownBlock = b ∧ ∀ g, b = some g → base ≤ g :=
  Own.of_owns (Kd.own_of_R (enc := Value.int .u8) (h1 := fun _ => rfl) h)
end Go.Proofs.YtbplffdmggbcdaaDoor.Keeps
