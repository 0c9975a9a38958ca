/- skerryref01.Kept: its contract, of a copy that Roomy made and nobody wrote. -/
import Derived.Test.YtkfeigigjilaiaaDoorKRoomy
import Derived.Test.YtkfeigigjilaiaaDoorWTab
namespace Go.Proofs.YtkfeigigjilaiaaDoor.Keeps
open Go.RowKit Go.Proofs.YtkfeigigjilaiaaDoorW.PrintWords Go.Proofs.YtkfeigigjilaiaaDoorW.PrintLast Go.Proofs.YtkfeigigjilaiaaDoorW.PrintMore
set_option linter.unusedVariables false
set_option linter.unusedSimpArgs false
theorem cut_to (A : Option Addr) (n c m : Nat) (h : n ≤ m) (W : World) : (Instr.slice 22 (.slice A c m) none (some (.int .i64 (n : Int))) none).run Tryd.prog W = .ok (.slice A n m) W := by
  obtain ⟨i, hi, h3⟩ := Option.map_eq_some_iff.1 info5
  simp only [Prod.mk.injEq] at h3
  obtain ⟨hz, hs, hb⟩ := h3
  have hel : Tryd.prog.elem 22 = 5 := by simp [Program.elem, Tryd.underlying22]
  have hu : Tryd.prog.underlying 22 = some (.slice (Tryd.prog.elem 22)) := by rw [hel]; exact Tryd.underlying22
  have ha : (A.map fun x => x.add 0) = A := by cases A <;> simp [Addr.add]
  rw [run_slice_h W 22 A c m hu .i64 n (by omega) (by omega), hel]
  simp [sizeOf, typeInfo, hi, hs, sliced, Result.andThen, ha]
theorem row_int {w : World} {A : Option Addr} {xs : List Int} (h : ReadsInt w .u8 A xs.length xs) : (Kd.int .u8).C w A xs.length xs := Kd.C_of_reads (d := (0 : Int)) (h1 := fun _ => rfl) (readsInt_of.1 h)
theorem fill_at (l : List Int) (i : Nat) (h : l.length ≤ i) (h' : i < l.length + 4) : (nums .u8 (fill l (l.length + 4)))[i]? = some (.int .u8 165) := by
  simp only [nums, fill, List.getElem?_map]
  rw [List.getElem?_append_left (by simp; omega), List.getElem?_append_right h, List.getElem?_replicate, if_pos (by omega)]
  rfl
theorem reads_fill {w : World} {g : Nat} {l : List Int} (hg : w.heap[g]? = some (.cells (nums .u8 (fill l (l.length + 4))).toArray 5 (0, 0))) (hl : l.length ≤ 9223372036854775807) : ReadsInt w .u8 (some ⟨g, 0, none⟩) l.length l := by
  refine ⟨rfl, hl, fun _ => ⟨_, rfl, fun j hj => ?_⟩⟩
  have ha : (⟨g, 0, none⟩ : Addr).add j = ⟨g, j, none⟩ := by unfold Addr.add; split <;> simp_all
  rw [ha, blk_cell hg j]
  simp only [nums, fill, List.getElem?_toArray, List.getElem?_map]
  rw [List.append_assoc, List.getElem?_append_left hj, List.getD_eq_getElem?_getD, List.getElem?_eq_getElem hj]
  rfl
def kept.T7 : Bool × List (List Nat × List Nat) := (true, [([], []), ([], []), ([1], [1]), ([0, 2], [0, 2]), ([3], [3]), ([], []), ([5], [5]), ([4, 6], [4, 6]), ([7, 0, 1, 2, 3, 4, 5, 6, 7], [7])])
def kept.B7 : List Nat := [0, 0, 2, 7, 15, 0, 32, 127, 255]
theorem kept.tab7 : rtab .any (opsOf Tryd.f13 7) = kept.T7 := by kernel_rfl
theorem kept.bits7 : waitsOk kept.T7.2 kept.B7 = true := by kernel_rfl
set_option maxHeartbeats 4000000 in
set_option maxRecDepth 100000 in
theorem kept_calls (g : Nat) (A : Option Addr) (c : Nat) (l : List Int) (w : World) (hg : w.heap[g]? = some (.cells (nums .u8 (fill l (l.length + 4))).toArray 5 (0, 0))) (hr : ReadsInt w .u8 A l.length l) (hl : l.length ≤ 281474976710000) :
    Calls Tryd.prog 13 #[.slice (some ⟨g, 0, none⟩) l.length (l.length + 4), .slice A l.length c] w fun e w' => e = .returned (.bool true) ∧ Drawn0 w w' := by
  have HG := Aside0.mk hg
  have hat := fun i h h' => (blk_cell hg i).trans (List.getElem?_toArray.trans (fill_at l i h h'))
  have HRA := Aside0.mk hr
  have HRG := Aside0.mk (fun k => reads_fill (w := w.drewN k) hg (by omega))
  clear hg hr
  obtain ⟨m, hm⟩ : ∃ m, l.length + 4 = m := ⟨_, rfl⟩
  have hw4 : IntKind.i64.wrap ((l.length : Int) + 4) = (m : Int) := by rw [IntKind.wrap_i64]; omega
  rw [hm] at HG hat ⊢
  have hcut := fun A => cut_room A l.length m
  have hcut2 := fun A => cut_to A l.length m m (by omega)
  go_enter Tryd.func13, Tryd.ntmps13
  go_wp2
  repeat (go_quiet (fail); try go_wp2)
  go_loopg [6] 4 (fun kq v6 w' => ∃ i : Nat, v6 = .int .i64 (i : Int) ∧ l.length ≤ i ∧ i ≤ m ∧ m - i ≤ kq ∧ Drawn0 w w')
  case atStart => exact ⟨l.length, rfl, Nat.le_refl _, by omega, by omega, by repeat (first | exact Drawn0.refl _ | apply Drawn0.step)⟩
  case round =>
    obtain ⟨i, rfl, hi1, hi2, hk, ⟨m1, rfl⟩⟩ := hrel
    by_cases hlt : i < m
    · have d0 : decide ((i : Int) < (m : Int)) = true := decide_eq_true (by omega)
      have p0 : (0 : Int) ≤ (i : Int) := by omega
      have q0 : (i : Int) < (m : Int) := by omega
      have hc0 := hat i hi1 hlt
      cases gk with
      | zero => omega
      | succ k1 =>
        clear hcut hcut2 hat
        go_wp2
        repeat (go_quiet (fail); try go_wp2)
        go_roundg k1
        case measure => omega
        case rel => exact ⟨i + 1, rfl, by omega, by omega, by omega, by repeat (first | exact Drawn0.refl _ | apply Drawn0.step)⟩
    · have d0 : decide ((i : Int) < (m : Int)) = false := decide_eq_false (by omega)
      obtain rfl : i = m := by omega
      clear hat
      go_wp2
      -- GENBEG
      refine start_ (n := 9) (S := (fun w' => ReadsInt w' .u8 (some ⟨g, 0, none⟩) l.length l ∧ ReadsInt w' .u8 A l.length l)) (ds := []) #[false, false, false, false, false, false, false, false, false] (by kernel_rfl) rfl rfl ⟨HRG.out m1, (show ReadsInt (w.drewN m1) .u8 A l.length l from HRA.out)⟩ (fun hHeld => ?_); refine with_tabW kept.tab7 kept.bits7 (fun HT_ HW_ => ?_)
      refine pure_ (i := 0) (N := (some 25)) (v := ?_) (a' := ?_) #[true, false, false, false, false, false, false, false, false] rfl rfl (any_of HT_.out (by kernel_rfl)) (fun _ _ _ h => h) (Or.inl ⟨by rfl, ?_⟩) ?_ ?_
      rotate_left
      · intro w'
        go_simp
        with_reducible rfl
      rotate_left
      · simp only [Act.put, List.setIfInBounds_toArray, List.set_cons_zero, List.set_cons_succ, i64_w, i32_w]
        rfl
      refine pure_ (i := 1) (N := (some 26)) (v := ?_) (a' := ?_) #[true, true, false, false, false, false, false, false, false] rfl rfl (any_of HT_.out (by kernel_rfl)) (fun _ _ _ h => h) (Or.inl ⟨by rfl, ?_⟩) ?_ ?_
      rotate_left
      · intro w'
        go_simp
        with_reducible rfl
      rotate_left
      · simp only [Act.put, List.setIfInBounds_toArray, List.set_cons_zero, List.set_cons_succ, i64_w, i32_w]
        rfl
      refine pure_ (i := 2) (N := (some 27)) (v := ?_) (a' := ?_) #[true, true, true, false, false, false, false, false, false] rfl rfl (any_of HT_.out (by kernel_rfl)) (fun _ _ _ h => h) (Or.inl ⟨by rfl, ?_⟩) ?_ ?_
      rotate_left
      · intro w'
        go_simp
        with_reducible rfl
      rotate_left
      · simp only [Act.put, List.setIfInBounds_toArray, List.set_cons_zero, List.set_cons_succ, i64_w, i32_w]
        rfl
      refine pure_ (i := 3) (N := (some 28)) (v := ?_) (a' := ?_) #[true, true, true, true, false, false, false, false, false] rfl rfl (any_of HT_.out (by kernel_rfl)) (fun _ _ _ h => h) (Or.inl ⟨by rfl, ?_⟩) ?_ ?_
      rotate_left
      · intro w'
        go_simp
        with_reducible rfl
      rotate_left
      · simp only [Act.put, List.setIfInBounds_toArray, List.set_cons_zero, List.set_cons_succ, i64_w, i32_w]
        rfl
      refine take_ (i := 4) (N := (some 29)) (v := ?_) (a' := ?_) #[true, true, true, true, true, false, false, false, false] rfl rfl (take_ofW HT_.out HW_.out (by kernel_rfl)) (fun _ _ _ h => h) (Or.inl ⟨by rfl, ?_⟩) hHeld ?_ ?_
      rotate_left
      · rintro w' ⟨s0, s1⟩
        have hcv := Kd.C_string (P := Tryd.prog) (w := w') (A := some ⟨g, 0, none⟩) (c := i) Tryd.underlying22 Tryd.underlying5 Tryd.underlying9 (row_int s0)
        go_simp
        with_reducible rfl
      rotate_left
      · simp only [Act.put, List.setIfInBounds_toArray, List.set_cons_zero, List.set_cons_succ, i64_w, i32_w]
        rfl
      refine pure_ (i := 5) (N := (some 30)) (v := ?_) (a' := ?_) #[true, true, true, true, true, true, false, false, false] rfl rfl (any_of HT_.out (by kernel_rfl)) (fun _ _ _ h => h) (Or.inl ⟨by rfl, ?_⟩) ?_ ?_
      rotate_left
      · intro w'
        go_simp
        with_reducible rfl
      rotate_left
      · simp only [Act.put, List.setIfInBounds_toArray, List.set_cons_zero, List.set_cons_succ, i64_w, i32_w]
        rfl
      refine take_ (i := 6) (N := (some 31)) (v := ?_) (a' := ?_) #[true, true, true, true, true, true, true, false, false] rfl rfl (take_ofW HT_.out HW_.out (by kernel_rfl)) (fun _ _ _ h => h) (Or.inl ⟨by rfl, ?_⟩) hHeld ?_ ?_
      rotate_left
      · rintro w' ⟨s0, s1⟩
        have hcv := Kd.C_string (P := Tryd.prog) (w := w') (A := A) (c := c) Tryd.underlying22 Tryd.underlying5 Tryd.underlying9 (row_int s1)
        go_simp
        with_reducible rfl
      rotate_left
      · simp only [Act.put, List.setIfInBounds_toArray, List.set_cons_zero, List.set_cons_succ, i64_w, i32_w]
        rfl
      refine pure_ (i := 7) (N := (some 32)) (v := ?_) (a' := ?_) #[true, true, true, true, true, true, true, true, false] rfl rfl (any_of HT_.out (by kernel_rfl)) (fun _ _ _ h => h) (Or.inl ⟨by rfl, ?_⟩) ?_ ?_
      rotate_left
      · intro w'
        go_simp
        with_reducible rfl
      rotate_left
      · simp only [Act.put, List.setIfInBounds_toArray, List.set_cons_zero, List.set_cons_succ, i64_w, i32_w]
        rfl
      refine pure_ (i := 8) (N := (some 4)) (v := ?_) (a' := ?_) #[true, true, true, true, true, true, true, true, true] rfl rfl (any_of HT_.out (by kernel_rfl)) (fun _ _ _ h => h) (Or.inl ⟨by rfl, ?_⟩) ?_ ?_
      rotate_left
      · intro w'
        go_simp
        with_reducible rfl
      rotate_left
      · simp only [Act.put, List.setIfInBounds_toArray, List.set_cons_zero, List.set_cons_succ, i64_w, i32_w]
        rfl
      refine done_ (done_of HT_.out (by kernel_rfl)) ?_
      -- GENEND

      go_wp2
      go_ret

      exact ⟨by first | rfl | (simp; done), by repeat (first | exact Drawn0.refl _ | apply Drawn0.step)⟩
end Go.Proofs.YtkfeigigjilaiaaDoor.Keeps
