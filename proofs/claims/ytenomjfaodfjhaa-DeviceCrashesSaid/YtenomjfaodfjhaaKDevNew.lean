/- A new device. -/
import Derived.Test.YtenomjfaodfjhaaKDevFlush
namespace Go.Proofs.Ytenomjfaodfjhaa.Keeps
open Go.RowKit Go.Proofs.Ytenomjfaodfjhaa.PDeviceKeeps Go.Proofs.YtenomjfaodfjhaaW.PrintWords Go.Proofs.YtenomjfaodfjhaaW.PrintLast Go.Proofs.YtenomjfaodfjhaaW.PrintMore
set_option linter.unusedVariables false
set_option linter.unusedSimpArgs false
def flags0 : Flags := ⟨false, 0, false, 0⟩
def zeros (m : Nat) : List Int := List.replicate m 0
/-- A device in the making: i blocks have their bytes. -/
structure Making (w : World) (D C n Bk i : Nat) (av : Nat → Value) : Prop where
  head : w.heap[D]? = some (.cells (headOf Bk C n flags0) 60 (0, 0))
  cells : ∃ cc : Array Value, w.heap[C]? = some (.cells cc 62 (0, 0)) ∧ cc.size = n * 2 ∧ ∀ k, k < n → (k < i → cc[k * 2]? = some (av k)) ∧ cc[k * 2 + 1]? = some (.slice none 0 0)
  rows : ∀ k, k < i → ∃ g, Row w (av k) (some g) (zeros Bk) ∧ g ≠ D ∧ g ≠ C
  DC : D ≠ C
theorem Making.lt {w : World} {D C n Bk i : Nat} {av : Nat → Value} (H : Making w D C n Bk i av) : D < w.heap.size ∧ C < w.heap.size := by
  obtain ⟨cc, h, _⟩ := H.cells
  exact ⟨(Array.getElem?_eq_some_iff.1 H.head).1, (Array.getElem?_eq_some_iff.1 h).1⟩
theorem Making.done {w : World} {D C n Bk base : Nat} {av : Nat → Value} (H : Making w D C n Bk n av) (hD : base ≤ D) (hC : base ≤ C) (hn : n ≤ 4096) (hB : 0 < Bk ∧ Bk ≤ 4096) : Dev w base D C n Bk flags0 av (fun _ => .slice none 0 0) (fun _ => []) (fun _ => [zeros Bk]) := by
  have hm : ∀ g, Mut D C n (fun _ => .slice none 0 0) g → g = D ∨ g = C := by
    rintro g (e | e | ⟨k, _, e⟩)
    · exact .inl e
    · exact .inr e
    · cases e
  refine ⟨H.head, ?_, fun k _ => World.ownsRow_nil _ _ _ _, fun k _ => rfl, fun k hk j v hv => ?_, H.DC, fun k _ => ⟨by simp [Value.ownBlock], by simp [Value.ownBlock]⟩, fun k l _ _ _ g e => by simp [Value.ownBlock] at e, hD, hC, hn, hB⟩
  · obtain ⟨cc, h1, h2, h3⟩ := H.cells
    exact ⟨cc, h1, h2, fun k hk => ⟨(h3 k hk).1 hk, (h3 k hk).2⟩⟩
  · cases j with
    | zero =>
      simp only [List.getElem?_cons_zero, Option.some.injEq] at hv
      subst hv
      obtain ⟨g, h1, h2, h3⟩ := H.rows k hk
      exact ⟨g, zeros Bk, rfl, by simp [zeros], h1, fun hmg => by rcases hm g hmg with e | e <;> contradiction⟩
    | succ j => simp at hv
/-- The next block has its bytes. -/
theorem Making.step {w W : World} {D C n Bk i : Nat} {av : Nat → Value} (H : Making w D C n Bk i av) (hi : i < n) (hb : Below w.heap.size w W) {v : Value} {g : Nat} (hr : Row W v (some g) (zeros Bk)) (hg : w.heap.size ≤ g) :
    Making (W.setCell ⟨C, i * 2, none⟩ v) D C n Bk (i + 1) (upd av i v) := by
  obtain ⟨hD, hC⟩ := H.lt
  have far : ∀ q, q ≠ C → (W.setCell ⟨C, i * 2, none⟩ v).heap[q]? = W.heap[q]? := fun q hq => Below.heap_setCell _ _ _ _ hq
  obtain ⟨cc, h1, h2, h3⟩ := H.cells
  have h1' : W.heap[C]? = some (.cells cc.toList.toArray 62 (0, 0)) := by rw [show cc.toList.toArray = cc by simp, hb.block C hC]; exact h1
  have hsz : cc.toList.length = n * 2 := by simp [h2]
  refine ⟨by rw [far D H.DC, hb.block D hD]; exact H.head, ⟨(cc.toList.set (i * 2) v).toArray, ?_, by simp; exact h2, fun k hk => ⟨fun hk1 => ?_, ?_⟩⟩, fun k hk => ?_, H.DC⟩
  · rw [setCell_eq_setRow W C _ _ 62 (0, 0) _ h1', setRow_heap W C _ _ 62 (0, 0) h1']
    simp only [List.setIfInBounds_toArray]
  · rw [List.getElem?_toArray, List.getElem?_set]
    by_cases e : k = i
    · subst e; rw [if_pos rfl, if_pos (by omega), upd_same]
    · rw [if_neg (by omega), upd_other _ _ e]; simpa using (h3 k hk).1 (by omega)
  · rw [List.getElem?_toArray, List.getElem?_set, if_neg (by omega)]; simpa using (h3 k hk).2
  · by_cases e : k = i
    · subst e
      rw [upd_same]
      exact ⟨g, hr.keep fun q hq => by cases hq; exact far g (by omega), by omega, by omega⟩
    · rw [upd_other _ _ e]
      obtain ⟨g0, q1, q2, q3⟩ := H.rows k (by omega)
      exact ⟨g0, q1.keep fun q hq => by cases hq; rw [far g0 q3, hb.block g0 (q1.lt g0 rfl)], q2, q3⟩
theorem row_made (W : World) (m : Nat) (hm : m ≤ 9223372036854775807) : Row (W.alloc (.cells (madeCells #[.int .u8 0] m) 5)) (.slice (some ⟨W.heap.size, 0, none⟩) m m) (some W.heap.size) (zeros m) := by
  refine .inr ⟨W.heap.size, m, _, by simp [zeros], rfl, by simp [zeros], by unfold maxLen; omega, blk_new W _, ?_, ?_⟩
  · rw [made_eq]; simp [nums]
  · rw [made_eq]
    show (nums .u8 (List.replicate m 0)).take (zeros m).length = _
    rw [List.take_of_length_le (by simp [nums, zeros])]
    rfl
theorem infoCell : ∃ i, Try.prog.info? 62 = some i ∧ i.zero = some (.agg #[.slice none 0 0, .slice none 0 0]) ∧ i.size = 2 ∧ i.bytes = 48 := by
  obtain ⟨i, hi, h3⟩ := Option.map_eq_some_iff.1 (show (Try.prog.info? 62).map (fun i => (i.zero, i.size, i.bytes)) = some (some (.agg #[.slice none 0 0, .slice none 0 0]), 2, 48) by kernel_rfl)
  simp only [Prod.mk.injEq] at h3
  exact ⟨i, hi, h3⟩
theorem make_cells (n : Nat) (hn : n ≤ 4096) (W : World) : (Instr.makeSlice 58 (.int .i64 (n : Int)) (.int .i64 (n : Int))).run Try.prog W = .ok (.slice (some ⟨W.heap.size, 0, none⟩) n n) (W.alloc (.cells (madeCells #[.slice none 0 0, .slice none 0 0] (n * 2)) 62)) := by
  obtain ⟨i, hi, hz, hs, hb⟩ := infoCell
  have := run_make (P := Try.prog) W 58 62 i (.agg #[.slice none 0 0, .slice none 0 0]) Try.underlying58 hi hz .i64 .i64 n n (by omega) (by omega) (by rw [hb]; omega) (by omega)
  rw [this, hs]
  simp [Value.cells]
theorem make_bytes (n : Nat) (hn : n ≤ 4096) (W : World) : (Instr.makeSlice 29 (.int .i64 (n : Int)) (.int .i64 (n : Int))).run Try.prog W = .ok (.slice (some ⟨W.heap.size, 0, none⟩) n n) (W.alloc (.cells (madeCells #[.int .u8 0] n) 5)) := by
  obtain ⟨i, hi, h3⟩ := Option.map_eq_some_iff.1 info5
  simp only [Prod.mk.injEq] at h3
  obtain ⟨hz, hs, hb⟩ := h3
  have := run_make (P := Try.prog) W 29 5 i (.int .u8 0) Try.underlying29 hi hz .i64 .i64 n n (by omega) (by omega) (by rw [hb]; omega) (by omega)
  rw [this, hs]
  simp [Value.cells]
theorem made2_at (n k : Nat) (h : k < n) : (madeCells #[Value.slice none 0 0, .slice none 0 0] n)[k]? = some (.slice none 0 0) := by
  unfold madeCells
  rw [Array.getElem?_map, Array.getElem?_range, if_pos h]
  simp only [Option.map_some, Option.some.injEq]
  have h2 : k % 2 < 2 := Nat.mod_lt _ (by omega)
  rcases (by omega : k % 2 = 0 ∨ k % 2 = 1) with e | e <;> simp [e]
theorem make_start (W : World) (n Bk : Nat) (hn : n ≤ 4096) :
    Making ((W.alloc (.cells (madeCells #[.slice none 0 0, .slice none 0 0] (n * 2)) 62)).alloc (.cells (headOf Bk W.heap.size n flags0) 60)) (W.heap.size + 1) W.heap.size n Bk 0 (fun _ => .slice none 0 0) := by
  refine ⟨?_, ⟨_, ?_, size_madeCells _ _, fun k hk => ⟨fun h => by omega, made2_at _ _ (by omega)⟩⟩, fun k h => by omega, by omega⟩
  · have := blk_new (W.alloc (.cells (madeCells #[.slice none 0 0, .slice none 0 0] (n * 2)) 62)) (.cells (headOf Bk W.heap.size n flags0) 60)
    simpa using this
  · rw [Below.heap_alloc _ _ _ (by simp)]
    exact blk_new W _
def new.T9 : Bool × List (List Nat × List Nat) := (true, [([], []), ([0], [0]), ([1], [1]), ([2], [2]), ([], []), ([], []), ([5, 5], [5]), ([3, 4, 0, 1, 2, 3, 4, 5, 6], [3, 4]), ([7, 0, 1, 2, 3, 4, 5, 6], [7]), ([8, 6, 0, 1, 2, 3, 4, 5, 6], [6, 8])])
def new.B9 : List Nat := [0, 1, 3, 7, 0, 0, 32, 127, 255, 511]
theorem new.tab9 : rtab .any (opsOf Try.f10 9) = new.T9 := by kernel_rfl
theorem new.bits9 : waitsOk new.T9.2 new.B9 = true := by kernel_rfl
set_option maxHeartbeats 8000000 in
set_option maxRecDepth 100000 in
theorem new_strong (w : World) (n : Nat) (h1 : 1 ≤ n) (hn : n ≤ 4096) :
    Calls Try.prog 10 #[.int .i64 64, .int .i64 (n : Int)] w fun e w' => ∃ D C av, e = .returned (.tuple #[.pointer (some ⟨D, 0, none⟩), .int .i64 0]) ∧ Dev w' w.heap.size D C n 64 flags0 av (fun _ => .slice none 0 0) (fun _ => []) (fun _ => [zeros 64]) ∧ Below w.heap.size w w' ∧ ∀ k, k < n → ∀ g, (av k).ownBlock = some g → w.heap.size ≤ g := by
  have hmk := make_cells n hn
  have d0 : decide ((n : Int) < 1) = false := decide_eq_false (by omega)
  have d1 : decide ((4096 : Int) < (n : Int)) = false := decide_eq_false (by omega)
  have hw : IntKind.i64.wrap (64 * (n : Int)) = 64 * (n : Int) := by rw [IntKind.wrap_i64]; omega
  have d2 : decide ((1048576 : Int) < 64 * (n : Int)) = false := decide_eq_false (by omega)
  have hand : Go.bits .and .i64 64 63 = 0 := by decide +kernel
  have HM := Aside0.mk (make_start w n 64 hn)
  have HB := Aside0.mk (((Below.refl w.heap.size w).alloc (Nat.le_refl _) (.cells (madeCells #[.slice none 0 0, .slice none 0 0] (n * 2)) 62)).alloc (by simp) (.cells (headOf 64 w.heap.size n flags0) 60))
  have hhd := Aside0.mk ((blk_cell HM.out.head 1).trans rfl)
  have hmb : ∀ W, (Instr.makeSlice 29 (.int .i64 64) (.int .i64 64)).run Try.prog W = .ok (.slice (some ⟨W.heap.size, 0, none⟩) 64 64) (W.alloc (.cells (madeCells #[.int .u8 0] 64) 5)) := fun W => make_bytes 64 (by omega) W
  obtain ⟨C, hC⟩ : ∃ C, w.heap.size = C := ⟨_, rfl⟩
  rw [hC] at HM HB ⊢
  clear hhd
  go_enter Try.func10, Try.ntmps10
  have hc1 := (blk_cell HM.out.head 1).trans rfl
  go_wp2_with fail
  clear hc1 hmk d0 d1 d2 hw hand
  go_loopg [45] n (fun kq v45 w' => ∃ i : Nat, v45 = .int .i64 (i : Int) ∧ i ≤ n ∧ n - i ≤ kq ∧ Aside0 (∃ av, Making w' (C + 1) C n 64 i av ∧ ∀ k, k < i → ∀ g, (av k).ownBlock = some g → C ≤ g) ∧ Aside0 (Below C w w'))
  case atStart => exact ⟨0, rfl, by omega, by omega, ⟨_, HM.out, fun k h => by omega⟩, HB⟩
  case round =>
    obtain ⟨i, rfl, hi, hk, HJ, HB1⟩ := hrel
    by_cases hlt : i < n
    · cases gk with
      | zero => omega
      | succ k1 =>
        obtain ⟨av1, hJ, hlow⟩ := HJ.out
        have HLow := Aside0.mk hlow
        have d0 : decide ((i : Int) < (n : Int)) = true := decide_eq_true (by omega)
        have p0 : (0 : Int) ≤ (i : Int) := by omega
        have p1 : (i : Int) < (n : Int) := by omega
        have hc1 : wr.cell? ⟨C + 1, 1, none⟩ = some (.slice (some ⟨C, 0, none⟩) n n) := (blk_cell hJ.head 1).trans rfl
        have HK := Aside0.mk hJ
        have HI := Aside0.mk hlt
        clear hJ HJ hlow
        go_wp2
        refine start_ (n := 10) (S := (fun w' => w'.cell? ⟨C + 1, 1, none⟩ = some (.slice (some ⟨C, 0, none⟩) n n))) (ds := [9]) #[false, false, false, false, false, false, false, false, false, false] (by kernel_rfl) rfl rfl hc1 (fun hHeld => ?_); refine with_tabW new.tab9 new.bits9 (fun HT_ HW_ => ?_)
        refine pure_ (i := 0) (N := (some 48)) (v := ?_) (a' := ?_) #[true, false, false, false, false, false, false, false, false, false] rfl rfl (any_of HT_.out (by kernel_rfl)) (fun _ _ _ h => h) (Or.inl ⟨by rfl, ?_⟩) ?_ ?_
        rotate_left
        · intro w'
          go_simp
          with_reducible rfl
        rotate_left
        · simp only [Act.put, List.setIfInBounds_toArray, List.set_cons_zero, List.set_cons_succ, i64_w, i32_w]
          rfl
        refine pure_ (i := 1) (N := (some 49)) (v := ?_) (a' := ?_) #[true, true, false, false, false, false, false, false, false, false] rfl rfl (any_of HT_.out (by kernel_rfl)) (fun _ _ _ h => h) (Or.inl ⟨by rfl, ?_⟩) ?_ ?_
        rotate_left
        · intro w'
          go_simp
          with_reducible rfl
        rotate_left
        · simp only [Act.put, List.setIfInBounds_toArray, List.set_cons_zero, List.set_cons_succ, i64_w, i32_w]
          rfl
        refine pure_ (i := 2) (N := (some 50)) (v := ?_) (a' := ?_) #[true, true, true, false, false, false, false, false, false, false] rfl rfl (any_of HT_.out (by kernel_rfl)) (fun _ _ _ h => h) (Or.inl ⟨by rfl, ?_⟩) ?_ ?_
        rotate_left
        · intro w'
          go_simp
          with_reducible rfl
        rotate_left
        · simp only [Act.put, List.setIfInBounds_toArray, List.set_cons_zero, List.set_cons_succ, i64_w, i32_w]
          rfl
        refine take_ (i := 3) (N := (some 51)) (v := ?_) (a' := ?_) #[true, true, true, true, false, false, false, false, false, false] rfl rfl (take_ofW HT_.out HW_.out (by kernel_rfl)) (fun _ _ _ h => h) (Or.inl ⟨by rfl, ?_⟩) hHeld ?_ ?_
        rotate_left
        · rintro w' s0
          go_simp
          with_reducible rfl
        rotate_left
        · simp only [Act.put, List.setIfInBounds_toArray, List.set_cons_zero, List.set_cons_succ, i64_w, i32_w]
          rfl
        refine pure_ (i := 4) (N := (some 52)) (v := ?_) (a' := ?_) #[true, true, true, true, true, false, false, false, false, false] rfl rfl (any_of HT_.out (by kernel_rfl)) (fun _ _ _ h => h) (Or.inl ⟨by rfl, ?_⟩) ?_ ?_
        rotate_left
        · intro w'
          go_simp
          with_reducible rfl
        rotate_left
        · simp only [Act.put, List.setIfInBounds_toArray, List.set_cons_zero, List.set_cons_succ, i64_w, i32_w]
          rfl
        refine pure_ (i := 5) (N := (some 53)) (v := ?_) (a' := ?_) #[true, true, true, true, true, true, false, false, false, false] rfl rfl (any_of HT_.out (by kernel_rfl)) (fun _ _ _ h => h) (Or.inl ⟨by rfl, ?_⟩) ?_ ?_
        rotate_left
        · intro w'
          go_simp
          with_reducible rfl
        rotate_left
        · simp only [Act.put, List.setIfInBounds_toArray, List.set_cons_zero, List.set_cons_succ, i64_w, i32_w]
          rfl
        refine one_ (i := 6) (N := (some 54)) #[true, true, true, true, true, true, true, false, false, false] rfl rfl (one_of HT_.out (by kernel_rfl)) (by decide) (fun K hK => ?_)
        refine value_ (w1 := wr.drew.alloc (.cells (madeCells #[.int .u8 0] 64) 5)) (v := .slice (some ⟨wr.heap.size, 0, none⟩) 64 64) (by rfl) rfl (by go_simp) ?_
        have HRow := Aside0.mk (row_made wr.drew 64 (by omega))
        have HB2 := Aside0.mk (below_alloc (Below.drew (Below.refl wr.heap.size wr)) (.cells (madeCells #[.int .u8 0] 64) 5))
        obtain ⟨h2, hh2⟩ : ∃ h2, wr.heap.size = h2 := ⟨_, rfl⟩
        have HH2 := Aside0.mk hh2
        rw [show wr.drew.heap.size = wr.heap.size from rfl] at HRow
        rw [hh2] at HRow ⊢
        generalize wr.drew.alloc (.cells (madeCells #[.int .u8 0] 64) 5) = W2 at HRow HB2 ⊢
        have HS := Aside0.mk (HK.out.step HI.out HB2.out HRow.out (by rw [HH2.out]; exact Nat.le_refl _))
        have HB3 : Aside0 (Below C w (W2.setCell ⟨C, i * 2, none⟩ (.slice (some ⟨h2, 0, none⟩) 64 64))) := ⟨(HB1.out.trans (HB2.out.mono (by have := HK.out.lt.2; omega))).setCell (Nat.le_refl _) _⟩
        have hcW : W2.cell? ⟨C + 1, 1, none⟩ = some (.slice (some ⟨C, 0, none⟩) n n) := by
          have := HK.out.lt.1
          exact (World.cell?_of_block (w := wr) (HB2.out.block _ this)).trans hc1
        have hfC : W2.frozen? ⟨C, i * 2, none⟩ = false ∧ ∃ u, W2.cell? ⟨C, i * 2, none⟩ = some u := by
          obtain ⟨cc, q1, q2, _⟩ := HK.out.cells
          have hl : i * 2 < cc.size := by have := HI.out; omega
          have q : W2.heap[C]? = some (.cells cc 62 (0, 0)) := by rw [HB2.out.block C HK.out.lt.2]; exact q1
          exact ⟨blk_frozen q _, cc[i * 2], (blk_cell q _).trans (Array.getElem?_eq_getElem hl)⟩
        obtain ⟨hfC, uC, hcC⟩ := hfC
        clear hHeld hh2
        refine hK.out _ _ hcW (fun hHeld => ?_)
        clear hK K
        refine norm_ (a' := ?_) ?_ ?_
        rotate_left
        · show Act.put _ (some 54) _ = _
          simp only [Act.put, List.setIfInBounds_toArray, List.set_cons_zero, List.set_cons_succ, i64_w, i32_w]
          rfl
        refine pure_ (i := 7) (N := (some 55)) (v := ?_) (a' := ?_) #[true, true, true, true, true, true, true, true, false, false] rfl rfl (any_of HT_.out (by kernel_rfl)) (fun _ _ _ h => h) (Or.inl ⟨by rfl, ?_⟩) ?_ ?_
        rotate_left
        · intro w'
          go_simp
          with_reducible rfl
        rotate_left
        · simp only [Act.put, List.setIfInBounds_toArray, List.set_cons_zero, List.set_cons_succ, i64_w, i32_w]
          rfl
        refine pure_ (i := 8) (N := (some 56)) (v := ?_) (a' := ?_) #[true, true, true, true, true, true, true, true, true, false] rfl rfl (any_of HT_.out (by kernel_rfl)) (fun _ _ _ h => h) (Or.inl ⟨by rfl, ?_⟩) ?_ ?_
        rotate_left
        · intro w'
          go_simp
          with_reducible rfl
        rotate_left
        · simp only [Act.put, List.setIfInBounds_toArray, List.set_cons_zero, List.set_cons_succ, i64_w, i32_w]
          rfl
        refine last_ (i := 9) (N := none) #[true, true, true, true, true, true, true, true, true, true] rfl rfl (one_of HT_.out (by kernel_rfl)) (by decide) (fun K hK => ?_)
        refine skip_ (w1 := ?_) (by rfl) rfl ?_ ?_
        rotate_left
        · go_simp
          rfl
        refine hK.out _ _ ?_
        clear hK K
        refine done_ (done_of HT_.out (by kernel_rfl)) ?_
        go_wp2
        go_roundg k1
        case measure => omega
        case rel => exact ⟨i + 1, by go_num, by omega, by omega, ⟨_, HS.out, fun k hk g e => by
          by_cases h : k = i
          · subst h; rw [upd_same] at e; have e' : h2 = g := Option.some.inj e; have := HK.out.lt.2; have := HH2.out; omega
          · rw [upd_other _ _ h] at e; exact HLow.out k (by omega) g e⟩, HB3⟩
    · obtain rfl : i = n := by omega
      have d0 : decide ((i : Int) < (i : Int)) = false := decide_eq_false (by omega)
      obtain ⟨av1, hJ, hlow⟩ := HJ.out
      have HLow := Aside0.mk hlow
      have HD := Aside0.mk (hJ.done (base := C) (by omega) (Nat.le_refl _) hn (by omega))
      clear hJ HJ hlow
      go_wp2
      go_ret2
      exact ⟨_, _, _, rfl, HD.out, HB1.out, HLow.out⟩
theorem new_calls (w : World) (n : Nat) (h1 : 1 ≤ n) (hn : n ≤ 4096) :
    Calls Try.prog 10 #[.int .i64 64, .int .i64 (n : Int)] w fun e w' => ∃ D C av, e = .returned (.tuple #[.pointer (some ⟨D, 0, none⟩), .int .i64 0]) ∧ Dev w' w.heap.size D C n 64 flags0 av (fun _ => .slice none 0 0) (fun _ => []) (fun _ => [zeros 64]) ∧ Below w.heap.size w w' :=
  (new_strong w n h1 hn).mono fun _ _ ⟨D, C, av, h, h1, h2, _⟩ => ⟨D, C, av, h, h1, h2⟩
end Go.Proofs.Ytenomjfaodfjhaa.Keeps
