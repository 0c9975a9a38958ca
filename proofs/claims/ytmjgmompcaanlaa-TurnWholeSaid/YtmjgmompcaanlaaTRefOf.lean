/- The reference's spectrum of bytes: a contract. -/
import Derived.Test.YtmjgmompcaanlaaTRef
namespace Go.Proofs.Ytmjgmompcaanlaa.Turn
open Go.RowKit Go.Proofs.Ytmjgmompcaanlaa.PlainFloat Go.Proofs.YtmjgmompcaanlaaW.PrintWords
set_option linter.unusedVariables false
set_option linter.unusedSimpArgs false
attribute [local go_sem] run_store_complex
/-- The sum of the numbers at places r, r + 4, .. among the first j. -/
def sm (l : List Int) (r : Nat) : Nat → Int
  | 0 => 0
  | j + 1 => sm l r j + (if j % 4 = r then rd l (j : Int) else 0)
theorem frfi (l : List Int) (j : Nat) : (fr l 0 j = sm l 0 j + sm l 1 j + sm l 2 j + sm l 3 j ∧ fi l 0 j = 0) ∧ (fr l 1 j = sm l 0 j - sm l 2 j ∧ fi l 1 j = sm l 1 j - sm l 3 j) ∧ (fr l 2 j = sm l 0 j + sm l 2 j - sm l 1 j - sm l 3 j ∧ fi l 2 j = 0) ∧ (fr l 3 j = sm l 0 j - sm l 2 j ∧ fi l 3 j = sm l 3 j - sm l 1 j) := by
  induction j with
  | zero => simp [fr, fi, sm]
  | succ j ih =>
    obtain ⟨⟨a0, b0⟩, ⟨a1, b1⟩, ⟨a2, b2⟩, ⟨a3, b3⟩⟩ := ih
    have h : j % 4 = 0 ∨ j % 4 = 1 ∨ j % 4 = 2 ∨ j % 4 = 3 := by omega
    simp only [fr, fi, sm, a0, b0, a1, b1, a2, b2, a3, b3]
    rcases h with h | h | h | h
    · have hz : (j : Int) % 4 = 0 := by omega
      simp [h, hz, pr, pi]
      omega
    · have hz : (j : Int) % 4 = 1 := by omega
      simp [h, hz, pr, pi]
      omega
    · have hz : (j : Int) % 4 = 2 := by omega
      simp [h, hz, pr, pi]
      omega
    · have hz : (j : Int) % 4 = 3 := by omega
      simp [h, hz, pr, pi]
      omega
theorem fr_is (l : List Int) (j q : Nat) (hq : q < 4) : fr l q j = mx (sm l 0 j) (sm l 1 j) (sm l 2 j) (sm l 3 j) q ∧ fi l q j = my (sm l 0 j) (sm l 1 j) (sm l 2 j) (sm l 3 j) q := by
  have h := frfi l j
  match q, hq with
  | 0, _ => exact h.1
  | 1, _ => exact h.2.1
  | 2, _ => exact h.2.2.1
  | 3, _ => exact h.2.2.2
theorem sm_range {l : List Int} (h : ByteList l) (r j : Nat) : 0 ≤ sm l r j ∧ sm l r j ≤ 255 * j := by
  induction j with
  | zero => simp [sm]
  | succ j ih =>
    have := h j
    simp only [sm]
    split <;> omega
/-- Four whole numbers in a block. -/
def HoldsI (t : TypeId) (W : World) (g : Nat) (x : Nat → Int) : Prop := ∃ s0 s1 s2 s3, W.heap[g]? = some (.cells #[.int .i64 s0, .int .i64 s1, .int .i64 s2, .int .i64 s3] t (0, 0)) ∧ x 0 = s0 ∧ x 1 = s1 ∧ x 2 = s2 ∧ x 3 = s3
theorem HoldsI.cell {t : TypeId} {W : World} {g : Nat} {x : Nat → Int} (h : HoldsI t W g x) {q : Nat} (hq : q < 4) : W.cell? ⟨g, q, none⟩ = some (.int .i64 (x q)) ∧ W.frozen? ⟨g, q, none⟩ = false := by
  obtain ⟨s0, s1, s2, s3, hb, e0, e1, e2, e3⟩ := h
  refine ⟨(blk_cell hb q).trans ?_, blk_frozen hb q⟩
  match q, hq with
  | 0, _ => rw [e0]; rfl
  | 1, _ => rw [e1]; rfl
  | 2, _ => rw [e2]; rfl
  | 3, _ => rw [e3]; rfl
theorem HoldsI.put {t : TypeId} {W : World} {g : Nat} {x x' : Nat → Int} (h : HoldsI t W g x) {q : Nat} (hq : q < 4) (hx : ∀ p, p < 4 → p ≠ q → x' p = x p) : HoldsI t (W.setCell ⟨g, q, none⟩ (.int .i64 (x' q))) g x' := by
  obtain ⟨s0, s1, s2, s3, hb, e0, e1, e2, e3⟩ := h
  have hs := blk_set hb q (.int .i64 (x' q))
  match q, hq with
  | 0, _ => exact ⟨_, _, _, _, hs, rfl, (hx 1 (by omega) (by omega)).trans e1, (hx 2 (by omega) (by omega)).trans e2, (hx 3 (by omega) (by omega)).trans e3⟩
  | 1, _ => exact ⟨_, _, _, _, hs, (hx 0 (by omega) (by omega)).trans e0, rfl, (hx 2 (by omega) (by omega)).trans e2, (hx 3 (by omega) (by omega)).trans e3⟩
  | 2, _ => exact ⟨_, _, _, _, hs, (hx 0 (by omega) (by omega)).trans e0, (hx 1 (by omega) (by omega)).trans e1, rfl, (hx 3 (by omega) (by omega)).trans e3⟩
  | 3, _ => exact ⟨_, _, _, _, hs, (hx 0 (by omega) (by omega)).trans e0, (hx 1 (by omega) (by omega)).trans e1, (hx 2 (by omega) (by omega)).trans e2, rfl⟩
theorem HoldsI.to {t : TypeId} {W W' : World} {g : Nat} {x : Nat → Int} (h : HoldsI t W g x) (e : W'.heap[g]? = W.heap[g]?) : HoldsI t W' g x := by
  obtain ⟨s0, s1, s2, s3, hb, h2⟩ := h
  exact ⟨s0, s1, s2, s3, e.trans hb, h2⟩
set_option maxHeartbeats 2000000 in
set_option maxRecDepth 100000 in
theorem rof_calls (A : Option Addr) (c : Nat) (l : List Int) (w : World) (hr : ReadsInt w .u8 A l.length l) (hb : ByteList l) (hl : l.length ≤ 4194304) :
  Calls Try.prog 9 #[.slice A l.length c] w fun e w' => ∃ v, e = .returned v ∧ SpecV v (mx (sm l 0 l.length) (sm l 1 l.length) (sm l 2 l.length) (sm l 3 l.length)) (my (sm l 0 l.length) (sm l 1 l.length) (sm l 2 l.length) (sm l 3 l.length)) ∧ Below w.heap.size w w' := by
  have HR := Aside0.mk hr
  have HY := Aside0.mk hb
  clear hr hb
  go_enter Try.func9, Try.ntmps9
  go_wp2
  go_loopw [4] (fun i wr => ∃ j : Nat, j ≤ l.length ∧ i = .int .i64 j ∧ Aside0 (wr.heap[w.heap.size]? = some (.cells #[.complex .f64 0 0, .complex .f64 0 0, .complex .f64 0 0, .complex .f64 0 0] 28 (0, 0))) ∧ Aside0 (HoldsI 33 wr (w.heap.size + 1) (fun q => sm l q j)) ∧ Aside0 (Below w.heap.size w wr)) (fun i _ => l.length - (intOf i).toNat)
  case atStart =>
    exact ⟨0, Nat.zero_le _, rfl, ⟨blk_alloc (blk_new w _) _⟩, ⟨⟨0, 0, 0, 0, heap_alloc2_new _ _ _, rfl, rfl, rfl, rfl⟩⟩, ⟨((Below.refl _ _).alloc (Nat.le_refl _) _).alloc (by simp) _⟩⟩
  case round =>
    obtain ⟨j, hj, rfl, HK, HH, HB⟩ := hrel
    by_cases hlt : j < l.length
    · obtain ⟨ad, e, hc⟩ := HR.out.2.2 (by omega)
      have hcell := pw_cell_below HB.out (hc j hlt)
      obtain ⟨x, hxe⟩ : ∃ x, l.getD j 0 = x := ⟨_, rfl⟩
      rw [hxe] at hcell
      have hx : 0 ≤ x ∧ x ≤ 255 := by have := HY.out j; rw [show rd l (j : Int) = x from hxe] at this; exact this
      have HX := Aside0.mk hxe
      clear hxe hc
      subst e
      obtain ⟨r, hr4, hrm⟩ : ∃ r : Nat, r < 4 ∧ j % 4 = r := ⟨j % 4, by omega, rfl⟩
      have hrem : (j : Int) % 4 = (r : Int) := by omega
      have htm : Int.tmod (j : Int) 4 = (r : Int) := by rw [Int.tmod_eq_emod_of_nonneg (by omega), hrem]
      obtain ⟨hcl0, hfz⟩ := HH.out.cell hr4
      have hsr := sm_range HY.out r j
      obtain ⟨y, hy⟩ : ∃ y, sm l r j = y := ⟨_, rfl⟩
      have hcl : wr.cell? ⟨w.heap.size + 1, r, none⟩ = some (.int .i64 y) := by rw [hcl0]; exact congrArg (fun z => some (Value.int .i64 z)) hy
      clear hcl0
      rw [hy] at hsr
      have hri : (r : Int) < 4 := by omega
      have hri0 : (0 : Int) ≤ (r : Int) := by omega
      have HRM := Aside0.mk hrm
      have HYY := Aside0.mk hy
      clear hrm hy
      go_wp2
      go_still_tail 12, (by kernel_rfl)
      change wpList _ _ _ _ _ wr.drew
      go_wp2
      go_roundw
      case rel =>
        refine ⟨j + 1, by omega, by go_num, ⟨blk_drew (blk_far HK.out (by simp) _)⟩, ⟨?_⟩, ⟨below_drew (below_set' HB.out (by simp) _)⟩⟩
        refine HoldsI.to (W := wr.setCell ⟨w.heap.size + 1, r, none⟩ (.int .i64 (y + x))) ?_ rfl
        have hxk : rd l (j : Int) = x := HX.out
        have ev : sm l r (j + 1) = y + x := by
          simp only [sm]
          rw [if_pos HRM.out, hxk, HYY.out]
        rw [← ev]
        refine HoldsI.put (x' := fun q => sm l q (j + 1)) HH.out hr4 ?_
        intro p hp hne
        show sm l p j + (if j % 4 = p then _ else 0) = sm l p j
        rw [if_neg (by have := HRM.out; omega), Int.add_zero]
      case measure => simp [intOf]; omega
    · obtain rfl : j = l.length := by omega
      clear hj hlt
      obtain ⟨s0, s1, s2, s3, hk, e0, e1, e2, e3⟩ := HH.out
      have HK4 := Aside0.mk hk
      have HE := Aside0.mk (And.intro e0 (And.intro e1 (And.intro e2 e3)))
      have b0 := sm_range HY.out 0 l.length
      have b1 := sm_range HY.out 1 l.length
      have b2 := sm_range HY.out 2 l.length
      have b3 := sm_range HY.out 3 l.length
      rw [show sm l 0 l.length = s0 from e0] at b0
      rw [show sm l 1 l.length = s1 from e1] at b1
      rw [show sm l 2 l.length = s2 from e2] at b2
      rw [show sm l 3 l.length = s3 from e3] at b3
      clear hk e0 e1 e2 e3
      have c0 : wr.cell? ⟨w.heap.size + 1, 0, none⟩ = some (.int .i64 s0) := (blk_cell HK4.out 0).trans rfl
      have c1 : wr.cell? ⟨w.heap.size + 1, 1, none⟩ = some (.int .i64 s1) := (blk_cell HK4.out 1).trans rfl
      have c2 : wr.cell? ⟨w.heap.size + 1, 2, none⟩ = some (.int .i64 s2) := (blk_cell HK4.out 2).trans rfl
      have c3 : wr.cell? ⟨w.heap.size + 1, 3, none⟩ = some (.int .i64 s3) := (blk_cell HK4.out 3).trans rfl
      go_wp2_with fail
      refine (made s0 s1 s2 s3 _ (by omega) (by omega) (by omega) (by omega)).mono ?_
      rintro e w1 ⟨v, rfl, hs, hb1⟩
      obtain ⟨a0, d0, a1, d1, a2, d2, a3, d3, rfl, hs⟩ := hs
      have HS := Aside0.mk hs
      have HK1 := Aside0.mk (blk_below HK.out hb1)
      have HB1 := Aside0.mk (below_then HB.out HB.out.size hb1)
      clear hs hb1 c0 c1 c2 c3
      have z0 : w1.cell? ⟨w.heap.size, 0, none⟩ = some (.complex .f64 0 0) := (blk_cell HK1.out 0).trans rfl
      have f0 := blk_frozen HK1.out 0
      have z1 : w1.cell? ⟨w.heap.size, 1, none⟩ = some (.complex .f64 0 0) := (blk_cell HK1.out 1).trans rfl
      have f1 := blk_frozen HK1.out 1
      have z2 : w1.cell? ⟨w.heap.size, 2, none⟩ = some (.complex .f64 0 0) := (blk_cell HK1.out 2).trans rfl
      have f2 := blk_frozen HK1.out 2
      have z3 : w1.cell? ⟨w.heap.size, 3, none⟩ = some (.complex .f64 0 0) := (blk_cell HK1.out 3).trans rfl
      have f3 := blk_frozen HK1.out 3
      go_wp2
      refine bodyPost_ret (results_cell_row (fn := Try.f9) rfl _ _ w.heap.size 28 #[.complex .f64 a0 d0, .complex .f64 a1 d1, .complex .f64 a2 d2, .complex .f64 a3 d3] (0, 0) _ rfl ?_ Try.underlying28 rfl (by kernel_rfl)) rfl ?_
      · refine blk_put (cs := #[.complex .f64 a0 d0, .complex .f64 a1 d1, .complex .f64 a2 d2, .complex .f64 0 0]) ?_ 3 _ rfl
        refine blk_put (cs := #[.complex .f64 a0 d0, .complex .f64 a1 d1, .complex .f64 0 0, .complex .f64 0 0]) ?_ 2 _ rfl
        refine blk_put (cs := #[.complex .f64 a0 d0, .complex .f64 0 0, .complex .f64 0 0, .complex .f64 0 0]) ?_ 1 _ rfl
        refine blk_put (cs := #[.complex .f64 0 0, .complex .f64 0 0, .complex .f64 0 0, .complex .f64 0 0]) ?_ 0 _ rfl
        exact HK1.out
      · refine ⟨_, rfl, ⟨a0, d0, a1, d1, a2, d2, a3, d3, rfl, ?_⟩, ?_⟩
        · obtain ⟨e0, e1, e2, e3⟩ := HE.out
          rw [show sm l 0 l.length = s0 from e0, show sm l 1 l.length = s1 from e1, show sm l 2 l.length = s2 from e2, show sm l 3 l.length = s3 from e3]
          exact HS.out
        · exact below_set' (below_set' (below_set' (below_set' HB1.out (Nat.le_refl _) _) (Nat.le_refl _) _) (Nat.le_refl _) _) (Nat.le_refl _) _
end Go.Proofs.Ytmjgmompcaanlaa.Turn
