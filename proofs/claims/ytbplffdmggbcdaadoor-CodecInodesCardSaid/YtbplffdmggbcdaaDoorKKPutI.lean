/- The reference's own numbers of one, two, four bytes: contracts. -/
import Derived.Test.YtbplffdmggbcdaaDoorKKInode
namespace Go.Proofs.YtbplffdmggbcdaaDoor.Codec
open Go.RowKit Go.Proofs.YtbplffdmggbcdaaDoor.PCodecInodes Go.Proofs.YtbplffdmggbcdaaDoor.Plain Go.Proofs.YtbplffdmggbcdaaDoor.Pure Go.Proofs.YtbplffdmggbcdaaDoorW.PrintWords Go.Proofs.YtbplffdmggbcdaaDoorW.PrintLast Go.Proofs.YtbplffdmggbcdaaDoorW.PrintMore
set_option linter.unusedVariables false
set_option linter.unusedSimpArgs false
theorem rfits_is {n : Nat} (hn : n = 2 ∨ n = 4) (x : Int) : skerryref06_fits.f 8 x n = some (decide (Fits n x)) := by
  unfold skerryref06_fits.f Fits
  rcases hn with rfl | rfl
  · simp only [skerryref06_fits.l0]
    simp (config := { decide := true }) only [wrap64, if_true, if_false]
    by_cases h : x ≥ 0 <;> simp [h] <;> omega
  · simp only [skerryref06_fits.l0]
    simp (config := { decide := true }) only [wrap64, if_true, if_false]
    by_cases h : x ≥ 0 <;> simp [h] <;> omega
theorem rput_step (k : Nat) (q : List Int) (n x i : Int) (hq : q.length ≤ 140737488351300) (x0 : 0 ≤ x) (x1 : x < 4294967296) (i0 : 0 ≤ i) (i1 : i < n) (hn : n ≤ 4) : skerryref06_put.l0 (k + 1) q n x i = skerryref06_put.l0 k (q ++ [x % 256]) n (x / 256) (i + 1) := by
  simp only [skerryref06_put.l0]
  rw [if_pos i1, if_pos (by omega), w64 (x := i + 1) (by omega) (by omega), Int.tmod_eq_emod_of_nonneg x0, Int.tdiv_eq_ediv_of_nonneg x0, w64 (x := x / 256) (by omega) (by omega), show x % 256 % 256 = x % 256 by omega]
theorem rput_is {n : Nat} (hn : n = 1 ∨ n = 2 ∨ n = 4) (x : Int) (hx : Fits n x) (l : List Int) (hl : l.length ≤ 140737488351232) : skerryref06_put.f 8 l n x = some (l ++ leB n x) := by
  unfold skerryref06_put.f
  rcases hn with rfl | rfl | rfl
  · have h0 : 0 ≤ x ∧ x < 256 := hx
    rw [rput_step _ _ _ _ _ (by omega) (by omega) (by omega) (by omega) (by omega) (by omega)]
    simp only [skerryref06_put.l0]
    rw [if_neg (by omega)]
    simp only [leB_succ, show leB 0 x = [] from rfl, List.nil_append]
    rw [show x / 256 ^ 0 = x by omega]
  · have h0 : 0 ≤ x ∧ x < 65536 := hx
    rw [rput_step _ _ _ _ _ (by omega) (by omega) (by omega) (by omega) (by omega) (by omega), rput_step _ _ _ _ _ (by simp; omega) (by omega) (by omega) (by omega) (by omega) (by omega)]
    simp only [skerryref06_put.l0]
    rw [if_neg (by omega)]
    simp only [leB_succ, show leB 0 x = [] from rfl, List.append_assoc, List.nil_append, List.cons_append]
    rw [show x / 256 ^ 1 = x / 256 by omega, show x / 256 ^ 0 = x by omega]
  · have h0 : 0 ≤ x ∧ x < 4294967296 := hx
    rw [rput_step _ _ _ _ _ (by omega) (by omega) (by omega) (by omega) (by omega) (by omega), rput_step _ _ _ _ _ (by simp; omega) (by omega) (by omega) (by omega) (by omega) (by omega), rput_step _ _ _ _ _ (by simp; omega) (by omega) (by omega) (by omega) (by omega) (by omega), rput_step _ _ _ _ _ (by simp; omega) (by omega) (by omega) (by omega) (by omega) (by omega)]
    simp only [skerryref06_put.l0]
    rw [if_neg (by omega)]
    simp only [leB_succ, show leB 0 x = [] from rfl, List.append_assoc, List.nil_append, List.cons_append]
    rw [show x / 256 / 256 / 256 % 256 = x / 256 ^ 3 % 256 by omega, show x / 256 / 256 % 256 = x / 256 ^ 2 % 256 by omega, show x / 256 ^ 1 = x / 256 by omega, show x / 256 ^ 0 = x by omega]
theorem fits_calls (n : Nat) (hn : n = 2 ∨ n = 4) (x : Int) (w : World) : Calls Tryd.prog 34 #[.int .i64 x, .int .i64 n] w fun e w' => e = .returned (.bool (decide (Fits n x))) ∧ Below w.heap.size w w' := by
  refine (skerryref06_fits.calls 8 x n _ w (rfits_is hn x)).mono ?_
  rintro e w' ⟨rfl, hd⟩
  exact ⟨rfl, hd.below⟩
theorem rput_calls (n : Nat) (hn : n = 1 ∨ n = 2 ∨ n = 4) (x : Int) (hx : Fits n x) {w1 W : World} {v : Value} {l : List Int} (hB : Below w1.heap.size w1 W) (hv : Kd.R (Kd.int .u8) 5 W w1.heap.size (fun _ => True) v l) (hl : l.length ≤ 140737488351232) :
    Calls Tryd.prog 35 #[v, .int .i64 n, .int .i64 x] W fun e w' => ∃ v', e = .returned v' ∧ Kd.R (Kd.int .u8) 5 w' w1.heap.size (fun _ => True) v' (l ++ leB n x) ∧ Below w1.heap.size w1 w' := by
  refine (skerryref06_put.calls 8 (fun _ => True) v l n x _ w1 W hB hv (rput_is hn x hx l hl)).mono ?_
  rintro e w' ⟨v', rfl, hr, hb, _⟩
  exact ⟨v', rfl, Kd.R_mono hr (fun _ _ => trivial), hb⟩
/-- An inode's numbers, written one behind the other. -/
def two (l : List Int) : List Int := (l.map (leB 2)).flatten
theorem two_length (l : List Int) : (two l).length = 2 * l.length := by
  unfold two
  induction l with
  | nil => rfl
  | cons x l ih => rw [List.map_cons, List.flatten_cons, List.length_append, ih, leB_length, List.length_cons]; omega
theorem two_snoc (l : List Int) (x : Int) : two (l ++ [x]) = two l ++ leB 2 x := by unfold two; simp
theorem two_bytes (l : List Int) : Bytes (two l) := by
  unfold two
  induction l with
  | nil => exact Bytes.nil
  | cons x l ih => rw [List.map_cons, List.flatten_cons]; exact (leB_bytes 2 x).append ih
def inoHead (p0 p1 p2 : Int) : List Int := leB 1 p0 ++ leB 1 0 ++ leB 2 p1 ++ leB 4 p2
def inoBytes (p0 p1 p2 : Int) (D : List Int) (p11 p12 : Int) : List Int := inoHead p0 p1 p2 ++ two D ++ leB 2 p11 ++ leB 2 p12 ++ leB 4 0
def fitAll (D : List Int) : Bool := D.all fun x => decide (Fits 2 x)
def inoFits (p1 p2 : Int) (D : List Int) (p11 p12 : Int) : Bool := (decide (Fits 2 p1) && decide (Fits 4 p2) && decide (Fits 2 p11) && decide (Fits 2 p12)) && fitAll D
theorem ino_bad {p0 p1 p2 p11 p12 : Int} {D : List Int} (h0 : 0 ≤ p0 ∧ p0 ≤ 2) (h : inoFits p1 p2 D p11 p12 = false) : (wnums 2 (wnums 2 (wnum 4 (wnum 2 (wnums 1 ([], 0) [p0, 0]) p1) p2) D) [p11, p12]).2 = 3 := by
  have b : ∀ s : List Int × Int, s.2 = 3 → ∀ n v, (wnum n s v).2 = 3 := fun s hs n v => wnums_bad (n := n) [v] (.inl hs)
  have b2 : ∀ s : List Int × Int, s.2 = 0 ∨ s.2 = 3 → ∀ n v, ¬ Fits n v → (wnum n s v).2 = 3 := fun s hs n v hv => by
    rcases hs with hs | hs
    · exact wnums_bad (n := n) [v] (.inr ⟨hs, v, by simp, hv⟩)
    · exact b s hs n v
  have e0 := wnums_err 1 [p0, 0] (s := ([], 0)) (.inl rfl)
  have e1 := wnum_err 2 p1 e0
  have e2 := wnum_err 4 p2 e1
  have e3 := wnums_err 2 D e2
  have c : ∀ s : List Int × Int, s.2 = 0 ∨ s.2 = 3 → ∀ n (l : List Int), (s.2 = 3 ∨ ∃ v ∈ l, ¬ Fits n v) → (wnums n s l).2 = 3 := fun s hs n l hl => by
    rcases hl with hl | hl
    · exact wnums_bad (n := n) l (.inl hl)
    · rcases hs with hs | hs
      · exact wnums_bad (n := n) l (.inr ⟨hs, hl⟩)
      · exact wnums_bad (n := n) l (.inl hs)
  unfold inoFits fitAll at h
  by_cases h1 : Fits 2 p1
  · by_cases h2 : Fits 4 p2
    · by_cases h3 : ∀ v ∈ D, Fits 2 v
      · refine c _ e3 2 _ (.inr ?_)
        by_cases h4 : Fits 2 p11
        · refine ⟨p12, by simp, fun h5 => ?_⟩
          have hall : (D.all fun x => decide (Fits 2 x)) = true := List.all_eq_true.2 fun x hx => decide_eq_true (h3 x hx)
          rw [decide_eq_true h1, decide_eq_true h2, decide_eq_true h4, decide_eq_true h5, hall] at h
          cases h
        · exact ⟨p11, by simp, h4⟩
      · simp only [Classical.not_forall] at h3
        obtain ⟨v, hv, hn⟩ := h3
        exact c _ e3 2 _ (.inl (c _ e2 2 _ (.inr ⟨v, hv, hn⟩)))
    · exact c _ e3 2 _ (.inl (c _ e2 2 _ (.inl (b2 _ e1 4 p2 h2))))
  · exact c _ e3 2 _ (.inl (c _ e2 2 _ (.inl (b _ (b2 _ e0 2 p1 h1) 4 p2))))
theorem ino_good {p0 p1 p2 p11 p12 : Int} {D : List Int} (h0 : 0 ≤ p0 ∧ p0 ≤ 2) (h : inoFits p1 p2 D p11 p12 = true) : wnums 2 (wnums 2 (wnum 4 (wnum 2 (wnums 1 ([], 0) [p0, 0]) p1) p2) D) [p11, p12] = (inoHead p0 p1 p2 ++ two D ++ leB 2 p11 ++ leB 2 p12, 0) := by
  unfold inoFits fitAll at h
  simp only [Bool.and_eq_true, decide_eq_true_eq, List.all_eq_true] at h
  obtain ⟨⟨⟨⟨h1, h2⟩, h4⟩, h5⟩, h3⟩ := h
  rw [wnums_ok (n := 1) [p0, 0] (bs := []) (by intro v hv; simp at hv; rcases hv with rfl | rfl <;> (unfold Fits; omega))]
  rw [show ∀ s : List Int × Int, wnum 2 s p1 = wnums 2 s [p1] from fun _ => rfl, wnums_ok (n := 2) [p1] (by intro v hv; simp at hv; subst hv; exact h1)]
  rw [show ∀ s : List Int × Int, wnum 4 s p2 = wnums 4 s [p2] from fun _ => rfl, wnums_ok (n := 4) [p2] (by intro v hv; simp at hv; subst hv; exact h2)]
  rw [wnums_ok (n := 2) D h3, wnums_ok (n := 2) [p11, p12] (by intro v hv; simp at hv; rcases hv with rfl | rfl <;> assumption)]
  unfold inoHead two
  simp [List.append_assoc]
theorem inoOut_bad {p0 p1 p2 d0 d1 d2 d3 d4 d5 d6 d7 p11 p12 : Int} (ho : ¬ inoOdd p0 p1 p2 d0 d1 d2 d3 d4 d5 d6 d7 p11 p12) (h : inoFits p1 p2 [d0, d1, d2, d3, d4, d5, d6, d7] p11 p12 = false) : inoOut p0 p1 p2 d0 d1 d2 d3 d4 d5 d6 d7 p11 p12 = ([], 3) := by
  have h0 : 0 ≤ p0 ∧ p0 ≤ 2 := ⟨Int.not_lt.1 fun q => ho (.inl q), Int.not_lt.1 fun q => ho (.inr (.inl q))⟩
  unfold inoOut
  rw [if_neg ho, if_neg (by unfold inoNums; rw [ino_bad h0 h]; decide)]
theorem inoOut_good {p0 p1 p2 d0 d1 d2 d3 d4 d5 d6 d7 p11 p12 : Int} (ho : ¬ inoOdd p0 p1 p2 d0 d1 d2 d3 d4 d5 d6 d7 p11 p12) (h : inoFits p1 p2 [d0, d1, d2, d3, d4, d5, d6, d7] p11 p12 = true) : inoOut p0 p1 p2 d0 d1 d2 d3 d4 d5 d6 d7 p11 p12 = (inoBytes p0 p1 p2 [d0, d1, d2, d3, d4, d5, d6, d7] p11 p12, 0) := by
  have h0 : 0 ≤ p0 ∧ p0 ≤ 2 := ⟨Int.not_lt.1 fun q => ho (.inl q), Int.not_lt.1 fun q => ho (.inr (.inl q))⟩
  have hg := ino_good h0 h
  have hn : inoNums p0 p1 p2 d0 d1 d2 d3 d4 d5 d6 d7 p11 p12 = (inoHead p0 p1 p2 ++ two [d0, d1, d2, d3, d4, d5, d6, d7] ++ leB 2 p11 ++ leB 2 p12, 0) := hg
  have hl : (inoHead p0 p1 p2 ++ two [d0, d1, d2, d3, d4, d5, d6, d7] ++ leB 2 p11 ++ leB 2 p12).length = 28 := by
    unfold inoHead
    simp only [List.length_append, two_length, leB_length, List.length_cons, List.length_nil]
  unfold inoOut
  rw [if_neg ho, hn, if_pos rfl]
  simp only [hl]
  unfold inoBytes
  rfl
end Go.Proofs.YtbplffdmggbcdaaDoor.Codec
