/- The reference's own numbers: contracts; and a record's answer in plain words. -/
import Derived.Test.YtbplffdmggbcdaaKKUnrec
namespace Go.Proofs.Ytbplffdmggbcdaa.Codec
open Go.RowKit Go.Proofs.Ytbplffdmggbcdaa.PCodecRecords Go.Proofs.Ytbplffdmggbcdaa.Plain Go.Proofs.Ytbplffdmggbcdaa.Pure Go.Proofs.YtbplffdmggbcdaaW.PrintWords Go.Proofs.YtbplffdmggbcdaaW.PrintLast Go.Proofs.YtbplffdmggbcdaaW.PrintMore
set_option linter.unusedVariables false
set_option linter.unusedSimpArgs false
theorem rfits_is {n : Nat} (hn : n = 2 ∨ n = 4) (x : Int) : skerryref06_fits.f 8 x n = some (decide (Fits n x)) := by
  unfold skerryref06_fits.f Fits
  rcases hn with rfl | rfl
  · simp only [skerryref06_fits.l0]
    simp (config := { decide := true }) only [wrap64, if_true, if_false]
    by_cases h : x ≥ 0 <;> simp [h] <;> omega
  · simp only [skerryref06_fits.l0]
    simp (config := { decide := true }) only [wrap64, if_true, if_false]
    by_cases h : x ≥ 0 <;> simp [h] <;> omega
theorem rput_step (k : Nat) (q : List Int) (n x i : Int) (hq : q.length ≤ 140737488351300) (x0 : 0 ≤ x) (x1 : x < 4294967296) (i0 : 0 ≤ i) (i1 : i < n) (hn : n ≤ 4) : skerryref06_put.l0 (k + 1) q n x i = skerryref06_put.l0 k (q ++ [x % 256]) n (x / 256) (i + 1) := by
  simp only [skerryref06_put.l0]
  rw [if_pos i1, if_pos (by omega), w64 (x := i + 1) (by omega) (by omega), Int.tmod_eq_emod_of_nonneg x0, Int.tdiv_eq_ediv_of_nonneg x0, w64 (x := x / 256) (by omega) (by omega), show x % 256 % 256 = x % 256 by omega]
theorem rput_is {n : Nat} (hn : n = 2 ∨ n = 4) (x : Int) (hx : Fits n x) (l : List Int) (hl : l.length ≤ 140737488351232) : skerryref06_put.f 8 l n x = some (l ++ leB n x) := by
  unfold skerryref06_put.f
  rcases hn with rfl | rfl
  · have h0 : 0 ≤ x ∧ x < 65536 := hx
    rw [rput_step _ _ _ _ _ (by omega) (by omega) (by omega) (by omega) (by omega) (by omega), rput_step _ _ _ _ _ (by simp; omega) (by omega) (by omega) (by omega) (by omega) (by omega)]
    simp only [skerryref06_put.l0]
    rw [if_neg (by omega)]
    simp only [leB_succ, show leB 0 x = [] from rfl, List.append_assoc, List.nil_append, List.cons_append]
    rw [show x / 256 ^ 1 = x / 256 by omega, show x / 256 ^ 0 = x by omega]
  · have h0 : 0 ≤ x ∧ x < 4294967296 := hx
    rw [rput_step _ _ _ _ _ (by omega) (by omega) (by omega) (by omega) (by omega) (by omega), rput_step _ _ _ _ _ (by simp; omega) (by omega) (by omega) (by omega) (by omega) (by omega), rput_step _ _ _ _ _ (by simp; omega) (by omega) (by omega) (by omega) (by omega) (by omega), rput_step _ _ _ _ _ (by simp; omega) (by omega) (by omega) (by omega) (by omega) (by omega)]
    simp only [skerryref06_put.l0]
    rw [if_neg (by omega)]
    simp only [leB_succ, show leB 0 x = [] from rfl, List.append_assoc, List.nil_append, List.cons_append]
    rw [show x / 256 / 256 / 256 % 256 = x / 256 ^ 3 % 256 by omega, show x / 256 / 256 % 256 = x / 256 ^ 2 % 256 by omega, show x / 256 ^ 1 = x / 256 by omega, show x / 256 ^ 0 = x by omega]
theorem fits_calls (n : Nat) (hn : n = 2 ∨ n = 4) (x : Int) (w : World) : Calls Try.prog 22 #[.int .i64 x, .int .i64 n] w fun e w' => e = .returned (.bool (decide (Fits n x))) ∧ Below w.heap.size w w' := by
  refine (skerryref06_fits.calls 8 x n _ w (rfits_is hn x)).mono ?_
  rintro e w' ⟨rfl, hd⟩
  exact ⟨rfl, hd.below⟩
theorem rput_calls (n : Nat) (hn : n = 2 ∨ n = 4) (x : Int) (hx : Fits n x) {w1 W : World} {v : Value} {l : List Int} (hB : Below w1.heap.size w1 W) (hv : Kd.R (Kd.int .u8) 5 W w1.heap.size (fun _ => True) v l) (hl : l.length ≤ 140737488351232) :
    Calls Try.prog 23 #[v, .int .i64 n, .int .i64 x] W fun e w' => ∃ v', e = .returned v' ∧ Kd.R (Kd.int .u8) 5 w' w1.heap.size (fun _ => True) v' (l ++ leB n x) ∧ Below w1.heap.size w1 w' := by
  refine (skerryref06_put.calls 8 (fun _ => True) v l n x _ w1 W hB hv (rput_is hn x hx l hl)).mono ?_
  rintro e w' ⟨v', rfl, hr, hb, _⟩
  exact ⟨v', rfl, Kd.R_mono hr (fun _ _ => trivial), hb⟩
/-- A record's numbers, written one behind the other. -/
def recBytes (b q s0 s1 s2 s3 a n : Int) : List Int := leB 4 b ++ leB 4 q ++ leB 4 a ++ leB 4 n ++ leB 2 s0 ++ leB 2 s1 ++ leB 2 s2 ++ leB 2 s3
theorem recBytes_length (b q s0 s1 s2 s3 a n : Int) : (recBytes b q s0 s1 s2 s3 a n).length = 24 := by
  unfold recBytes
  simp only [List.length_append, leB_length]
theorem recBytes_bytes (b q s0 s1 s2 s3 a n : Int) : Bytes (recBytes b q s0 s1 s2 s3 a n) :=
  (((((((leB_bytes _ _).append (leB_bytes _ _)).append (leB_bytes _ _)).append (leB_bytes _ _)).append (leB_bytes _ _)).append (leB_bytes _ _)).append (leB_bytes _ _)).append (leB_bytes _ _)
/-- Has each of a record's numbers room? -/
def recFits (b q s0 s1 s2 s3 a n : Int) : Bool := decide (Fits 4 b) && decide (Fits 4 q) && decide (Fits 4 a) && decide (Fits 4 n) && decide (Fits 2 s0) && decide (Fits 2 s1) && decide (Fits 2 s2) && decide (Fits 2 s3)
theorem recOut_bad {b q s0 s1 s2 s3 a n : Int} (h : recFits b q s0 s1 s2 s3 a n = false) (t : List Int) : recOut b q s0 s1 s2 s3 a n t = ([], 3) := by
  have key : (recNums b q s0 s1 s2 s3 a n).2 = 3 := by
    unfold recNums
    by_cases h1 : ∀ v ∈ [b, q, a, n], Fits 4 v
    · by_cases h2 : ∀ v ∈ [s0, s1, s2, s3], Fits 2 v
      · exfalso
        simp only [List.mem_cons, List.not_mem_nil, or_false, forall_eq_or_imp, forall_eq] at h1 h2
        unfold recFits at h
        simp [h1, h2] at h
      · refine wnums_bad _ (.inr ⟨by rw [wnums_ok _ h1], ?_⟩)
        exact Classical.byContradiction fun hc => h2 fun v hv => Classical.byContradiction fun hf => hc ⟨v, hv, hf⟩
    · exact wnums_bad _ (.inl (wnums_bad _ (.inr ⟨rfl, Classical.byContradiction fun hc => h1 fun v hv => Classical.byContradiction fun hf => hc ⟨v, hv, hf⟩⟩)))
  unfold recOut
  rw [if_neg (by rw [key]; decide)]
theorem recOut_good {b q s0 s1 s2 s3 a n : Int} (h : recFits b q s0 s1 s2 s3 a n = true) (t : List Int) : recOut b q s0 s1 s2 s3 a n t = if t.length ≤ 65511 then (frm (recBytes b q s0 s1 s2 s3 a n ++ t), 0) else ([], 5) := by
  unfold recFits at h
  simp only [Bool.and_eq_true, decide_eq_true_eq] at h
  obtain ⟨⟨⟨⟨⟨⟨⟨h1, h2⟩, h3⟩, h4⟩, h5⟩, h6⟩, h7⟩, h8⟩ := h
  have key : recNums b q s0 s1 s2 s3 a n = (recBytes b q s0 s1 s2 s3 a n, 0) := by
    unfold recNums recBytes
    rw [wnums_ok _ (by simp [h1, h2, h3, h4]), wnums_ok _ (by simp [h5, h6, h7, h8])]
    simp [List.append_assoc]
  unfold recOut
  rw [key]
  simp only [if_true]
  have e : (recBytes b q s0 s1 s2 s3 a n ++ t).length = 24 + t.length := by rw [List.length_append, recBytes_length]
  by_cases c : t.length ≤ 65511
  · rw [if_pos c, if_pos (by omega)]
  · rw [if_neg c, if_neg (by omega)]
end Go.Proofs.Ytbplffdmggbcdaa.Codec
