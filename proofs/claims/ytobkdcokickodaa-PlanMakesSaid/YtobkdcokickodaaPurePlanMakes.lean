/- Every plan is what the reference says, or refused as it says: the plain law over numbers. No conditions. -/
import Derived.Test.YtobkdcokickodaaPPlanMakesx3
import Derived.Test.YtobkdcokickodaaPlain
namespace Go.Proofs.Ytobkdcokickodaa.Pure
open Go.RowKit Go.Proofs.Ytobkdcokickodaa.PPlanMakes Go.Proofs.Ytobkdcokickodaa.Plain Go.Proofs.YtobkdcokickodaaW.PrintWords Go.Proofs.YtobkdcokickodaaW.PrintLast Go.Proofs.YtobkdcokickodaaW.PrintMore

/-- The seven sizes of a block. -/
def pw (n : Int) : Bool := n == 64 || n == 128 || n == 256 || n == 512 || n == 1024 || n == 2048 || n == 4096
def one (o : Option Int) : Bool := match o with
  | some t => t == 1
  | none => false
def chk (p : Nat → Bool) : Nat → Nat → Bool
  | 0, a => p a
  | d + 1, a => chk p d a && chk p d (a + 2 ^ d)
theorem chk_all (p : Nat → Bool) : ∀ (d a : Nat), chk p d a = true → ∀ i, i < 2 ^ d → p (a + i) = true
  | 0, a, h, i, hi => by
    obtain rfl : i = 0 := by omega
    exact h
  | d + 1, a, h, i, hi => by
    simp only [chk, Bool.and_eq_true] at h
    rw [Nat.pow_succ] at hi
    by_cases c : i < 2 ^ d
    · exact chk_all p d a h.1 i c
    · have := chk_all p d (a + 2 ^ d) h.2 (i - 2 ^ d) (by omega)
      rw [show a + 2 ^ d + (i - 2 ^ d) = a + i by omega] at this
      exact this
def onep (n : Nat) : Bool := one (bits_OnesCount.f (IntKind.u64.wrap (n : Int))) == pw (n : Int)
theorem ones_chk : chk onep 12 64 = true := by decide +kernel
theorem ones_all {n : Nat} (h0 : 64 ≤ n) (h1 : n ≤ 4096) : one (bits_OnesCount.f (IntKind.u64.wrap (n : Int))) = pw (n : Int) := by
  have h := chk_all onep 12 64 ones_chk (n - 64) (by omega)
  rw [show 64 + (n - 64) = n by omega] at h
  unfold onep at h
  exact beq_iff_eq.1 h
theorem ones_some (a : Int) : ∃ t, bits_OnesCount.f a = some t := by
  unfold bits_OnesCount.f bits_OnesCount64.f
  exact ⟨_, rfl⟩
theorem ones_is {a : Int} (h0 : 64 ≤ a) (h1 : a ≤ 4096) : ∃ t, bits_OnesCount.f (IntKind.u64.wrap a) = some t ∧ (t = 1 ↔ pw a = true) := by
  obtain ⟨n, rfl⟩ := Int.eq_ofNat_of_zero_le (show 0 ≤ a by omega)
  obtain ⟨t, ht⟩ := ones_some (IntKind.u64.wrap (n : Int))
  refine ⟨t, ht, ?_⟩
  have h2 := ones_all (n := n) (by omega) (by omega)
  rw [ht] at h2
  rw [← h2]
  show t = 1 ↔ (t == 1) = true
  exact beq_iff_eq.symm
theorem pw_iff (a : Int) : pw a = true ↔ a = 64 ∨ a = 128 ∨ a = 256 ∨ a = 512 ∨ a = 1024 ∨ a = 2048 ∨ a = 4096 := by
  unfold pw
  simp only [Bool.or_eq_true, beq_iff_eq, or_assoc]
/-- Is it a plan's size? -/
def Good (a0 a1 a2 a3 : Int) : Prop := pw a0 = true ∧ (1 ≤ a1 ∧ a1 ≤ 4096) ∧ (2 ≤ a2 ∧ a2 ≤ 1024) ∧ (4 ≤ a3 ∧ a3 ≤ 512)
instance (a0 a1 a2 a3 : Int) : Decidable (Good a0 a1 a2 a3) := by unfold Good; infer_instance
def mk (a0 a1 a2 a3 : Int) : Int × Int × Int × Int × Int × Int × Int × Int × Int × Int × Int × Int × Int := if Good a0 a1 a2 a3 then plan_Make.spec a0 a1 a2 a3 else (0, 0, 0, 0, 0, 0, 0, 0, 0, 0, 0, 0, 1)
theorem make_is (a0 a1 a2 a3 : Int) : plan_Make.f a0 a1 a2 a3 = some (mk a0 a1 a2 a3) := by
  unfold plan_Make.f mk
  by_cases c : 64 ≤ a0 ∧ a0 ≤ 4096
  · obtain ⟨t, ht, hiff⟩ := ones_is c.1 c.2
    rw [if_pos c, ht, Option.bind_some]
    congr 1
    by_cases d : t = 1 ∧ (1 ≤ a1 ∧ a1 ≤ 4096) ∧ (2 ≤ a2 ∧ a2 ≤ 1024) ∧ (4 ≤ a3 ∧ a3 ≤ 512)
    · rw [if_pos d, if_pos (show Good a0 a1 a2 a3 from ⟨hiff.1 d.1, d.2⟩)]
    · rw [if_neg d, if_neg (fun q : Good a0 a1 a2 a3 => d ⟨hiff.2 q.1, q.2⟩)]
  · rw [if_neg c, if_neg (fun q : Good a0 a1 a2 a3 => by have := (pw_iff a0).1 q.1; omega)]
theorem size_step (k : Nat) {a x : Int} (h0 : 64 ≤ x) (h1 : x ≤ 4096) : skerryref05_Size.l0 (k + 1) a x = if x = a then some true else skerryref05_Size.l0 k a (x * 2) := by
  simp only [skerryref05_Size.l0]
  rw [if_pos h1, w64 (by omega) (by omega)]
theorem size_end (k : Nat) {a x : Int} (h0 : 4096 < x) : skerryref05_Size.l0 (k + 1) a x = some false := by
  simp only [skerryref05_Size.l0]
  rw [if_neg (by omega)]
theorem size_is (k : Nat) (a : Int) : skerryref05_Size.f (k + 8) a = some (pw a) := by
  unfold skerryref05_Size.f
  rw [show k + 8 = k + 1 + 1 + 1 + 1 + 1 + 1 + 1 + 1 by omega, size_step _ (by omega) (by omega), size_step _ (by omega) (by omega), size_step _ (by omega) (by omega), size_step _ (by omega) (by omega), size_step _ (by omega) (by omega), size_step _ (by omega) (by omega), size_step _ (by omega) (by omega), size_end _ (by omega)]
  have h := pw_iff a
  by_cases c : pw a = true
  · rw [c]
    rcases h.1 c with r | r | r | r | r | r | r <;> subst r <;> rfl
  · rw [Bool.eq_false_iff.2 c]
    have g : ¬ (a = 64 ∨ a = 128 ∨ a = 256 ∨ a = 512 ∨ a = 1024 ∨ a = 2048 ∨ a = 4096) := fun q => c (h.2 q)
    rw [if_neg (by omega), if_neg (by omega), if_neg (by omega), if_neg (by omega), if_neg (by omega), if_neg (by omega), if_neg (by omega)]
theorem sh_lt {n s : Int} (h2 : 1 ≤ s) (j : Int) : j * s < n ↔ j < plan_Make.sh n s := by
  unfold plan_Make.sh
  have h := Int.le_ediv_iff_mul_le (a := j + 1) (b := n + s - 1) (c := s) (by omega)
  have e : (j + 1) * s = j * s + s := by rw [Int.add_mul, Int.one_mul]
  rw [e] at h
  constructor
  · intro q
    have := h.2 (by omega)
    omega
  · intro q
    have := h.1 (by omega)
    omega
theorem sh_range {n s : Int} (h0 : 0 ≤ n) (h2 : 1 ≤ s) : 0 ≤ plan_Make.sh n s ∧ plan_Make.sh n s ≤ n + s := by
  have q0 : 0 ≤ (n + s - 1) / s := Int.ediv_nonneg (by omega) (by omega)
  have q1 : (n + s - 1) / s ≤ n + s - 1 := Int.ediv_le_self _ (by omega)
  unfold plan_Make.sh
  omega
theorem blocks_loop {n s : Int} (h0 : 0 ≤ n) (h1 : n ≤ 1000000) (h2 : 1 ≤ s) (h3 : s ≤ 1000000) (d : Nat) : ∀ (k : Nat) (j : Int), 0 ≤ j → plan_Make.sh n s - j = d → d < k → skerryref05_blocksFor.l0 k n s j = some (plan_Make.sh n s) := by
  have hr := sh_range h0 h2
  induction d with
  | zero =>
    intro k j hj hd hk
    obtain ⟨k, rfl⟩ : ∃ m, k = m + 1 := ⟨k - 1, by omega⟩
    have hb : j * s ≤ 2000000 * 1000000 := Int.mul_le_mul (by omega) h3 (by omega) (by omega)
    have hb0 : 0 ≤ j * s := Int.mul_nonneg hj (by omega)
    simp only [skerryref05_blocksFor.l0]
    rw [w64 (x := j * s) (by omega) (by omega), if_neg (by rw [sh_lt h2]; omega), show j = plan_Make.sh n s by omega]
  | succ d ih =>
    intro k j hj hd hk
    obtain ⟨k, rfl⟩ : ∃ m, k = m + 1 := ⟨k - 1, by omega⟩
    have hb : j * s ≤ 2000000 * 1000000 := Int.mul_le_mul (by omega) h3 (by omega) (by omega)
    have hb0 : 0 ≤ j * s := Int.mul_nonneg hj (by omega)
    simp only [skerryref05_blocksFor.l0]
    rw [w64 (x := j * s) (by omega) (by omega), if_pos (by rw [sh_lt h2]; omega), w64 (by omega) (by omega)]
    exact ih k (j + 1) (by omega) (by omega) (by omega)
theorem blocks_is {n s : Int} (h0 : 0 ≤ n) (h1 : n ≤ 1000000) (h2 : 1 ≤ s) (h3 : s ≤ 1000000) {k : Nat} (hk : 2000000 < k) : skerryref05_blocksFor.f k n s = some (plan_Make.sh n s) := by
  have hr := sh_range h0 h2
  unfold skerryref05_blocksFor.f
  exact blocks_loop h0 h1 h2 h3 (plan_Make.sh n s).toNat k 0 (by omega) (by omega) (by omega)
theorem sh_32 {n q : Int} (_ : 1 ≤ q) : plan_Make.sh (n * 32) (32 * q) = plan_Make.sh n q := by
  unfold plan_Make.sh
  have e : n * 32 + 32 * q - 1 = 31 + 32 * (n + q - 1) := by omega
  rw [e, ← Int.ediv_ediv_of_nonneg (by omega), Int.add_mul_ediv_left _ _ (by omega)]
  congr 1
  omega
theorem rmake_true (k : Nat) (a0 a1 a2 a3 : Int) : skerryref05_Make.j0 (k + 1) a0 a1 a2 a3 true = some (0, 0, 0, 0, 0, 0, 0, 0, 0, 0, 0, 0, 1) := by
  simp only [skerryref05_Make.j0, if_true]
theorem rmake_false {k : Nat} (hk : 2000000 < k) {a0 a1 a2 a3 : Int} (hg : Good a0 a1 a2 a3) : skerryref05_Make.j0 (k + 1) a0 a1 a2 a3 false = some (plan_Make.spec a0 a1 a2 a3) := by
  obtain ⟨c0, c1, c2, c3⟩ := hg
  have c0 := (pw_iff a0).1 c0
  have p0 : 0 ≤ a0 * a1 := Int.mul_nonneg (by omega) (by omega)
  have p1 : a0 * a1 ≤ 4096 * 4096 := Int.mul_le_mul (by omega) c1.2 (by omega) (by omega)
  obtain ⟨q, rfl⟩ : ∃ q, a0 = 32 * q := ⟨a0 / 32, by omega⟩
  have s1 := sh_range (n := a2) (s := 8 * (32 * q)) (by omega) (by omega)
  have s2 := sh_range (n := a1) (s := 8 * (32 * q)) (by omega) (by omega)
  have s3 := sh_range (n := a2) (s := q) (by omega) (by omega)
  simp only [skerryref05_Make.j0]
  unfold plan_Make.spec
  rw [if_neg (by decide), w64 (x := 32 * q * a1) (by omega) (by omega)]
  by_cases c : 32 * q * a1 > 1048576
  · rw [if_pos c, if_pos c]
  · have e32 : Int.tdiv (32 * q) 32 = q := by
      rw [Int.tdiv_eq_ediv_of_nonneg (by omega)]
      omega
    rw [if_neg c, if_neg c, w64 (x := 8 * (32 * q)) (by omega) (by omega), blocks_is (by omega) (by omega) (by omega) (by omega) hk, Option.bind_some, blocks_is (by omega) (by omega) (by omega) (by omega) hk, Option.bind_some, e32, w64 (x := q) (by omega) (by omega), blocks_is (by omega) (by omega) (by omega) (by omega) hk, Option.bind_some, sh_32 (by omega)]
    rw [w64 (x := 2 + a3) (by omega) (by omega), w64 (x := 2 + a3 + plan_Make.sh a2 (8 * (32 * q))) (by omega) (by omega), w64 (x := 2 + a3 + plan_Make.sh a2 (8 * (32 * q)) + plan_Make.sh a1 (8 * (32 * q))) (by omega) (by omega), w64 (x := 2 + a3 + plan_Make.sh a2 (8 * (32 * q)) + plan_Make.sh a1 (8 * (32 * q)) + plan_Make.sh a2 q) (by omega) (by omega)]
    by_cases d : a1 ≤ 2 + a3 + plan_Make.sh a2 (8 * (32 * q)) + plan_Make.sh a1 (8 * (32 * q)) + plan_Make.sh a2 q
    · rw [if_pos d, if_pos d]
    · rw [if_neg d, if_neg d]
theorem rmake_is {k : Nat} (hk : 3000000 < k) (a0 a1 a2 a3 : Int) : skerryref05_Make.f k a0 a1 a2 a3 = some (mk a0 a1 a2 a3) := by
  obtain ⟨k, rfl⟩ : ∃ m, k = m + 8 := ⟨k - 8, by omega⟩
  unfold skerryref05_Make.f mk
  rw [size_is, Option.bind_some]
  have ht := rmake_true (k + 7) a0 a1 a2 a3
  have bad : ¬ Good a0 a1 a2 a3 → some (if Good a0 a1 a2 a3 then plan_Make.spec a0 a1 a2 a3 else (0, 0, 0, 0, 0, 0, 0, 0, 0, 0, 0, 0, 1)) = some (0, 0, 0, 0, 0, 0, 0, 0, 0, 0, 0, 0, 1) := fun h => by rw [if_neg h]
  by_cases c0 : pw a0 = true
  · rw [if_pos c0]
    by_cases d1 : a1 < 1
    · rw [if_pos d1, bad (fun q => by have := q.2.1; omega)]
      exact ht
    rw [if_neg d1]
    by_cases d2 : a1 > 4096
    · rw [if_pos d2, bad (fun q => by have := q.2.1; omega)]
      exact ht
    rw [if_neg d2]
    by_cases d3 : a2 < 2
    · rw [if_pos d3, bad (fun q => by have := q.2.2.1; omega)]
      exact ht
    rw [if_neg d3]
    by_cases d4 : a2 > 1024
    · rw [if_pos d4, bad (fun q => by have := q.2.2.1; omega)]
      exact ht
    rw [if_neg d4]
    by_cases d5 : a3 < 4
    · rw [if_pos d5, bad (fun q => by have := q.2.2.2; omega)]
      exact ht
    rw [if_neg d5]
    by_cases d6 : a3 > 512
    · rw [decide_eq_true d6, bad (fun q => by have := q.2.2.2; omega)]
      exact ht
    · have hg : Good a0 a1 a2 a3 := ⟨c0, by omega, by omega, by omega⟩
      rw [decide_eq_false d6, if_pos hg]
      exact rmake_false (k := k + 7) (by omega) hg
  · rw [if_neg c0, bad (fun q => c0 q.1)]
    exact ht
theorem PlanMakes : skerrylaw05_PlanMakes.Pure := by
  intro a0 a1 a2 a3 h0 h1 h2 h3
  have hw : skerrylaw05_wakes.f = some true := by decide +kernel
  obtain ⟨k, hk⟩ : ∃ k : Nat, 3000000 < k := ⟨3000001, by omega⟩
  refine ⟨k, ?_⟩
  unfold skerrylaw05_PlanMakes.f
  rw [hw, Option.bind_some, if_pos rfl, make_is, Option.bind_some, rmake_is hk, Option.bind_some]
  obtain ⟨R, hR⟩ : ∃ R, mk a0 a1 a2 a3 = R := ⟨_, rfl⟩
  rw [hR]
  simp only [beq_self_eq_true, Bool.and_self, if_true]

end Go.Proofs.Ytobkdcokickodaa.Pure
