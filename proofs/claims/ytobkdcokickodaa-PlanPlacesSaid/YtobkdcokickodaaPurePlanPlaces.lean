/- Of every plan, sound or not, the places of inodes and the regions of blocks are what the reference says: the plain law over numbers. No conditions. -/
import Derived.Test.YtobkdcokickodaaPPlanPlacesx6
import Derived.Test.YtobkdcokickodaaPlain
namespace Go.Proofs.Ytobkdcokickodaa.Pure
open Go.RowKit Go.Proofs.Ytobkdcokickodaa.PPlanPlaces Go.Proofs.Ytobkdcokickodaa.Plain Go.Proofs.YtobkdcokickodaaW.PrintWords Go.Proofs.YtobkdcokickodaaW.PrintLast Go.Proofs.YtobkdcokickodaaW.PrintMore

/-- The seven sizes of a block. -/
def pw (n : Int) : Bool := n == 64 || n == 128 || n == 256 || n == 512 || n == 1024 || n == 2048 || n == 4096
def one (o : Option Int) : Bool := match o with
  | some t => t == 1
  | none => false
def chk (p : Nat → Bool) : Nat → Nat → Bool
  | 0, a => p a
  | d + 1, a => chk p d a && chk p d (a + 2 ^ d)
theorem chk_all (p : Nat → Bool) : ∀ (d a : Nat), chk p d a = true → ∀ i, i < 2 ^ d → p (a + i) = true
  | 0, a, h, i, hi => by
    obtain rfl : i = 0 := by omega
    exact h
  | d + 1, a, h, i, hi => by
    simp only [chk, Bool.and_eq_true] at h
    rw [Nat.pow_succ] at hi
    by_cases c : i < 2 ^ d
    · exact chk_all p d a h.1 i c
    · have := chk_all p d (a + 2 ^ d) h.2 (i - 2 ^ d) (by omega)
      rw [show a + 2 ^ d + (i - 2 ^ d) = a + i by omega] at this
      exact this
def onep (n : Nat) : Bool := one (bits_OnesCount.f (IntKind.u64.wrap (n : Int))) == pw (n : Int)
theorem ones_chk : chk onep 12 64 = true := by decide +kernel
theorem ones_all {n : Nat} (h0 : 64 ≤ n) (h1 : n ≤ 4096) : one (bits_OnesCount.f (IntKind.u64.wrap (n : Int))) = pw (n : Int) := by
  have h := chk_all onep 12 64 ones_chk (n - 64) (by omega)
  rw [show 64 + (n - 64) = n by omega] at h
  unfold onep at h
  exact beq_iff_eq.1 h
theorem ones_some (a : Int) : ∃ t, bits_OnesCount.f a = some t := by
  unfold bits_OnesCount.f bits_OnesCount64.f
  exact ⟨_, rfl⟩
theorem ones_is {a : Int} (h0 : 64 ≤ a) (h1 : a ≤ 4096) : ∃ t, bits_OnesCount.f (IntKind.u64.wrap a) = some t ∧ (t = 1 ↔ pw a = true) := by
  obtain ⟨n, rfl⟩ := Int.eq_ofNat_of_zero_le (show 0 ≤ a by omega)
  obtain ⟨t, ht⟩ := ones_some (IntKind.u64.wrap (n : Int))
  refine ⟨t, ht, ?_⟩
  have h2 := ones_all (n := n) (by omega) (by omega)
  rw [ht] at h2
  rw [← h2]
  show t = 1 ↔ (t == 1) = true
  exact beq_iff_eq.symm
theorem pw_iff (a : Int) : pw a = true ↔ a = 64 ∨ a = 128 ∨ a = 256 ∨ a = 512 ∨ a = 1024 ∨ a = 2048 ∨ a = 4096 := by
  unfold pw
  simp only [Bool.or_eq_true, beq_iff_eq, or_assoc]
/-- Is it a plan's size? -/
def Good (a0 a1 a2 a3 : Int) : Prop := pw a0 = true ∧ (1 ≤ a1 ∧ a1 ≤ 4096) ∧ (2 ≤ a2 ∧ a2 ≤ 1024) ∧ (4 ≤ a3 ∧ a3 ≤ 512)
instance (a0 a1 a2 a3 : Int) : Decidable (Good a0 a1 a2 a3) := by unfold Good; infer_instance
def mk (a0 a1 a2 a3 : Int) : Int × Int × Int × Int × Int × Int × Int × Int × Int × Int × Int × Int × Int := if Good a0 a1 a2 a3 then plan_Make.spec a0 a1 a2 a3 else (0, 0, 0, 0, 0, 0, 0, 0, 0, 0, 0, 0, 1)
theorem make_is (a0 a1 a2 a3 : Int) : plan_Make.f a0 a1 a2 a3 = some (mk a0 a1 a2 a3) := by
  unfold plan_Make.f mk
  by_cases c : 64 ≤ a0 ∧ a0 ≤ 4096
  · obtain ⟨t, ht, hiff⟩ := ones_is c.1 c.2
    rw [if_pos c, ht, Option.bind_some]
    congr 1
    by_cases d : t = 1 ∧ (1 ≤ a1 ∧ a1 ≤ 4096) ∧ (2 ≤ a2 ∧ a2 ≤ 1024) ∧ (4 ≤ a3 ∧ a3 ≤ 512)
    · rw [if_pos d, if_pos (show Good a0 a1 a2 a3 from ⟨hiff.1 d.1, d.2⟩)]
    · rw [if_neg d, if_neg (fun q : Good a0 a1 a2 a3 => d ⟨hiff.2 q.1, q.2⟩)]
  · rw [if_neg c, if_neg (fun q : Good a0 a1 a2 a3 => by have := (pw_iff a0).1 q.1; omega)]
theorem sh_lt {n s : Int} (h2 : 1 ≤ s) (j : Int) : j * s < n ↔ j < plan_Make.sh n s := by
  unfold plan_Make.sh
  have h := Int.le_ediv_iff_mul_le (a := j + 1) (b := n + s - 1) (c := s) (by omega)
  have e : (j + 1) * s = j * s + s := by rw [Int.add_mul, Int.one_mul]
  rw [e] at h
  constructor
  · intro q
    have := h.2 (by omega)
    omega
  · intro q
    have := h.1 (by omega)
    omega
theorem sh_range {n s : Int} (h0 : 0 ≤ n) (h2 : 1 ≤ s) : 0 ≤ plan_Make.sh n s ∧ plan_Make.sh n s ≤ n + s := by
  have q0 : 0 ≤ (n + s - 1) / s := Int.ediv_nonneg (by omega) (by omega)
  have q1 : (n + s - 1) / s ≤ n + s - 1 := Int.ediv_le_self _ (by omega)
  unfold plan_Make.sh
  omega
theorem sh_32 {n q : Int} (_ : 1 ≤ q) : plan_Make.sh (n * 32) (32 * q) = plan_Make.sh n q := by
  unfold plan_Make.sh
  have e : n * 32 + 32 * q - 1 = 31 + 32 * (n + q - 1) := by omega
  rw [e, ← Int.ediv_ediv_of_nonneg (by omega), Int.add_mul_ediv_left _ _ (by omega)]
  congr 1
  omega
theorem size_step (k : Nat) {a x : Int} (h0 : 64 ≤ x) (h1 : x ≤ 4096) : skerryref05_Size.l0 (k + 1) a x = if x = a then some true else skerryref05_Size.l0 k a (x * 2) := by
  simp only [skerryref05_Size.l0]
  rw [if_pos h1, w64 (by omega) (by omega)]
theorem size_end (k : Nat) {a x : Int} (h0 : 4096 < x) : skerryref05_Size.l0 (k + 1) a x = some false := by
  simp only [skerryref05_Size.l0]
  rw [if_neg (by omega)]
theorem size_is (k : Nat) (a : Int) : skerryref05_Size.f (k + 8) a = some (pw a) := by
  unfold skerryref05_Size.f
  rw [show k + 8 = k + 1 + 1 + 1 + 1 + 1 + 1 + 1 + 1 by omega, size_step _ (by omega) (by omega), size_step _ (by omega) (by omega), size_step _ (by omega) (by omega), size_step _ (by omega) (by omega), size_step _ (by omega) (by omega), size_step _ (by omega) (by omega), size_step _ (by omega) (by omega), size_end _ (by omega)]
  have h := pw_iff a
  by_cases c : pw a = true
  · rw [c]
    rcases h.1 c with r | r | r | r | r | r | r <;> subst r <;> rfl
  · rw [Bool.eq_false_iff.2 c]
    have g : ¬ (a = 64 ∨ a = 128 ∨ a = 256 ∨ a = 512 ∨ a = 1024 ∨ a = 2048 ∨ a = 4096) := fun q => c (h.2 q)
    rw [if_neg (by omega), if_neg (by omega), if_neg (by omega), if_neg (by omega), if_neg (by omega), if_neg (by omega), if_neg (by omega)]
theorem blocks_loop {n s : Int} (h0 : 0 ≤ n) (h1 : n ≤ 1000000) (h2 : 1 ≤ s) (h3 : s ≤ 1000000) (d : Nat) : ∀ (k : Nat) (j : Int), 0 ≤ j → plan_Make.sh n s - j = d → d < k → skerryref05_blocksFor.l0 k n s j = some (plan_Make.sh n s) := by
  have hr := sh_range h0 h2
  induction d with
  | zero =>
    intro k j hj hd hk
    obtain ⟨k, rfl⟩ : ∃ m, k = m + 1 := ⟨k - 1, by omega⟩
    have hb : j * s ≤ 2000000 * 1000000 := Int.mul_le_mul (by omega) h3 (by omega) (by omega)
    have hb0 : 0 ≤ j * s := Int.mul_nonneg hj (by omega)
    simp only [skerryref05_blocksFor.l0]
    rw [w64 (x := j * s) (by omega) (by omega), if_neg (by rw [sh_lt h2]; omega), show j = plan_Make.sh n s by omega]
  | succ d ih =>
    intro k j hj hd hk
    obtain ⟨k, rfl⟩ : ∃ m, k = m + 1 := ⟨k - 1, by omega⟩
    have hb : j * s ≤ 2000000 * 1000000 := Int.mul_le_mul (by omega) h3 (by omega) (by omega)
    have hb0 : 0 ≤ j * s := Int.mul_nonneg hj (by omega)
    simp only [skerryref05_blocksFor.l0]
    rw [w64 (x := j * s) (by omega) (by omega), if_pos (by rw [sh_lt h2]; omega), w64 (by omega) (by omega)]
    exact ih k (j + 1) (by omega) (by omega) (by omega)
theorem blocks_is {n s : Int} (h0 : 0 ≤ n) (h1 : n ≤ 1000000) (h2 : 1 ≤ s) (h3 : s ≤ 1000000) {k : Nat} (hk : 2000000 < k) : skerryref05_blocksFor.f k n s = some (plan_Make.sh n s) := by
  have hr := sh_range h0 h2
  unfold skerryref05_blocksFor.f
  exact blocks_loop h0 h1 h2 h3 (plan_Make.sh n s).toNat k 0 (by omega) (by omega) (by omega)
theorem rmake_true (k : Nat) (a0 a1 a2 a3 : Int) : skerryref05_Make.j0 (k + 1) a0 a1 a2 a3 true = some (0, 0, 0, 0, 0, 0, 0, 0, 0, 0, 0, 0, 1) := by
  simp only [skerryref05_Make.j0, if_true]
theorem rmake_false {k : Nat} (hk : 2000000 < k) {a0 a1 a2 a3 : Int} (hg : Good a0 a1 a2 a3) : skerryref05_Make.j0 (k + 1) a0 a1 a2 a3 false = some (plan_Make.spec a0 a1 a2 a3) := by
  obtain ⟨c0, c1, c2, c3⟩ := hg
  have c0 := (pw_iff a0).1 c0
  have p0 : 0 ≤ a0 * a1 := Int.mul_nonneg (by omega) (by omega)
  have p1 : a0 * a1 ≤ 4096 * 4096 := Int.mul_le_mul (by omega) c1.2 (by omega) (by omega)
  obtain ⟨q, rfl⟩ : ∃ q, a0 = 32 * q := ⟨a0 / 32, by omega⟩
  have s1 := sh_range (n := a2) (s := 8 * (32 * q)) (by omega) (by omega)
  have s2 := sh_range (n := a1) (s := 8 * (32 * q)) (by omega) (by omega)
  have s3 := sh_range (n := a2) (s := q) (by omega) (by omega)
  simp only [skerryref05_Make.j0]
  unfold plan_Make.spec
  rw [if_neg (by decide), w64 (x := 32 * q * a1) (by omega) (by omega)]
  by_cases c : 32 * q * a1 > 1048576
  · rw [if_pos c, if_pos c]
  · have e32 : Int.tdiv (32 * q) 32 = q := by
      rw [Int.tdiv_eq_ediv_of_nonneg (by omega)]
      omega
    rw [if_neg c, if_neg c, w64 (x := 8 * (32 * q)) (by omega) (by omega), blocks_is (by omega) (by omega) (by omega) (by omega) hk, Option.bind_some, blocks_is (by omega) (by omega) (by omega) (by omega) hk, Option.bind_some, e32, w64 (x := q) (by omega) (by omega), blocks_is (by omega) (by omega) (by omega) (by omega) hk, Option.bind_some, sh_32 (by omega)]
    rw [w64 (x := 2 + a3) (by omega) (by omega), w64 (x := 2 + a3 + plan_Make.sh a2 (8 * (32 * q))) (by omega) (by omega), w64 (x := 2 + a3 + plan_Make.sh a2 (8 * (32 * q)) + plan_Make.sh a1 (8 * (32 * q))) (by omega) (by omega), w64 (x := 2 + a3 + plan_Make.sh a2 (8 * (32 * q)) + plan_Make.sh a1 (8 * (32 * q)) + plan_Make.sh a2 q) (by omega) (by omega)]
    by_cases d : a1 ≤ 2 + a3 + plan_Make.sh a2 (8 * (32 * q)) + plan_Make.sh a1 (8 * (32 * q)) + plan_Make.sh a2 q
    · rw [if_pos d, if_pos d]
    · rw [if_neg d, if_neg d]
theorem rmake_is {k : Nat} (hk : 3000000 < k) (a0 a1 a2 a3 : Int) : skerryref05_Make.f k a0 a1 a2 a3 = some (mk a0 a1 a2 a3) := by
  obtain ⟨k, rfl⟩ : ∃ m, k = m + 8 := ⟨k - 8, by omega⟩
  unfold skerryref05_Make.f mk
  rw [size_is, Option.bind_some]
  have ht := rmake_true (k + 7) a0 a1 a2 a3
  have bad : ¬ Good a0 a1 a2 a3 → some (if Good a0 a1 a2 a3 then plan_Make.spec a0 a1 a2 a3 else (0, 0, 0, 0, 0, 0, 0, 0, 0, 0, 0, 0, 1)) = some (0, 0, 0, 0, 0, 0, 0, 0, 0, 0, 0, 0, 1) := fun h => by rw [if_neg h]
  by_cases c0 : pw a0 = true
  · rw [if_pos c0]
    by_cases d1 : a1 < 1
    · rw [if_pos d1, bad (fun q => by have := q.2.1; omega)]
      exact ht
    rw [if_neg d1]
    by_cases d2 : a1 > 4096
    · rw [if_pos d2, bad (fun q => by have := q.2.1; omega)]
      exact ht
    rw [if_neg d2]
    by_cases d3 : a2 < 2
    · rw [if_pos d3, bad (fun q => by have := q.2.2.1; omega)]
      exact ht
    rw [if_neg d3]
    by_cases d4 : a2 > 1024
    · rw [if_pos d4, bad (fun q => by have := q.2.2.1; omega)]
      exact ht
    rw [if_neg d4]
    by_cases d5 : a3 < 4
    · rw [if_pos d5, bad (fun q => by have := q.2.2.2; omega)]
      exact ht
    rw [if_neg d5]
    by_cases d6 : a3 > 512
    · rw [decide_eq_true d6, bad (fun q => by have := q.2.2.2; omega)]
      exact ht
    · have hg : Good a0 a1 a2 a3 := ⟨c0, by omega, by omega, by omega⟩
      rw [decide_eq_false d6, if_pos hg]
      exact rmake_false (k := k + 7) (by omega) hg
  · rw [if_neg c0, bad (fun q => c0 q.1)]
    exact ht
theorem ite_of {α : Type} {b : Bool} {x y : α} (h : b = false → False) : (if b = true then x else y) = x := by
  cases b
  · exact (h rfl).elim
  · rfl
/-- Is it a plan as one is made? -/
def Sound (a0 a1 a2 a3 a4 a5 a6 a7 a8 a9 a10 a11 : Int) : Prop :=
  Good a0 a1 a2 a3 ∧ a0 * a1 ≤ 1048576 ∧ 2 + a3 + plan_Make.sh a2 (8 * a0) + plan_Make.sh a1 (8 * a0) + plan_Make.sh (a2 * 32) a0 < a1 ∧
  2 = a4 ∧ 2 + a3 = a5 ∧ plan_Make.sh a2 (8 * a0) = a6 ∧ 2 + a3 + plan_Make.sh a2 (8 * a0) = a7 ∧ plan_Make.sh a1 (8 * a0) = a8 ∧
  2 + a3 + plan_Make.sh a2 (8 * a0) + plan_Make.sh a1 (8 * a0) = a9 ∧ plan_Make.sh (a2 * 32) a0 = a10 ∧ 2 + a3 + plan_Make.sh a2 (8 * a0) + plan_Make.sh a1 (8 * a0) + plan_Make.sh (a2 * 32) a0 = a11
section
variable {a0 a1 a2 a3 a4 a5 a6 a7 a8 a9 a10 a11 : Int}
theorem check_is (a0 a1 a2 a3 a4 a5 a6 a7 a8 a9 a10 a11 : Int) : plan_Check.f a0 a1 a2 a3 a4 a5 a6 a7 a8 a9 a10 a11 = some 0 ∧ Sound a0 a1 a2 a3 a4 a5 a6 a7 a8 a9 a10 a11 ∨ plan_Check.f a0 a1 a2 a3 a4 a5 a6 a7 a8 a9 a10 a11 = some 4 ∧ ¬ Sound a0 a1 a2 a3 a4 a5 a6 a7 a8 a9 a10 a11 := by
  unfold plan_Check.f
  rw [make_is, Option.bind_some]
  unfold mk
  by_cases g : Good a0 a1 a2 a3
  · rw [if_pos g]
    unfold plan_Make.spec
    by_cases c : a0 * a1 > 1048576
    · rw [if_pos c]
      exact Or.inr ⟨rfl, fun s => by have := s.2.1; omega⟩
    · rw [if_neg c]
      by_cases d : a1 ≤ 2 + a3 + plan_Make.sh a2 (8 * a0) + plan_Make.sh a1 (8 * a0) + plan_Make.sh (a2 * 32) a0
      · rw [if_pos d]
        exact Or.inr ⟨rfl, fun s => by have := s.2.2.1; omega⟩
      · rw [if_neg d]
        by_cases q : 2 = a4 ∧ 2 + a3 = a5 ∧ plan_Make.sh a2 (8 * a0) = a6 ∧ 2 + a3 + plan_Make.sh a2 (8 * a0) = a7 ∧ plan_Make.sh a1 (8 * a0) = a8 ∧ 2 + a3 + plan_Make.sh a2 (8 * a0) + plan_Make.sh a1 (8 * a0) = a9 ∧ plan_Make.sh (a2 * 32) a0 = a10 ∧ 2 + a3 + plan_Make.sh a2 (8 * a0) + plan_Make.sh a1 (8 * a0) + plan_Make.sh (a2 * 32) a0 = a11
        · refine Or.inl ⟨?_, g, by omega, by omega, q⟩
          obtain ⟨rfl, rfl, rfl, rfl, rfl, rfl, rfl, rfl⟩ := q
          simp only [beq_self_eq_true, Bool.not_true, Bool.false_or]
          rfl
        · refine Or.inr ⟨?_, fun s => q s.2.2.2⟩
          show (if (0 : Int) = 0 then (if (_ : Bool) = true then some 4 else some 0) else some 4) = some 4
          rw [if_pos rfl]
          apply ite_of
          intro z
          apply q
          simpa using z
  · rw [if_neg g]
    exact Or.inr ⟨rfl, fun s => g s.1⟩
/-- What a sound plan is, in numbers. -/
theorem Sound.facts (s : Sound a0 a1 a2 a3 a4 a5 a6 a7 a8 a9 a10 a11) : (a0 = 64 ∨ a0 = 128 ∨ a0 = 256 ∨ a0 = 512 ∨ a0 = 1024 ∨ a0 = 2048 ∨ a0 = 4096) ∧ (1 ≤ a1 ∧ a1 ≤ 4096) ∧ (2 ≤ a2 ∧ a2 ≤ 1024) ∧ (4 ≤ a3 ∧ a3 ≤ 512) ∧ a4 = 2 ∧ a5 = 2 + a3 ∧ 1 ≤ a6 ∧ a7 = a5 + a6 ∧ 1 ≤ a8 ∧ a9 = a7 + a8 ∧ 1 ≤ a10 ∧ a11 = a9 + a10 ∧ a11 < a1 ∧ ∀ n, 0 ≤ n → n < a2 → n / (a0 / 32) < a10 := by
  obtain ⟨⟨g0, g1, g2, g3⟩, _, h1, rfl, rfl, rfl, rfl, rfl, rfl, rfl, rfl⟩ := s
  have g0 := (pw_iff a0).1 g0
  have e6 := (sh_lt (n := a2) (s := 8 * a0) (by omega) 0).1 (by omega)
  have e8 := (sh_lt (n := a1) (s := 8 * a0) (by omega) 0).1 (by omega)
  have e10 := (sh_lt (n := a2 * 32) (s := a0) (by omega) 0).1 (by omega)
  refine ⟨g0, g1, g2, g3, rfl, rfl, by omega, rfl, by omega, rfl, by omega, rfl, h1, fun n n0 n1 => ?_⟩
  apply (sh_lt (by omega) _).1
  have : n / (a0 / 32) * a0 ≤ n * 32 := by
    rcases g0 with rfl | rfl | rfl | rfl | rfl | rfl | rfl <;> omega
  omega
end
/-- The region of a block, as the ends tell it. -/
def reg (a4 a5 a7 a9 a11 b : Int) : Int := if b < 1 then 0 else if b < a4 then 1 else if b < a5 then 2 else if b < a7 then 3 else if b < a9 then 4 else if b < a11 then 5 else 6
theorem region_step {x : Int} {L : List Int} {i : Nat} (k : Nat) (h : i < L.length) (hL : L.length ≤ 100) : plan_Region.l0 (k + 1) x L (L.length : Int) (i : Int) = if x < rd L (i : Int) then some ((i : Int), 0) else plan_Region.l0 k x L (L.length : Int) ((i + 1 : Nat) : Int) := by
  simp only [plan_Region.l0]
  rw [if_pos (by omega), if_pos (by omega), if_pos (by omega), w64 (by omega) (by omega)]
  rfl
theorem region_end {x : Int} {L : List Int} (k : Nat) : plan_Region.l0 (k + 1) x L (L.length : Int) (L.length : Int) = some (6, 0) := by
  simp only [plan_Region.l0]
  rw [if_neg (by omega)]
section
variable {a0 a1 a2 a3 a4 a5 a6 a7 a8 a9 a10 a11 : Int}
theorem region_loop (k : Nat) (b : Int) : plan_Region.l0 (k + 7) b [1, a4, a5, a7, a9, a11] (([1, a4, a5, a7, a9, a11] : List Int).length : Int) 0 = some (reg a4 a5 a7 a9 a11 b, 0) := by
  have h0 := region_step (x := b) (L := [1, a4, a5, a7, a9, a11]) (i := 0) (k + 6) (by show 0 < 6; omega) (by show 6 ≤ 100; omega)
  have h1 := region_step (x := b) (L := [1, a4, a5, a7, a9, a11]) (i := 1) (k + 5) (by show 1 < 6; omega) (by show 6 ≤ 100; omega)
  have h2 := region_step (x := b) (L := [1, a4, a5, a7, a9, a11]) (i := 2) (k + 4) (by show 2 < 6; omega) (by show 6 ≤ 100; omega)
  have h3 := region_step (x := b) (L := [1, a4, a5, a7, a9, a11]) (i := 3) (k + 3) (by show 3 < 6; omega) (by show 6 ≤ 100; omega)
  have h4 := region_step (x := b) (L := [1, a4, a5, a7, a9, a11]) (i := 4) (k + 2) (by show 4 < 6; omega) (by show 6 ≤ 100; omega)
  have h5 := region_step (x := b) (L := [1, a4, a5, a7, a9, a11]) (i := 5) (k + 1) (by show 5 < 6; omega) (by show 6 ≤ 100; omega)
  have h6 := region_end (x := b) (L := [1, a4, a5, a7, a9, a11]) k
  refine h0.trans ?_
  unfold reg
  show (if b < 1 then _ else _) = _
  by_cases c0 : b < 1
  · rw [if_pos c0, if_pos c0]; rfl
  rw [if_neg c0, if_neg c0]
  refine h1.trans ?_
  show (if b < a4 then _ else _) = _
  by_cases c1 : b < a4
  · rw [if_pos c1, if_pos c1]; rfl
  rw [if_neg c1, if_neg c1]
  refine h2.trans ?_
  show (if b < a5 then _ else _) = _
  by_cases c2 : b < a5
  · rw [if_pos c2, if_pos c2]; rfl
  rw [if_neg c2, if_neg c2]
  refine h3.trans ?_
  show (if b < a7 then _ else _) = _
  by_cases c3 : b < a7
  · rw [if_pos c3, if_pos c3]; rfl
  rw [if_neg c3, if_neg c3]
  refine h4.trans ?_
  show (if b < a9 then _ else _) = _
  by_cases c4 : b < a9
  · rw [if_pos c4, if_pos c4]; rfl
  rw [if_neg c4, if_neg c4]
  refine h5.trans ?_
  show (if b < a11 then _ else _) = _
  by_cases c5 : b < a11
  · rw [if_pos c5, if_pos c5]; rfl
  rw [if_neg c5, if_neg c5]
  exact h6
theorem region_is (s : Sound a0 a1 a2 a3 a4 a5 a6 a7 a8 a9 a10 a11) (hc : plan_Check.f a0 a1 a2 a3 a4 a5 a6 a7 a8 a9 a10 a11 = some 0) {k : Nat} (hk : 7 ≤ k) (b : Int) :
    plan_Region.f k a0 a1 a2 a3 a4 a5 a6 a7 a8 a9 a10 a11 b = some (if 0 ≤ b ∧ b ≤ a1 - 1 then (reg a4 a5 a7 a9 a11 b, 0) else (0, 2)) := by
  obtain ⟨_, f1, _⟩ := s.facts
  obtain ⟨k, rfl⟩ : ∃ m, k = m + 7 := ⟨k - 7, by omega⟩
  unfold plan_Region.f
  rw [hc, Option.bind_some, if_pos rfl, w64 (by omega) (by omega), plan_Make.w_is, Option.bind_some]
  by_cases c : 0 ≤ b ∧ b ≤ a1 - 1
  · rw [decide_eq_true c, if_pos rfl, Option.bind_some, if_pos c]
    exact region_loop k b
  · rw [decide_eq_false c, if_neg (by decide), if_neg c]
theorem place_is (s : Sound a0 a1 a2 a3 a4 a5 a6 a7 a8 a9 a10 a11) (hc : plan_Check.f a0 a1 a2 a3 a4 a5 a6 a7 a8 a9 a10 a11 = some 0) (n : Int) :
    plan_Place.f a0 a1 a2 a3 a4 a5 a6 a7 a8 a9 a10 a11 n = some (if 0 ≤ n ∧ n ≤ a2 - 1 then (a9 + n / (a0 / 32), n % (a0 / 32) * 32, 0) else (0, 0, 2)) := by
  obtain ⟨f0, f1, f2, f3, f4, f5, f6, f7, f8, f9, f10, f11, f12, f13⟩ := s.facts
  unfold plan_Place.f
  rw [hc, Option.bind_some, if_pos rfl, w64 (by omega) (by omega), plan_Make.w_is, Option.bind_some]
  by_cases c : 0 ≤ n ∧ n ≤ a2 - 1
  · have h13 := f13 n (by omega) (by omega)
    have e : wrap64 (Int.tdiv a0 32) = a0 / 32 := by rw [Int.tdiv_eq_ediv_of_nonneg (by omega), w64 (by omega) (by omega)]
    have p : 1 ≤ a0 / 32 := by omega
    have d0 : 0 ≤ n / (a0 / 32) := Int.ediv_nonneg (by omega) (by omega)
    have m0 : 0 ≤ n % (a0 / 32) := Int.emod_nonneg _ (by omega)
    have m1 : n % (a0 / 32) < a0 / 32 := Int.emod_lt_of_pos _ (by omega)
    rw [decide_eq_true c, if_pos rfl, if_pos c, e, if_neg (by omega), Int.tdiv_eq_ediv_of_nonneg (by omega), Int.tmod_eq_emod_of_nonneg (by omega), w64 (x := n / (a0 / 32)) (by omega) (by omega), w64 (by omega) (by omega), w64 (by omega) (by omega)]
  · rw [decide_eq_false c, if_neg (by decide), if_neg c]
theorem region_in (s : Sound a0 a1 a2 a3 a4 a5 a6 a7 a8 a9 a10 a11) (hc : plan_Check.f a0 a1 a2 a3 a4 a5 a6 a7 a8 a9 a10 a11 = some 0) {k : Nat} (hk : 7 ≤ k) {b : Int} (h : 0 ≤ b ∧ b ≤ a1 - 1) :
    plan_Region.f k a0 a1 a2 a3 a4 a5 a6 a7 a8 a9 a10 a11 b = some (reg a4 a5 a7 a9 a11 b, 0) := by rw [region_is s hc hk, if_pos h]
theorem place_in (s : Sound a0 a1 a2 a3 a4 a5 a6 a7 a8 a9 a10 a11) (hc : plan_Check.f a0 a1 a2 a3 a4 a5 a6 a7 a8 a9 a10 a11 = some 0) {n : Int} (h : 0 ≤ n ∧ n ≤ a2 - 1) :
    plan_Place.f a0 a1 a2 a3 a4 a5 a6 a7 a8 a9 a10 a11 n = some (a9 + n / (a0 / 32), n % (a0 / 32) * 32, 0) := by rw [place_is s hc, if_pos h]
end
theorem rcheck_is {k : Nat} (hk : 3000000 < k) (a0 a1 a2 a3 a4 a5 a6 a7 a8 a9 a10 a11 : Int) : skerryref05_Check.f k a0 a1 a2 a3 a4 a5 a6 a7 a8 a9 a10 a11 = plan_Check.f a0 a1 a2 a3 a4 a5 a6 a7 a8 a9 a10 a11 := by
  unfold plan_Check.f skerryref05_Check.f
  rw [make_is, rmake_is hk, Option.bind_some, Option.bind_some]
  obtain ⟨⟨b0, b1, b2, b3, b4, b5, b6, b7, b8, b9, b10, b11, b12⟩, hR⟩ : ∃ R, mk a0 a1 a2 a3 = R := ⟨_, rfl⟩
  rw [hR]
  dsimp only
  rw [Bool.beq_comm (a := a0), Bool.beq_comm (a := a1), Bool.beq_comm (a := a2), Bool.beq_comm (a := a3), Bool.beq_comm (a := a4), Bool.beq_comm (a := a5), Bool.beq_comm (a := a6), Bool.beq_comm (a := a7), Bool.beq_comm (a := a8), Bool.beq_comm (a := a9), Bool.beq_comm (a := a10), Bool.beq_comm (a := a11)]
section
variable {a0 a1 a2 a3 a4 a5 a6 a7 a8 a9 a10 a11 : Int}
theorem rplace_loop (h0 : 64 ≤ a0) (h0' : a0 ≤ 4096) (d : Nat) : ∀ (k : Nat) (b at_ : Int), 0 ≤ b → b + d ≤ 100000 → 0 ≤ at_ → at_ ≤ 100000 → at_ / a0 = d → d < k →
    skerryref05_Place.l0 k b at_ a0 a1 a2 a3 a4 a5 a6 a7 a8 a9 a10 a11 = some (b + at_ / a0, at_ % a0, 0) := by
  induction d with
  | zero =>
    intro k b at_ hb hbd ha ha' hd hk
    obtain ⟨k, rfl⟩ : ∃ m, k = m + 1 := ⟨k - 1, by omega⟩
    have lt : at_ < a0 := by
      rcases Int.lt_or_le at_ a0 with h | h
      · exact h
      · have := Int.ediv_le_ediv (c := a0) (by omega) h
        rw [Int.ediv_self (by omega)] at this
        omega
    simp only [skerryref05_Place.l0]
    rw [if_neg (by omega), hd, Int.emod_eq_of_lt ha lt]
    simp
  | succ d ih =>
    intro k b at_ hb hbd ha ha' hd hk
    obtain ⟨k, rfl⟩ : ∃ m, k = m + 1 := ⟨k - 1, by omega⟩
    have ge : a0 ≤ at_ := by
      rcases Int.lt_or_le at_ a0 with h | h
      · have := Int.ediv_eq_zero_of_lt ha h
        omega
      · exact h
    have e : (at_ - a0) / a0 = at_ / a0 - 1 := by
      have := Int.add_mul_ediv_right (at_) (-1) (c := a0) (by omega)
      rw [show at_ + -1 * a0 = at_ - a0 by omega] at this
      omega
    have e2 : (at_ - a0) % a0 = at_ % a0 := Int.sub_emod_right ..
    simp only [skerryref05_Place.l0]
    rw [if_pos (by omega), w64 (by omega) (by omega), w64 (by omega) (by omega), ih k (b + 1) (at_ - a0) (by omega) (by omega) (by omega) (by omega) (by omega) (by omega), e, e2]
    congr 2
    omega
theorem rplace_is (s : Sound a0 a1 a2 a3 a4 a5 a6 a7 a8 a9 a10 a11) (hc : plan_Check.f a0 a1 a2 a3 a4 a5 a6 a7 a8 a9 a10 a11 = some 0) {k : Nat} (hk : 3000000 < k) (n : Int) :
    skerryref05_Place.f k a0 a1 a2 a3 a4 a5 a6 a7 a8 a9 a10 a11 n = some (if 0 ≤ n ∧ n ≤ a2 - 1 then (a9 + n / (a0 / 32), n % (a0 / 32) * 32, 0) else (0, 0, 2)) := by
  obtain ⟨f0, f1, f2, f3, f4, f5, f6, f7, f8, f9, f10, f11, f12, f13⟩ := s.facts
  obtain ⟨k, rfl⟩ : ∃ m, k = m + 1 := ⟨k - 1, by omega⟩
  unfold skerryref05_Place.f
  rw [rcheck_is hk, hc, Option.bind_some, if_pos rfl]
  have ht : ∀ n, skerryref05_Place.j0 (k + 1) n true a0 a1 a2 a3 a4 a5 a6 a7 a8 a9 a10 a11 = some (0, 0, 2) := by
    intro n
    simp only [skerryref05_Place.j0, if_true]
  by_cases c : n < 0
  · rw [if_pos c, ht, if_neg (by omega)]
  rw [if_neg c]
  by_cases d : n ≥ a2
  · rw [decide_eq_true d, ht, if_neg (by omega)]
  rw [decide_eq_false d, if_pos ⟨by omega, by omega⟩]
  simp only [skerryref05_Place.j0]
  have q0 : 0 ≤ 32 * n / a0 := Int.ediv_nonneg (by omega) (by omega)
  have q1 : 32 * n / a0 ≤ 32 * n := Int.ediv_le_self _ (by omega)
  rw [if_neg (by decide), w64 (by omega) (by omega), rplace_loop (by omega) (by omega) (32 * n / a0).toNat k a9 (32 * n) (by omega) (by omega) (by omega) (by omega) (by omega) (by omega)]
  have e1 : 32 * n / a0 = n / (a0 / 32) := by
    rcases f0 with rfl | rfl | rfl | rfl | rfl | rfl | rfl <;> omega
  have e2 : 32 * n % a0 = n % (a0 / 32) * 32 := by
    rcases f0 with rfl | rfl | rfl | rfl | rfl | rfl | rfl <;> omega
  rw [e1, e2]
theorem rregion_step {x : Int} {L : List Int} {i : Nat} {r : Int} (k : Nat) (h : i < L.length) (hL : L.length ≤ 100) : skerryref05_Region.l0 (k + 1) x L r (i : Int) = skerryref05_Region.l0 k x L (if x ≥ rd L (i : Int) then (i : Int) else r) ((i + 1 : Nat) : Int) := by
  simp only [skerryref05_Region.l0]
  rw [if_pos (by omega), if_pos (by omega), w64 (by omega) (by omega)]
  by_cases c : x ≥ rd L (i : Int)
  · rw [if_pos c, if_pos c]; rfl
  · rw [if_neg c, if_neg c]; rfl
theorem rregion_loop (k : Nat) (b : Int) (hb : 0 ≤ b) (h4 : 1 ≤ a4) (h5 : a4 ≤ a5) (h7 : a5 ≤ a7) (h9 : a7 ≤ a9) (h11 : a9 ≤ a11) : skerryref05_Region.l0 (k + 8) b [0, 1, a4, a5, a7, a9, a11] 0 0 = some (reg a4 a5 a7 a9 a11 b, 0) := by
  have s0 := rregion_step (x := b) (L := [0, 1, a4, a5, a7, a9, a11]) (i := 0) (r := 0) (k + 7) (by show 0 < 7; omega) (by show 7 ≤ 100; omega)
  refine s0.trans ?_
  show skerryref05_Region.l0 (k + 7) b [0, 1, a4, a5, a7, a9, a11] (if b ≥ 0 then 0 else 0) ((1 : Nat) : Int) = _
  obtain ⟨r0, e0⟩ : ∃ r : Int, (if b ≥ 0 then (0 : Int) else 0) = r := ⟨_, rfl⟩
  rw [e0]
  have s1 := rregion_step (x := b) (L := [0, 1, a4, a5, a7, a9, a11]) (i := 1) (r := r0) (k + 6) (by show 1 < 7; omega) (by show 7 ≤ 100; omega)
  refine s1.trans ?_
  show skerryref05_Region.l0 (k + 6) b [0, 1, a4, a5, a7, a9, a11] (if b ≥ 1 then 1 else r0) ((2 : Nat) : Int) = _
  obtain ⟨r1, e1⟩ : ∃ r : Int, (if b ≥ 1 then (1 : Int) else r0) = r := ⟨_, rfl⟩
  rw [e1]
  have s2 := rregion_step (x := b) (L := [0, 1, a4, a5, a7, a9, a11]) (i := 2) (r := r1) (k + 5) (by show 2 < 7; omega) (by show 7 ≤ 100; omega)
  refine s2.trans ?_
  show skerryref05_Region.l0 (k + 5) b [0, 1, a4, a5, a7, a9, a11] (if b ≥ a4 then 2 else r1) ((3 : Nat) : Int) = _
  obtain ⟨r2, e2⟩ : ∃ r : Int, (if b ≥ a4 then (2 : Int) else r1) = r := ⟨_, rfl⟩
  rw [e2]
  have s3 := rregion_step (x := b) (L := [0, 1, a4, a5, a7, a9, a11]) (i := 3) (r := r2) (k + 4) (by show 3 < 7; omega) (by show 7 ≤ 100; omega)
  refine s3.trans ?_
  show skerryref05_Region.l0 (k + 4) b [0, 1, a4, a5, a7, a9, a11] (if b ≥ a5 then 3 else r2) ((4 : Nat) : Int) = _
  obtain ⟨r3, e3⟩ : ∃ r : Int, (if b ≥ a5 then (3 : Int) else r2) = r := ⟨_, rfl⟩
  rw [e3]
  have s4 := rregion_step (x := b) (L := [0, 1, a4, a5, a7, a9, a11]) (i := 4) (r := r3) (k + 3) (by show 4 < 7; omega) (by show 7 ≤ 100; omega)
  refine s4.trans ?_
  show skerryref05_Region.l0 (k + 3) b [0, 1, a4, a5, a7, a9, a11] (if b ≥ a7 then 4 else r3) ((5 : Nat) : Int) = _
  obtain ⟨r4, e4⟩ : ∃ r : Int, (if b ≥ a7 then (4 : Int) else r3) = r := ⟨_, rfl⟩
  rw [e4]
  have s5 := rregion_step (x := b) (L := [0, 1, a4, a5, a7, a9, a11]) (i := 5) (r := r4) (k + 2) (by show 5 < 7; omega) (by show 7 ≤ 100; omega)
  refine s5.trans ?_
  show skerryref05_Region.l0 (k + 2) b [0, 1, a4, a5, a7, a9, a11] (if b ≥ a9 then 5 else r4) ((6 : Nat) : Int) = _
  obtain ⟨r5, e5⟩ : ∃ r : Int, (if b ≥ a9 then (5 : Int) else r4) = r := ⟨_, rfl⟩
  rw [e5]
  have s6 := rregion_step (x := b) (L := [0, 1, a4, a5, a7, a9, a11]) (i := 6) (r := r5) (k + 1) (by show 6 < 7; omega) (by show 7 ≤ 100; omega)
  refine s6.trans ?_
  show skerryref05_Region.l0 (k + 1) b [0, 1, a4, a5, a7, a9, a11] (if b ≥ a11 then 6 else r5) (7 : Int) = _
  simp only [skerryref05_Region.l0]
  rw [if_neg (by show ¬ (7 : Int) < 7; omega)]
  unfold reg
  congr 2
  rw [← e5, ← e4, ← e3, ← e2, ← e1, ← e0]
  by_cases c5 : b < a11
  · rw [if_neg (by omega)]
    by_cases c4 : b < a9
    · rw [if_neg (by omega)]
      by_cases c3 : b < a7
      · rw [if_neg (by omega)]
        by_cases c2 : b < a5
        · rw [if_neg (by omega)]
          by_cases c1 : b < a4
          · rw [if_neg (by omega)]
            by_cases c0 : b < 1
            · rw [if_neg (by omega), if_pos c0]
              by_cases z : b ≥ 0
              · rw [if_pos z]
              · rw [if_neg z]
            · rw [if_pos (by omega), if_neg c0, if_pos c1]
          · rw [if_pos (by omega), if_neg (by omega), if_neg c1, if_pos c2]
        · rw [if_pos (by omega), if_neg (by omega), if_neg (by omega), if_neg c2, if_pos c3]
      · rw [if_pos (by omega), if_neg (by omega), if_neg (by omega), if_neg (by omega), if_neg c3, if_pos c4]
    · rw [if_pos (by omega), if_neg (by omega), if_neg (by omega), if_neg (by omega), if_neg (by omega), if_neg c4, if_pos c5]
  · rw [if_pos (by omega), if_neg (by omega), if_neg (by omega), if_neg (by omega), if_neg (by omega), if_neg (by omega), if_neg c5]
theorem rregion_is (s : Sound a0 a1 a2 a3 a4 a5 a6 a7 a8 a9 a10 a11) (hc : plan_Check.f a0 a1 a2 a3 a4 a5 a6 a7 a8 a9 a10 a11 = some 0) {k : Nat} (hk : 3000000 < k) (n : Int) :
    skerryref05_Region.f k a0 a1 a2 a3 a4 a5 a6 a7 a8 a9 a10 a11 n = some (if 0 ≤ n ∧ n ≤ a1 - 1 then (reg a4 a5 a7 a9 a11 n, 0) else (0, 2)) := by
  obtain ⟨f0, f1, f2, f3, f4, f5, f6, f7, f8, f9, f10, f11, f12, f13⟩ := s.facts
  obtain ⟨k, rfl⟩ : ∃ m, k = m + 9 := ⟨k - 9, by omega⟩
  unfold skerryref05_Region.f
  rw [rcheck_is hk, hc, Option.bind_some, if_pos rfl]
  have ht : ∀ n, skerryref05_Region.j0 (k + 9) n true a0 a1 a2 a3 a4 a5 a6 a7 a8 a9 a10 a11 = some (0, 2) := by
    intro n
    simp only [skerryref05_Region.j0, if_true]
  by_cases c : n < 0
  · rw [if_pos c, ht, if_neg (by omega)]
  rw [if_neg c]
  by_cases d : n ≥ a1
  · rw [decide_eq_true d, ht, if_neg (by omega)]
  rw [decide_eq_false d, if_pos ⟨by omega, by omega⟩]
  simp only [skerryref05_Region.j0]
  rw [if_neg (by decide)]
  exact rregion_loop k n (by omega) (by omega) (by omega) (by omega) (by omega) (by omega)
end
theorem PlanPlaces : skerrylaw05_PlanPlaces.Pure := by
  intro a0 a1 a2 a3 a4 a5 a6 a7 a8 a9 a10 a11 n _ _ _ _ _ _ _ _ _ _ _ _ _
  have hw : skerrylaw05_wakes.f = some true := by decide +kernel
  obtain ⟨k, hk⟩ : ∃ k : Nat, 3000000 < k := ⟨3000001, by omega⟩
  refine ⟨k, ?_⟩
  unfold skerrylaw05_PlanPlaces.f
  rw [hw, Option.bind_some, if_pos rfl]
  rcases check_is a0 a1 a2 a3 a4 a5 a6 a7 a8 a9 a10 a11 with ⟨hc, s⟩ | ⟨hc, _⟩
  · rw [place_is s hc, rplace_is s hc hk, region_is s hc (by omega), rregion_is s hc hk, Option.bind_some, Option.bind_some, Option.bind_some, Option.bind_some, if_pos rfl, if_pos rfl, if_pos rfl, if_pos rfl, if_pos rfl, rcheck_is hk, hc, Option.bind_some, Option.bind_some, beq_self_eq_true]
  · have e1 : plan_Place.f a0 a1 a2 a3 a4 a5 a6 a7 a8 a9 a10 a11 n = some (0, 0, 4) := by
      unfold plan_Place.f
      rw [hc, Option.bind_some, if_neg (by decide)]
    have e2 : skerryref05_Place.f k a0 a1 a2 a3 a4 a5 a6 a7 a8 a9 a10 a11 n = some (0, 0, 4) := by
      unfold skerryref05_Place.f
      rw [rcheck_is hk, hc, Option.bind_some, if_neg (by decide)]
    have e3 : plan_Region.f k a0 a1 a2 a3 a4 a5 a6 a7 a8 a9 a10 a11 n = some (0, 4) := by
      unfold plan_Region.f
      rw [hc, Option.bind_some, if_neg (by decide)]
    have e4 : skerryref05_Region.f k a0 a1 a2 a3 a4 a5 a6 a7 a8 a9 a10 a11 n = some (0, 4) := by
      unfold skerryref05_Region.f
      rw [rcheck_is hk, hc, Option.bind_some, if_neg (by decide)]
    rw [e1, e2, e3, e4, Option.bind_some, Option.bind_some, Option.bind_some, Option.bind_some, if_pos rfl, if_pos rfl, if_pos rfl, if_pos rfl, if_pos rfl, rcheck_is hk, hc, Option.bind_some, Option.bind_some, beq_self_eq_true]

end Go.Proofs.Ytobkdcokickodaa.Pure
