/- A super block and a log's header in plain words. No conditions. -/
import Derived.Test.YtbplffdmggbcdaaPCodecHeadsx5
import Derived.Test.YtbplffdmggbcdaaPlain
import Derived.Test.YtbplffdmggbcdaaPlainCrc
namespace Go.Proofs.Ytbplffdmggbcdaa.Pure
open Go.RowKit Go.Proofs.Ytbplffdmggbcdaa.PCodecHeads Go.Proofs.Ytbplffdmggbcdaa.Plain Go.Proofs.YtbplffdmggbcdaaW.PrintWords Go.Proofs.YtbplffdmggbcdaaW.PrintLast Go.Proofs.YtbplffdmggbcdaaW.PrintMore

/-- n steps. -/
def csn : Nat → Nat → Nat
  | 0, c => c
  | n + 1, c => csn n (cs c)
theorem csn8 (c : Nat) : csn 8 c = cs8 c := rfl
theorem step_loop (d : Nat) : ∀ (k : Nat) (x i : Int), 0 ≤ x → x < 4294967296 → 0 ≤ i → 8 - i = d → d < k → skerryref02_step.l0 k x i = some ((csn d x.toNat : Nat) : Int) := by
  induction d with
  | zero =>
    intro k x i h0 h1 hi hd hk
    obtain ⟨k, rfl⟩ : ∃ m, k = m + 1 := ⟨k - 1, by omega⟩
    simp only [skerryref02_step.l0]
    rw [if_neg (by omega)]
    show some x = some ((x.toNat : Nat) : Int)
    rw [Int.toNat_of_nonneg h0]
  | succ d ih =>
    intro k x i h0 h1 hi hd hk
    obtain ⟨k, rfl⟩ : ∃ m, k = m + 1 := ⟨k - 1, by omega⟩
    have hl := cs_lt (c := x.toNat) (by omega)
    simp only [skerryref02_step.l0]
    rw [if_pos (by omega), Int.tmod_eq_emod_of_nonneg h0, Int.tdiv_eq_ediv_of_nonneg h0, w64 (x := x / 2) (by omega) (by omega), w64 (x := i + 1) (by omega) (by omega)]
    show _ = some ((csn d (cs x.toNat) : Nat) : Int)
    have e : ∀ z : Int, z = ((cs x.toNat : Nat) : Int) → skerryref02_step.l0 k z (i + 1) = some ((csn d (cs x.toNat) : Nat) : Int) := by
      intro z hz
      rw [ih k z (i + 1) (by omega) (by omega) (by omega) (by omega) (by omega), hz, Int.toNat_natCast]
    by_cases c : x % 2 = 1
    · rw [if_pos c]
      apply e
      rw [xor_i64 (by omega) (by omega) (by omega) (by omega)]
      unfold cs
      rw [if_pos (by omega), show (x / 2).toNat = x.toNat / 2 by omega]
      rfl
    · rw [if_neg c]
      apply e
      unfold cs
      rw [if_neg (by omega)]
      omega
theorem step_is {x b : Int} (h0 : 0 ≤ x) (h1 : x < 4294967296) (b0 : 0 ≤ b) (b1 : b < 256) {k : Nat} (hk : 8 < k) : skerryref02_step.f k x b = some ((cstep x.toNat b.toNat : Nat) : Int) := by
  unfold skerryref02_step.f
  have hl : x.toNat ^^^ b.toNat < 4294967296 := Nat.xor_lt_two_pow (n := 32) (by omega) (by omega)
  rw [w64 (by omega) (by omega), xor_i64 h0 h1 b0 (by omega), step_loop 8 k _ 0 (by omega) (by omega) (by omega) (by omega) hk, csn8, Int.toNat_natCast]
  rfl
theorem nat_drop {l : List Int} {i : Int} (h0 : 0 ≤ i) (h : i < (l.length : Int)) : nat (l.drop i.toNat) = (rd l i).toNat :: nat (l.drop (i + 1).toNat) := by
  rw [List.drop_eq_getElem_cons (by omega), rd_get (by omega), show (i + 1).toNat = i.toNat + 1 by omega]
  rfl
theorem rsum_loop {l : List Int} (hl : Bytes l) (hs : l.length ≤ 140737488351232) (d : Nat) : ∀ (k : Nat) (x i : Int), 0 ≤ x → x < 4294967296 → 0 ≤ i → (l.length : Int) - i = d → d + 10 < k →
    skerryref02_Sum.l0 k l x i = some ((craw x.toNat (nat (l.drop i.toNat)) ^^^ 4294967295 : Nat) : Int) := by
  induction d with
  | zero =>
    intro k x i h0 h1 hi hd hk
    obtain ⟨k, rfl⟩ : ∃ m, k = m + 1 := ⟨k - 1, by omega⟩
    simp only [skerryref02_Sum.l0]
    rw [if_neg (by omega), xor_i64 h0 h1 (by omega) (by omega), List.drop_eq_nil_of_le (by omega)]
    rfl
  | succ d ih =>
    intro k x i h0 h1 hi hd hk
    obtain ⟨k, rfl⟩ : ∃ m, k = m + 1 := ⟨k - 1, by omega⟩
    have hr := hl.rd i
    have hc := cstep_lt (c := x.toNat) (x := (rd l i).toNat) (by omega) (by omega)
    simp only [skerryref02_Sum.l0]
    rw [if_pos (by omega), if_pos hi, step_is h0 h1 hr.1 hr.2 (by omega)]
    simp only [Option.bind_some]
    rw [w64 (by omega) (by omega), ih k _ (i + 1) (by omega) (by omega) (by omega) (by omega) (by omega), nat_drop hi (by omega), Int.toNat_natCast]
    rfl
theorem rsum_is {l : List Int} (hl : Bytes l) (hs : l.length ≤ 140737488351232) {k : Nat} (hk : l.length + 10 < k) : skerryref02_Sum.f k l = some (crc 0 l) := by
  unfold skerryref02_Sum.f
  rw [rsum_loop hl hs l.length k 4294967295 0 (by omega) (by omega) (by omega) (by omega) hk]
  unfold crc csum
  rfl
/-- The seven sizes of a block. -/
def pw (n : Int) : Bool := n == 64 || n == 128 || n == 256 || n == 512 || n == 1024 || n == 2048 || n == 4096
def one (o : Option Int) : Bool := match o with
  | some t => t == 1
  | none => false
def chk (p : Nat → Bool) : Nat → Nat → Bool
  | 0, a => p a
  | d + 1, a => chk p d a && chk p d (a + 2 ^ d)
theorem chk_all (p : Nat → Bool) : ∀ (d a : Nat), chk p d a = true → ∀ i, i < 2 ^ d → p (a + i) = true
  | 0, a, h, i, hi => by
    obtain rfl : i = 0 := by omega
    exact h
  | d + 1, a, h, i, hi => by
    simp only [chk, Bool.and_eq_true] at h
    rw [Nat.pow_succ] at hi
    by_cases c : i < 2 ^ d
    · exact chk_all p d a h.1 i c
    · have := chk_all p d (a + 2 ^ d) h.2 (i - 2 ^ d) (by omega)
      rw [show a + 2 ^ d + (i - 2 ^ d) = a + i by omega] at this
      exact this
def onep (n : Nat) : Bool := one (bits_OnesCount.f (IntKind.u64.wrap (n : Int))) == pw (n : Int)
theorem ones_chk : chk onep 12 64 = true := by decide +kernel
theorem ones_all {n : Nat} (h0 : 64 ≤ n) (h1 : n ≤ 4096) : one (bits_OnesCount.f (IntKind.u64.wrap (n : Int))) = pw (n : Int) := by
  have h := chk_all onep 12 64 ones_chk (n - 64) (by omega)
  rw [show 64 + (n - 64) = n by omega] at h
  unfold onep at h
  exact beq_iff_eq.1 h
theorem ones_some (a : Int) : ∃ t, bits_OnesCount.f a = some t := by
  unfold bits_OnesCount.f bits_OnesCount64.f
  exact ⟨_, rfl⟩
theorem ones_is {a : Int} (h0 : 64 ≤ a) (h1 : a ≤ 4096) : ∃ t, bits_OnesCount.f (IntKind.u64.wrap a) = some t ∧ (t = 1 ↔ pw a = true) := by
  obtain ⟨n, rfl⟩ := Int.eq_ofNat_of_zero_le (show 0 ≤ a by omega)
  obtain ⟨t, ht⟩ := ones_some (IntKind.u64.wrap (n : Int))
  refine ⟨t, ht, ?_⟩
  have h2 := ones_all (n := n) (by omega) (by omega)
  rw [ht] at h2
  rw [← h2]
  show t = 1 ↔ (t == 1) = true
  exact beq_iff_eq.symm
theorem pw_iff (a : Int) : pw a = true ↔ a = 64 ∨ a = 128 ∨ a = 256 ∨ a = 512 ∨ a = 1024 ∨ a = 2048 ∨ a = 4096 := by
  unfold pw
  simp only [Bool.or_eq_true, beq_iff_eq, or_assoc]
/-- Is it a plan's size? -/
def Good (a0 a1 a2 a3 : Int) : Prop := pw a0 = true ∧ (1 ≤ a1 ∧ a1 ≤ 4096) ∧ (2 ≤ a2 ∧ a2 ≤ 1024) ∧ (4 ≤ a3 ∧ a3 ≤ 512)
instance (a0 a1 a2 a3 : Int) : Decidable (Good a0 a1 a2 a3) := by unfold Good; infer_instance
def mk (a0 a1 a2 a3 : Int) : Int × Int × Int × Int × Int × Int × Int × Int × Int × Int × Int × Int × Int := if Good a0 a1 a2 a3 then plan_Make.spec a0 a1 a2 a3 else (0, 0, 0, 0, 0, 0, 0, 0, 0, 0, 0, 0, 1)
theorem make_is (a0 a1 a2 a3 : Int) : plan_Make.f a0 a1 a2 a3 = some (mk a0 a1 a2 a3) := by
  unfold plan_Make.f mk
  by_cases c : 64 ≤ a0 ∧ a0 ≤ 4096
  · obtain ⟨t, ht, hiff⟩ := ones_is c.1 c.2
    rw [if_pos c, ht, Option.bind_some]
    congr 1
    by_cases d : t = 1 ∧ (1 ≤ a1 ∧ a1 ≤ 4096) ∧ (2 ≤ a2 ∧ a2 ≤ 1024) ∧ (4 ≤ a3 ∧ a3 ≤ 512)
    · rw [if_pos d, if_pos (show Good a0 a1 a2 a3 from ⟨hiff.1 d.1, d.2⟩)]
    · rw [if_neg d, if_neg (fun q : Good a0 a1 a2 a3 => d ⟨hiff.2 q.1, q.2⟩)]
  · rw [if_neg c, if_neg (fun q : Good a0 a1 a2 a3 => by have := (pw_iff a0).1 q.1; omega)]
theorem sh_lt {n s : Int} (h2 : 1 ≤ s) (j : Int) : j * s < n ↔ j < plan_Make.sh n s := by
  unfold plan_Make.sh
  have h := Int.le_ediv_iff_mul_le (a := j + 1) (b := n + s - 1) (c := s) (by omega)
  have e : (j + 1) * s = j * s + s := by rw [Int.add_mul, Int.one_mul]
  rw [e] at h
  constructor
  · intro q
    have := h.2 (by omega)
    omega
  · intro q
    have := h.1 (by omega)
    omega
theorem sh_range {n s : Int} (h0 : 0 ≤ n) (h2 : 1 ≤ s) : 0 ≤ plan_Make.sh n s ∧ plan_Make.sh n s ≤ n + s := by
  have q0 : 0 ≤ (n + s - 1) / s := Int.ediv_nonneg (by omega) (by omega)
  have q1 : (n + s - 1) / s ≤ n + s - 1 := Int.ediv_le_self _ (by omega)
  unfold plan_Make.sh
  omega
theorem sh_32 {n q : Int} (_ : 1 ≤ q) : plan_Make.sh (n * 32) (32 * q) = plan_Make.sh n q := by
  unfold plan_Make.sh
  have e : n * 32 + 32 * q - 1 = 31 + 32 * (n + q - 1) := by omega
  rw [e, ← Int.ediv_ediv_of_nonneg (by omega), Int.add_mul_ediv_left _ _ (by omega)]
  congr 1
  omega
theorem size_step (k : Nat) {a x : Int} (h0 : 64 ≤ x) (h1 : x ≤ 4096) : skerryref05_Size.l0 (k + 1) a x = if x = a then some true else skerryref05_Size.l0 k a (x * 2) := by
  simp only [skerryref05_Size.l0]
  rw [if_pos h1, w64 (by omega) (by omega)]
theorem size_end (k : Nat) {a x : Int} (h0 : 4096 < x) : skerryref05_Size.l0 (k + 1) a x = some false := by
  simp only [skerryref05_Size.l0]
  rw [if_neg (by omega)]
theorem size_is (k : Nat) (a : Int) : skerryref05_Size.f (k + 8) a = some (pw a) := by
  unfold skerryref05_Size.f
  rw [show k + 8 = k + 1 + 1 + 1 + 1 + 1 + 1 + 1 + 1 by omega, size_step _ (by omega) (by omega), size_step _ (by omega) (by omega), size_step _ (by omega) (by omega), size_step _ (by omega) (by omega), size_step _ (by omega) (by omega), size_step _ (by omega) (by omega), size_step _ (by omega) (by omega), size_end _ (by omega)]
  have h := pw_iff a
  by_cases c : pw a = true
  · rw [c]
    rcases h.1 c with r | r | r | r | r | r | r <;> subst r <;> rfl
  · rw [Bool.eq_false_iff.2 c]
    have g : ¬ (a = 64 ∨ a = 128 ∨ a = 256 ∨ a = 512 ∨ a = 1024 ∨ a = 2048 ∨ a = 4096) := fun q => c (h.2 q)
    rw [if_neg (by omega), if_neg (by omega), if_neg (by omega), if_neg (by omega), if_neg (by omega), if_neg (by omega), if_neg (by omega)]
theorem blocks_loop {n s : Int} (h0 : 0 ≤ n) (h1 : n ≤ 1000000) (h2 : 1 ≤ s) (h3 : s ≤ 1000000) (d : Nat) : ∀ (k : Nat) (j : Int), 0 ≤ j → plan_Make.sh n s - j = d → d < k → skerryref05_blocksFor.l0 k n s j = some (plan_Make.sh n s) := by
  have hr := sh_range h0 h2
  induction d with
  | zero =>
    intro k j hj hd hk
    obtain ⟨k, rfl⟩ : ∃ m, k = m + 1 := ⟨k - 1, by omega⟩
    have hb : j * s ≤ 2000000 * 1000000 := Int.mul_le_mul (by omega) h3 (by omega) (by omega)
    have hb0 : 0 ≤ j * s := Int.mul_nonneg hj (by omega)
    simp only [skerryref05_blocksFor.l0]
    rw [w64 (x := j * s) (by omega) (by omega), if_neg (by rw [sh_lt h2]; omega), show j = plan_Make.sh n s by omega]
  | succ d ih =>
    intro k j hj hd hk
    obtain ⟨k, rfl⟩ : ∃ m, k = m + 1 := ⟨k - 1, by omega⟩
    have hb : j * s ≤ 2000000 * 1000000 := Int.mul_le_mul (by omega) h3 (by omega) (by omega)
    have hb0 : 0 ≤ j * s := Int.mul_nonneg hj (by omega)
    simp only [skerryref05_blocksFor.l0]
    rw [w64 (x := j * s) (by omega) (by omega), if_pos (by rw [sh_lt h2]; omega), w64 (by omega) (by omega)]
    exact ih k (j + 1) (by omega) (by omega) (by omega)
theorem blocks_is {n s : Int} (h0 : 0 ≤ n) (h1 : n ≤ 1000000) (h2 : 1 ≤ s) (h3 : s ≤ 1000000) {k : Nat} (hk : 2000000 < k) : skerryref05_blocksFor.f k n s = some (plan_Make.sh n s) := by
  have hr := sh_range h0 h2
  unfold skerryref05_blocksFor.f
  exact blocks_loop h0 h1 h2 h3 (plan_Make.sh n s).toNat k 0 (by omega) (by omega) (by omega)
theorem rmake_true (k : Nat) (a0 a1 a2 a3 : Int) : skerryref05_Make.j0 (k + 1) a0 a1 a2 a3 true = some (0, 0, 0, 0, 0, 0, 0, 0, 0, 0, 0, 0, 1) := by
  simp only [skerryref05_Make.j0, if_true]
theorem rmake_false {k : Nat} (hk : 2000000 < k) {a0 a1 a2 a3 : Int} (hg : Good a0 a1 a2 a3) : skerryref05_Make.j0 (k + 1) a0 a1 a2 a3 false = some (plan_Make.spec a0 a1 a2 a3) := by
  obtain ⟨c0, c1, c2, c3⟩ := hg
  have c0 := (pw_iff a0).1 c0
  have p0 : 0 ≤ a0 * a1 := Int.mul_nonneg (by omega) (by omega)
  have p1 : a0 * a1 ≤ 4096 * 4096 := Int.mul_le_mul (by omega) c1.2 (by omega) (by omega)
  obtain ⟨q, rfl⟩ : ∃ q, a0 = 32 * q := ⟨a0 / 32, by omega⟩
  have s1 := sh_range (n := a2) (s := 8 * (32 * q)) (by omega) (by omega)
  have s2 := sh_range (n := a1) (s := 8 * (32 * q)) (by omega) (by omega)
  have s3 := sh_range (n := a2) (s := q) (by omega) (by omega)
  simp only [skerryref05_Make.j0]
  unfold plan_Make.spec
  rw [if_neg (by decide), w64 (x := 32 * q * a1) (by omega) (by omega)]
  by_cases c : 32 * q * a1 > 1048576
  · rw [if_pos c, if_pos c]
  · have e32 : Int.tdiv (32 * q) 32 = q := by
      rw [Int.tdiv_eq_ediv_of_nonneg (by omega)]
      omega
    rw [if_neg c, if_neg c, w64 (x := 8 * (32 * q)) (by omega) (by omega), blocks_is (by omega) (by omega) (by omega) (by omega) hk, Option.bind_some, blocks_is (by omega) (by omega) (by omega) (by omega) hk, Option.bind_some, e32, w64 (x := q) (by omega) (by omega), blocks_is (by omega) (by omega) (by omega) (by omega) hk, Option.bind_some, sh_32 (by omega)]
    rw [w64 (x := 2 + a3) (by omega) (by omega), w64 (x := 2 + a3 + plan_Make.sh a2 (8 * (32 * q))) (by omega) (by omega), w64 (x := 2 + a3 + plan_Make.sh a2 (8 * (32 * q)) + plan_Make.sh a1 (8 * (32 * q))) (by omega) (by omega), w64 (x := 2 + a3 + plan_Make.sh a2 (8 * (32 * q)) + plan_Make.sh a1 (8 * (32 * q)) + plan_Make.sh a2 q) (by omega) (by omega)]
    by_cases d : a1 ≤ 2 + a3 + plan_Make.sh a2 (8 * (32 * q)) + plan_Make.sh a1 (8 * (32 * q)) + plan_Make.sh a2 q
    · rw [if_pos d, if_pos d]
    · rw [if_neg d, if_neg d]
theorem rmake_is {k : Nat} (hk : 3000000 < k) (a0 a1 a2 a3 : Int) : skerryref05_Make.f k a0 a1 a2 a3 = some (mk a0 a1 a2 a3) := by
  obtain ⟨k, rfl⟩ : ∃ m, k = m + 8 := ⟨k - 8, by omega⟩
  unfold skerryref05_Make.f mk
  rw [size_is, Option.bind_some]
  have ht := rmake_true (k + 7) a0 a1 a2 a3
  have bad : ¬ Good a0 a1 a2 a3 → some (if Good a0 a1 a2 a3 then plan_Make.spec a0 a1 a2 a3 else (0, 0, 0, 0, 0, 0, 0, 0, 0, 0, 0, 0, 1)) = some (0, 0, 0, 0, 0, 0, 0, 0, 0, 0, 0, 0, 1) := fun h => by rw [if_neg h]
  by_cases c0 : pw a0 = true
  · rw [if_pos c0]
    by_cases d1 : a1 < 1
    · rw [if_pos d1, bad (fun q => by have := q.2.1; omega)]
      exact ht
    rw [if_neg d1]
    by_cases d2 : a1 > 4096
    · rw [if_pos d2, bad (fun q => by have := q.2.1; omega)]
      exact ht
    rw [if_neg d2]
    by_cases d3 : a2 < 2
    · rw [if_pos d3, bad (fun q => by have := q.2.2.1; omega)]
      exact ht
    rw [if_neg d3]
    by_cases d4 : a2 > 1024
    · rw [if_pos d4, bad (fun q => by have := q.2.2.1; omega)]
      exact ht
    rw [if_neg d4]
    by_cases d5 : a3 < 4
    · rw [if_pos d5, bad (fun q => by have := q.2.2.2; omega)]
      exact ht
    rw [if_neg d5]
    by_cases d6 : a3 > 512
    · rw [decide_eq_true d6, bad (fun q => by have := q.2.2.2; omega)]
      exact ht
    · have hg : Good a0 a1 a2 a3 := ⟨c0, by omega, by omega, by omega⟩
      rw [decide_eq_false d6, if_pos hg]
      exact rmake_false (k := k + 7) (by omega) hg
  · rw [if_neg c0, bad (fun q => c0 q.1)]
    exact ht
theorem ite_of {α : Type} {b : Bool} {x y : α} (h : b = false → False) : (if b = true then x else y) = x := by
  cases b
  · exact (h rfl).elim
  · rfl
/-- Is it a plan as one is made? -/
def Sound (a0 a1 a2 a3 a4 a5 a6 a7 a8 a9 a10 a11 : Int) : Prop :=
  Good a0 a1 a2 a3 ∧ a0 * a1 ≤ 1048576 ∧ 2 + a3 + plan_Make.sh a2 (8 * a0) + plan_Make.sh a1 (8 * a0) + plan_Make.sh (a2 * 32) a0 < a1 ∧
  2 = a4 ∧ 2 + a3 = a5 ∧ plan_Make.sh a2 (8 * a0) = a6 ∧ 2 + a3 + plan_Make.sh a2 (8 * a0) = a7 ∧ plan_Make.sh a1 (8 * a0) = a8 ∧
  2 + a3 + plan_Make.sh a2 (8 * a0) + plan_Make.sh a1 (8 * a0) = a9 ∧ plan_Make.sh (a2 * 32) a0 = a10 ∧ 2 + a3 + plan_Make.sh a2 (8 * a0) + plan_Make.sh a1 (8 * a0) + plan_Make.sh (a2 * 32) a0 = a11
section
variable {a0 a1 a2 a3 a4 a5 a6 a7 a8 a9 a10 a11 : Int}
theorem check_is (a0 a1 a2 a3 a4 a5 a6 a7 a8 a9 a10 a11 : Int) : plan_Check.f a0 a1 a2 a3 a4 a5 a6 a7 a8 a9 a10 a11 = some 0 ∧ Sound a0 a1 a2 a3 a4 a5 a6 a7 a8 a9 a10 a11 ∨ plan_Check.f a0 a1 a2 a3 a4 a5 a6 a7 a8 a9 a10 a11 = some 4 ∧ ¬ Sound a0 a1 a2 a3 a4 a5 a6 a7 a8 a9 a10 a11 := by
  unfold plan_Check.f
  rw [make_is, Option.bind_some]
  unfold mk
  by_cases g : Good a0 a1 a2 a3
  · rw [if_pos g]
    unfold plan_Make.spec
    by_cases c : a0 * a1 > 1048576
    · rw [if_pos c]
      exact Or.inr ⟨rfl, fun s => by have := s.2.1; omega⟩
    · rw [if_neg c]
      by_cases d : a1 ≤ 2 + a3 + plan_Make.sh a2 (8 * a0) + plan_Make.sh a1 (8 * a0) + plan_Make.sh (a2 * 32) a0
      · rw [if_pos d]
        exact Or.inr ⟨rfl, fun s => by have := s.2.2.1; omega⟩
      · rw [if_neg d]
        by_cases q : 2 = a4 ∧ 2 + a3 = a5 ∧ plan_Make.sh a2 (8 * a0) = a6 ∧ 2 + a3 + plan_Make.sh a2 (8 * a0) = a7 ∧ plan_Make.sh a1 (8 * a0) = a8 ∧ 2 + a3 + plan_Make.sh a2 (8 * a0) + plan_Make.sh a1 (8 * a0) = a9 ∧ plan_Make.sh (a2 * 32) a0 = a10 ∧ 2 + a3 + plan_Make.sh a2 (8 * a0) + plan_Make.sh a1 (8 * a0) + plan_Make.sh (a2 * 32) a0 = a11
        · refine Or.inl ⟨?_, g, by omega, by omega, q⟩
          obtain ⟨rfl, rfl, rfl, rfl, rfl, rfl, rfl, rfl⟩ := q
          simp only [beq_self_eq_true, Bool.not_true, Bool.false_or]
          rfl
        · refine Or.inr ⟨?_, fun s => q s.2.2.2⟩
          show (if (0 : Int) = 0 then (if (_ : Bool) = true then some 4 else some 0) else some 4) = some 4
          rw [if_pos rfl]
          apply ite_of
          intro z
          apply q
          simpa using z
  · rw [if_neg g]
    exact Or.inr ⟨rfl, fun s => g s.1⟩
/-- What a sound plan is, in numbers. -/
theorem Sound.facts (s : Sound a0 a1 a2 a3 a4 a5 a6 a7 a8 a9 a10 a11) : (a0 = 64 ∨ a0 = 128 ∨ a0 = 256 ∨ a0 = 512 ∨ a0 = 1024 ∨ a0 = 2048 ∨ a0 = 4096) ∧ (1 ≤ a1 ∧ a1 ≤ 4096) ∧ (2 ≤ a2 ∧ a2 ≤ 1024) ∧ (4 ≤ a3 ∧ a3 ≤ 512) ∧ a4 = 2 ∧ a5 = 2 + a3 ∧ 1 ≤ a6 ∧ a7 = a5 + a6 ∧ 1 ≤ a8 ∧ a9 = a7 + a8 ∧ 1 ≤ a10 ∧ a11 = a9 + a10 ∧ a11 < a1 ∧ ∀ n, 0 ≤ n → n < a2 → n / (a0 / 32) < a10 := by
  obtain ⟨⟨g0, g1, g2, g3⟩, _, h1, rfl, rfl, rfl, rfl, rfl, rfl, rfl, rfl⟩ := s
  have g0 := (pw_iff a0).1 g0
  have e6 := (sh_lt (n := a2) (s := 8 * a0) (by omega) 0).1 (by omega)
  have e8 := (sh_lt (n := a1) (s := 8 * a0) (by omega) 0).1 (by omega)
  have e10 := (sh_lt (n := a2 * 32) (s := a0) (by omega) 0).1 (by omega)
  refine ⟨g0, g1, g2, g3, rfl, rfl, by omega, rfl, by omega, rfl, by omega, rfl, h1, fun n n0 n1 => ?_⟩
  apply (sh_lt (by omega) _).1
  have : n / (a0 / 32) * a0 ≤ n * 32 := by
    rcases g0 with rfl | rfl | rfl | rfl | rfl | rfl | rfl <;> omega
  omega
end
theorem rcheck_is {k : Nat} (hk : 3000000 < k) (a0 a1 a2 a3 a4 a5 a6 a7 a8 a9 a10 a11 : Int) : skerryref05_Check.f k a0 a1 a2 a3 a4 a5 a6 a7 a8 a9 a10 a11 = plan_Check.f a0 a1 a2 a3 a4 a5 a6 a7 a8 a9 a10 a11 := by
  unfold plan_Check.f skerryref05_Check.f
  rw [make_is, rmake_is hk, Option.bind_some, Option.bind_some]
  obtain ⟨⟨b0, b1, b2, b3, b4, b5, b6, b7, b8, b9, b10, b11, b12⟩, hR⟩ : ∃ R, mk a0 a1 a2 a3 = R := ⟨_, rfl⟩
  rw [hR]
  dsimp only
  rw [Bool.beq_comm (a := a0), Bool.beq_comm (a := a1), Bool.beq_comm (a := a2), Bool.beq_comm (a := a3), Bool.beq_comm (a := a4), Bool.beq_comm (a := a5), Bool.beq_comm (a := a6), Bool.beq_comm (a := a7), Bool.beq_comm (a := a8), Bool.beq_comm (a := a9), Bool.beq_comm (a := a10), Bool.beq_comm (a := a11)]
theorem roll_is {s : Int} {l : List Int} (h0 : 0 ≤ s) (h1 : s < 4294967296) (hl : Bytes l) : crc_roll.f s l = some (crc s l) := by
  unfold crc_roll.f
  rw [if_pos ⟨h0, h1⟩, if_pos hl]
theorem sum_is {l : List Int} (hl : Bytes l) : crc_Sum.f l = some (crc 0 l) := by
  have h := crc_range (s := 0) (by omega) (by omega) hl
  unfold crc_Sum.f
  rw [roll_is (by omega) (by omega) hl]
  simp only [Option.bind_some]
  rw [w64 (by omega) (by omega)]
/-- Has a number room in n bytes? -/
def Fits (n : Nat) (v : Int) : Prop := 0 ≤ v ∧ v < 256 ^ n
instance (n : Nat) (v : Int) : Decidable (Fits n v) := by unfold Fits; infer_instance
/-- What is put for a number: its bytes, or an error. -/
def Put (n : Nat) (v : Int) : List Int × Int := if Fits n v then (leB n v, 0) else ([], 3)
theorem put_is {n : Nat} (hn : n = 1 ∨ n = 2 ∨ n = 4) (v : Int) : field_Put.f (List.replicate n 0) 0 n v = some (Put n v) := by
  unfold field_Put.f Put
  have e : putB (List.replicate n 0) 0 n v = leB n v := by
    unfold putB
    rw [List.take_zero, List.nil_append, List.drop_eq_nil_of_le (by rw [List.length_replicate]; omega), List.append_nil]
  rw [if_pos (by rw [List.length_replicate]; omega), if_pos (by omega), if_pos (by unfold field_part.Inside; rw [List.length_replicate]; omega), Int.toNat_natCast]
  by_cases c : Fits n v
  · rw [if_pos (show 0 ≤ v ∧ v < 256 ^ n from c), if_pos c, show (0 : Int).toNat = 0 from rfl, e]
  · rw [if_neg (show ¬ (0 ≤ v ∧ v < 256 ^ n) from c), if_neg c]
theorem Put_cases (n : Nat) (v : Int) : (Fits n v ∧ Put n v = (leB n v, 0)) ∨ (¬ Fits n v ∧ Put n v = ([], 3)) := by
  unfold Put
  by_cases c : Fits n v
  · rw [if_pos c]; exact .inl ⟨c, rfl⟩
  · rw [if_neg c]; exact .inr ⟨c, rfl⟩
theorem Put_length (n : Nat) (v : Int) : (Put n v).1.length ≤ n := by
  rcases Put_cases n v with ⟨_, h⟩ | ⟨_, h⟩ <;> rw [h]
  · show (leB n v).length ≤ n; rw [leB_length]; exact Nat.le_refl _
  · exact Nat.zero_le _
theorem Put_bytes (n : Nat) (v : Int) : Bytes (Put n v).1 := by
  rcases Put_cases n v with ⟨_, h⟩ | ⟨_, h⟩ <;> rw [h]
  · exact leB_bytes n v
  · exact Bytes.nil
/-- What a writer holds behind one number more. -/
def wnum (n : Nat) (s : List Int × Int) (v : Int) : List Int × Int := (s.1 ++ (Put n v).1, if s.2 = 0 then (Put n v).2 else s.2)
/-- What a writer holds behind some. -/
def wnums (n : Nat) (s : List Int × Int) (l : List Int) : List Int × Int := l.foldl (wnum n) s
theorem wnum_bytes {n : Nat} {s : List Int × Int} (h : Bytes s.1) (v : Int) : Bytes (wnum n s v).1 := h.append (Put_bytes n v)
theorem wnum_length (n : Nat) (s : List Int × Int) (v : Int) : (wnum n s v).1.length ≤ s.1.length + n := by
  unfold wnum
  rw [List.length_append]
  have := Put_length n v
  omega
theorem wnums_snoc (n : Nat) (s : List Int × Int) (l : List Int) (v : Int) : wnums n s (l ++ [v]) = wnum n (wnums n s l) v := by unfold wnums; rw [List.foldl_append]; rfl
theorem wnums_length (n : Nat) (l : List Int) : ∀ s : List Int × Int, (wnums n s l).1.length ≤ s.1.length + n * l.length := by
  induction l with
  | nil => intro s; exact Nat.le_add_right _ _
  | cons v l ih =>
    intro s
    have h1 := ih (wnum n s v)
    have h2 := wnum_length n s v
    show (wnums n (wnum n s v) l).1.length ≤ _
    rw [List.length_cons, Nat.mul_succ]
    omega
theorem wnums_bytes {n : Nat} (l : List Int) : ∀ {s : List Int × Int}, Bytes s.1 → Bytes (wnums n s l).1 := by
  induction l with
  | nil => intro s h; exact h
  | cons v l ih => intro s h; exact ih (wnum_bytes h v)
/-- Where all fit, all are written. -/
theorem wnums_ok {n : Nat} (l : List Int) : ∀ {bs : List Int}, (∀ v ∈ l, Fits n v) → wnums n (bs, 0) l = (bs ++ (l.map (leB n)).flatten, 0) := by
  induction l with
  | nil => intro bs _; simp [wnums]
  | cons v l ih =>
    intro bs h
    have e : wnum n (bs, 0) v = (bs ++ leB n v, 0) := by
      unfold wnum Put
      rw [if_pos (h v (by simp))]
      rfl
    show wnums n (wnum n (bs, 0) v) l = _
    rw [e, ih (fun x hx => h x (by simp [hx]))]
    simp [List.append_assoc]
theorem wnums_bad {n : Nat} (l : List Int) : ∀ {s : List Int × Int}, s.2 = 3 ∨ (s.2 = 0 ∧ ∃ v ∈ l, ¬ Fits n v) → (wnums n s l).2 = 3 := by
  induction l with
  | nil =>
    intro s h
    rcases h with h | ⟨_, v, hv, _⟩
    · exact h
    · cases hv
  | cons v l ih =>
    intro s h
    show (wnums n (wnum n s v) l).2 = 3
    apply ih
    rcases h with h | ⟨h, x, hx, hn⟩
    · left
      unfold wnum
      rw [if_neg (by rw [h]; decide)]
      exact h
    · rcases Put_cases n v with ⟨hf, e⟩ | ⟨_, e⟩
      · right
        refine ⟨?_, x, ?_, hn⟩
        · unfold wnum; rw [if_pos h, e]
        · rcases List.mem_cons.1 hx with rfl | hx
          · exact absurd hf hn
          · exact hx
      · left
        unfold wnum
        rw [if_pos h, e]
theorem wnums_err (n : Nat) (l : List Int) : ∀ {s : List Int × Int}, s.2 = 0 ∨ s.2 = 3 → (wnums n s l).2 = 0 ∨ (wnums n s l).2 = 3 := by
  induction l with
  | nil => intro s h; exact h
  | cons v l ih =>
    intro s h
    apply ih
    unfold wnum
    rcases h with h | h
    · rw [if_pos h]
      rcases Put_cases n v with ⟨_, e⟩ | ⟨_, e⟩ <;> rw [e]
      · exact .inl rfl
      · exact .inr rfl
    · rw [if_neg (by rw [h]; decide)]
      exact .inr h
/-- A name's bytes in a directory (t: at most 13), or its error. -/
def dirOut (x : Int) (t : List Int) : List Int × Int := if Fits 2 x then (leB 2 x ++ t ++ List.replicate (14 - t.length) 0, 0) else ([], 3)
theorem rfits_is {n : Nat} (hn : n = 2 ∨ n = 4) (x : Int) {k : Nat} (hk : 8 ≤ k) : skerryref06_fits.f k x n = some (decide (Fits n x)) := by
  obtain ⟨k, rfl⟩ : ∃ m, k = m + 8 := ⟨k - 8, by omega⟩
  unfold skerryref06_fits.f Fits
  rcases hn with rfl | rfl
  · simp only [skerryref06_fits.l0]
    simp (config := { decide := true }) only [wrap64, if_true, if_false]
    by_cases h : x ≥ 0 <;> simp [h] <;> omega
  · simp only [skerryref06_fits.l0]
    simp (config := { decide := true }) only [wrap64, if_true, if_false]
    by_cases h : x ≥ 0 <;> simp [h] <;> omega
theorem rput_step (k : Nat) (q : List Int) (n x i : Int) (hq : q.length ≤ 140737488351300) (x0 : 0 ≤ x) (x1 : x < 4294967296) (i0 : 0 ≤ i) (i1 : i < n) (hn : n ≤ 4) : skerryref06_put.l0 (k + 1) q n x i = skerryref06_put.l0 k (q ++ [x % 256]) n (x / 256) (i + 1) := by
  simp only [skerryref06_put.l0]
  rw [if_pos i1, if_pos (by omega), w64 (x := i + 1) (by omega) (by omega), Int.tmod_eq_emod_of_nonneg x0, Int.tdiv_eq_ediv_of_nonneg x0, w64 (x := x / 256) (by omega) (by omega), show x % 256 % 256 = x % 256 by omega]
theorem rput_is {n : Nat} (hn : n = 2 ∨ n = 4) (x : Int) (hx : Fits n x) (l : List Int) (hl : l.length ≤ 140737488351232) {k : Nat} (hk : 8 ≤ k) : skerryref06_put.f k l n x = some (l ++ leB n x) := by
  unfold skerryref06_put.f
  obtain ⟨k, rfl⟩ : ∃ m, k = m + 1 + 1 + 1 + 1 + 1 := ⟨k - 5, by omega⟩
  rcases hn with rfl | rfl
  · have h0 : 0 ≤ x ∧ x < 65536 := hx
    rw [rput_step _ _ _ _ _ (by omega) (by omega) (by omega) (by omega) (by omega) (by omega), rput_step _ _ _ _ _ (by simp; omega) (by omega) (by omega) (by omega) (by omega) (by omega)]
    simp only [skerryref06_put.l0]
    rw [if_neg (by omega)]
    simp only [leB_succ, show leB 0 x = [] from rfl, List.append_assoc, List.nil_append, List.cons_append]
    rw [show x / 256 ^ 1 = x / 256 by omega, show x / 256 ^ 0 = x by omega]
  · have h0 : 0 ≤ x ∧ x < 4294967296 := hx
    rw [rput_step _ _ _ _ _ (by omega) (by omega) (by omega) (by omega) (by omega) (by omega), rput_step _ _ _ _ _ (by simp; omega) (by omega) (by omega) (by omega) (by omega) (by omega), rput_step _ _ _ _ _ (by simp; omega) (by omega) (by omega) (by omega) (by omega) (by omega), rput_step _ _ _ _ _ (by simp; omega) (by omega) (by omega) (by omega) (by omega) (by omega)]
    simp only [skerryref06_put.l0]
    rw [if_neg (by omega)]
    simp only [leB_succ, show leB 0 x = [] from rfl, List.append_assoc, List.nil_append, List.cons_append]
    rw [show x / 256 / 256 / 256 % 256 = x / 256 ^ 3 % 256 by omega, show x / 256 / 256 % 256 = x / 256 ^ 2 % 256 by omega, show x / 256 ^ 1 = x / 256 by omega, show x / 256 ^ 0 = x by omega]
theorem padded_is (d : Nat) : ∀ (k : Nat) (l : List Int) (n : Int), n - (l.length : Int) = d → l.length + d ≤ 140737488351232 → d < k → skerryref06_padded.l0 k l n = some (l ++ List.replicate d 0) := by
  induction d with
  | zero =>
    intro k l n hd hl hk
    obtain ⟨k, rfl⟩ : ∃ m, k = m + 1 := ⟨k - 1, by omega⟩
    simp only [skerryref06_padded.l0]
    rw [if_neg (by omega)]
    simp
  | succ d ih =>
    intro k l n hd hl hk
    obtain ⟨k, rfl⟩ : ∃ m, k = m + 1 := ⟨k - 1, by omega⟩
    simp only [skerryref06_padded.l0]
    rw [if_pos (by omega), if_pos (by omega), ih k (l ++ [0]) n (by simp; omega) (by simp; omega) (by omega), List.append_assoc, List.replicate_succ]
    rfl
/-- What stands ahead of the sum, the sum, and zeros. -/
def sealB (h : List Int) (b : Int) : List Int := h ++ leB 4 (crc 0 h) ++ List.replicate (b.toNat - 16) 0
def superH (b n i g : Int) : List Int := [83, 75, 82, 89] ++ leB 2 b ++ leB 2 n ++ leB 2 i ++ leB 2 g
def headH (s t u : Int) : List Int := [83, 76, 79, 71] ++ leB 4 s ++ leB 2 t ++ leB 2 u
theorem superH_length (b n i g : Int) : (superH b n i g).length = 12 := by unfold superH; simp only [List.length_append, leB_length]; rfl
theorem headH_length (s t u : Int) : (headH s t u).length = 12 := by unfold headH; simp only [List.length_append, leB_length]; rfl
theorem superH_bytes (b n i g : Int) : Bytes (superH b n i g) := ((((show Bytes [83, 75, 82, 89] by intro x hx; simp at hx; omega).append (leB_bytes _ _)).append (leB_bytes _ _)).append (leB_bytes _ _)).append (leB_bytes _ _)
theorem headH_bytes (s t u : Int) : Bytes (headH s t u) := (((show Bytes [83, 76, 79, 71] by intro x hx; simp at hx; omega).append (leB_bytes _ _)).append (leB_bytes _ _)).append (leB_bytes _ _)
theorem seal_steps {h : List Int} (hb : Bytes h) (hl : h.length = 12) {b : Int} (h0 : 16 ≤ b) (h1 : b ≤ 4096) {k : Nat} (hk : 5000 ≤ k) : ((skerryref02_Sum.f k h).bind fun t => (skerryref06_put.f k h 4 t).bind fun u => (skerryref06_padded.f k u b).bind fun z => (some (z, (0 : Int)))) = some (sealB h b, 0) := by
  have hr := crc_range (s := 0) (by omega) (by omega) hb
  have hp : skerryref06_put.f k h 4 (crc 0 h) = some (h ++ leB 4 (crc 0 h)) := rput_is (n := 4) (.inr rfl) _ ⟨hr.1, hr.2⟩ h (by omega) (by omega)
  rw [rsum_is hb (by omega) (by omega), Option.bind_some, hp, Option.bind_some]
  unfold skerryref06_padded.f
  rw [padded_is (b.toNat - 16) _ _ _ (by rw [List.length_append, leB_length, hl]; omega) (by rw [List.length_append, leB_length, hl]; omega) (by omega), Option.bind_some]
  rfl
/-- A super block's bytes, or its error. -/
def superOut (a0 a1 a2 a3 a4 a5 a6 a7 a8 a9 a10 a11 : Int) : List Int × Int := if plan_Check.f a0 a1 a2 a3 a4 a5 a6 a7 a8 a9 a10 a11 = some 0 then (sealB (superH a0 a1 a2 a3) a0, 0) else ([], 4)
theorem rsuper_is (a0 a1 a2 a3 a4 a5 a6 a7 a8 a9 a10 a11 : Int) {k : Nat} (hk : 3000000 < k) : skerryref06_Super.f k a0 a1 a2 a3 a4 a5 a6 a7 a8 a9 a10 a11 = some (superOut a0 a1 a2 a3 a4 a5 a6 a7 a8 a9 a10 a11) := by
  unfold skerryref06_Super.f superOut
  rw [rcheck_is hk]
  have hk8 : 8 ≤ k := by omega
  have hk5 : 5000 ≤ k := by omega
  clear hk
  rcases check_is a0 a1 a2 a3 a4 a5 a6 a7 a8 a9 a10 a11 with ⟨hc, hs⟩ | ⟨hc, _⟩
  · obtain ⟨f0, f1, f2, f3, _⟩ := hs.facts
    rw [hc, Option.bind_some, if_pos rfl, if_pos rfl]
    have p0 : skerryref06_put.f k [83, 75, 82, 89] 2 a0 = some ([83, 75, 82, 89] ++ leB 2 a0) := rput_is (n := 2) (.inl rfl) a0 ⟨by omega, by omega⟩ [83, 75, 82, 89] (by simp) hk8
    have p1 : skerryref06_put.f k ([83, 75, 82, 89] ++ leB 2 a0) 2 a1 = some ([83, 75, 82, 89] ++ leB 2 a0 ++ leB 2 a1) := rput_is (n := 2) (.inl rfl) a1 ⟨by omega, by omega⟩ _ (by simp [leB_length]) hk8
    have p2 : skerryref06_put.f k ([83, 75, 82, 89] ++ leB 2 a0 ++ leB 2 a1) 2 a2 = some ([83, 75, 82, 89] ++ leB 2 a0 ++ leB 2 a1 ++ leB 2 a2) := rput_is (n := 2) (.inl rfl) a2 ⟨by omega, by omega⟩ _ (by simp [leB_length]) hk8
    have p3 : skerryref06_put.f k ([83, 75, 82, 89] ++ leB 2 a0 ++ leB 2 a1 ++ leB 2 a2) 2 a3 = some ([83, 75, 82, 89] ++ leB 2 a0 ++ leB 2 a1 ++ leB 2 a2 ++ leB 2 a3) := rput_is (n := 2) (.inl rfl) a3 ⟨by omega, by omega⟩ _ (by simp [leB_length]) hk8
    rw [p0, Option.bind_some, p1, Option.bind_some, p2, Option.bind_some, p3, Option.bind_some]
    exact seal_steps (superH_bytes a0 a1 a2 a3) (superH_length a0 a1 a2 a3) (by omega) (by omega) hk5
  · rw [hc, Option.bind_some, if_neg (by decide), if_neg (by decide)]
/-- A log's header, or its error. -/
def headOut (s t u b : Int) : List Int × Int := if pw b = true then (if Fits 4 s ∧ Fits 2 t ∧ Fits 2 u then (sealB (headH s t u) b, 0) else ([], 3)) else ([], 1)
theorem rhead_true (k : Nat) (s t u b : Int) : skerryref06_Header.j0 (k + 1) b true s t u = some ([], 3) := by simp [skerryref06_Header.j0]
theorem rhead_is (s t u b : Int) {k : Nat} (hk : 6000 ≤ k) : skerryref06_Header.f k s t u b = some (headOut s t u b) := by
  obtain ⟨k, rfl⟩ : ∃ m, k = m + 8 := ⟨k - 8, by omega⟩
  unfold skerryref06_Header.f headOut
  rw [size_is, Option.bind_some]
  have hk8 : 8 ≤ k + 8 := by omega
  have hk7 : 8 ≤ k + 7 := by omega
  have hk5 : 5000 ≤ k + 7 := by omega
  have f4 : skerryref06_fits.f (k + 8) s 4 = some (decide (Fits 4 s)) := rfits_is (n := 4) (.inr rfl) s hk8
  have f2 : skerryref06_fits.f (k + 8) t 2 = some (decide (Fits 2 t)) := rfits_is (n := 2) (.inl rfl) t hk8
  have f3 : skerryref06_fits.f (k + 8) u 2 = some (decide (Fits 2 u)) := rfits_is (n := 2) (.inl rfl) u hk8
  clear hk
  by_cases hp : pw b = true
  · rw [if_pos hp, if_pos hp, f4, Option.bind_some]
    by_cases h1 : Fits 4 s
    · rw [if_pos (decide_eq_true h1), f2, Option.bind_some]
      by_cases h2 : Fits 2 t
      · rw [if_pos (decide_eq_true h2), f3, Option.bind_some]
        by_cases h3 : Fits 2 u
        · rw [if_pos ⟨h1, h2, h3⟩, decide_eq_true h3]
          simp only [skerryref06_Header.j0, Bool.not_true, Bool.false_eq_true, if_false]
          have hb := (pw_iff b).1 hp
          have p0 : skerryref06_put.f (k + 7) [83, 76, 79, 71] 4 s = some ([83, 76, 79, 71] ++ leB 4 s) := rput_is (n := 4) (.inr rfl) s h1 [83, 76, 79, 71] (by simp) hk7
          have p1 : skerryref06_put.f (k + 7) ([83, 76, 79, 71] ++ leB 4 s) 2 t = some ([83, 76, 79, 71] ++ leB 4 s ++ leB 2 t) := rput_is (n := 2) (.inl rfl) t h2 _ (by simp [leB_length]) hk7
          have p2 : skerryref06_put.f (k + 7) ([83, 76, 79, 71] ++ leB 4 s ++ leB 2 t) 2 u = some ([83, 76, 79, 71] ++ leB 4 s ++ leB 2 t ++ leB 2 u) := rput_is (n := 2) (.inl rfl) u h3 _ (by simp [leB_length]) hk7
          rw [p0, Option.bind_some, p1, Option.bind_some, p2, Option.bind_some]
          exact seal_steps (headH_bytes s t u) (headH_length s t u) (by omega) (by omega) hk5
        · rw [if_neg (fun q => h3 q.2.2), decide_eq_false h3]
          exact rhead_true (k + 7) _ _ _ _
      · rw [if_neg (by simpa using h2), if_neg (fun q => h2 q.2.1)]
        exact rhead_true (k + 7) _ _ _ _
    · rw [if_neg (by simpa using h1), if_neg (fun q => h1 q.1)]
      exact rhead_true (k + 7) _ _ _ _
  · rw [if_neg hp, if_neg hp]

end Go.Proofs.Ytbplffdmggbcdaa.Pure
