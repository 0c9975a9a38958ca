/- Each block of a file has a way of its own; a file that is one block longer has one data block more, and at most two blocks with pointers more: the plain law over numbers. No conditions. -/
import Derived.Test.YtobkdcokickodaaPPlanWaysx4
import Derived.Test.YtobkdcokickodaaPlain
namespace Go.Proofs.Ytobkdcokickodaa.Pure
open Go.RowKit Go.Proofs.Ytobkdcokickodaa.PPlanWays Go.Proofs.Ytobkdcokickodaa.Plain Go.Proofs.YtobkdcokickodaaW.PrintWords Go.Proofs.YtobkdcokickodaaW.PrintLast Go.Proofs.YtobkdcokickodaaW.PrintMore

/-- The seven sizes of a block. -/
def pw (n : Int) : Bool := n == 64 || n == 128 || n == 256 || n == 512 || n == 1024 || n == 2048 || n == 4096
def one (o : Option Int) : Bool := match o with
  | some t => t == 1
  | none => false
def chk (p : Nat → Bool) : Nat → Nat → Bool
  | 0, a => p a
  | d + 1, a => chk p d a && chk p d (a + 2 ^ d)
theorem chk_all (p : Nat → Bool) : ∀ (d a : Nat), chk p d a = true → ∀ i, i < 2 ^ d → p (a + i) = true
  | 0, a, h, i, hi => by
    obtain rfl : i = 0 := by omega
    exact h
  | d + 1, a, h, i, hi => by
    simp only [chk, Bool.and_eq_true] at h
    rw [Nat.pow_succ] at hi
    by_cases c : i < 2 ^ d
    · exact chk_all p d a h.1 i c
    · have := chk_all p d (a + 2 ^ d) h.2 (i - 2 ^ d) (by omega)
      rw [show a + 2 ^ d + (i - 2 ^ d) = a + i by omega] at this
      exact this
def onep (n : Nat) : Bool := one (bits_OnesCount.f (IntKind.u64.wrap (n : Int))) == pw (n : Int)
theorem ones_chk : chk onep 12 64 = true := by decide +kernel
theorem ones_all {n : Nat} (h0 : 64 ≤ n) (h1 : n ≤ 4096) : one (bits_OnesCount.f (IntKind.u64.wrap (n : Int))) = pw (n : Int) := by
  have h := chk_all onep 12 64 ones_chk (n - 64) (by omega)
  rw [show 64 + (n - 64) = n by omega] at h
  unfold onep at h
  exact beq_iff_eq.1 h
theorem ones_some (a : Int) : ∃ t, bits_OnesCount.f a = some t := by
  unfold bits_OnesCount.f bits_OnesCount64.f
  exact ⟨_, rfl⟩
theorem ones_is {a : Int} (h0 : 64 ≤ a) (h1 : a ≤ 4096) : ∃ t, bits_OnesCount.f (IntKind.u64.wrap a) = some t ∧ (t = 1 ↔ pw a = true) := by
  obtain ⟨n, rfl⟩ := Int.eq_ofNat_of_zero_le (show 0 ≤ a by omega)
  obtain ⟨t, ht⟩ := ones_some (IntKind.u64.wrap (n : Int))
  refine ⟨t, ht, ?_⟩
  have h2 := ones_all (n := n) (by omega) (by omega)
  rw [ht] at h2
  rw [← h2]
  show t = 1 ↔ (t == 1) = true
  exact beq_iff_eq.symm
theorem pw_iff (a : Int) : pw a = true ↔ a = 64 ∨ a = 128 ∨ a = 256 ∨ a = 512 ∨ a = 1024 ∨ a = 2048 ∨ a = 4096 := by
  unfold pw
  simp only [Bool.or_eq_true, beq_iff_eq, or_assoc]
/-- Is it a plan's size? -/
def Good (a0 a1 a2 a3 : Int) : Prop := pw a0 = true ∧ (1 ≤ a1 ∧ a1 ≤ 4096) ∧ (2 ≤ a2 ∧ a2 ≤ 1024) ∧ (4 ≤ a3 ∧ a3 ≤ 512)
instance (a0 a1 a2 a3 : Int) : Decidable (Good a0 a1 a2 a3) := by unfold Good; infer_instance
def mk (a0 a1 a2 a3 : Int) : Int × Int × Int × Int × Int × Int × Int × Int × Int × Int × Int × Int × Int := if Good a0 a1 a2 a3 then plan_Make.spec a0 a1 a2 a3 else (0, 0, 0, 0, 0, 0, 0, 0, 0, 0, 0, 0, 1)
theorem make_is (a0 a1 a2 a3 : Int) : plan_Make.f a0 a1 a2 a3 = some (mk a0 a1 a2 a3) := by
  unfold plan_Make.f mk
  by_cases c : 64 ≤ a0 ∧ a0 ≤ 4096
  · obtain ⟨t, ht, hiff⟩ := ones_is c.1 c.2
    rw [if_pos c, ht, Option.bind_some]
    congr 1
    by_cases d : t = 1 ∧ (1 ≤ a1 ∧ a1 ≤ 4096) ∧ (2 ≤ a2 ∧ a2 ≤ 1024) ∧ (4 ≤ a3 ∧ a3 ≤ 512)
    · rw [if_pos d, if_pos (show Good a0 a1 a2 a3 from ⟨hiff.1 d.1, d.2⟩)]
    · rw [if_neg d, if_neg (fun q : Good a0 a1 a2 a3 => d ⟨hiff.2 q.1, q.2⟩)]
  · rw [if_neg c, if_neg (fun q : Good a0 a1 a2 a3 => by have := (pw_iff a0).1 q.1; omega)]
theorem sh_lt {n s : Int} (h2 : 1 ≤ s) (j : Int) : j * s < n ↔ j < plan_Make.sh n s := by
  unfold plan_Make.sh
  have h := Int.le_ediv_iff_mul_le (a := j + 1) (b := n + s - 1) (c := s) (by omega)
  have e : (j + 1) * s = j * s + s := by rw [Int.add_mul, Int.one_mul]
  rw [e] at h
  constructor
  · intro q
    have := h.2 (by omega)
    omega
  · intro q
    have := h.1 (by omega)
    omega
theorem sh_range {n s : Int} (h0 : 0 ≤ n) (h2 : 1 ≤ s) : 0 ≤ plan_Make.sh n s ∧ plan_Make.sh n s ≤ n + s := by
  have q0 : 0 ≤ (n + s - 1) / s := Int.ediv_nonneg (by omega) (by omega)
  have q1 : (n + s - 1) / s ≤ n + s - 1 := Int.ediv_le_self _ (by omega)
  unfold plan_Make.sh
  omega
theorem sh_32 {n q : Int} (_ : 1 ≤ q) : plan_Make.sh (n * 32) (32 * q) = plan_Make.sh n q := by
  unfold plan_Make.sh
  have e : n * 32 + 32 * q - 1 = 31 + 32 * (n + q - 1) := by omega
  rw [e, ← Int.ediv_ediv_of_nonneg (by omega), Int.add_mul_ediv_left _ _ (by omega)]
  congr 1
  omega
theorem ite_of {α : Type} {b : Bool} {x y : α} (h : b = false → False) : (if b = true then x else y) = x := by
  cases b
  · exact (h rfl).elim
  · rfl
/-- Is it a plan as one is made? -/
def Sound (a0 a1 a2 a3 a4 a5 a6 a7 a8 a9 a10 a11 : Int) : Prop :=
  Good a0 a1 a2 a3 ∧ a0 * a1 ≤ 1048576 ∧ 2 + a3 + plan_Make.sh a2 (8 * a0) + plan_Make.sh a1 (8 * a0) + plan_Make.sh (a2 * 32) a0 < a1 ∧
  2 = a4 ∧ 2 + a3 = a5 ∧ plan_Make.sh a2 (8 * a0) = a6 ∧ 2 + a3 + plan_Make.sh a2 (8 * a0) = a7 ∧ plan_Make.sh a1 (8 * a0) = a8 ∧
  2 + a3 + plan_Make.sh a2 (8 * a0) + plan_Make.sh a1 (8 * a0) = a9 ∧ plan_Make.sh (a2 * 32) a0 = a10 ∧ 2 + a3 + plan_Make.sh a2 (8 * a0) + plan_Make.sh a1 (8 * a0) + plan_Make.sh (a2 * 32) a0 = a11
section
variable {a0 a1 a2 a3 a4 a5 a6 a7 a8 a9 a10 a11 : Int}
theorem check_is (a0 a1 a2 a3 a4 a5 a6 a7 a8 a9 a10 a11 : Int) : plan_Check.f a0 a1 a2 a3 a4 a5 a6 a7 a8 a9 a10 a11 = some 0 ∧ Sound a0 a1 a2 a3 a4 a5 a6 a7 a8 a9 a10 a11 ∨ plan_Check.f a0 a1 a2 a3 a4 a5 a6 a7 a8 a9 a10 a11 = some 4 ∧ ¬ Sound a0 a1 a2 a3 a4 a5 a6 a7 a8 a9 a10 a11 := by
  unfold plan_Check.f
  rw [make_is, Option.bind_some]
  unfold mk
  by_cases g : Good a0 a1 a2 a3
  · rw [if_pos g]
    unfold plan_Make.spec
    by_cases c : a0 * a1 > 1048576
    · rw [if_pos c]
      exact Or.inr ⟨rfl, fun s => by have := s.2.1; omega⟩
    · rw [if_neg c]
      by_cases d : a1 ≤ 2 + a3 + plan_Make.sh a2 (8 * a0) + plan_Make.sh a1 (8 * a0) + plan_Make.sh (a2 * 32) a0
      · rw [if_pos d]
        exact Or.inr ⟨rfl, fun s => by have := s.2.2.1; omega⟩
      · rw [if_neg d]
        by_cases q : 2 = a4 ∧ 2 + a3 = a5 ∧ plan_Make.sh a2 (8 * a0) = a6 ∧ 2 + a3 + plan_Make.sh a2 (8 * a0) = a7 ∧ plan_Make.sh a1 (8 * a0) = a8 ∧ 2 + a3 + plan_Make.sh a2 (8 * a0) + plan_Make.sh a1 (8 * a0) = a9 ∧ plan_Make.sh (a2 * 32) a0 = a10 ∧ 2 + a3 + plan_Make.sh a2 (8 * a0) + plan_Make.sh a1 (8 * a0) + plan_Make.sh (a2 * 32) a0 = a11
        · refine Or.inl ⟨?_, g, by omega, by omega, q⟩
          obtain ⟨rfl, rfl, rfl, rfl, rfl, rfl, rfl, rfl⟩ := q
          simp only [beq_self_eq_true, Bool.not_true, Bool.false_or]
          rfl
        · refine Or.inr ⟨?_, fun s => q s.2.2.2⟩
          show (if (0 : Int) = 0 then (if (_ : Bool) = true then some 4 else some 0) else some 4) = some 4
          rw [if_pos rfl]
          apply ite_of
          intro z
          apply q
          simpa using z
  · rw [if_neg g]
    exact Or.inr ⟨rfl, fun s => g s.1⟩
/-- What a sound plan is, in numbers. -/
theorem Sound.facts (s : Sound a0 a1 a2 a3 a4 a5 a6 a7 a8 a9 a10 a11) : (a0 = 64 ∨ a0 = 128 ∨ a0 = 256 ∨ a0 = 512 ∨ a0 = 1024 ∨ a0 = 2048 ∨ a0 = 4096) ∧ (1 ≤ a1 ∧ a1 ≤ 4096) ∧ (2 ≤ a2 ∧ a2 ≤ 1024) ∧ (4 ≤ a3 ∧ a3 ≤ 512) ∧ a4 = 2 ∧ a5 = 2 + a3 ∧ 1 ≤ a6 ∧ a7 = a5 + a6 ∧ 1 ≤ a8 ∧ a9 = a7 + a8 ∧ 1 ≤ a10 ∧ a11 = a9 + a10 ∧ a11 < a1 ∧ ∀ n, 0 ≤ n → n < a2 → n / (a0 / 32) < a10 := by
  obtain ⟨⟨g0, g1, g2, g3⟩, _, h1, rfl, rfl, rfl, rfl, rfl, rfl, rfl, rfl⟩ := s
  have g0 := (pw_iff a0).1 g0
  have e6 := (sh_lt (n := a2) (s := 8 * a0) (by omega) 0).1 (by omega)
  have e8 := (sh_lt (n := a1) (s := 8 * a0) (by omega) 0).1 (by omega)
  have e10 := (sh_lt (n := a2 * 32) (s := a0) (by omega) 0).1 (by omega)
  refine ⟨g0, g1, g2, g3, rfl, rfl, by omega, rfl, by omega, rfl, by omega, rfl, h1, fun n n0 n1 => ?_⟩
  apply (sh_lt (by omega) _).1
  have : n / (a0 / 32) * a0 ≤ n * 32 := by
    rcases g0 with rfl | rfl | rfl | rfl | rfl | rfl | rfl <;> omega
  omega
end
/-- The greatest file's size. -/
def most (a0 : Int) : Int := if a0 = 64 then 68096 else 524288
/-- The way to a block of a file. -/
def ways (a0 i : Int) : List Int := if i < 8 then [i] else if i < 8 + a0 / 2 then [8, i - 8] else [9, (i - 8 - a0 / 2) / (a0 / 2), (i - 8 - a0 / 2) % (a0 / 2)]
def ptrs (a0 t : Int) : Int := (if t > 8 then 1 else 0) + (if t - 8 - a0 / 2 > 0 then 1 + plan_Make.sh (t - 8 - a0 / 2) (a0 / 2) else 0)
theorem half_is {a0 : Int} (h0 : 64 ≤ a0) (h1 : a0 ≤ 4096) : wrap64 (Int.tdiv a0 2) = a0 / 2 := by
  rw [Int.tdiv_eq_ediv_of_nonneg (by omega), w64 (by omega) (by omega)]
section
variable {a0 a1 a2 a3 a4 a5 a6 a7 a8 a9 a10 a11 : Int}
theorem max_is (s : Sound a0 a1 a2 a3 a4 a5 a6 a7 a8 a9 a10 a11) (hc : plan_Check.f a0 a1 a2 a3 a4 a5 a6 a7 a8 a9 a10 a11 = some 0) : plan_MaxSize.f a0 a1 a2 a3 a4 a5 a6 a7 a8 a9 a10 a11 = some (most a0, 0) := by
  obtain ⟨f0, _⟩ := s.facts
  unfold plan_MaxSize.f
  rw [hc, Option.bind_some, if_pos rfl]
  clear hc s
  rcases f0 with rfl | rfl | rfl | rfl | rfl | rfl | rfl <;> decide +kernel
theorem most_range (f0 : a0 = 64 ∨ a0 = 128 ∨ a0 = 256 ∨ a0 = 512 ∨ a0 = 1024 ∨ a0 = 2048 ∨ a0 = 4096) : 68096 ≤ most a0 ∧ most a0 ≤ 524288 := by
  rcases f0 with rfl | rfl | rfl | rfl | rfl | rfl | rfl <;> exact ⟨by decide, by decide⟩
theorem steps_is (s : Sound a0 a1 a2 a3 a4 a5 a6 a7 a8 a9 a10 a11) (hc : plan_Check.f a0 a1 a2 a3 a4 a5 a6 a7 a8 a9 a10 a11 = some 0) (i : Int) :
    plan_Steps.f a0 a1 a2 a3 a4 a5 a6 a7 a8 a9 a10 a11 i = some (if 0 ≤ i ∧ i ≤ (most a0 - 1) / a0 then (ways a0 i, 0) else ([], 2)) := by
  obtain ⟨f0, _⟩ := s.facts
  have mr := most_range f0
  have q0 : 0 ≤ (most a0 - 1) / a0 := Int.ediv_nonneg (by omega) (by omega)
  have q1 : (most a0 - 1) / a0 ≤ most a0 - 1 := Int.ediv_le_self _ (by omega)
  unfold plan_Steps.f
  rw [max_is s hc, Option.bind_some]
  show (if (0 : Int) = 0 then (if a0 = 0 then none else (plan_within.f i 0 (wrap64 (Int.tdiv (wrap64 (most a0 - 1)) a0))).bind _) else some ([], 0)) = _
  rw [if_pos rfl, if_neg (by omega), w64 (x := most a0 - 1) (by omega) (by omega), Int.tdiv_eq_ediv_of_nonneg (by omega), w64 (by omega) (by omega), plan_Make.w_is, Option.bind_some]
  by_cases c : 0 ≤ i ∧ i ≤ (most a0 - 1) / a0
  · rw [decide_eq_true c, if_pos rfl, if_pos c, half_is (by omega) (by omega), w64 (x := i - 8) (by omega) (by omega)]
    unfold ways
    by_cases c1 : i < 8
    · rw [if_pos (by omega), if_pos c1]
    rw [if_neg (by omega), if_neg c1]
    by_cases c2 : i < 8 + a0 / 2
    · rw [if_pos (by omega), if_pos c2]
    have d0 : 0 ≤ (i - 8 - a0 / 2) / (a0 / 2) := Int.ediv_nonneg (by omega) (by omega)
    have d1 : (i - 8 - a0 / 2) / (a0 / 2) ≤ i - 8 - a0 / 2 := Int.ediv_le_self _ (by omega)
    rw [if_neg (by omega), if_neg c2, if_neg (by omega), w64 (x := i - 8 - a0 / 2) (by omega) (by omega), Int.tdiv_eq_ediv_of_nonneg (by omega), Int.tmod_eq_emod_of_nonneg (by omega), w64 (by omega) (by omega)]
  · rw [decide_eq_false c, if_neg (by decide), if_neg c]
theorem whole_is (s : Sound a0 a1 a2 a3 a4 a5 a6 a7 a8 a9 a10 a11) (hc : plan_Check.f a0 a1 a2 a3 a4 a5 a6 a7 a8 a9 a10 a11 = some 0) (n : Int) :
    plan_Whole.f a0 a1 a2 a3 a4 a5 a6 a7 a8 a9 a10 a11 n = some (if 0 ≤ n ∧ n ≤ most a0 then (plan_Make.sh n a0, ptrs a0 (plan_Make.sh n a0), 0) else (0, 0, 2)) := by
  obtain ⟨f0, _⟩ := s.facts
  have mr := most_range f0
  unfold plan_Whole.f
  rw [max_is s hc, Option.bind_some]
  show (if (0 : Int) = 0 then (plan_within.f n 0 (most a0)).bind _ else some (0, 0, 0)) = _
  rw [if_pos rfl, plan_Make.w_is, Option.bind_some]
  by_cases c : 0 ≤ n ∧ n ≤ most a0
  · obtain ⟨e1, r0, r1⟩ := plan_Make.sh_is (n := n) (s := a0) (by omega) (by omega) (by omega) (by omega)
    rw [decide_eq_true c, if_pos rfl, if_pos c, e1, Option.bind_some, half_is (by omega) (by omega)]
    generalize plan_Make.sh n a0 = t at r0 r1
    rw [w64 (x := t - 8) (by omega) (by omega), w64 (x := t - 8 - a0 / 2) (by omega) (by omega)]
    unfold ptrs
    by_cases c1 : t > 8
    · rw [if_pos c1, if_pos c1]
      by_cases c2 : t - 8 - a0 / 2 > 0
      · obtain ⟨e2, u0, u1⟩ := plan_Make.sh_is (n := t - 8 - a0 / 2) (s := a0 / 2) (by omega) (by omega) (by omega) (by omega)
        rw [if_pos c2, if_pos c2, e2, Option.bind_some, w64 (x := 1 + plan_Make.sh (t - 8 - a0 / 2) (a0 / 2)) (by omega) (by omega), w64 (by omega) (by omega)]
        rfl
      · rw [if_neg c2, if_neg c2]
        rfl
    · rw [if_neg c1, if_neg c1, if_neg (by omega), if_neg (by omega)]
      rfl
  · rw [decide_eq_false c, if_neg (by decide), if_neg c]
end
theorem same_l0 (a b : List Int) (hl : a.length = b.length) (hb : a.length ≤ 1000) (d : Nat) : ∀ (k i : Nat), i + d = a.length → d < k → skerryref01_SameInts.l0 k a b (i : Int) = some (decide (a.drop i = b.drop i)) := by
  induction d with
  | zero =>
    intro k i hi hk
    obtain ⟨k, rfl⟩ : ∃ m, k = m + 1 := ⟨k - 1, by omega⟩
    simp only [skerryref01_SameInts.l0]
    rw [if_neg (by omega), List.drop_eq_nil_of_le (by omega), List.drop_eq_nil_of_le (by omega)]
    rfl
  | succ d ih =>
    intro k i hi hk
    obtain ⟨k, rfl⟩ : ∃ m, k = m + 1 := ⟨k - 1, by omega⟩
    simp only [skerryref01_SameInts.l0]
    rw [if_pos (by omega), if_pos (by omega), if_pos (by omega), w64 (by omega) (by omega), rd_get (by omega), rd_get (by omega), List.drop_eq_getElem_cons (i := i) (l := a) (by omega), List.drop_eq_getElem_cons (i := i) (l := b) (by omega)]
    have ih := ih k (i + 1) (by omega) (by omega)
    simp only [Int.toNat_natCast]
    by_cases c : a[i] = b[i]
    · rw [if_pos c, show ((i : Int) + 1) = ((i + 1 : Nat) : Int) by omega, ih, c]
      congr 1
      exact decide_eq_decide.2 ⟨fun h => by rw [h], fun h => (List.cons.inj h).2⟩
    · rw [if_neg c]
      congr 1
      exact (decide_eq_false (fun h => c (List.cons.inj h).1)).symm
theorem same_is {k : Nat} (a b : List Int) (hb : a.length ≤ 1000) (hk : 1001 ≤ k) : skerryref01_SameInts.f k a b = some (decide (a = b)) := by
  unfold skerryref01_SameInts.f
  by_cases c : (a.length : Int) = (b.length : Int)
  · rw [if_pos c]
    exact same_l0 a b (by omega) hb a.length k 0 (by omega) (by omega)
  · rw [if_neg c, decide_eq_false (fun h => c (by rw [h]))]
theorem ways_length (a0 i : Int) : 1 ≤ (ways a0 i).length ∧ (ways a0 i).length ≤ 3 := by
  unfold ways
  by_cases c1 : i < 8
  · rw [if_pos c1]; exact ⟨Nat.le_refl 1, Nat.le_add_left 1 2⟩
  rw [if_neg c1]
  by_cases c2 : i < 8 + a0 / 2
  · rw [if_pos c2]; exact ⟨Nat.le_succ 1, Nat.le_succ 2⟩
  rw [if_neg c2]
  exact ⟨Nat.le_add_left 1 2, Nat.le_refl 3⟩
theorem ways_inj {a0 i j : Int} (_ : 64 ≤ a0) (_ : 0 ≤ i) (_ : 0 ≤ j) (e : ways a0 i = ways a0 j) : i = j := by
  unfold ways at e
  have q1 := Int.mul_ediv_add_emod (i - 8 - a0 / 2) (a0 / 2)
  have q2 := Int.mul_ediv_add_emod (j - 8 - a0 / 2) (a0 / 2)
  by_cases c1 : i < 8
  · rw [if_pos c1] at e
    by_cases d1 : j < 8
    · rw [if_pos d1] at e
      exact (List.cons.inj e).1
    rw [if_neg d1] at e
    by_cases d2 : j < 8 + a0 / 2
    · rw [if_pos d2] at e
      cases (List.cons.inj e).2
    · rw [if_neg d2] at e
      cases (List.cons.inj e).2
  rw [if_neg c1] at e
  by_cases c2 : i < 8 + a0 / 2
  · rw [if_pos c2] at e
    by_cases d1 : j < 8
    · rw [if_pos d1] at e
      cases (List.cons.inj e).2
    rw [if_neg d1] at e
    by_cases d2 : j < 8 + a0 / 2
    · rw [if_pos d2] at e
      have := (List.cons.inj (List.cons.inj e).2).1
      omega
    · rw [if_neg d2] at e
      cases (List.cons.inj (List.cons.inj e).2).2
  rw [if_neg c2] at e
  by_cases d1 : j < 8
  · rw [if_pos d1] at e
    cases (List.cons.inj e).2
  rw [if_neg d1] at e
  by_cases d2 : j < 8 + a0 / 2
  · rw [if_pos d2] at e
    cases (List.cons.inj (List.cons.inj e).2).2
  · rw [if_neg d2] at e
    have e1 := (List.cons.inj (List.cons.inj e).2).1
    have e2 := (List.cons.inj (List.cons.inj (List.cons.inj e).2).2).1
    rw [e1, e2] at q1
    omega
section
variable {a0 a1 a2 a3 a4 a5 a6 a7 a8 a9 a10 a11 : Int}
theorem ways_j1 (s : Sound a0 a1 a2 a3 a4 a5 a6 a7 a8 a9 a10 a11) (hc : plan_Check.f a0 a1 a2 a3 a4 a5 a6 a7 a8 a9 a10 a11 = some 0) (k : Nat) {i : Int} (h : 0 ≤ i ∧ i ≤ (most a0 - 1) / a0) :
    skerrylaw05_PlanWays.j1 (k + 1) i false a0 a1 a2 a3 a4 a5 a6 a7 a8 a9 a10 a11 = some true := by
  obtain ⟨f0, _⟩ := s.facts
  have mr := most_range f0
  have hm : i * a0 ≤ most a0 - 1 := (Int.le_ediv_iff_mul_le (by omega)).1 h.2
  have p0 : 0 ≤ i * a0 := Int.mul_nonneg (by omega) (by omega)
  have s0 : plan_Make.sh (i * a0) a0 = i := by
    unfold plan_Make.sh
    rcases f0 with rfl | rfl | rfl | rfl | rfl | rfl | rfl <;> omega
  have s1 : plan_Make.sh (i * a0 + 1) a0 = i + 1 := by
    unfold plan_Make.sh
    rcases f0 with rfl | rfl | rfl | rfl | rfl | rfl | rfl <;> omega
  have hp : ptrs a0 i ≤ ptrs a0 (i + 1) ∧ ptrs a0 (i + 1) ≤ ptrs a0 i + 2 ∧ 0 ≤ ptrs a0 i ∧ ptrs a0 i ≤ 1000000 := by
    have hi : i ≤ 524288 := by
      have := Int.ediv_le_self a0 (a := most a0 - 1) (by omega)
      omega
    unfold ptrs plan_Make.sh
    rcases f0 with rfl | rfl | rfl | rfl | rfl | rfl | rfl <;> (split <;> split <;> split <;> split <;> omega)
  simp only [skerrylaw05_PlanWays.j1]
  rw [if_neg (by decide), w64 (x := i * a0) (by omega) (by omega), w64 (x := i * a0 + 1) (by omega) (by omega), whole_is s hc, whole_is s hc, if_pos ⟨p0, by omega⟩, if_pos ⟨by omega, by omega⟩, s0, s1, Option.bind_some, Option.bind_some]
  show (if (0 : Int) = 0 then (if (0 : Int) = 0 then (if i = i then (if i + 1 = wrap64 (i + 1) then (if ptrs a0 (i + 1) ≥ ptrs a0 i then some (decide (ptrs a0 (i + 1) ≤ wrap64 (ptrs a0 i + 2))) else _) else _) else _) else _) else _) = _
  have hi : i ≤ 1000000 := by
    have := Int.ediv_le_self a0 (a := most a0 - 1) (by omega)
    omega
  rw [if_pos rfl, if_pos rfl, if_pos rfl, w64 (x := i + 1) (by omega) (by omega), if_pos rfl, if_pos (by omega), w64 (by omega) (by omega), decide_eq_true (by omega)]
end
theorem PlanWays : skerrylaw05_PlanWays.Pure := by
  intro a0 a1 a2 a3 a4 a5 a6 a7 a8 a9 a10 a11 i j _ _ _ _ _ _ _ _ _ _ _ _ _ _
  have hw : skerrylaw05_wakes.f = some true := by decide +kernel
  refine ⟨2000 + 1 + 1, ?_⟩
  unfold skerrylaw05_PlanWays.f
  rw [hw, Option.bind_some, if_pos rfl]
  have nox : ∀ (y : List Int), skerrylaw05_PlanWays.j0 (2000 + 1 + 1) i j [] y true a0 a1 a2 a3 a4 a5 a6 a7 a8 a9 a10 a11 = some true := by
    intro y
    simp only [skerrylaw05_PlanWays.j0, if_true]
    rfl
  have noy : ∀ (x : List Int), skerrylaw05_PlanWays.j0 (2000 + 1 + 1) i j x [] true a0 a1 a2 a3 a4 a5 a6 a7 a8 a9 a10 a11 = some true := by
    intro x
    simp only [skerrylaw05_PlanWays.j0, if_true]
    by_cases c : (x.length : Int) = 0
    · rw [if_pos c]
    · rw [if_neg c]
      rfl
  rcases check_is a0 a1 a2 a3 a4 a5 a6 a7 a8 a9 a10 a11 with ⟨hc, s⟩ | ⟨hc, _⟩
  · obtain ⟨f0, _⟩ := s.facts
    rw [steps_is s hc, steps_is s hc, Option.bind_some, Option.bind_some]
    by_cases c : 0 ≤ i ∧ i ≤ (most a0 - 1) / a0
    · rw [if_pos c]
      by_cases d : 0 ≤ j ∧ j ≤ (most a0 - 1) / a0
      · rw [if_pos d]
        show (if (0 : Int) = 0 then skerrylaw05_PlanWays.j0 (2000 + 1 + 1) i j (ways a0 i) (ways a0 j) ((0 : Int) != 0) a0 a1 a2 a3 a4 a5 a6 a7 a8 a9 a10 a11 else _) = _
        rw [if_pos rfl]
        have li := ways_length a0 i
        simp only [skerrylaw05_PlanWays.j0]
        rw [if_neg (by decide), same_is _ _ (by omega) (by omega), Option.bind_some]
        have e : decide (ways a0 i = ways a0 j) = (i == j) := by
          by_cases z : i = j
          · rw [z, decide_eq_true rfl, beq_self_eq_true]
          · rw [decide_eq_false (fun h => z (ways_inj (by omega) (by omega) (by omega) h)), beq_eq_false_iff_ne.2 z]
        rw [e, bne_self_eq_false, if_neg (by decide), if_neg (by omega), decide_eq_false (by omega)]
        exact ways_j1 s hc 2000 c
      · rw [if_neg d]
        show (if (0 : Int) = 0 then skerrylaw05_PlanWays.j0 (2000 + 1 + 1) i j (ways a0 i) [] ((2 : Int) != 0) a0 a1 a2 a3 a4 a5 a6 a7 a8 a9 a10 a11 else _) = _
        rw [if_pos rfl]
        exact noy _
    · rw [if_neg c]
      show (if (2 : Int) = 0 then _ else skerrylaw05_PlanWays.j0 (2000 + 1 + 1) i j [] _ true a0 a1 a2 a3 a4 a5 a6 a7 a8 a9 a10 a11) = _
      rw [if_neg (by decide)]
      exact nox _
  · have m1 : plan_MaxSize.f a0 a1 a2 a3 a4 a5 a6 a7 a8 a9 a10 a11 = some (0, 4) := by
      unfold plan_MaxSize.f
      rw [hc, Option.bind_some, if_neg (by decide)]
    have e1 : ∀ i, plan_Steps.f a0 a1 a2 a3 a4 a5 a6 a7 a8 a9 a10 a11 i = some ([], 4) := by
      intro i
      unfold plan_Steps.f
      rw [m1, Option.bind_some]
      rfl
    rw [e1, e1, Option.bind_some, Option.bind_some]
    show (if (4 : Int) = 0 then _ else skerrylaw05_PlanWays.j0 (2000 + 1 + 1) i j [] _ true a0 a1 a2 a3 a4 a5 a6 a7 a8 a9 a10 a11) = _
    rw [if_neg (by decide)]
    exact nox _

end Go.Proofs.Ytobkdcokickodaa.Pure
