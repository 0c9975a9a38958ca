/- Of every plan: the regions follow each other and cover the device; no two inodes share a byte, and each lies in the table: the plain law over numbers. No conditions. -/
import Derived.Test.YtobkdcokickodaaPPlanCoversx4
import Derived.Test.YtobkdcokickodaaPlain
namespace Go.Proofs.Ytobkdcokickodaa.Pure
open Go.RowKit Go.Proofs.Ytobkdcokickodaa.PPlanCovers Go.Proofs.Ytobkdcokickodaa.Plain Go.Proofs.YtobkdcokickodaaW.PrintWords Go.Proofs.YtobkdcokickodaaW.PrintLast Go.Proofs.YtobkdcokickodaaW.PrintMore

/-- The seven sizes of a block. -/
def pw (n : Int) : Bool := n == 64 || n == 128 || n == 256 || n == 512 || n == 1024 || n == 2048 || n == 4096
def one (o : Option Int) : Bool := match o with
  | some t => t == 1
  | none => false
def chk (p : Nat → Bool) : Nat → Nat → Bool
  | 0, a => p a
  | d + 1, a => chk p d a && chk p d (a + 2 ^ d)
theorem chk_all (p : Nat → Bool) : ∀ (d a : Nat), chk p d a = true → ∀ i, i < 2 ^ d → p (a + i) = true
  | 0, a, h, i, hi => by
    obtain rfl : i = 0 := by omega
    exact h
  | d + 1, a, h, i, hi => by
    simp only [chk, Bool.and_eq_true] at h
    rw [Nat.pow_succ] at hi
    by_cases c : i < 2 ^ d
    · exact chk_all p d a h.1 i c
    · have := chk_all p d (a + 2 ^ d) h.2 (i - 2 ^ d) (by omega)
      rw [show a + 2 ^ d + (i - 2 ^ d) = a + i by omega] at this
      exact this
def onep (n : Nat) : Bool := one (bits_OnesCount.f (IntKind.u64.wrap (n : Int))) == pw (n : Int)
theorem ones_chk : chk onep 12 64 = true := by decide +kernel
theorem ones_all {n : Nat} (h0 : 64 ≤ n) (h1 : n ≤ 4096) : one (bits_OnesCount.f (IntKind.u64.wrap (n : Int))) = pw (n : Int) := by
  have h := chk_all onep 12 64 ones_chk (n - 64) (by omega)
  rw [show 64 + (n - 64) = n by omega] at h
  unfold onep at h
  exact beq_iff_eq.1 h
theorem ones_some (a : Int) : ∃ t, bits_OnesCount.f a = some t := by
  unfold bits_OnesCount.f bits_OnesCount64.f
  exact ⟨_, rfl⟩
theorem ones_is {a : Int} (h0 : 64 ≤ a) (h1 : a ≤ 4096) : ∃ t, bits_OnesCount.f (IntKind.u64.wrap a) = some t ∧ (t = 1 ↔ pw a = true) := by
  obtain ⟨n, rfl⟩ := Int.eq_ofNat_of_zero_le (show 0 ≤ a by omega)
  obtain ⟨t, ht⟩ := ones_some (IntKind.u64.wrap (n : Int))
  refine ⟨t, ht, ?_⟩
  have h2 := ones_all (n := n) (by omega) (by omega)
  rw [ht] at h2
  rw [← h2]
  show t = 1 ↔ (t == 1) = true
  exact beq_iff_eq.symm
theorem pw_iff (a : Int) : pw a = true ↔ a = 64 ∨ a = 128 ∨ a = 256 ∨ a = 512 ∨ a = 1024 ∨ a = 2048 ∨ a = 4096 := by
  unfold pw
  simp only [Bool.or_eq_true, beq_iff_eq, or_assoc]
/-- Is it a plan's size? -/
def Good (a0 a1 a2 a3 : Int) : Prop := pw a0 = true ∧ (1 ≤ a1 ∧ a1 ≤ 4096) ∧ (2 ≤ a2 ∧ a2 ≤ 1024) ∧ (4 ≤ a3 ∧ a3 ≤ 512)
instance (a0 a1 a2 a3 : Int) : Decidable (Good a0 a1 a2 a3) := by unfold Good; infer_instance
def mk (a0 a1 a2 a3 : Int) : Int × Int × Int × Int × Int × Int × Int × Int × Int × Int × Int × Int × Int := if Good a0 a1 a2 a3 then plan_Make.spec a0 a1 a2 a3 else (0, 0, 0, 0, 0, 0, 0, 0, 0, 0, 0, 0, 1)
theorem make_is (a0 a1 a2 a3 : Int) : plan_Make.f a0 a1 a2 a3 = some (mk a0 a1 a2 a3) := by
  unfold plan_Make.f mk
  by_cases c : 64 ≤ a0 ∧ a0 ≤ 4096
  · obtain ⟨t, ht, hiff⟩ := ones_is c.1 c.2
    rw [if_pos c, ht, Option.bind_some]
    congr 1
    by_cases d : t = 1 ∧ (1 ≤ a1 ∧ a1 ≤ 4096) ∧ (2 ≤ a2 ∧ a2 ≤ 1024) ∧ (4 ≤ a3 ∧ a3 ≤ 512)
    · rw [if_pos d, if_pos (show Good a0 a1 a2 a3 from ⟨hiff.1 d.1, d.2⟩)]
    · rw [if_neg d, if_neg (fun q : Good a0 a1 a2 a3 => d ⟨hiff.2 q.1, q.2⟩)]
  · rw [if_neg c, if_neg (fun q : Good a0 a1 a2 a3 => by have := (pw_iff a0).1 q.1; omega)]
theorem sh_lt {n s : Int} (h2 : 1 ≤ s) (j : Int) : j * s < n ↔ j < plan_Make.sh n s := by
  unfold plan_Make.sh
  have h := Int.le_ediv_iff_mul_le (a := j + 1) (b := n + s - 1) (c := s) (by omega)
  have e : (j + 1) * s = j * s + s := by rw [Int.add_mul, Int.one_mul]
  rw [e] at h
  constructor
  · intro q
    have := h.2 (by omega)
    omega
  · intro q
    have := h.1 (by omega)
    omega
theorem sh_range {n s : Int} (h0 : 0 ≤ n) (h2 : 1 ≤ s) : 0 ≤ plan_Make.sh n s ∧ plan_Make.sh n s ≤ n + s := by
  have q0 : 0 ≤ (n + s - 1) / s := Int.ediv_nonneg (by omega) (by omega)
  have q1 : (n + s - 1) / s ≤ n + s - 1 := Int.ediv_le_self _ (by omega)
  unfold plan_Make.sh
  omega
theorem sh_32 {n q : Int} (_ : 1 ≤ q) : plan_Make.sh (n * 32) (32 * q) = plan_Make.sh n q := by
  unfold plan_Make.sh
  have e : n * 32 + 32 * q - 1 = 31 + 32 * (n + q - 1) := by omega
  rw [e, ← Int.ediv_ediv_of_nonneg (by omega), Int.add_mul_ediv_left _ _ (by omega)]
  congr 1
  omega
theorem ite_of {α : Type} {b : Bool} {x y : α} (h : b = false → False) : (if b = true then x else y) = x := by
  cases b
  · exact (h rfl).elim
  · rfl
/-- Is it a plan as one is made? -/
def Sound (a0 a1 a2 a3 a4 a5 a6 a7 a8 a9 a10 a11 : Int) : Prop :=
  Good a0 a1 a2 a3 ∧ a0 * a1 ≤ 1048576 ∧ 2 + a3 + plan_Make.sh a2 (8 * a0) + plan_Make.sh a1 (8 * a0) + plan_Make.sh (a2 * 32) a0 < a1 ∧
  2 = a4 ∧ 2 + a3 = a5 ∧ plan_Make.sh a2 (8 * a0) = a6 ∧ 2 + a3 + plan_Make.sh a2 (8 * a0) = a7 ∧ plan_Make.sh a1 (8 * a0) = a8 ∧
  2 + a3 + plan_Make.sh a2 (8 * a0) + plan_Make.sh a1 (8 * a0) = a9 ∧ plan_Make.sh (a2 * 32) a0 = a10 ∧ 2 + a3 + plan_Make.sh a2 (8 * a0) + plan_Make.sh a1 (8 * a0) + plan_Make.sh (a2 * 32) a0 = a11
section
variable {a0 a1 a2 a3 a4 a5 a6 a7 a8 a9 a10 a11 : Int}
theorem check_is (a0 a1 a2 a3 a4 a5 a6 a7 a8 a9 a10 a11 : Int) : plan_Check.f a0 a1 a2 a3 a4 a5 a6 a7 a8 a9 a10 a11 = some 0 ∧ Sound a0 a1 a2 a3 a4 a5 a6 a7 a8 a9 a10 a11 ∨ plan_Check.f a0 a1 a2 a3 a4 a5 a6 a7 a8 a9 a10 a11 = some 4 ∧ ¬ Sound a0 a1 a2 a3 a4 a5 a6 a7 a8 a9 a10 a11 := by
  unfold plan_Check.f
  rw [make_is, Option.bind_some]
  unfold mk
  by_cases g : Good a0 a1 a2 a3
  · rw [if_pos g]
    unfold plan_Make.spec
    by_cases c : a0 * a1 > 1048576
    · rw [if_pos c]
      exact Or.inr ⟨rfl, fun s => by have := s.2.1; omega⟩
    · rw [if_neg c]
      by_cases d : a1 ≤ 2 + a3 + plan_Make.sh a2 (8 * a0) + plan_Make.sh a1 (8 * a0) + plan_Make.sh (a2 * 32) a0
      · rw [if_pos d]
        exact Or.inr ⟨rfl, fun s => by have := s.2.2.1; omega⟩
      · rw [if_neg d]
        by_cases q : 2 = a4 ∧ 2 + a3 = a5 ∧ plan_Make.sh a2 (8 * a0) = a6 ∧ 2 + a3 + plan_Make.sh a2 (8 * a0) = a7 ∧ plan_Make.sh a1 (8 * a0) = a8 ∧ 2 + a3 + plan_Make.sh a2 (8 * a0) + plan_Make.sh a1 (8 * a0) = a9 ∧ plan_Make.sh (a2 * 32) a0 = a10 ∧ 2 + a3 + plan_Make.sh a2 (8 * a0) + plan_Make.sh a1 (8 * a0) + plan_Make.sh (a2 * 32) a0 = a11
        · refine Or.inl ⟨?_, g, by omega, by omega, q⟩
          obtain ⟨rfl, rfl, rfl, rfl, rfl, rfl, rfl, rfl⟩ := q
          simp only [beq_self_eq_true, Bool.not_true, Bool.false_or]
          rfl
        · refine Or.inr ⟨?_, fun s => q s.2.2.2⟩
          show (if (0 : Int) = 0 then (if (_ : Bool) = true then some 4 else some 0) else some 4) = some 4
          rw [if_pos rfl]
          apply ite_of
          intro z
          apply q
          simpa using z
  · rw [if_neg g]
    exact Or.inr ⟨rfl, fun s => g s.1⟩
/-- What a sound plan is, in numbers. -/
theorem Sound.facts (s : Sound a0 a1 a2 a3 a4 a5 a6 a7 a8 a9 a10 a11) : (a0 = 64 ∨ a0 = 128 ∨ a0 = 256 ∨ a0 = 512 ∨ a0 = 1024 ∨ a0 = 2048 ∨ a0 = 4096) ∧ (1 ≤ a1 ∧ a1 ≤ 4096) ∧ (2 ≤ a2 ∧ a2 ≤ 1024) ∧ (4 ≤ a3 ∧ a3 ≤ 512) ∧ a4 = 2 ∧ a5 = 2 + a3 ∧ 1 ≤ a6 ∧ a7 = a5 + a6 ∧ 1 ≤ a8 ∧ a9 = a7 + a8 ∧ 1 ≤ a10 ∧ a11 = a9 + a10 ∧ a11 < a1 ∧ ∀ n, 0 ≤ n → n < a2 → n / (a0 / 32) < a10 := by
  obtain ⟨⟨g0, g1, g2, g3⟩, _, h1, rfl, rfl, rfl, rfl, rfl, rfl, rfl, rfl⟩ := s
  have g0 := (pw_iff a0).1 g0
  have e6 := (sh_lt (n := a2) (s := 8 * a0) (by omega) 0).1 (by omega)
  have e8 := (sh_lt (n := a1) (s := 8 * a0) (by omega) 0).1 (by omega)
  have e10 := (sh_lt (n := a2 * 32) (s := a0) (by omega) 0).1 (by omega)
  refine ⟨g0, g1, g2, g3, rfl, rfl, by omega, rfl, by omega, rfl, by omega, rfl, h1, fun n n0 n1 => ?_⟩
  apply (sh_lt (by omega) _).1
  have : n / (a0 / 32) * a0 ≤ n * 32 := by
    rcases g0 with rfl | rfl | rfl | rfl | rfl | rfl | rfl <;> omega
  omega
end
/-- The region of a block, as the ends tell it. -/
def reg (a4 a5 a7 a9 a11 b : Int) : Int := if b < 1 then 0 else if b < a4 then 1 else if b < a5 then 2 else if b < a7 then 3 else if b < a9 then 4 else if b < a11 then 5 else 6
theorem region_step {x : Int} {L : List Int} {i : Nat} (k : Nat) (h : i < L.length) (hL : L.length ≤ 100) : plan_Region.l0 (k + 1) x L (L.length : Int) (i : Int) = if x < rd L (i : Int) then some ((i : Int), 0) else plan_Region.l0 k x L (L.length : Int) ((i + 1 : Nat) : Int) := by
  simp only [plan_Region.l0]
  rw [if_pos (by omega), if_pos (by omega), if_pos (by omega), w64 (by omega) (by omega)]
  rfl
theorem region_end {x : Int} {L : List Int} (k : Nat) : plan_Region.l0 (k + 1) x L (L.length : Int) (L.length : Int) = some (6, 0) := by
  simp only [plan_Region.l0]
  rw [if_neg (by omega)]
section
variable {a0 a1 a2 a3 a4 a5 a6 a7 a8 a9 a10 a11 : Int}
theorem region_loop (k : Nat) (b : Int) : plan_Region.l0 (k + 7) b [1, a4, a5, a7, a9, a11] (([1, a4, a5, a7, a9, a11] : List Int).length : Int) 0 = some (reg a4 a5 a7 a9 a11 b, 0) := by
  have h0 := region_step (x := b) (L := [1, a4, a5, a7, a9, a11]) (i := 0) (k + 6) (by show 0 < 6; omega) (by show 6 ≤ 100; omega)
  have h1 := region_step (x := b) (L := [1, a4, a5, a7, a9, a11]) (i := 1) (k + 5) (by show 1 < 6; omega) (by show 6 ≤ 100; omega)
  have h2 := region_step (x := b) (L := [1, a4, a5, a7, a9, a11]) (i := 2) (k + 4) (by show 2 < 6; omega) (by show 6 ≤ 100; omega)
  have h3 := region_step (x := b) (L := [1, a4, a5, a7, a9, a11]) (i := 3) (k + 3) (by show 3 < 6; omega) (by show 6 ≤ 100; omega)
  have h4 := region_step (x := b) (L := [1, a4, a5, a7, a9, a11]) (i := 4) (k + 2) (by show 4 < 6; omega) (by show 6 ≤ 100; omega)
  have h5 := region_step (x := b) (L := [1, a4, a5, a7, a9, a11]) (i := 5) (k + 1) (by show 5 < 6; omega) (by show 6 ≤ 100; omega)
  have h6 := region_end (x := b) (L := [1, a4, a5, a7, a9, a11]) k
  refine h0.trans ?_
  unfold reg
  show (if b < 1 then _ else _) = _
  by_cases c0 : b < 1
  · rw [if_pos c0, if_pos c0]; rfl
  rw [if_neg c0, if_neg c0]
  refine h1.trans ?_
  show (if b < a4 then _ else _) = _
  by_cases c1 : b < a4
  · rw [if_pos c1, if_pos c1]; rfl
  rw [if_neg c1, if_neg c1]
  refine h2.trans ?_
  show (if b < a5 then _ else _) = _
  by_cases c2 : b < a5
  · rw [if_pos c2, if_pos c2]; rfl
  rw [if_neg c2, if_neg c2]
  refine h3.trans ?_
  show (if b < a7 then _ else _) = _
  by_cases c3 : b < a7
  · rw [if_pos c3, if_pos c3]; rfl
  rw [if_neg c3, if_neg c3]
  refine h4.trans ?_
  show (if b < a9 then _ else _) = _
  by_cases c4 : b < a9
  · rw [if_pos c4, if_pos c4]; rfl
  rw [if_neg c4, if_neg c4]
  refine h5.trans ?_
  show (if b < a11 then _ else _) = _
  by_cases c5 : b < a11
  · rw [if_pos c5, if_pos c5]; rfl
  rw [if_neg c5, if_neg c5]
  exact h6
theorem region_is (s : Sound a0 a1 a2 a3 a4 a5 a6 a7 a8 a9 a10 a11) (hc : plan_Check.f a0 a1 a2 a3 a4 a5 a6 a7 a8 a9 a10 a11 = some 0) {k : Nat} (hk : 7 ≤ k) (b : Int) :
    plan_Region.f k a0 a1 a2 a3 a4 a5 a6 a7 a8 a9 a10 a11 b = some (if 0 ≤ b ∧ b ≤ a1 - 1 then (reg a4 a5 a7 a9 a11 b, 0) else (0, 2)) := by
  obtain ⟨_, f1, _⟩ := s.facts
  obtain ⟨k, rfl⟩ : ∃ m, k = m + 7 := ⟨k - 7, by omega⟩
  unfold plan_Region.f
  rw [hc, Option.bind_some, if_pos rfl, w64 (by omega) (by omega), plan_Make.w_is, Option.bind_some]
  by_cases c : 0 ≤ b ∧ b ≤ a1 - 1
  · rw [decide_eq_true c, if_pos rfl, Option.bind_some, if_pos c]
    exact region_loop k b
  · rw [decide_eq_false c, if_neg (by decide), if_neg c]
theorem place_is (s : Sound a0 a1 a2 a3 a4 a5 a6 a7 a8 a9 a10 a11) (hc : plan_Check.f a0 a1 a2 a3 a4 a5 a6 a7 a8 a9 a10 a11 = some 0) (n : Int) :
    plan_Place.f a0 a1 a2 a3 a4 a5 a6 a7 a8 a9 a10 a11 n = some (if 0 ≤ n ∧ n ≤ a2 - 1 then (a9 + n / (a0 / 32), n % (a0 / 32) * 32, 0) else (0, 0, 2)) := by
  obtain ⟨f0, f1, f2, f3, f4, f5, f6, f7, f8, f9, f10, f11, f12, f13⟩ := s.facts
  unfold plan_Place.f
  rw [hc, Option.bind_some, if_pos rfl, w64 (by omega) (by omega), plan_Make.w_is, Option.bind_some]
  by_cases c : 0 ≤ n ∧ n ≤ a2 - 1
  · have h13 := f13 n (by omega) (by omega)
    have e : wrap64 (Int.tdiv a0 32) = a0 / 32 := by rw [Int.tdiv_eq_ediv_of_nonneg (by omega), w64 (by omega) (by omega)]
    have p : 1 ≤ a0 / 32 := by omega
    have d0 : 0 ≤ n / (a0 / 32) := Int.ediv_nonneg (by omega) (by omega)
    have m0 : 0 ≤ n % (a0 / 32) := Int.emod_nonneg _ (by omega)
    have m1 : n % (a0 / 32) < a0 / 32 := Int.emod_lt_of_pos _ (by omega)
    rw [decide_eq_true c, if_pos rfl, if_pos c, e, if_neg (by omega), Int.tdiv_eq_ediv_of_nonneg (by omega), Int.tmod_eq_emod_of_nonneg (by omega), w64 (x := n / (a0 / 32)) (by omega) (by omega), w64 (by omega) (by omega), w64 (by omega) (by omega)]
  · rw [decide_eq_false c, if_neg (by decide), if_neg c]
theorem region_in (s : Sound a0 a1 a2 a3 a4 a5 a6 a7 a8 a9 a10 a11) (hc : plan_Check.f a0 a1 a2 a3 a4 a5 a6 a7 a8 a9 a10 a11 = some 0) {k : Nat} (hk : 7 ≤ k) {b : Int} (h : 0 ≤ b ∧ b ≤ a1 - 1) :
    plan_Region.f k a0 a1 a2 a3 a4 a5 a6 a7 a8 a9 a10 a11 b = some (reg a4 a5 a7 a9 a11 b, 0) := by rw [region_is s hc hk, if_pos h]
theorem place_in (s : Sound a0 a1 a2 a3 a4 a5 a6 a7 a8 a9 a10 a11) (hc : plan_Check.f a0 a1 a2 a3 a4 a5 a6 a7 a8 a9 a10 a11 = some 0) {n : Int} (h : 0 ≤ n ∧ n ≤ a2 - 1) :
    plan_Place.f a0 a1 a2 a3 a4 a5 a6 a7 a8 a9 a10 a11 n = some (a9 + n / (a0 / 32), n % (a0 / 32) * 32, 0) := by rw [place_is s hc, if_pos h]
end
section
variable {a0 a1 a2 a3 a4 a5 a6 a7 a8 a9 a10 a11 : Int}
theorem covers_l1 (s : Sound a0 a1 a2 a3 a4 a5 a6 a7 a8 a9 a10 a11) (hc : plan_Check.f a0 a1 a2 a3 a4 a5 a6 a7 a8 a9 a10 a11 = some 0) (d : Nat) : ∀ (k : Nat) (i en : Int), 0 ≤ i → i + d = a2 → en = a9 * a0 + 32 * i → d + 8 < k →
    skerrylaw05_PlanCovers.l1 k en i a0 a1 a2 a3 a4 a5 a6 a7 a8 a9 a10 a11 = some true := by
  obtain ⟨f0, f1, f2, f3, f4, f5, f6, f7, f8, f9, f10, f11, f12, f13⟩ := s.facts
  induction d with
  | zero =>
    intro k i en hi hd he hk
    obtain ⟨k, rfl⟩ : ∃ m, k = m + 1 := ⟨k - 1, by omega⟩
    simp only [skerrylaw05_PlanCovers.l1]
    rw [if_neg (by omega)]
  | succ d ih =>
    intro k i en hi hd he hk
    obtain ⟨k, rfl⟩ : ∃ m, k = m + 1 := ⟨k - 1, by omega⟩
    have h13 := f13 i hi (by omega)
    have d0 : 0 ≤ i / (a0 / 32) := Int.ediv_nonneg (by omega) (by omega)
    have m0 : 0 ≤ i % (a0 / 32) := Int.emod_nonneg _ (by omega)
    have m1 : i % (a0 / 32) < a0 / 32 := Int.emod_lt_of_pos _ (by omega)
    have p0 : 0 ≤ (a9 + i / (a0 / 32)) * a0 := Int.mul_nonneg (by omega) (by omega)
    have p1 : (a9 + i / (a0 / 32)) * a0 ≤ 4096 * 4096 := Int.mul_le_mul (by omega) (by omega) (by omega) (by omega)
    have ev : (a9 + i / (a0 / 32)) * a0 + i % (a0 / 32) * 32 = a9 * a0 + 32 * i := by
      rcases f0 with rfl | rfl | rfl | rfl | rfl | rfl | rfl <;> omega
    simp only [skerrylaw05_PlanCovers.l1]
    rw [if_pos (by omega), place_in s hc ⟨by omega, by omega⟩, Option.bind_some]
    show (plan_Region.f k a0 a1 a2 a3 a4 a5 a6 a7 a8 a9 a10 a11 (a9 + i / (a0 / 32))).bind _ = _
    rw [region_in s hc (by omega) ⟨by omega, by omega⟩, Option.bind_some]
    have r5 : reg a4 a5 a7 a9 a11 (a9 + i / (a0 / 32)) = 5 := by
      unfold reg
      rw [if_neg (by omega), if_neg (by omega), if_neg (by omega), if_neg (by omega), if_neg (by omega), if_pos (by omega)]
    rw [r5]
    show (if (0 : Int) = 0 then (if (0 : Int) = 0 then (if (5 : Int) = 5 then (if i % (a0 / 32) * 32 < 0 then _ else (if wrap64 (i % (a0 / 32) * 32 + 32) > a0 then _ else (if wrap64 (wrap64 ((a9 + i / (a0 / 32)) * a0) + i % (a0 / 32) * 32) < en then _ else skerrylaw05_PlanCovers.l1 k (wrap64 (wrap64 (wrap64 ((a9 + i / (a0 / 32)) * a0) + i % (a0 / 32) * 32) + 32)) (wrap64 (i + 1)) a0 a1 a2 a3 a4 a5 a6 a7 a8 a9 a10 a11))) else _) else _) else _) = _
    rw [if_pos rfl, if_pos rfl, if_pos rfl, if_neg (by omega), w64 (x := i % (a0 / 32) * 32 + 32) (by omega) (by omega), if_neg (by omega), w64 (x := (a9 + i / (a0 / 32)) * a0) (by omega) (by omega), w64 (x := (a9 + i / (a0 / 32)) * a0 + i % (a0 / 32) * 32) (by omega) (by omega), if_neg (by omega), w64 (x := (a9 + i / (a0 / 32)) * a0 + i % (a0 / 32) * 32 + 32) (by omega) (by omega), w64 (x := i + 1) (by omega) (by omega)]
    exact ih k (i + 1) _ (by omega) (by omega) (by omega) (by omega)
theorem covers_l0 (s : Sound a0 a1 a2 a3 a4 a5 a6 a7 a8 a9 a10 a11) (hc : plan_Check.f a0 a1 a2 a3 a4 a5 a6 a7 a8 a9 a10 a11 = some 0) (d : Nat) : ∀ (k : Nat) (b last : Int), 0 ≤ b → b + d = a1 → last = (if b = 0 then 0 else reg a4 a5 a7 a9 a11 (b - 1)) → d + 2000 < k →
    skerrylaw05_PlanCovers.l0 k last b a0 a1 a2 a3 a4 a5 a6 a7 a8 a9 a10 a11 = some true := by
  obtain ⟨f0, f1, f2, f3, f4, f5, f6, f7, f8, f9, f10, f11, f12, f13⟩ := s.facts
  induction d with
  | zero =>
    intro k b last hb hd hl hk
    obtain ⟨k, rfl⟩ : ∃ m, k = m + 1 := ⟨k - 1, by omega⟩
    have p0 : 0 ≤ a9 * a0 := Int.mul_nonneg (by omega) (by omega)
    have p1 : a9 * a0 ≤ 4096 * 4096 := Int.mul_le_mul (by omega) (by omega) (by omega) (by omega)
    have l6 : last = 6 := by
      rw [hl, if_neg (by omega)]
      unfold reg
      rw [if_neg (by omega), if_neg (by omega), if_neg (by omega), if_neg (by omega), if_neg (by omega), if_neg (by omega)]
    simp only [skerrylaw05_PlanCovers.l0]
    rw [if_neg (by omega), if_pos l6, w64 (by omega) (by omega)]
    exact covers_l1 s hc a2.toNat k 0 _ (by omega) (by omega) (by omega) (by omega)
  | succ d ih =>
    intro k b last hb hd hl hk
    obtain ⟨k, rfl⟩ : ∃ m, k = m + 1 := ⟨k - 1, by omega⟩
    have near : last ≤ reg a4 a5 a7 a9 a11 b ∧ reg a4 a5 a7 a9 a11 b ≤ last + 1 ∧ reg a4 a5 a7 a9 a11 b ≤ 6 ∧ 0 ≤ last ∧ last ≤ 6 := by
      rw [hl]
      unfold reg
      by_cases c0 : b < 1
      · rw [if_pos c0, if_pos (by omega)]; omega
      rw [if_neg c0, if_neg (by omega)]
      by_cases c1 : b < a4
      · rw [if_pos c1, if_pos (by omega)]; omega
      rw [if_neg c1, if_neg (by omega)]
      by_cases c2 : b < a5
      · rw [if_pos c2]
        by_cases e : b - 1 < a4
        · rw [if_pos e]; omega
        · rw [if_neg e, if_pos (by omega)]; omega
      rw [if_neg c2, if_neg (by omega)]
      by_cases c3 : b < a7
      · rw [if_pos c3]
        by_cases e : b - 1 < a5
        · rw [if_pos e]; omega
        · rw [if_neg e, if_pos (by omega)]; omega
      rw [if_neg c3, if_neg (by omega)]
      by_cases c4 : b < a9
      · rw [if_pos c4]
        by_cases e : b - 1 < a7
        · rw [if_pos e]; omega
        · rw [if_neg e, if_pos (by omega)]; omega
      rw [if_neg c4, if_neg (by omega)]
      by_cases c5 : b < a11
      · rw [if_pos c5]
        by_cases e : b - 1 < a9
        · rw [if_pos e]; omega
        · rw [if_neg e, if_pos (by omega)]; omega
      rw [if_neg c5, if_neg (by omega)]
      by_cases e : b - 1 < a11
      · rw [if_pos e]; omega
      · rw [if_neg e]; omega
    simp only [skerrylaw05_PlanCovers.l0]
    rw [if_pos (by omega), region_in s hc (by omega) ⟨by omega, by omega⟩, Option.bind_some]
    show (if (0 : Int) = 0 then (if reg a4 a5 a7 a9 a11 b < last then _ else (if reg a4 a5 a7 a9 a11 b > 6 then _ else (if reg a4 a5 a7 a9 a11 b > wrap64 (last + 1) then _ else skerrylaw05_PlanCovers.l0 k (reg a4 a5 a7 a9 a11 b) (wrap64 (b + 1)) a0 a1 a2 a3 a4 a5 a6 a7 a8 a9 a10 a11))) else _) = _
    rw [if_pos rfl, if_neg (by omega), if_neg (by omega), w64 (x := last + 1) (by omega) (by omega), if_neg (by omega), w64 (by omega) (by omega)]
    refine ih k (b + 1) _ (by omega) (by omega) ?_ (by omega)
    rw [if_neg (by omega), show b + 1 - 1 = b by omega]
end
theorem PlanCovers : skerrylaw05_PlanCovers.Pure := by
  intro a0 a1 a2 a3 a4 a5 a6 a7 a8 a9 a10 a11 _ _ _ _ _ _ _ _ _ _ _ _
  have hw : skerrylaw05_wakes.f = some true := by decide +kernel
  refine ⟨8001, ?_⟩
  unfold skerrylaw05_PlanCovers.f
  rw [hw, Option.bind_some, if_pos rfl]
  rcases check_is a0 a1 a2 a3 a4 a5 a6 a7 a8 a9 a10 a11 with ⟨hc, s⟩ | ⟨hc, _⟩
  · obtain ⟨f0, f1, f2, f3, f4, f5, f6, f7, f8, f9, f10, f11, f12, f13⟩ := s.facts
    rw [hc, Option.bind_some, if_pos rfl]
    have ht : skerrylaw05_PlanCovers.j0 8001 true a0 a1 a2 a3 a4 a5 a6 a7 a8 a9 a10 a11 = some true := by
      simp only [skerrylaw05_PlanCovers.j0, if_true]
    by_cases c : a1 > 400
    · rw [if_pos c]
      exact ht
    · rw [if_neg c]
      by_cases d : a2 > 200
      · rw [decide_eq_true d]
        exact ht
      · rw [decide_eq_false d]
        simp only [skerrylaw05_PlanCovers.j0]
        rw [if_neg (by decide)]
        exact covers_l0 s hc a1.toNat 8000 0 0 (by omega) (by omega) rfl (by omega)
  · rw [hc, Option.bind_some, if_neg (by decide)]
    unfold plan_Region.f
    rw [hc, Option.bind_some, if_neg (by decide), Option.bind_some]
    rfl

end Go.Proofs.Ytobkdcokickodaa.Pure
