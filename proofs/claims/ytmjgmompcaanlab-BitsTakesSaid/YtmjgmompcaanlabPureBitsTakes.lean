/- Taking the first bit that is 0, and turning it on, again and again, takes each once, in order, till none is left; the count grows by one each time: the plain law over lists and numbers. No conditions. -/
import Derived.Test.YtmjgmompcaanlabPBitsTakesx3
import Derived.Test.YtmjgmompcaanlabPlain
namespace Go.Proofs.Ytmjgmompcaanlab.Pure
open Go.RowKit Go.Proofs.Ytmjgmompcaanlab.PBitsTakes Go.Proofs.Ytmjgmompcaanlab.Plain Go.Proofs.YtmjgmompcaanlabW.PrintWords Go.Proofs.YtmjgmompcaanlabW.PrintLast Go.Proofs.YtmjgmompcaanlabW.PrintMore

theorem wakes_is : skerrylaw04_wakes.f 40 = some true := by decide +kernel
theorem wakes_all {k : Nat} (hk : 40 ≤ k) : skerrylaw04_wakes.f k = some true := at_rounds skerrylaw04_wakes.mono hk wakes_is
theorem bget_is {l : List Int} (hl : Bytes l) {i : Int} (h0 : 0 ≤ i) (h1 : i < 8 * (l.length : Int)) (h2 : l.length ≤ 140737488351232) : bits_Get.f l i = some (bitAt l i == 1, 0) := by
  have hr := hl.rd (i / 8)
  unfold bits_Get.f
  rw [if_neg (by omega), Int.tdiv_eq_ediv_of_nonneg h0, Int.tmod_eq_emod_of_nonneg h0, w64 (x := i / 8) (by omega) (by omega), if_neg (by omega), if_pos (by omega), if_pos (by omega), if_pos (by omega), and_bit hr.1 hr.2 (by omega) (by omega)]
  rfl
theorem bget_out {l : List Int} {i : Int} (h : i < 0 ∨ 8 * (l.length : Int) ≤ i) (h3 : i ≤ 9223372036854775807) : bits_Get.f l i = some (false, 2) := by
  unfold bits_Get.f
  by_cases c : i < 0
  · rw [if_pos c]
  · rw [if_neg c, Int.tdiv_eq_ediv_of_nonneg (by omega), w64 (x := i / 8) (by omega) (by omega), if_pos (by omega)]
theorem bset_is {l : List Int} (hl : Bytes l) {i : Int} (h0 : 0 ≤ i) (h1 : i < 8 * (l.length : Int)) (h2 : l.length ≤ 140737488351232) (on : Bool) {k : Nat} (hk : 0 < k) : bits_Set.f k l i on = some (setBit l i on, 0) := by
  have hr := hl.rd (i / 8)
  obtain ⟨k, rfl⟩ : ∃ m, k = m + 1 := ⟨k - 1, by omega⟩
  unfold bits_Set.f
  rw [if_neg (by omega), Int.tdiv_eq_ediv_of_nonneg h0, w64 (x := i / 8) (by omega) (by omega), decide_eq_false (by omega)]
  simp only [bits_Set.j0, slices_Clone_byte_byte.f, Bool.false_eq_true, if_false]
  rw [if_pos (show l.length < 140737488355328 by omega), Int.tdiv_eq_ediv_of_nonneg h0, Int.tmod_eq_emod_of_nonneg h0, w64 (x := i / 8) (by omega) (by omega)]
  simp only [Option.bind_some]
  unfold setBit onb offb
  cases on <;> simp [show 0 ≤ i / 8 by omega, show i / 8 < (l.length : Int) by omega, show 0 ≤ i % 8 by omega]
theorem bset_out {l : List Int} {i : Int} (h : i < 0 ∨ 8 * (l.length : Int) ≤ i) (h3 : i ≤ 9223372036854775807) (on : Bool) {k : Nat} (hk : 0 < k) : bits_Set.f k l i on = some ([], 2) := by
  obtain ⟨k, rfl⟩ : ∃ m, k = m + 1 := ⟨k - 1, by omega⟩
  unfold bits_Set.f
  by_cases c : i < 0
  · rw [if_pos c]
    simp [bits_Set.j0]
  · rw [if_neg c, Int.tdiv_eq_ediv_of_nonneg (by omega), w64 (x := i / 8) (by omega) (by omega), decide_eq_true (by omega)]
    simp [bits_Set.j0]
theorem cnt_is {l : List Int} {from_ to_ : Int} (h0 : 0 ≤ from_) (h1 : from_ ≤ to_) (h2 : to_ ≤ 8 * (l.length : Int)) (hl : Bytes l) (hs : l.length ≤ 140737488351232) : bits_Count.f l from_ to_ = some (bits_Count.cnt l (to_ - from_).toNat from_, 0) := by
  unfold bits_Count.f
  have hl' : ∀ x ∈ l, 0 ≤ x ∧ x < 256 := hl
  rw [if_pos hl', if_pos hs, if_pos ⟨h0, h1, h2⟩]
theorem cnt_out {l : List Int} {from_ to_ : Int} (h : ¬ (0 ≤ from_ ∧ from_ ≤ to_ ∧ to_ ≤ 8 * (l.length : Int))) (hl : Bytes l) (hs : l.length ≤ 140737488351232) : bits_Count.f l from_ to_ = some (0, 2) := by
  unfold bits_Count.f
  have hl' : ∀ x ∈ l, 0 ≤ x ∧ x < 256 := hl
  rw [if_pos hl', if_pos hs, if_neg h]
theorem first_is {l : List Int} {from_ to_ : Int} (h0 : 0 ≤ from_) (h1 : from_ ≤ to_) (h2 : to_ ≤ 8 * (l.length : Int)) (hl : Bytes l) (hs : l.length ≤ 140737488351232) : bits_First.f l from_ to_ = some (bits_First.fz l (to_ - from_).toNat from_) := by
  unfold bits_First.f
  have hl' : ∀ x ∈ l, 0 ≤ x ∧ x < 256 := hl
  rw [if_pos hl', if_pos hs, if_pos ⟨h0, h1, h2⟩]
theorem first_out {l : List Int} {from_ to_ : Int} (h : ¬ (0 ≤ from_ ∧ from_ ≤ to_ ∧ to_ ≤ 8 * (l.length : Int))) (hl : Bytes l) (hs : l.length ≤ 140737488351232) : bits_First.f l from_ to_ = some (0, 2) := by
  unfold bits_First.f
  have hl' : ∀ x ∈ l, 0 ≤ x ∧ x < 256 := hl
  rw [if_pos hl', if_pos hs, if_neg h]
theorem cnt_cons (l : List Int) (n : Nat) (i : Int) : bits_Count.cnt l (n + 1) i = bitAt l i + bits_Count.cnt l n (i + 1) := rfl
theorem fz_cons (l : List Int) (n : Nat) (i : Int) : bits_First.fz l (n + 1) i = if bitAt l i = 0 then (i, 0) else bits_First.fz l n (i + 1) := by
  show (if bits_First.off l i = true then (i, (0 : Int)) else bits_First.fz l n (i + 1)) = _
  have e : bits_First.off l i = (bitAt l i == 0) := rfl
  rcases bitAt_01 l i with hb | hb
  · have : bits_First.off l i = true := by rw [e, hb]; rfl
    rw [if_pos this, if_pos hb]
  · have : ¬ bits_First.off l i = true := by rw [e, hb]; decide
    rw [if_neg this, if_neg (by omega)]
/-- The first 0 of n bits from i on, or that there is none. -/
theorem fz_spec (l : List Int) (n : Nat) : ∀ i : Int, (∃ j, i ≤ j ∧ j < i + n ∧ bits_First.fz l n i = (j, 0) ∧ bitAt l j = 0 ∧ ∀ m, i ≤ m → m < j → bitAt l m = 1) ∨ (bits_First.fz l n i = (0, 11) ∧ ∀ m, i ≤ m → m < i + n → bitAt l m = 1) := by
  induction n with
  | zero => intro i; exact .inr ⟨rfl, fun m h1 h2 => by omega⟩
  | succ n ih =>
    intro i
    rw [fz_cons]
    rcases bitAt_01 l i with hb | hb
    · rw [if_pos hb]
      exact .inl ⟨i, by omega, by omega, rfl, hb, fun m h1 h2 => by omega⟩
    · rw [if_neg (by omega)]
      rcases ih (i + 1) with ⟨j, h1, h2, h3, h4, h5⟩ | ⟨h1, h2⟩
      · refine .inl ⟨j, by omega, by omega, h3, h4, fun m m1 m2 => ?_⟩
        by_cases e : m = i
        · rw [e]; exact hb
        · exact h5 m (by omega) m2
      · refine .inr ⟨h1, fun m m1 m2 => ?_⟩
        by_cases e : m = i
        · rw [e]; exact hb
        · exact h2 m (by omega) (by omega)
theorem cnt_ones (l : List Int) (n : Nat) : ∀ i : Int, (∀ m, i ≤ m → m < i + n → bitAt l m = 1) → bits_Count.cnt l n i = n := by
  induction n with
  | zero => intro i _; rfl
  | succ n ih =>
    intro i h
    rw [cnt_cons, h i (by omega) (by omega), ih (i + 1) (fun m h1 h2 => h m (by omega) (by omega))]
    omega
theorem cnt_full (l : List Int) (n : Nat) : ∀ i : Int, bits_Count.cnt l n i = n → ∀ m, i ≤ m → m < i + n → bitAt l m = 1 := by
  induction n with
  | zero => intro i _ m h1 h2; omega
  | succ n ih =>
    intro i h m h1 h2
    rw [cnt_cons] at h
    have := bits_Count.cnt_range l n (i + 1)
    rcases bitAt_01 l i with hb | hb
    · omega
    · by_cases e : m = i
      · rw [e]; exact hb
      · exact ih (i + 1) (by omega) m (by omega) (by omega)
theorem cnt_other {l : List Int} (hl : Bytes l) {j : Int} (j0 : 0 ≤ j) (j1 : j < 8 * (l.length : Int)) (n : Nat) : ∀ i : Int, 0 ≤ i → (j < i ∨ i + n ≤ j) → bits_Count.cnt (setBit l j true) n i = bits_Count.cnt l n i := by
  induction n with
  | zero => intro i _ _; rfl
  | succ n ih =>
    intro i h0 h
    rw [cnt_cons, cnt_cons, bitAt_set hl j0 j1 h0, if_neg (by omega), ih (i + 1) (by omega) (by omega)]
theorem cnt_set {l : List Int} (hl : Bytes l) {j : Int} (j0 : 0 ≤ j) (j1 : j < 8 * (l.length : Int)) (hz : bitAt l j = 0) (n : Nat) : ∀ i : Int, 0 ≤ i → i ≤ j → j < i + n → bits_Count.cnt (setBit l j true) n i = bits_Count.cnt l n i + 1 := by
  induction n with
  | zero => intro i _ _ _; omega
  | succ n ih =>
    intro i h0 h1 h2
    rw [cnt_cons, cnt_cons, bitAt_set hl j0 j1 h0]
    by_cases e : i = j
    · rw [if_pos e, cnt_other hl j0 j1 n (i + 1) (by omega) (by omega), e, hz]
      simp
      omega
    · rw [if_neg e, ih (i + 1) (by omega) (by omega) (by omega)]
      omega
theorem loop {l : List Int} (hl : Bytes l) (hs : l.length ≤ 40) {a b : Int} (h0 : 0 ≤ a) (h1 : a ≤ b) (h2 : b ≤ 8 * (l.length : Int)) (d : Nat) : ∀ (k : Nat) (c : List Int) (last x : Int), Bytes c → c.length = l.length → a ≤ last → last ≤ b →
    (∀ m, a ≤ m → m < last → bitAt c m = 1) → (∀ m, last ≤ m → bitAt c m = bitAt l m) → bits_Count.cnt c (b - a).toNat a = x → b - a - x = d → 2 * d + 3 < k → skerrylaw04_BitsTakes.l0 k l a b last c x = some true := by
  induction d with
  | zero =>
    intro k c last x hc hlc g1 g2 g3 g4 g5 hd hk
    obtain ⟨k, rfl⟩ : ∃ m, k = m + 1 := ⟨k - 1, by omega⟩
    simp only [skerrylaw04_BitsTakes.l0]
    rw [w64 (x := b - a) (by omega) (by omega), if_neg (by omega), first_is h0 h1 (by omega) hc (by omega)]
    rcases fz_spec c (b - a).toNat a with ⟨j, e1, e2, e3, e4, e5⟩ | ⟨e1, e2⟩
    · have := cnt_full c (b - a).toNat a (by omega) j e1 e2
      omega
    · rw [e1]
      simp
  | succ d ih =>
    intro k c last x hc hlc g1 g2 g3 g4 g5 hd hk
    obtain ⟨k, rfl⟩ : ∃ m, k = m + 2 := ⟨k - 2, by omega⟩
    simp only [skerrylaw04_BitsTakes.l0]
    have hr := bits_Count.cnt_range c (b - a).toNat a
    rw [w64 (x := b - a) (by omega) (by omega), if_pos (by omega), first_is h0 h1 (by omega) hc (by omega)]
    rcases fz_spec c (b - a).toNat a with ⟨j, e1, e2, e3, e4, e5⟩ | ⟨e1, e2⟩
    · have hj : last ≤ j := by
        by_cases e : last ≤ j
        · exact e
        · have := g3 j e1 (by omega)
          omega
      have hlz : bitAt l j = 0 := by rw [← g4 j hj]; exact e4
      rw [e3]
      simp only [Option.bind_some, if_true]
      rw [if_neg (by omega), decide_eq_false (by omega)]
      simp only [skerrylaw04_BitsTakes.j1, Bool.false_eq_true, if_false]
      rw [bget_is hl (by omega) (by omega) (by omega), hlz]
      simp only [Option.bind_some]
      rw [bset_is hc (by omega) (by omega) (by omega) true (by omega)]
      simp only [Option.bind_some]
      have hcl := setBit_length c j true
      have hcb := setBit_bytes hc j true
      have hcn := cnt_set hc (j := j) (by omega) (by omega) e4 (b - a).toNat a h0 e1 e2
      rw [cnt_is h0 h1 (by omega) hcb (by omega), hcn, g5]
      simp only [Option.bind_some, if_true]
      rw [w64 (x := x + 1) (by omega) (by omega), w64 (x := j + 1) (by omega) (by omega)]
      simp only [if_true, show ((0 : Int) == 1) = false from rfl, Bool.false_eq_true, if_false]
      refine ih k (setBit c j true) (j + 1) (x + 1) hcb (by omega) (by omega) (by omega) ?_ ?_ (by omega) (by omega) (by omega)
      · intro m m1 m2
        rw [bitAt_set hc (by omega) (by omega) (by omega)]
        by_cases e : m = j
        · rw [if_pos e]; rfl
        · rw [if_neg e]
          exact e5 m m1 (by omega)
      · intro m m1
        rw [bitAt_set hc (by omega) (by omega) (by omega), if_neg (by omega)]
        exact g4 m (by omega)
    · have := cnt_ones c (b - a).toNat a e2
      omega
theorem BitsTakes : skerrylaw04_BitsTakes.Pure := by
  intro l a b hm hlen hwf ha hb
  have hl := bytes_wf hwf
  refine ⟨2 * (b - a).toNat + 50, ?_⟩
  unfold skerrylaw04_BitsTakes.f
  rw [wakes_all (by omega)]
  simp only [Option.bind_some, if_true]
  by_cases h40 : (l.length : Int) > 40
  · rw [if_pos h40]
  · rw [if_neg h40]
    by_cases c : 0 ≤ a ∧ a ≤ b ∧ b ≤ 8 * (l.length : Int)
    · rw [cnt_is c.1 c.2.1 c.2.2 hl (by omega)]
      simp only [Option.bind_some, if_true, List.nil_append, List.length_nil]
      rw [if_pos (by omega)]
      have hr := bits_Count.cnt_range l (b - a).toNat a
      exact loop hl (by omega) c.1 c.2.1 c.2.2 (b - a - bits_Count.cnt l (b - a).toNat a).toNat _ l a _ hl rfl (by omega) (by omega) (fun m m1 m2 => by omega) (fun m _ => rfl) rfl (by omega) (by omega)
    · rw [cnt_out c hl (by omega), first_out c hl (by omega)]
      simp

end Go.Proofs.Ytmjgmompcaanlab.Pure
