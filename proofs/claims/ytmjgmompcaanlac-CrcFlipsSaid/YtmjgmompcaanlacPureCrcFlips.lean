/- One byte that is turned makes another sum; sums go over xor: the plain law over lists and numbers. No conditions. -/
import Derived.Test.YtmjgmompcaanlacPCrcFlipsx2
import Derived.Test.YtmjgmompcaanlacPlain
import Derived.Test.YtmjgmompcaanlacPlainCrc
namespace Go.Proofs.Ytmjgmompcaanlac.Pure
open Go.RowKit Go.Proofs.Ytmjgmompcaanlac.PCrcFlips Go.Proofs.Ytmjgmompcaanlac.Plain Go.Proofs.YtmjgmompcaanlacW.PrintWords Go.Proofs.YtmjgmompcaanlacW.PrintLast Go.Proofs.YtmjgmompcaanlacW.PrintMore

theorem roll_is {s : Int} {l : List Int} (h0 : 0 ≤ s) (h1 : s < 4294967296) (hl : Bytes l) : crc_roll.f s l = some (crc s l) := by
  unfold crc_roll.f
  rw [if_pos ⟨h0, h1⟩, if_pos hl]
theorem sum_is {l : List Int} (hl : Bytes l) : crc_Sum.f l = some (crc 0 l) := by
  have h := crc_range (s := 0) (by omega) (by omega) hl
  unfold crc_Sum.f
  rw [roll_is (by omega) (by omega) hl]
  simp only [Option.bind_some]
  rw [w64 (by omega) (by omega)]
/-- The two texts, byte by byte. -/
def xors (a b : List Int) : List Int := List.zipWith (fun x y => Go.bits .xor .u8 x y) a b
theorem xors_bytes : ∀ {a b : List Int}, Bytes a → Bytes b → Bytes (xors a b) := by
  intro a
  induction a with
  | nil => intro b _ _; exact Bytes.nil
  | cons x a ih =>
    intro b ha hb
    cases b with
    | nil => exact Bytes.nil
    | cons y b =>
      have hx := ha x (by simp)
      have hy := hb y (by simp)
      have h := xor_u8 hx.1 hx.2 hy.1 hy.2
      have hlt : x.toNat ^^^ y.toNat < 256 := Nat.xor_lt_two_pow (n := 8) (by omega) (by omega)
      have g : 0 ≤ Go.bits .xor .u8 x y ∧ Go.bits .xor .u8 x y < 256 := by omega
      exact Bytes.cons g.1 g.2 (ih (fun z hz => ha z (by simp [hz])) (fun z hz => hb z (by simp [hz])))
theorem xors_nat : ∀ {a b : List Int}, Bytes a → Bytes b → nat (xors a b) = List.zipWith (· ^^^ ·) (nat a) (nat b) := by
  intro a
  induction a with
  | nil => intro b _ _; rfl
  | cons x a ih =>
    intro b ha hb
    cases b with
    | nil => rfl
    | cons y b =>
      have hx := ha x (by simp)
      have hy := hb y (by simp)
      have h := xor_u8 hx.1 hx.2 hy.1 hy.2
      have := ih (b := b) (fun z hz => ha z (by simp [hz])) (fun z hz => hb z (by simp [hz]))
      unfold xors nat at this ⊢
      simp only [List.zipWith_cons_cons, List.map_cons]
      rw [h, Int.toNat_natCast, this]
theorem xors_rd {a b : List Int} {i : Int} (h : i.toNat < a.length) (h2 : i.toNat < b.length) : rd (xors a b) i = Go.bits .xor .u8 (rd a i) (rd b i) := by
  rw [rd_get (by unfold xors; rw [List.length_zipWith]; omega), rd_get h, rd_get h2]
  unfold xors
  rw [List.getElem_zipWith]
theorem sum_xors {a b : List Int} (ha : Bytes a) (hb : Bytes b) (h : a.length = b.length) : crc 0 (xors a b) = Go.bits .xor .i64 (Go.bits .xor .i64 (crc 0 a) (crc 0 b)) (crc 0 (List.replicate a.length 0)) := by
  have ra := crc_range (s := 0) (by omega) (by omega) ha
  have rb := crc_range (s := 0) (by omega) (by omega) hb
  have rz := crc_range (s := 0) (by omega) (by omega) (Bytes.zeros a.length)
  have e1 := xor_i64 ra.1 ra.2 rb.1 rb.2
  have l1 : (crc 0 a).toNat ^^^ (crc 0 b).toNat < 4294967296 := Nat.xor_lt_two_pow (n := 32) (by omega) (by omega)
  rw [e1, xor_i64 (by omega) (by omega) rz.1 rz.2]
  unfold crc
  rw [xors_nat ha hb]
  have e2 := csum_xor (a := nat a) (b := nat b) (by unfold nat; simp [h])
  have e3 : nat (List.replicate a.length 0) = List.replicate (nat a).length 0 := by unfold nat; simp
  rw [e3]
  show ((csum 0 _ : Nat) : Int) = _
  rw [e2]
  simp only [Int.toNat_natCast, show (0 : Int).toNat = 0 from rfl]
/-- What stands behind the loop. -/
def fin (k : Nat) (x0 x1 : List Int) (x2 x3 x9 : Int) (x10 : List Int) : Option Bool := skerrylaw02_CrcFlips.l0 (k + 1) x0 x1 x2 x3 x9 x10 x9
theorem loop {a b : List Int} (hs : a.length ≤ 140737488351232) (x2 x3 n : Int) (hn : n.toNat ≤ a.length) (hn2 : n.toNat ≤ b.length) (n0 : 0 ≤ n) (d : Nat) : ∀ (k : Nat) (y : List Int) (i : Int), 0 ≤ i → n - i = d → d < k → y.length = n.toNat → (∀ j, 0 ≤ j → j < i → rd y j = Go.bits .xor .u8 (rd a j) (rd b j)) →
    skerrylaw02_CrcFlips.l0 k a b x2 x3 n y i = fin (k - d - 1) a b x2 x3 n (xors (a.take n.toNat) (b.take n.toNat)) := by
  induction d with
  | zero =>
    intro k y i hi hd hk hy hj
    obtain ⟨k, rfl⟩ : ∃ m, k = m + 1 := ⟨k - 1, by omega⟩
    have : i = n := by omega
    subst this
    have e : y = xors (a.take i.toNat) (b.take i.toNat) := by
      apply list_ext
      · unfold xors
        simp
        omega
      · intro j j0 j1
        rw [xors_rd (by simp; omega) (by simp; omega), hj j j0 (by omega)]
        congr 1
        · rw [rd_get (by omega), rd_get (by simp; omega)]
          simp
        · rw [rd_get (by omega), rd_get (by simp; omega)]
          simp
    rw [e]
    rfl
  | succ d ih =>
    intro k y i hi hd hk hy hj
    obtain ⟨k, rfl⟩ : ∃ m, k = m + 1 := ⟨k - 1, by omega⟩
    simp only [skerrylaw02_CrcFlips.l0]
    rw [if_pos (by omega), if_pos hi, if_pos (by omega), if_pos (by omega), if_pos (by omega), w64 (by omega) (by omega)]
    rw [ih k _ (i + 1) (by omega) (by omega) (by omega) (by simpa using hy) ?_]
    · congr 1
      omega
    · intro j j0 j1
      by_cases e : j = i
      · subst e
        exact rd_set_same _ (by omega)
      · rw [rd_set_other _ (by omega)]
        exact hj j j0 (by omega)
theorem flip_is {l : List Int} (hl : Bytes l) (hs : l.length ≤ 140737488351232) {i x : Int} (i0 : 0 ≤ i) (i1 : i < (l.length : Int)) (x0 : 0 < x) (x1 : x < 256) (k : Nat) : skerrylaw02_CrcFlips.j2 (k + 1) l i x false = some true := by
  have hr := hl.rd i
  have e := xor_u8 hr.1 hr.2 (y := x) (by omega) x1
  have hlt : (rd l i).toNat ^^^ x.toNat < 256 := Nat.xor_lt_two_pow (n := 8) (by omega) (by omega)
  have hne : Go.bits .xor .u8 (rd l i) x ≠ rd l i := by
    intro h
    have h2 : (rd l i).toNat ^^^ x.toNat = (rd l i).toNat := by omega
    have h3 : x.toNat ^^^ (rd l i).toNat = 0 ^^^ (rd l i).toNat := by rw [Nat.xor_comm, h2, Nat.zero_xor]
    have := xor_right_cancel h3
    omega
  have hf := crc_flip (s := 0) (by omega) (by omega) hl (i := i) (by omega) (v := Go.bits .xor .u8 (rd l i) x) (by omega) (by omega) hne
  simp only [skerrylaw02_CrcFlips.j2, Bool.false_eq_true, if_false, List.nil_append, List.length_nil, Option.bind_some]
  rw [if_pos (by omega), if_pos i0, if_pos i1, sum_is (hl.set _ (by omega) (by omega)), sum_is hl]
  simp only [Option.bind_some]
  rw [bne_iff_ne.2 hf]
theorem main {a b : List Int} (ha : Bytes a) (hb : Bytes b) (hs : a.length ≤ 140737488351232) {x2 x3 n : Int} (hn : n.toNat ≤ a.length) (hn2 : n.toNat ≤ b.length) (n0 : 0 ≤ n) (x30 : 0 ≤ x3) (x31 : x3 < 256) {k : Nat} (hk : n.toNat + 10 < k) : skerrylaw02_CrcFlips.j0 k a b x2 x3 n = some true := by
  obtain ⟨k, rfl⟩ : ∃ m, k = m + 1 := ⟨k - 1, by omega⟩
  simp only [skerrylaw02_CrcFlips.j0]
  rw [if_pos n0, if_pos (by omega), loop hs x2 x3 n hn hn2 n0 n.toNat k _ 0 (by omega) (by omega) (by omega) (by simp) (fun j j0 j1 => by omega)]
  obtain ⟨q, hq⟩ : ∃ q, k - n.toNat - 1 = q + 1 := ⟨k - n.toNat - 2, by omega⟩
  rw [hq]
  unfold fin
  have ta := ha.take n.toNat
  have tb := hb.take n.toNat
  have la : (a.take n.toNat).length = n.toNat := by simp; omega
  have lb : (b.take n.toNat).length = n.toNat := by simp; omega
  have hx := sum_xors ta tb (by omega)
  rw [la] at hx
  simp only [skerrylaw02_CrcFlips.l0]
  rw [if_neg (by omega), sum_is (xors_bytes ta tb)]
  simp only [Option.bind_some]
  rw [if_pos n0, if_pos (by omega), sum_is ta]
  simp only [Option.bind_some]
  rw [if_pos (by omega), sum_is tb]
  simp only [Option.bind_some]
  rw [if_pos (by omega), sum_is (Bytes.zeros _)]
  simp only [Option.bind_some]
  rw [if_pos hx]
  have ht : skerrylaw02_CrcFlips.j2 (q + 1) a x2 x3 true = some true := by simp [skerrylaw02_CrcFlips.j2]
  by_cases c1 : x2 < 0
  · rw [if_pos c1]
    exact ht
  · rw [if_neg c1]
    by_cases c2 : x2 ≥ (a.length : Int)
    · rw [if_pos c2]
      exact ht
    · rw [if_neg c2]
      by_cases c3 : x3 = 0
      · rw [c3]
        simp [skerrylaw02_CrcFlips.j2]
      · rw [beq_eq_false_iff_ne.2 c3]
        exact flip_is ha hs (by omega) (by omega) (by omega) x31 q
theorem CrcFlips : skerrylaw02_CrcFlips.Pure := by
  intro a b x2 x3 hma hla hwa hmb hlb hwb h2 h3
  have ha := bytes_wf hwa
  have hb := bytes_wf hwb
  have h3 := u8_wf h3
  refine ⟨a.length + 20, ?_⟩
  unfold skerrylaw02_CrcFlips.f
  simp only [skerrylaw02_wakes.f, Option.bind_some, if_true]
  by_cases c : (b.length : Int) < (a.length : Int)
  · rw [if_pos c]
    exact main ha hb (by omega) (by omega) (by omega) (by omega) h3.1 h3.2 (by omega)
  · rw [if_neg c]
    exact main ha hb (by omega) (by omega) (by omega) (by omega) h3.1 h3.2 (by omega)

end Go.Proofs.Ytmjgmompcaanlac.Pure
