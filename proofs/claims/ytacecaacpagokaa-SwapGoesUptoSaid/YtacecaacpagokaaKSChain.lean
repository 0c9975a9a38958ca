/- Texts of this claim, merged. -/
import Derived.Test.YtacecaacpagokaaKSApp
namespace Go.Proofs.Ytacecaacpagokaa.Swap
open Go.RowKit Go.Proofs.Ytacecaacpagokaa.PSwapGoes Go.Proofs.Ytacecaacpagokaa.Plain Go.Proofs.Ytacecaacpagokaa.Pure Go.Proofs.Ytacecaacpagokaa.Codec Go.Proofs.Ytacecaacpagokaa.Turn Go.Proofs.Ytacecaacpagokaa.PlainFloat Go.Proofs.YtacecaacpagokaaW.PrintWords Go.Proofs.YtacecaacpagokaaW.PrintLast Go.Proofs.YtacecaacpagokaaW.PrintMore
set_option linter.unusedVariables false
set_option linter.unusedSimpArgs false
theorem seg_mid {l p q r : List Int} {a n : Int} (e : l = p ++ q ++ r) (ha : a = (p.length : Int)) (hn : n = (q.length : Int)) : field_part.seg l a n = q := by
  subst e
  unfold field_part.seg
  rw [show (a + n).toNat = (p ++ q).length by rw [List.length_append]; omega, show a.toNat = p.length by omega, List.take_left, List.drop_left]
theorem seg_take {l : List Int} {n : Int} : field_part.seg l 0 n = l.take n.toNat := by
  unfold field_part.seg
  rw [Int.zero_add]
  rfl
theorem seg_at {p q : List Int} {a n : Int} (ha : a = (p.length : Int)) (h0 : 0 ≤ n) : field_part.seg (p ++ q) a n = q.take n.toNat := by
  unfold field_part.seg
  rw [show (a + n).toNat = p.length + n.toNat by omega, show a.toNat = p.length by omega, List.take_length_add_append, List.drop_left]
/-- Two bytes of a length, as many bytes, four bytes: what is read of them. -/
theorem unf_two {F S r : List Int} {m : Nat} (hm : m ≤ 65535) (hF : F.length = m + 2) (hS : S.length = 4) (h2 : F.take 2 = leB 2 (m : Int)) :
    unf (F ++ S ++ r) 0 = if le S = crc 0 F then (F.drop 2, (m : Int) + 6, 0) else ([], 0, 20) := by
  have e0 : (0 : Int).toNat = 0 := rfl
  have e1 : field_part.seg (F ++ S ++ r) 0 2 = leB 2 (m : Int) := by
    rw [seg_take, show (2 : Int).toNat = 2 from rfl, List.append_assoc, List.take_append_of_le_length (by omega), h2]
  have e2 : le (leB 2 (m : Int)) = (m : Int) := by
    rw [(le_leB (m : Int)).2.1]
    omega
  have e3 : field_part.seg (F ++ S ++ r) ((m : Int) + 2) 4 = S := by
    rw [List.append_assoc, seg_at (by omega) (by omega), show (4 : Int).toNat = 4 from rfl, List.take_append_of_le_length (by omega), List.take_of_length_le (by omega)]
  have e4 : (F ++ S ++ r).take ((m : Int) + 2).toNat = F := by
    rw [List.append_assoc, List.take_append_of_le_length (by omega), List.take_of_length_le (by omega)]
  unfold unf
  rw [if_neg (by omega), e0, List.drop_zero, e1, e2, if_neg (by rw [List.length_append, List.length_append]; omega), e3, e4, show (0 : Int) + (m : Int) + 6 = (m : Int) + 6 by omega]
theorem frm_eq (l : List Int) : frm l = (leB 2 (l.length : Int) ++ l) ++ leB 4 (crc 0 (leB 2 (l.length : Int) ++ l)) := rfl
theorem take_two (l : List Int) : (leB 2 (l.length : Int) ++ l).take 2 = leB 2 (l.length : Int) := by
  rw [List.take_append_of_le_length (by rw [leB_length]; omega), List.take_of_length_le (by rw [leB_length]; omega)]
theorem le_sum {l : List Int} (hl : Bytes l) : le (leB 4 (crc 0 l)) = crc 0 l := by
  have hr := crc_range (s := 0) (by omega) (by omega) hl
  rw [(le_leB _).2.2]
  omega
theorem unf_front {l : List Int} (hl : Bytes l) (h : l.length ≤ 65535) (r : List Int) : unf (frm l ++ r) 0 = (l, (l.length : Int) + 6, 0) := by
  rw [frm_eq, unf_two (m := l.length) h (by rw [List.length_append, leB_length]; omega) (leB_length _ _) (take_two l), if_pos (le_sum ((leB_bytes _ _).append hl))]
  rw [List.drop_append_of_le_length (by rw [leB_length]; omega), List.drop_of_length_le (by rw [leB_length]; omega), List.nil_append]
theorem fit2 {x : Int} (h : Fits 2 x) : le (leB 2 x) = x := by
  have h2 : 0 ≤ x ∧ x < 65536 := h
  rw [(le_leB x).2.1]; omega
theorem fit4 {x : Int} (h : Fits 4 x) : le (leB 4 x) = x := by
  have h2 : 0 ≤ x ∧ x < 4294967296 := h
  rw [(le_leB x).2.2]; omega
theorem str_back (t : ByteArray) : strOfNums (bytesOf t) = t := by
  have h : (strOfNums (bytesOf t)).data.toList = t.data.toList := by
    rw [strOfNums_data]
    unfold bytesOf
    rw [List.map_map]
    have : ((fun n : Int => UInt8.ofNat n.toNat) ∘ fun b : UInt8 => (b.toNat : Int)) = id := by funext b; simp
    rw [this, List.map_id]
  have h2 : (strOfNums (bytesOf t)).data = t.data := Array.toList_inj.1 h
  cases t
  cases hh : strOfNums (bytesOf _)
  simp_all
theorem fits_of {n : Nat} {l : List Int} {s : List Int × Int} (hs : s.2 = 0) (h : (wnums n s l).2 = 0) : ∀ v ∈ l, Fits n v := by
  intro v hv
  by_cases c : Fits n v
  · exact c
  · have := wnums_bad (n := n) l (s := s) (.inr ⟨hs, v, hv, c⟩)
    omega
/-- A record's text, and what stands at its places. -/
theorem rec_form {b q s0 s1 s2 s3 a n : Int} {l c : List Int} (hl : Bytes l) (h : recOut b q s0 s1 s2 s3 a n l = (c, 0)) : ∃ P, c = frm P ∧ Bytes P ∧ P.length = 24 + l.length ∧ P.length ≤ 65535 ∧ le (field_part.seg P 0 4) = b ∧ le (field_part.seg P 4 4) = q ∧ le (field_part.seg P 8 4) = a ∧ le (field_part.seg P 12 4) = n ∧ sealNums P = [s0, s1, s2, s3] ∧ P.drop 24 = l := by
  unfold recOut at h
  by_cases c0 : (recNums b q s0 s1 s2 s3 a n).2 = 0
  · rw [if_pos c0] at h
    have c1 : (wnums 4 ([], 0) [b, q, a, n]).2 = 0 := by
      rcases wnums_err 4 [b, q, a, n] (s := ([], 0)) (.inl rfl) with e | e
      · exact e
      · have := wnums_bad (n := 2) [s0, s1, s2, s3] (s := wnums 4 ([], 0) [b, q, a, n]) (.inl e)
        unfold recNums at c0
        omega
    have F4 := fits_of (s := ([], 0)) rfl c1
    have F2 : ∀ v ∈ [s0, s1, s2, s3], Fits 2 v := fits_of c1 c0
    have hP0 : (recNums b q s0 s1 s2 s3 a n).1 = (leB 4 b ++ leB 4 q ++ leB 4 a ++ leB 4 n ++ leB 2 s0 ++ leB 2 s1 ++ leB 2 s2 ++ leB 2 s3) := by
      unfold recNums
      rw [wnums_ok _ F4, wnums_ok _ F2]
      simp only [List.map_cons, List.map_nil, List.flatten_cons, List.flatten_nil, List.append_nil, List.nil_append, List.append_assoc]
    obtain ⟨P, hP⟩ : ∃ P, (recNums b q s0 s1 s2 s3 a n).1 ++ l = P := ⟨_, rfl⟩
    have hPb : Bytes P := by rw [← hP]; exact (recNums_bytes b q s0 s1 s2 s3 a n).append hl
    rw [hP] at h
    rw [hP0] at hP
    by_cases c2 : P.length ≤ 65535
    · rw [if_pos c2] at h
      refine ⟨P, (Prod.mk.inj h).1.symm, hPb, by rw [← hP]; simp only [List.length_append, leB_length], c2, ?_, ?_, ?_, ?_, ?_, ?_⟩
      · rw [seg_mid (p := ([])) (q := leB 4 b) (r := (leB 4 q ++ leB 4 a ++ leB 4 n ++ leB 2 s0 ++ leB 2 s1 ++ leB 2 s2 ++ leB 2 s3 ++ l)) (by rw [← hP] <;> simp only [List.append_assoc, List.nil_append]) (by simp [leB_length]) (by simp [leB_length])]
        exact fit4 (F4 b (by simp))
      · rw [seg_mid (p := (leB 4 b)) (q := leB 4 q) (r := (leB 4 a ++ leB 4 n ++ leB 2 s0 ++ leB 2 s1 ++ leB 2 s2 ++ leB 2 s3 ++ l)) (by rw [← hP] <;> simp only [List.append_assoc, List.nil_append]) (by simp [leB_length]) (by simp [leB_length])]
        exact fit4 (F4 q (by simp))
      · rw [seg_mid (p := (leB 4 b ++ leB 4 q)) (q := leB 4 a) (r := (leB 4 n ++ leB 2 s0 ++ leB 2 s1 ++ leB 2 s2 ++ leB 2 s3 ++ l)) (by rw [← hP] <;> simp only [List.append_assoc, List.nil_append]) (by simp [leB_length]) (by simp [leB_length])]
        exact fit4 (F4 a (by simp))
      · rw [seg_mid (p := (leB 4 b ++ leB 4 q ++ leB 4 a)) (q := leB 4 n) (r := (leB 2 s0 ++ leB 2 s1 ++ leB 2 s2 ++ leB 2 s3 ++ l)) (by rw [← hP] <;> simp only [List.append_assoc, List.nil_append]) (by simp [leB_length]) (by simp [leB_length])]
        exact fit4 (F4 n (by simp))
      · unfold sealNums
        rw [seg_mid (p := (leB 4 b ++ leB 4 q ++ leB 4 a ++ leB 4 n)) (q := leB 2 s0) (r := (leB 2 s1 ++ leB 2 s2 ++ leB 2 s3 ++ l)) (by rw [← hP] <;> simp only [List.append_assoc, List.nil_append]) (by simp [leB_length]) (by simp [leB_length]), seg_mid (p := (leB 4 b ++ leB 4 q ++ leB 4 a ++ leB 4 n ++ leB 2 s0)) (q := leB 2 s1) (r := (leB 2 s2 ++ leB 2 s3 ++ l)) (by rw [← hP] <;> simp only [List.append_assoc, List.nil_append]) (by simp [leB_length]) (by simp [leB_length]), seg_mid (p := (leB 4 b ++ leB 4 q ++ leB 4 a ++ leB 4 n ++ leB 2 s0 ++ leB 2 s1)) (q := leB 2 s2) (r := (leB 2 s3 ++ l)) (by rw [← hP] <;> simp only [List.append_assoc, List.nil_append]) (by simp [leB_length]) (by simp [leB_length]), seg_mid (p := (leB 4 b ++ leB 4 q ++ leB 4 a ++ leB 4 n ++ leB 2 s0 ++ leB 2 s1 ++ leB 2 s2)) (q := leB 2 s3) (r := (l)) (by rw [← hP] <;> simp only [List.append_assoc, List.nil_append]) (by simp [leB_length]) (by simp [leB_length])]
        rw [fit2 (F2 s0 (by simp)), fit2 (F2 s1 (by simp)), fit2 (F2 s2 (by simp)), fit2 (F2 s3 (by simp))]
      · rw [← hP, List.drop_append_of_le_length (by simp only [List.length_append, leB_length]; omega), List.drop_of_length_le (by simp only [List.length_append, leB_length]; omega), List.nil_append]
    · rw [if_neg c2] at h
      cases (Prod.mk.inj h).2
  · rw [if_neg c0] at h
    cases (Prod.mk.inj h).2
/-- A record that fails is refused for its numbers or its length. -/
theorem recOut_err (b q s0 s1 s2 s3 a n : Int) (l : List Int) : (recOut b q s0 s1 s2 s3 a n l).2 = 0 ∨ (recOut b q s0 s1 s2 s3 a n l).2 = 3 ∨ (recOut b q s0 s1 s2 s3 a n l).2 = 5 := by
  unfold recOut
  split
  · split
    · exact .inl rfl
    · exact .inr (.inr rfl)
  · exact .inr (.inl rfl)
/-- What is read at a place hangs on what stands from there on. -/
theorem unf_at (l : List Int) {a : Int} (h0 : 0 ≤ a) (h1 : a ≤ (l.length : Int)) : unf l a = if (unf (l.drop a.toNat) 0).2.2 = 0 then ((unf (l.drop a.toNat) 0).1, a + (unf (l.drop a.toNat) 0).2.1, 0) else ([], 0, (unf (l.drop a.toNat) 0).2.2) := by
  have e0 : (0 : Int).toNat = 0 := rfl
  have k0 : ¬ ((0 : Int) < 0 ∨ ((l.drop a.toNat).length : Int) < 0) := by omega
  have k1 : ¬ (a < 0 ∨ (l.length : Int) < a) := by omega
  unfold unf
  rw [if_neg k1, if_neg k0, e0, List.drop_zero]
  split
  · rw [if_neg (by decide)]
  · split
    · rw [if_pos rfl]
      simp only [Prod.mk.injEq, true_and, and_true]
      omega
    · rw [if_neg (by decide)]
/-- Nothing but bytes 0 is no record. -/
theorem unf_zero (k : Nat) : (unf (List.replicate k 0) 0).2.2 ≠ 0 ∨ (unf (List.replicate k 0) 0).1.length < 24 := by
  unfold unf
  split
  · exact .inl (by decide)
  · split
    · exact .inl (by decide)
    · rename_i h1 h2
      have e0 : (0 : Int).toNat = 0 := rfl
      have hz : le (field_part.seg ((List.replicate k (0 : Int)).drop (0 : Int).toNat) 0 2) = 0 := by
        rw [e0, List.drop_zero, seg_take, List.take_replicate]
        rcases Nat.lt_or_ge k 2 with hk | hk
        · have : min (2 : Int).toNat k = k := by show min 2 k = k; omega
          rw [this]
          match k, hk with
          | 0, _ => rfl
          | 1, _ => rfl
        · have : min (2 : Int).toNat k = 2 := by show min 2 k = 2; omega
          rw [this]
          rfl
      split
      · right
        simp only [hz]
        rw [List.length_drop, List.length_take]
        have : ((0 : Int) + 2).toNat = 2 := rfl
        omega
      · exact .inl (by decide)
end Go.Proofs.Ytacecaacpagokaa.Swap

namespace Go.Proofs.Ytacecaacpagokaa.Swap
open Go.RowKit Go.Proofs.Ytacecaacpagokaa.PSwapGoes Go.Proofs.Ytacecaacpagokaa.Plain Go.Proofs.Ytacecaacpagokaa.Pure Go.Proofs.Ytacecaacpagokaa.Codec Go.Proofs.Ytacecaacpagokaa.Turn Go.Proofs.Ytacecaacpagokaa.PlainFloat Go.Proofs.YtacecaacpagokaaW.PrintWords Go.Proofs.YtacecaacpagokaaW.PrintLast Go.Proofs.YtacecaacpagokaaW.PrintMore
set_option linter.unusedVariables false
set_option linter.unusedSimpArgs false
/-- As many bytes 0. -/
def zer (n : Int) : List Int := List.replicate n.toNat 0
theorem zer_length (n : Int) (h : 0 ≤ n) : ((zer n).length : Int) = n := by unfold zer; rw [List.length_replicate]; omega
theorem zer_bytes (n : Int) : Bytes (zer n) := by
  intro x hx
  rw [(List.mem_replicate.1 hx).2]
  omega
/-- The bytes of a swap file with one edit more. -/
def appBytes (block base : Int) (t : Tl) (x : S46) (b : List Int) : List Int := b ++ zer (placeOf block t ((recOf base t x).1.length : Int) - t.a) ++ (recOf base t x).1
/-- A swap file as it is written, and where each record ends. -/
inductive Wr (block base : Int) : List S46 → Tl → List Int → List Int → Prop
  | nil : Wr block base [] Tl0 [] []
  | snoc {done : List S46} {t : Tl} {b ends : List Int} (x : S46) : Wr block base done t b ends → appErr block base t x = 0 → Small4 (sealOf t (bytesOf x.f2)) → Wr block base (done ++ [x]) (appTl block base t x) (appBytes block base t x b) (ends ++ [(appTl block base t x).a])
/-- What a record is that was appended. -/
theorem app_rec {block base : Int} {t : Tl} {x : S46} (hq : t.S.length = 4) (h : appErr block base t x = 0) : ∃ P, (recOf base t x).1 = frm P ∧ Bytes P ∧ P.length = 24 + x.f2.size ∧ (x.f2.size : Int) ≤ block - 30 ∧ t.q < 4294967295 ∧ le (field_part.seg P 0 4) = base ∧ le (field_part.seg P 4 4) = t.q + 1 ∧ edOf P = x ∧ sealNums P = (sealOf t (bytesOf x.f2)).map (· % 65536) ∧ P.drop 24 = bytesOf x.f2 ∧ P.length ≤ 65535 := by
  unfold appErr at h
  split at h
  · cases h
  rename_i hc
  have h4 : (sealOf t (bytesOf x.f2)).length = 4 := plus_length hq (rot_length rfl _)
  obtain ⟨s0, s1, s2, s3, hs⟩ := list4 h4
  have hr : recOf base t x = recOut base (t.q + 1) (s0 % 65536) (s1 % 65536) (s2 % 65536) (s3 % 65536) x.f0 x.f1 (bytesOf x.f2) := by
    unfold recOf
    rw [hs]
    rfl
  obtain ⟨⟨c, e⟩, hce⟩ : ∃ z, recOf base t x = z := ⟨_, rfl⟩
  rw [hce] at h hr
  have h : e = 0 := h
  subst h
  obtain ⟨P, h1, h2, h3, h5, e0, e1, e2, e3, e4, e5⟩ := rec_form (bytesOf_bytes x.f2) hr.symm
  rw [bytesOf_length] at h3
  refine ⟨P, by rw [hce]; exact h1, h2, h3, by omega, by omega, e0, e1, ?_, by rw [hs]; exact e4, e5, h5⟩
  unfold edOf
  rw [e2, e3, e5, str_back]
/-- A record within its block is read where it stands. -/
theorem fr_at {block : Int} {pre P z : List Int} (hb : Bytes P) (hl : P.length ≤ 65535) (h : (pre.length : Int) + ((frm P).length : Int) ≤ nx (pre.length : Int) block) : fr_ (pre ++ frm P ++ z) block (pre.length : Int) = (P, (pre.length : Int) + ((frm P).length : Int), 0) := by
  unfold fr_
  obtain ⟨m, hm⟩ : ∃ m, (min ((pre ++ frm P ++ z).length : Int) (nx (pre.length : Int) block)).toNat = m := ⟨_, rfl⟩
  rw [hm]
  have hm1 : pre.length + (frm P).length ≤ m := by
    rw [← hm, List.length_append, List.length_append]
    omega
  have ht : (pre ++ frm P ++ z).take m = pre ++ frm P ++ z.take (m - (pre.length + (frm P).length)) := by
    rw [List.take_append, List.take_of_length_le (by rw [List.length_append]; omega), List.length_append]
  rw [ht, unf_at _ (by omega) (by rw [List.length_append, List.length_append]; omega), Int.toNat_natCast, List.append_assoc, List.drop_left, unf_front hb hl]
  rw [if_pos rfl, frm_length]
  simp only [Prod.mk.injEq, true_and, and_true]
  omega
/-- Where only bytes 0 stand up to the block's end, there is no record. -/
theorem try_zero {b : List Int} {block base : Int} {t : Tl} {a : Int} (h0 : 0 ≤ a) {k : Nat} (h : (b.take (min (b.length : Int) (nx a block)).toNat).drop a.toNat = List.replicate k 0) : tryAt b block base t a = none := by
  unfold tryAt
  split
  · rfl
  rename_i h1
  rw [if_pos]
  unfold fr_
  by_cases hc : a ≤ ((b.take (min (b.length : Int) (nx a block)).toNat).length : Int)
  · rw [unf_at _ h0 hc, h]
    by_cases hz : (unf (List.replicate k 0) 0).2.2 = 0
    · rw [if_pos hz]
      exact .inr ((unf_zero k).elim (fun q => absurd hz q) id)
    · rw [if_neg hz]
      exact .inl hz
  · left
    unfold unf
    rw [if_pos (.inr (by omega))]
    decide
theorem drop_zeros {b : List Int} {n m : Nat} {k : Nat} (h : b.drop n = List.replicate k 0) : ∃ j, (b.take m).drop n = List.replicate j 0 := by
  refine ⟨min (m - n) k, ?_⟩
  rw [List.drop_take, h, List.take_replicate]
/-- What holds of every file that is written. -/
structure WrOk (block : Int) (done : List S46) (t : Tl) (b ends : List Int) : Prop where
  a : t.a = (b.length : Int)
  q : t.q = (done.length : Int)
  by_ : Bytes b
  ok : TlOk b t
  ends : ends.length = done.length
  most : t.a ≤ (done.length : Int) * (2 * block)
theorem place_ok {block : Int} (hk : 64 ≤ block ∧ block ≤ 4096) {t : Tl} (h0 : 0 ≤ t.a) {n : Int} (hn : 0 ≤ n) (hn2 : n ≤ block) : t.a ≤ placeOf block t n ∧ placeOf block t n + n ≤ nx (placeOf block t n) block ∧ placeOf block t n ≤ t.a + block ∧ (placeOf block t n = t.a ∨ (placeOf block t n = nx t.a block ∧ t.a % block ≠ 0)) := by
  have h1 := Int.emod_nonneg t.a (show block ≠ 0 by omega)
  have h2 := Int.emod_lt_of_pos t.a (show 0 < block by omega)
  unfold placeOf
  split
  · rename_i hc
    have h3 := nx_pos (a := t.a) (block := block) (by omega)
    have h4 : (nx t.a block) % block = 0 := by
      unfold nx
      have : t.a - t.a % block + block = block * (t.a / block + 1) := by
        have := Int.mul_ediv_add_emod t.a block
        rw [Int.mul_add, Int.mul_one]
        omega
      rw [this]
      exact Int.mul_emod_right _ _
    refine ⟨by omega, ?_, h3.2, .inr ⟨rfl, by omega⟩⟩
    unfold nx at h4 ⊢
    rw [h4]
    omega
  · refine ⟨Int.le_refl _, ?_, by omega, .inl rfl⟩
    unfold nx
    omega
/-- The edit that was appended is the record that follows, whatever stands behind it. -/
theorem step_ahead {block base : Int} (hk : 64 ≤ block ∧ block ≤ 4096) {t : Tl} {b : List Int} {x : S46} (hta : t.a = (b.length : Int)) (hS : t.S.length = 4) (h : appErr block base t x = 0) (hsm : Small4 (sealOf t (bytesOf x.f2))) (z : List Int) : stepOf (appBytes block base t x b ++ z) block base t = some (x, appTl block base t x) := by
  obtain ⟨P, hc, hPb, hPl, hxs, hq, e0, e1, e2, e3, e4, e5⟩ := app_rec hS h
  have hcl : ((recOf base t x).1.length : Int) = 30 + (x.f2.size : Int) := by rw [hc, frm_length]; omega
  obtain ⟨n, hn⟩ : ∃ n : Int, ((recOf base t x).1.length : Int) = n := ⟨_, rfl⟩
  obtain ⟨p1, p2, p3, p4⟩ := place_ok hk (t := t) (by omega) (n := n) (by omega) (by omega)
  obtain ⟨pl, hpl⟩ : ∃ pl, placeOf block t n = pl := ⟨_, rfl⟩
  have hab : appBytes block base t x b = b ++ zer (pl - t.a) ++ frm P := by
    unfold appBytes
    rw [hn, hpl, hc]
  have htl : appTl block base t x = ⟨pl + n, t.q + 1, t.b + (x.f2.size : Int), sealOf t (bytesOf x.f2)⟩ := by
    unfold appTl
    rw [hn, hpl]
  rw [hpl] at p1 p2 p3 p4
  have hpre : ((b ++ zer (pl - t.a)).length : Int) = pl := by
    rw [List.length_append]
    have := zer_length (pl - t.a) (by omega)
    omega
  have hfl : ((frm P).length : Int) = n := by rw [← hn, hc]
  have hfr : fr_ (b ++ zer (pl - t.a) ++ frm P ++ z) block pl = (P, pl + n, 0) := by
    have := fr_at (block := block) (pre := b ++ zer (pl - t.a)) (P := P) (z := z) hPb e5 (by rw [hpre, hfl]; exact p2)
    rw [hpre, hfl] at this
    exact this
  have htry : tryAt (b ++ zer (pl - t.a) ++ frm P ++ z) block base t pl = some (x, appTl block base t x) := by
    unfold tryAt
    rw [if_neg (by rw [List.length_append, List.length_append]; omega), hfr]
    simp only
    rw [if_neg (show ¬ ((0 : Int) ≠ 0 ∨ P.length < 24) by omega), e0, e1, if_neg (by simp), e4, if_neg (fun q => q hsm), e3, if_neg (fun q => q rfl), e2]
    unfold tlOf
    rw [e4, bytesOf_length, htl]
  rw [hab]
  unfold stepOf
  rcases p4 with hp | ⟨hp, hm⟩
  · have htry2 : tryAt (b ++ zer (pl - t.a) ++ frm P ++ z) block base t t.a = some (x, appTl block base t x) := by
      have h := htry
      rw [hp] at h ⊢
      exact h
    rw [htry2]
  · have hno : tryAt (b ++ zer (pl - t.a) ++ frm P ++ z) block base t t.a = none := by
      refine try_zero (by omega) (k := (pl - t.a).toNat) ?_
      rw [← hp, show (min ((b ++ zer (pl - t.a) ++ frm P ++ z).length : Int) pl).toNat = (b ++ zer (pl - t.a)).length by rw [List.length_append, List.length_append]; omega, List.append_assoc (b ++ zer (pl - t.a)), List.take_left, hta, Int.toNat_natCast, List.drop_left]
      rfl
    rw [hno]
    simp only
    rw [if_pos hm, ← hp, htry]
/-- Behind the end only bytes 0: nothing follows. -/
theorem step_end {block base : Int} (hk : 64 ≤ block ∧ block ≤ 4096) {t : Tl} {b : List Int} (hta : t.a = (b.length : Int)) (k : Nat) : stepOf (b ++ List.replicate k 0) block base t = none := by
  have hz : ∀ a : Int, t.a ≤ a → tryAt (b ++ List.replicate k 0) block base t a = none := by
    intro a ha
    have hd : (b ++ List.replicate k 0).drop a.toNat = List.replicate (k - (a.toNat - b.length)) 0 := by
      rw [List.drop_append, List.drop_of_length_le (by omega), List.nil_append, List.drop_replicate]
    obtain ⟨j, hj⟩ := drop_zeros (m := (min ((b ++ List.replicate k (0 : Int)).length : Int) (nx a block)).toNat) hd
    exact try_zero (by omega) hj
  unfold stepOf
  rw [hz t.a (Int.le_refl _)]
  simp only
  rw [hz _ (Int.le_of_lt (nx_pos (by omega)).1)]
  split <;> rfl
theorem wr_ok {block base : Int} (hk : 64 ≤ block ∧ block ≤ 4096) {done : List S46} {t : Tl} {b ends : List Int} (h : Wr block base done t b ends) : WrOk block done t b ends := by
  induction h with
  | nil => exact ⟨rfl, rfl, Bytes.nil, tl0_ok [], rfl, by show (0 : Int) ≤ _; simp⟩
  | @snoc done t b ends x hw he hs ih =>
    obtain ⟨P, hc, hPb, hPl, hxs, hq, e0, e1, e2, e3, e4, e5⟩ := app_rec ih.ok.S.1 he
    have hcl : ((recOf base t x).1.length : Int) = 30 + (x.f2.size : Int) := by rw [hc, frm_length]; omega
    obtain ⟨n, hn⟩ : ∃ n : Int, ((recOf base t x).1.length : Int) = n := ⟨_, rfl⟩
    have a0 := ih.ok.a0
    obtain ⟨p1, p2, p3, p4⟩ := place_ok hk (t := t) a0 (n := n) (by omega) (by omega)
    have hz := zer_length (placeOf block t n - t.a) (by omega)
    have ha := ih.a
    have hbl : ((appBytes block base t x b).length : Int) = placeOf block t n + n := by
      unfold appBytes
      rw [List.length_append, List.length_append, hn]
      omega
    have hby : Bytes (appBytes block base t x b) := by
      unfold appBytes
      rw [hc]
      exact (ih.by_.append (zer_bytes _)).append (frm_bytes hPb)
    have hS := (sums4_iff ih.ok.S (rot_sums (four_ok (bytesOf_bytes x.f2) (by rw [bytesOf_length]; omega)) t.b)).2 hs
    have hS2 := seal_le ih.ok.S.1 ih.ok.S2 (bytesOf_bytes x.f2)
    rw [bytesOf_length] at hS2
    have q0 := ih.ok.q0
    have b0 := ih.ok.b0
    have b1 := ih.ok.b1
    have hqq := ih.q
    have hm := ih.most
    have htl : appTl block base t x = ⟨placeOf block t n + n, t.q + 1, t.b + (x.f2.size : Int), sealOf t (bytesOf x.f2)⟩ := by
      unfold appTl
      rw [hn]
    rw [htl]
    refine ⟨hbl.symm, ?_, hby, ⟨?_, ?_, ?_, ?_, ?_, ?_, hS, hS2⟩, by rw [List.length_append, List.length_append, ih.ends]; rfl, ?_⟩
    · show t.q + 1 = _
      rw [List.length_append]
      show t.q + 1 = ((done.length + 1 : Nat) : Int)
      omega
    · show 0 ≤ placeOf block t n + n; omega
    · show placeOf block t n + n ≤ _; omega
    · show 0 ≤ t.q + 1; omega
    · show t.q + 1 ≤ _; omega
    · show 0 ≤ t.b + (x.f2.size : Int); omega
    · show t.b + (x.f2.size : Int) ≤ placeOf block t n + n; omega
    · show placeOf block t n + n ≤ _
      rw [List.length_append]
      show placeOf block t n + n ≤ ((done.length + 1 : Nat) : Int) * (2 * block)
      have : ((done.length + 1 : Nat) : Int) * (2 * block) = (done.length : Int) * (2 * block) + 2 * block := by
        rw [Int.natCast_add, Int.add_mul]
        show _ + 1 * (2 * block) = _
        rw [Int.one_mul]
      omega
/-- What is written is scanned, whatever stands behind it. -/
theorem scan_wr {block base : Int} (hk : 64 ≤ block ∧ block ≤ 4096) {done : List S46} {t : Tl} {b ends : List Int} (h : Wr block base done t b ends) : ∀ (F z : List Int), F = b ++ z → ∀ l u, Scans F block base t l u → Scans F block base Tl0 (done ++ l) u := by
  induction h with
  | nil => exact fun F z _ l u h => h
  | @snoc done t b ends x hw he hs ih =>
    intro F z hF l u hsc
    have hok := wr_ok hk hw
    have hst := step_ahead (base := base) hk hok.a hok.ok.S.1 he hs z
    rw [← hF] at hst
    have := ih F (zer (placeOf block t ((recOf base t x).1.length : Int) - t.a) ++ (recOf base t x).1 ++ z) (by rw [hF]; unfold appBytes; simp only [List.append_assoc]) (x :: l) u (.more hst hsc)
    rw [List.append_assoc]
    exact this
/-- A file that is written, and bytes 0 behind it. -/
theorem scan_zeros {block base : Int} (hk : 64 ≤ block ∧ block ≤ 4096) {done : List S46} {t : Tl} {b ends : List Int} (h : Wr block base done t b ends) (k : Nat) : Scans (b ++ List.replicate k 0) block base Tl0 done t := by
  have := scan_wr hk h _ (List.replicate k 0) rfl [] t (.stop (step_end hk (wr_ok hk h).a k))
  rwa [List.append_nil] at this
theorem scan_whole {block base : Int} (hk : 64 ≤ block ∧ block ≤ 4096) {done : List S46} {t : Tl} {b ends : List Int} (h : Wr block base done t b ends) : Scans b block base Tl0 done t := by
  have := scan_zeros hk h 0
  rwa [List.replicate_zero, List.append_nil] at this
/-- The errors of an edit that is refused. -/
theorem appErr_cases (block base : Int) (t : Tl) (x : S46) : appErr block base t x = 0 ∨ appErr block base t x = 3 ∨ appErr block base t x = 5 := by
  unfold appErr
  split
  · exact .inr (.inr rfl)
  · unfold recOf
    split
    · exact recOut_err _ _ _ _ _ _ _ _ _
    · exact .inr (.inl rfl)
end Go.Proofs.Ytacecaacpagokaa.Swap
