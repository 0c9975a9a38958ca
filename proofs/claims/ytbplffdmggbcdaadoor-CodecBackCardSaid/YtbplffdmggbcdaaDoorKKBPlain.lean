/- What is written is read again: the plain laws. -/
import Derived.Test.YtbplffdmggbcdaaDoorKKUnhead
import Derived.Test.YtbplffdmggbcdaaDoorKKUndir
import Derived.Test.YtbplffdmggbcdaaDoorKKRecord
import Derived.Test.YtbplffdmggbcdaaDoorKKUnrec
namespace Go.Proofs.YtbplffdmggbcdaaDoor.Codec
open Go.RowKit Go.Proofs.YtbplffdmggbcdaaDoor.PCodecBack Go.Proofs.YtbplffdmggbcdaaDoor.Plain Go.Proofs.YtbplffdmggbcdaaDoor.Pure Go.Proofs.YtbplffdmggbcdaaDoorW.PrintWords Go.Proofs.YtbplffdmggbcdaaDoorW.PrintLast Go.Proofs.YtbplffdmggbcdaaDoorW.PrintMore
set_option linter.unusedVariables false
set_option linter.unusedSimpArgs false
/-- An inode's numbers, written one behind the other. -/
def two (l : List Int) : List Int := (l.map (leB 2)).flatten
theorem two_length (l : List Int) : (two l).length = 2 * l.length := by
  unfold two
  induction l with
  | nil => rfl
  | cons x l ih => rw [List.map_cons, List.flatten_cons, List.length_append, ih, leB_length, List.length_cons]; omega
theorem two_snoc (l : List Int) (x : Int) : two (l ++ [x]) = two l ++ leB 2 x := by unfold two; simp
theorem two_bytes (l : List Int) : Bytes (two l) := by
  unfold two
  induction l with
  | nil => exact Bytes.nil
  | cons x l ih => rw [List.map_cons, List.flatten_cons]; exact (leB_bytes 2 x).append ih
def inoHead (p0 p1 p2 : Int) : List Int := leB 1 p0 ++ leB 1 0 ++ leB 2 p1 ++ leB 4 p2
def inoBytes (p0 p1 p2 : Int) (D : List Int) (p11 p12 : Int) : List Int := inoHead p0 p1 p2 ++ two D ++ leB 2 p11 ++ leB 2 p12 ++ leB 4 0
def fitAll (D : List Int) : Bool := D.all fun x => decide (Fits 2 x)
def inoFits (p1 p2 : Int) (D : List Int) (p11 p12 : Int) : Bool := (decide (Fits 2 p1) && decide (Fits 4 p2) && decide (Fits 2 p11) && decide (Fits 2 p12)) && fitAll D
theorem ino_bad {p0 p1 p2 p11 p12 : Int} {D : List Int} (h0 : 0 ≤ p0 ∧ p0 ≤ 2) (h : inoFits p1 p2 D p11 p12 = false) : (wnums 2 (wnums 2 (wnum 4 (wnum 2 (wnums 1 ([], 0) [p0, 0]) p1) p2) D) [p11, p12]).2 = 3 := by
  have b : ∀ s : List Int × Int, s.2 = 3 → ∀ n v, (wnum n s v).2 = 3 := fun s hs n v => wnums_bad (n := n) [v] (.inl hs)
  have b2 : ∀ s : List Int × Int, s.2 = 0 ∨ s.2 = 3 → ∀ n v, ¬ Fits n v → (wnum n s v).2 = 3 := fun s hs n v hv => by
    rcases hs with hs | hs
    · exact wnums_bad (n := n) [v] (.inr ⟨hs, v, by simp, hv⟩)
    · exact b s hs n v
  have e0 := wnums_err 1 [p0, 0] (s := ([], 0)) (.inl rfl)
  have e1 := wnum_err 2 p1 e0
  have e2 := wnum_err 4 p2 e1
  have e3 := wnums_err 2 D e2
  have c : ∀ s : List Int × Int, s.2 = 0 ∨ s.2 = 3 → ∀ n (l : List Int), (s.2 = 3 ∨ ∃ v ∈ l, ¬ Fits n v) → (wnums n s l).2 = 3 := fun s hs n l hl => by
    rcases hl with hl | hl
    · exact wnums_bad (n := n) l (.inl hl)
    · rcases hs with hs | hs
      · exact wnums_bad (n := n) l (.inr ⟨hs, hl⟩)
      · exact wnums_bad (n := n) l (.inl hs)
  unfold inoFits fitAll at h
  by_cases h1 : Fits 2 p1
  · by_cases h2 : Fits 4 p2
    · by_cases h3 : ∀ v ∈ D, Fits 2 v
      · refine c _ e3 2 _ (.inr ?_)
        by_cases h4 : Fits 2 p11
        · refine ⟨p12, by simp, fun h5 => ?_⟩
          have hall : (D.all fun x => decide (Fits 2 x)) = true := List.all_eq_true.2 fun x hx => decide_eq_true (h3 x hx)
          rw [decide_eq_true h1, decide_eq_true h2, decide_eq_true h4, decide_eq_true h5, hall] at h
          cases h
        · exact ⟨p11, by simp, h4⟩
      · simp only [Classical.not_forall] at h3
        obtain ⟨v, hv, hn⟩ := h3
        exact c _ e3 2 _ (.inl (c _ e2 2 _ (.inr ⟨v, hv, hn⟩)))
    · exact c _ e3 2 _ (.inl (c _ e2 2 _ (.inl (b2 _ e1 4 p2 h2))))
  · exact c _ e3 2 _ (.inl (c _ e2 2 _ (.inl (b _ (b2 _ e0 2 p1 h1) 4 p2))))
theorem ino_good {p0 p1 p2 p11 p12 : Int} {D : List Int} (h0 : 0 ≤ p0 ∧ p0 ≤ 2) (h : inoFits p1 p2 D p11 p12 = true) : wnums 2 (wnums 2 (wnum 4 (wnum 2 (wnums 1 ([], 0) [p0, 0]) p1) p2) D) [p11, p12] = (inoHead p0 p1 p2 ++ two D ++ leB 2 p11 ++ leB 2 p12, 0) := by
  unfold inoFits fitAll at h
  simp only [Bool.and_eq_true, decide_eq_true_eq, List.all_eq_true] at h
  obtain ⟨⟨⟨⟨h1, h2⟩, h4⟩, h5⟩, h3⟩ := h
  rw [wnums_ok (n := 1) [p0, 0] (bs := []) (by intro v hv; simp at hv; rcases hv with rfl | rfl <;> (unfold Fits; omega))]
  rw [show ∀ s : List Int × Int, wnum 2 s p1 = wnums 2 s [p1] from fun _ => rfl, wnums_ok (n := 2) [p1] (by intro v hv; simp at hv; subst hv; exact h1)]
  rw [show ∀ s : List Int × Int, wnum 4 s p2 = wnums 4 s [p2] from fun _ => rfl, wnums_ok (n := 4) [p2] (by intro v hv; simp at hv; subst hv; exact h2)]
  rw [wnums_ok (n := 2) D h3, wnums_ok (n := 2) [p11, p12] (by intro v hv; simp at hv; rcases hv with rfl | rfl <;> assumption)]
  unfold inoHead two
  simp [List.append_assoc]
theorem inoOut_bad {p0 p1 p2 d0 d1 d2 d3 d4 d5 d6 d7 p11 p12 : Int} (ho : ¬ inoOdd p0 p1 p2 d0 d1 d2 d3 d4 d5 d6 d7 p11 p12) (h : inoFits p1 p2 [d0, d1, d2, d3, d4, d5, d6, d7] p11 p12 = false) : inoOut p0 p1 p2 d0 d1 d2 d3 d4 d5 d6 d7 p11 p12 = ([], 3) := by
  have h0 : 0 ≤ p0 ∧ p0 ≤ 2 := ⟨Int.not_lt.1 fun q => ho (.inl q), Int.not_lt.1 fun q => ho (.inr (.inl q))⟩
  unfold inoOut
  rw [if_neg ho, if_neg (by unfold inoNums; rw [ino_bad h0 h]; decide)]
theorem inoOut_good {p0 p1 p2 d0 d1 d2 d3 d4 d5 d6 d7 p11 p12 : Int} (ho : ¬ inoOdd p0 p1 p2 d0 d1 d2 d3 d4 d5 d6 d7 p11 p12) (h : inoFits p1 p2 [d0, d1, d2, d3, d4, d5, d6, d7] p11 p12 = true) : inoOut p0 p1 p2 d0 d1 d2 d3 d4 d5 d6 d7 p11 p12 = (inoBytes p0 p1 p2 [d0, d1, d2, d3, d4, d5, d6, d7] p11 p12, 0) := by
  have h0 : 0 ≤ p0 ∧ p0 ≤ 2 := ⟨Int.not_lt.1 fun q => ho (.inl q), Int.not_lt.1 fun q => ho (.inr (.inl q))⟩
  have hg := ino_good h0 h
  have hn : inoNums p0 p1 p2 d0 d1 d2 d3 d4 d5 d6 d7 p11 p12 = (inoHead p0 p1 p2 ++ two [d0, d1, d2, d3, d4, d5, d6, d7] ++ leB 2 p11 ++ leB 2 p12, 0) := hg
  have hl : (inoHead p0 p1 p2 ++ two [d0, d1, d2, d3, d4, d5, d6, d7] ++ leB 2 p11 ++ leB 2 p12).length = 28 := by
    unfold inoHead
    simp only [List.length_append, two_length, leB_length, List.length_cons, List.length_nil]
  unfold inoOut
  rw [if_neg ho, hn, if_pos rfl]
  simp only [hl]
  unfold inoBytes
  rfl

theorem seg_mid {l p q r : List Int} {a n : Int} (e : l = p ++ q ++ r) (ha : a = (p.length : Int)) (hn : n = (q.length : Int)) : field_part.seg l a n = q := by
  subst e
  unfold field_part.seg
  rw [show (a + n).toNat = (p ++ q).length by rw [List.length_append]; omega, show a.toNat = p.length by omega, List.take_left, List.drop_left]
theorem seg_take {l : List Int} {n : Int} : field_part.seg l 0 n = l.take n.toNat := by
  unfold field_part.seg
  rw [Int.zero_add]
  rfl
theorem seg_at {p q : List Int} {a n : Int} (ha : a = (p.length : Int)) (h0 : 0 ≤ n) : field_part.seg (p ++ q) a n = q.take n.toNat := by
  unfold field_part.seg
  rw [show (a + n).toNat = p.length + n.toNat by omega, show a.toNat = p.length by omega, List.take_length_add_append, List.drop_left]
/-- Two bytes of a length, as many bytes, four bytes: what is read of them. -/
theorem unf_two {F S r : List Int} {m : Nat} (hm : m ≤ 65535) (hF : F.length = m + 2) (hS : S.length = 4) (h2 : F.take 2 = leB 2 (m : Int)) :
    unf (F ++ S ++ r) 0 = if le S = crc 0 F then (F.drop 2, (m : Int) + 6, 0) else ([], 0, 20) := by
  have e0 : (0 : Int).toNat = 0 := rfl
  have e1 : field_part.seg (F ++ S ++ r) 0 2 = leB 2 (m : Int) := by
    rw [seg_take, show (2 : Int).toNat = 2 from rfl, List.append_assoc, List.take_append_of_le_length (by omega), h2]
  have e2 : le (leB 2 (m : Int)) = (m : Int) := by
    rw [(le_leB (m : Int)).2.1]
    omega
  have e3 : field_part.seg (F ++ S ++ r) ((m : Int) + 2) 4 = S := by
    rw [List.append_assoc, seg_at (by omega) (by omega), show (4 : Int).toNat = 4 from rfl, List.take_append_of_le_length (by omega), List.take_of_length_le (by omega)]
  have e4 : (F ++ S ++ r).take ((m : Int) + 2).toNat = F := by
    rw [List.append_assoc, List.take_append_of_le_length (by omega), List.take_of_length_le (by omega)]
  unfold unf
  rw [if_neg (by omega), e0, List.drop_zero, e1, e2, if_neg (by rw [List.length_append, List.length_append]; omega), e3, e4, show (0 : Int) + (m : Int) + 6 = (m : Int) + 6 by omega]
theorem frm_eq (l : List Int) : frm l = (leB 2 (l.length : Int) ++ l) ++ leB 4 (crc 0 (leB 2 (l.length : Int) ++ l)) := rfl
theorem take_two (l : List Int) : (leB 2 (l.length : Int) ++ l).take 2 = leB 2 (l.length : Int) := by
  rw [List.take_append_of_le_length (by rw [leB_length]; omega), List.take_of_length_le (by rw [leB_length]; omega)]
theorem le_sum {l : List Int} (hl : Bytes l) : le (leB 4 (crc 0 l)) = crc 0 l := by
  have hr := crc_range (s := 0) (by omega) (by omega) hl
  rw [(le_leB _).2.2]
  omega
theorem unf_front {l : List Int} (hl : Bytes l) (h : l.length ≤ 65535) (r : List Int) : unf (frm l ++ r) 0 = (l, (l.length : Int) + 6, 0) := by
  rw [frm_eq, unf_two (m := l.length) h (by rw [List.length_append, leB_length]; omega) (leB_length _ _) (take_two l), if_pos (le_sum ((leB_bytes _ _).append hl))]
  rw [List.drop_append_of_le_length (by rw [leB_length]; omega), List.drop_of_length_le (by rw [leB_length]; omega), List.nil_append]
theorem fit1 {x : Int} (h : Fits 1 x) : le (leB 1 x) = x := by
  have h2 : 0 ≤ x ∧ x < 256 := h
  rw [(le_leB x).1]; omega
theorem fit2 {x : Int} (h : Fits 2 x) : le (leB 2 x) = x := by
  have h2 : 0 ≤ x ∧ x < 65536 := h
  rw [(le_leB x).2.1]; omega
theorem fit4 {x : Int} (h : Fits 4 x) : le (leB 4 x) = x := by
  have h2 : 0 ≤ x ∧ x < 4294967296 := h
  rw [(le_leB x).2.2]; omega
theorem byte_inj {x y : Int} (hx : 0 ≤ x ∧ x < 256) (hy : 0 ≤ y ∧ y < 256) (h : UInt8.ofNat x.toNat = UInt8.ofNat y.toNat) : x = y := by
  have h2 := congrArg UInt8.toNat h
  simp at h2
  omega
theorem str_inj : ∀ {a b : List Int}, Bytes a → Bytes b → (strOfNums a).toList = (strOfNums b).toList → a = b := by
  intro a b ha hb h
  rw [ByteArray.toList_eq, ByteArray.toList_eq, strOfNums_data, strOfNums_data] at h
  induction a generalizing b with
  | nil => cases b with
    | nil => rfl
    | cons y b => simp at h
  | cons x a ih => cases b with
    | nil => simp at h
    | cons y b =>
      rw [List.map_cons, List.map_cons, List.cons.injEq] at h
      rw [byte_inj (ha x (by simp)) (hb y (by simp)) h.1, ih (fun z hz => ha z (by simp [hz])) (fun z hz => hb z (by simp [hz])) h.2]
theorem str_back (t : ByteArray) : strOfNums (bytesOf t) = t := by
  have h : (strOfNums (bytesOf t)).data.toList = t.data.toList := by
    rw [strOfNums_data]
    unfold bytesOf
    rw [List.map_map]
    have : ((fun n : Int => UInt8.ofNat n.toNat) ∘ fun b : UInt8 => (b.toNat : Int)) = id := by funext b; simp
    rw [this, List.map_id]
  have h2 : (strOfNums (bytesOf t)).data = t.data := Array.toList_inj.1 h
  cases t
  cases hh : strOfNums (bytesOf _)
  simp_all

theorem ino_back {p0 p1 p2 p3 p4 p5 p6 p7 p8 p9 p10 p11 p12 : Int} {l : List Int} (h : inoOut p0 p1 p2 p3 p4 p5 p6 p7 p8 p9 p10 p11 p12 = (l, 0)) : l.length = 32 ∧ uniVals l = [p0, p1, p2, p3, p4, p5, p6, p7, p8, p9, p10, p11, p12] ∧ uniErr l = 0 := by
  have ho : ¬ inoOdd p0 p1 p2 p3 p4 p5 p6 p7 p8 p9 p10 p11 p12 := fun ho => by
    unfold inoOut at h
    rw [if_pos ho] at h
    simp at h
  have h0 : 0 ≤ p0 ∧ p0 ≤ 2 := ⟨Int.not_lt.1 fun q => ho (.inl q), Int.not_lt.1 fun q => ho (.inr (.inl q))⟩
  have hf : inoFits p1 p2 [p3, p4, p5, p6, p7, p8, p9, p10] p11 p12 = true := by
    cases hf : inoFits p1 p2 [p3, p4, p5, p6, p7, p8, p9, p10] p11 p12 with
    | true => rfl
    | false => rw [inoOut_bad ho hf] at h; simp at h
  have hg := inoOut_good ho hf
  rw [h] at hg
  have hl : l = (leB 1 p0 ++ leB 1 0 ++ leB 2 p1 ++ leB 4 p2 ++ leB 2 p3 ++ leB 2 p4 ++ leB 2 p5 ++ leB 2 p6 ++ leB 2 p7 ++ leB 2 p8 ++ leB 2 p9 ++ leB 2 p10 ++ leB 2 p11 ++ leB 2 p12 ++ leB 4 0) := by
    rw [(Prod.mk.inj hg).1]
    unfold inoBytes inoHead two
    simp only [List.map_cons, List.map_nil, List.flatten_cons, List.flatten_nil, List.append_nil, List.append_assoc]
  have f0 : Fits 1 p0 := ⟨h0.1, by have := h0.2; omega⟩
  simp only [inoFits, fitAll, List.all_cons, List.all_nil, Bool.and_true, Bool.and_eq_true, decide_eq_true_eq] at hf
  obtain ⟨⟨⟨⟨f1, f2⟩, f11⟩, f12⟩, f3, f4, f5, f6, f7, f8, f9, f10⟩ := hf
  have hlen : l.length = 32 := by rw [hl]; simp [leB_length]
  have n0 : nmI l 0 1 = p0 := by
    unfold nmI
    rw [seg_mid (p := []) (q := leB 1 p0) (r := (leB 1 0 ++ leB 2 p1 ++ leB 4 p2 ++ leB 2 p3 ++ leB 2 p4 ++ leB 2 p5 ++ leB 2 p6 ++ leB 2 p7 ++ leB 2 p8 ++ leB 2 p9 ++ leB 2 p10 ++ leB 2 p11 ++ leB 2 p12 ++ leB 4 0)) (by rw [hl] <;> simp only [List.append_assoc, List.nil_append]) (by simp [leB_length]) (by simp [leB_length])]
    exact fit1 f0
  have n1 : nmI l 2 2 = p1 := by
    unfold nmI
    rw [seg_mid (p := (leB 1 p0 ++ leB 1 0)) (q := leB 2 p1) (r := (leB 4 p2 ++ leB 2 p3 ++ leB 2 p4 ++ leB 2 p5 ++ leB 2 p6 ++ leB 2 p7 ++ leB 2 p8 ++ leB 2 p9 ++ leB 2 p10 ++ leB 2 p11 ++ leB 2 p12 ++ leB 4 0)) (by rw [hl] <;> simp only [List.append_assoc, List.nil_append]) (by simp [leB_length]) (by simp [leB_length])]
    exact fit2 f1
  have n2 : nmI l 4 4 = p2 := by
    unfold nmI
    rw [seg_mid (p := (leB 1 p0 ++ leB 1 0 ++ leB 2 p1)) (q := leB 4 p2) (r := (leB 2 p3 ++ leB 2 p4 ++ leB 2 p5 ++ leB 2 p6 ++ leB 2 p7 ++ leB 2 p8 ++ leB 2 p9 ++ leB 2 p10 ++ leB 2 p11 ++ leB 2 p12 ++ leB 4 0)) (by rw [hl] <;> simp only [List.append_assoc, List.nil_append]) (by simp [leB_length]) (by simp [leB_length])]
    exact fit4 f2
  have n3 : nmI l 8 2 = p3 := by
    unfold nmI
    rw [seg_mid (p := (leB 1 p0 ++ leB 1 0 ++ leB 2 p1 ++ leB 4 p2)) (q := leB 2 p3) (r := (leB 2 p4 ++ leB 2 p5 ++ leB 2 p6 ++ leB 2 p7 ++ leB 2 p8 ++ leB 2 p9 ++ leB 2 p10 ++ leB 2 p11 ++ leB 2 p12 ++ leB 4 0)) (by rw [hl] <;> simp only [List.append_assoc, List.nil_append]) (by simp [leB_length]) (by simp [leB_length])]
    exact fit2 f3
  have n4 : nmI l 10 2 = p4 := by
    unfold nmI
    rw [seg_mid (p := (leB 1 p0 ++ leB 1 0 ++ leB 2 p1 ++ leB 4 p2 ++ leB 2 p3)) (q := leB 2 p4) (r := (leB 2 p5 ++ leB 2 p6 ++ leB 2 p7 ++ leB 2 p8 ++ leB 2 p9 ++ leB 2 p10 ++ leB 2 p11 ++ leB 2 p12 ++ leB 4 0)) (by rw [hl] <;> simp only [List.append_assoc, List.nil_append]) (by simp [leB_length]) (by simp [leB_length])]
    exact fit2 f4
  have n5 : nmI l 12 2 = p5 := by
    unfold nmI
    rw [seg_mid (p := (leB 1 p0 ++ leB 1 0 ++ leB 2 p1 ++ leB 4 p2 ++ leB 2 p3 ++ leB 2 p4)) (q := leB 2 p5) (r := (leB 2 p6 ++ leB 2 p7 ++ leB 2 p8 ++ leB 2 p9 ++ leB 2 p10 ++ leB 2 p11 ++ leB 2 p12 ++ leB 4 0)) (by rw [hl] <;> simp only [List.append_assoc, List.nil_append]) (by simp [leB_length]) (by simp [leB_length])]
    exact fit2 f5
  have n6 : nmI l 14 2 = p6 := by
    unfold nmI
    rw [seg_mid (p := (leB 1 p0 ++ leB 1 0 ++ leB 2 p1 ++ leB 4 p2 ++ leB 2 p3 ++ leB 2 p4 ++ leB 2 p5)) (q := leB 2 p6) (r := (leB 2 p7 ++ leB 2 p8 ++ leB 2 p9 ++ leB 2 p10 ++ leB 2 p11 ++ leB 2 p12 ++ leB 4 0)) (by rw [hl] <;> simp only [List.append_assoc, List.nil_append]) (by simp [leB_length]) (by simp [leB_length])]
    exact fit2 f6
  have n7 : nmI l 16 2 = p7 := by
    unfold nmI
    rw [seg_mid (p := (leB 1 p0 ++ leB 1 0 ++ leB 2 p1 ++ leB 4 p2 ++ leB 2 p3 ++ leB 2 p4 ++ leB 2 p5 ++ leB 2 p6)) (q := leB 2 p7) (r := (leB 2 p8 ++ leB 2 p9 ++ leB 2 p10 ++ leB 2 p11 ++ leB 2 p12 ++ leB 4 0)) (by rw [hl] <;> simp only [List.append_assoc, List.nil_append]) (by simp [leB_length]) (by simp [leB_length])]
    exact fit2 f7
  have n8 : nmI l 18 2 = p8 := by
    unfold nmI
    rw [seg_mid (p := (leB 1 p0 ++ leB 1 0 ++ leB 2 p1 ++ leB 4 p2 ++ leB 2 p3 ++ leB 2 p4 ++ leB 2 p5 ++ leB 2 p6 ++ leB 2 p7)) (q := leB 2 p8) (r := (leB 2 p9 ++ leB 2 p10 ++ leB 2 p11 ++ leB 2 p12 ++ leB 4 0)) (by rw [hl] <;> simp only [List.append_assoc, List.nil_append]) (by simp [leB_length]) (by simp [leB_length])]
    exact fit2 f8
  have n9 : nmI l 20 2 = p9 := by
    unfold nmI
    rw [seg_mid (p := (leB 1 p0 ++ leB 1 0 ++ leB 2 p1 ++ leB 4 p2 ++ leB 2 p3 ++ leB 2 p4 ++ leB 2 p5 ++ leB 2 p6 ++ leB 2 p7 ++ leB 2 p8)) (q := leB 2 p9) (r := (leB 2 p10 ++ leB 2 p11 ++ leB 2 p12 ++ leB 4 0)) (by rw [hl] <;> simp only [List.append_assoc, List.nil_append]) (by simp [leB_length]) (by simp [leB_length])]
    exact fit2 f9
  have n10 : nmI l 22 2 = p10 := by
    unfold nmI
    rw [seg_mid (p := (leB 1 p0 ++ leB 1 0 ++ leB 2 p1 ++ leB 4 p2 ++ leB 2 p3 ++ leB 2 p4 ++ leB 2 p5 ++ leB 2 p6 ++ leB 2 p7 ++ leB 2 p8 ++ leB 2 p9)) (q := leB 2 p10) (r := (leB 2 p11 ++ leB 2 p12 ++ leB 4 0)) (by rw [hl] <;> simp only [List.append_assoc, List.nil_append]) (by simp [leB_length]) (by simp [leB_length])]
    exact fit2 f10
  have n11 : nmI l 24 2 = p11 := by
    unfold nmI
    rw [seg_mid (p := (leB 1 p0 ++ leB 1 0 ++ leB 2 p1 ++ leB 4 p2 ++ leB 2 p3 ++ leB 2 p4 ++ leB 2 p5 ++ leB 2 p6 ++ leB 2 p7 ++ leB 2 p8 ++ leB 2 p9 ++ leB 2 p10)) (q := leB 2 p11) (r := (leB 2 p12 ++ leB 4 0)) (by rw [hl] <;> simp only [List.append_assoc, List.nil_append]) (by simp [leB_length]) (by simp [leB_length])]
    exact fit2 f11
  have n12 : nmI l 26 2 = p12 := by
    unfold nmI
    rw [seg_mid (p := (leB 1 p0 ++ leB 1 0 ++ leB 2 p1 ++ leB 4 p2 ++ leB 2 p3 ++ leB 2 p4 ++ leB 2 p5 ++ leB 2 p6 ++ leB 2 p7 ++ leB 2 p8 ++ leB 2 p9 ++ leB 2 p10 ++ leB 2 p11)) (q := leB 2 p12) (r := (leB 4 0)) (by rw [hl] <;> simp only [List.append_assoc, List.nil_append]) (by simp [leB_length]) (by simp [leB_length])]
    exact fit2 f12
  have ok : uniOk l := by
    unfold uniOk
    rw [n0, n1, n2, n3, n4, n5, n6, n7, n8, n9, n10, n11, n12, h]
    exact ⟨rfl, rfl⟩
  refine ⟨hlen, ?_, ?_⟩
  · unfold uniVals
    rw [if_pos ⟨hlen, ok⟩, n0, n1, n2, n3, n4, n5, n6, n7, n8, n9, n10, n11, n12]
  · unfold uniErr
    rw [if_pos ⟨hlen, ok⟩]
theorem inoBytes_bytes (p0 p1 p2 : Int) (D : List Int) (p11 p12 : Int) : Bytes (inoBytes p0 p1 p2 D p11 p12) := by
  unfold inoBytes inoHead
  exact ((((((((leB_bytes _ _).append (leB_bytes _ _)).append (leB_bytes _ _)).append (leB_bytes _ _))).append (two_bytes _)).append (leB_bytes _ _)).append (leB_bytes _ _)).append (leB_bytes _ _)
theorem inoOut_bytes {p0 p1 p2 p3 p4 p5 p6 p7 p8 p9 p10 p11 p12 : Int} (h : (inoOut p0 p1 p2 p3 p4 p5 p6 p7 p8 p9 p10 p11 p12).2 = 0) : Bytes (inoOut p0 p1 p2 p3 p4 p5 p6 p7 p8 p9 p10 p11 p12).1 := by
  have ho : ¬ inoOdd p0 p1 p2 p3 p4 p5 p6 p7 p8 p9 p10 p11 p12 := fun ho => by
    unfold inoOut at h
    rw [if_pos ho] at h
    simp at h
  cases hf : inoFits p1 p2 [p3, p4, p5, p6, p7, p8, p9, p10] p11 p12 with
  | true => rw [inoOut_good ho hf]; exact inoBytes_bytes _ _ _ _ _ _
  | false => rw [inoOut_bad ho hf] at h; simp at h
theorem uni_back {l : List Int} (hb : Bytes l) (h : uniErr l = 0) : ∃ m0 m1 m2 m3 m4 m5 m6 m7 m8 m9 m10 m11 m12 : Int, uniVals l = [m0, m1, m2, m3, m4, m5, m6, m7, m8, m9, m10, m11, m12] ∧ inoOut m0 m1 m2 m3 m4 m5 m6 m7 m8 m9 m10 m11 m12 = (l, 0) := by
  have hok : l.length = 32 ∧ uniOk l := by
    unfold uniErr at h
    split at h
    · assumption
    · simp at h
  refine ⟨_, _, _, _, _, _, _, _, _, _, _, _, _, by unfold uniVals; rw [if_pos hok], ?_⟩
  have ok := hok.2
  unfold uniOk at ok
  obtain ⟨o1, o2⟩ := ok
  exact Prod.ext (str_inj (inoOut_bytes o1) hb o2) o1
theorem uni_back2 {l : List Int} (hb : Bytes l) {m0 m1 m2 m3 m4 m5 m6 m7 m8 m9 m10 m11 m12 : Int} (hm : uniVals l = [m0, m1, m2, m3, m4, m5, m6, m7, m8, m9, m10, m11, m12]) (h : uniErr l = 0) : inoOut m0 m1 m2 m3 m4 m5 m6 m7 m8 m9 m10 m11 m12 = (l, 0) := by
  obtain ⟨_, _, _, _, _, _, _, _, _, _, _, _, _, h1, h2⟩ := uni_back hb h
  rw [hm] at h1
  simp only [List.cons.injEq, and_true] at h1
  obtain ⟨rfl, rfl, rfl, rfl, rfl, rfl, rfl, rfl, rfl, rfl, rfl, rfl, rfl⟩ := h1
  exact h2
theorem dirAll_bytes (x : Int) (s : ByteArray) : Bytes (dirAll x s).1 := by
  unfold dirAll dirOut
  split
  · exact Bytes.nil
  · split
    · exact Bytes.nil
    · split
      · refine ((leB_bytes _ _).append (bytesOf_bytes s)).append ?_
        intro y hy
        rw [(List.mem_replicate.1 hy).2]
        omega
      · exact Bytes.nil
theorem und_back {l : List Int} (hb : Bytes l) (h : (undOut l).2.2 = 0) : dirAll (undOut l).1 (undOut l).2.1 = (l, 0) := by
  unfold undOut at h ⊢
  by_cases c : l.length = 16 ∧ undOk l
  · rw [if_pos c]
    obtain ⟨_, o1, o2⟩ := c.2
    exact Prod.ext (str_inj (dirAll_bytes _ _) hb o2) o1
  · rw [if_neg c] at h
    simp at h
theorem fits_of {n : Nat} {l : List Int} {s : List Int × Int} (hs : s.2 = 0) (h : (wnums n s l).2 = 0) : ∀ v ∈ l, Fits n v := by
  intro v hv
  by_cases c : Fits n v
  · exact c
  · have := wnums_bad (n := n) l (s := s) (.inr ⟨hs, v, hv, c⟩)
    omega
theorem rec_back {b q s0 s1 s2 s3 a n : Int} {t : ByteArray} {l : List Int} (h : recOut b q s0 s1 s2 s3 a n (bytesOf t) = (l, 0)) : recRes (unf l 0) = .tuple #[.agg #[.int .i64 b, .int .i64 q, .int .i64 s0, .int .i64 s1, .int .i64 s2, .int .i64 s3, .int .i64 a, .int .i64 n, .string t], .int .i64 l.length, .int .i64 0] ∧ Bytes l ∧ l.length ≤ 65541 := by
  unfold recOut at h
  by_cases c : (recNums b q s0 s1 s2 s3 a n).2 = 0
  · rw [if_pos c] at h
    have c1 : (wnums 4 ([], 0) [b, q, a, n]).2 = 0 := by
      rcases wnums_err 4 [b, q, a, n] (s := ([], 0)) (.inl rfl) with e | e
      · exact e
      · have := wnums_bad (n := 2) [s0, s1, s2, s3] (s := wnums 4 ([], 0) [b, q, a, n]) (.inl e)
        unfold recNums at c
        omega
    have F4 := fits_of (s := ([], 0)) rfl c1
    have F2 : ∀ v ∈ [s0, s1, s2, s3], Fits 2 v := fits_of c1 c
    have hP0 : (recNums b q s0 s1 s2 s3 a n).1 = (leB 4 b ++ leB 4 q ++ leB 4 a ++ leB 4 n ++ leB 2 s0 ++ leB 2 s1 ++ leB 2 s2 ++ leB 2 s3) := by
      unfold recNums
      rw [wnums_ok _ F4, wnums_ok _ F2]
      simp only [List.map_cons, List.map_nil, List.flatten_cons, List.flatten_nil, List.append_nil, List.nil_append, List.append_assoc]
    obtain ⟨P, hP⟩ : ∃ P, (recNums b q s0 s1 s2 s3 a n).1 ++ bytesOf t = P := ⟨_, rfl⟩
    have hPb : Bytes P := by rw [← hP]; exact (recNums_bytes b q s0 s1 s2 s3 a n).append (bytesOf_bytes t)
    rw [hP] at h
    rw [hP0] at hP
    by_cases c2 : P.length ≤ 65535
    · rw [if_pos c2] at h
      have hl : l = frm P := (Prod.mk.inj h).1.symm
      have hu : unf l 0 = (P, (P.length : Int) + 6, 0) := by
        have := unf_front hPb c2 []
        rw [List.append_nil] at this
        rw [hl, this]
      have hlen : (l.length : Int) = (P.length : Int) + 6 := by rw [hl, frm_length]; omega
      have h24 : ¬ P.length < 24 := by rw [← hP]; simp only [List.length_append, leB_length]; omega
      have f0 := F4 b (by simp)
      have f1 := F4 q (by simp)
      have f2 := F4 a (by simp)
      have f3 := F4 n (by simp)
      have f4 := F2 s0 (by simp)
      have f5 := F2 s1 (by simp)
      have f6 := F2 s2 (by simp)
      have f7 := F2 s3 (by simp)
      have e0 : le (field_part.seg P 0 4) = b := by
        rw [seg_mid (p := []) (q := leB 4 b) (r := (leB 4 q ++ leB 4 a ++ leB 4 n ++ leB 2 s0 ++ leB 2 s1 ++ leB 2 s2 ++ leB 2 s3 ++ bytesOf t)) (by rw [← hP] <;> simp only [List.append_assoc, List.nil_append]) (by simp [leB_length]) (by simp [leB_length])]
        exact fit4 f0
      have e1 : le (field_part.seg P 4 4) = q := by
        rw [seg_mid (p := (leB 4 b)) (q := leB 4 q) (r := (leB 4 a ++ leB 4 n ++ leB 2 s0 ++ leB 2 s1 ++ leB 2 s2 ++ leB 2 s3 ++ bytesOf t)) (by rw [← hP] <;> simp only [List.append_assoc, List.nil_append]) (by simp [leB_length]) (by simp [leB_length])]
        exact fit4 f1
      have e2 : le (field_part.seg P 8 4) = a := by
        rw [seg_mid (p := (leB 4 b ++ leB 4 q)) (q := leB 4 a) (r := (leB 4 n ++ leB 2 s0 ++ leB 2 s1 ++ leB 2 s2 ++ leB 2 s3 ++ bytesOf t)) (by rw [← hP] <;> simp only [List.append_assoc, List.nil_append]) (by simp [leB_length]) (by simp [leB_length])]
        exact fit4 f2
      have e3 : le (field_part.seg P 12 4) = n := by
        rw [seg_mid (p := (leB 4 b ++ leB 4 q ++ leB 4 a)) (q := leB 4 n) (r := (leB 2 s0 ++ leB 2 s1 ++ leB 2 s2 ++ leB 2 s3 ++ bytesOf t)) (by rw [← hP] <;> simp only [List.append_assoc, List.nil_append]) (by simp [leB_length]) (by simp [leB_length])]
        exact fit4 f3
      have e4 : le (field_part.seg P 16 2) = s0 := by
        rw [seg_mid (p := (leB 4 b ++ leB 4 q ++ leB 4 a ++ leB 4 n)) (q := leB 2 s0) (r := (leB 2 s1 ++ leB 2 s2 ++ leB 2 s3 ++ bytesOf t)) (by rw [← hP] <;> simp only [List.append_assoc, List.nil_append]) (by simp [leB_length]) (by simp [leB_length])]
        exact fit2 f4
      have e5 : le (field_part.seg P 18 2) = s1 := by
        rw [seg_mid (p := (leB 4 b ++ leB 4 q ++ leB 4 a ++ leB 4 n ++ leB 2 s0)) (q := leB 2 s1) (r := (leB 2 s2 ++ leB 2 s3 ++ bytesOf t)) (by rw [← hP] <;> simp only [List.append_assoc, List.nil_append]) (by simp [leB_length]) (by simp [leB_length])]
        exact fit2 f5
      have e6 : le (field_part.seg P 20 2) = s2 := by
        rw [seg_mid (p := (leB 4 b ++ leB 4 q ++ leB 4 a ++ leB 4 n ++ leB 2 s0 ++ leB 2 s1)) (q := leB 2 s2) (r := (leB 2 s3 ++ bytesOf t)) (by rw [← hP] <;> simp only [List.append_assoc, List.nil_append]) (by simp [leB_length]) (by simp [leB_length])]
        exact fit2 f6
      have e7 : le (field_part.seg P 22 2) = s3 := by
        rw [seg_mid (p := (leB 4 b ++ leB 4 q ++ leB 4 a ++ leB 4 n ++ leB 2 s0 ++ leB 2 s1 ++ leB 2 s2)) (q := leB 2 s3) (r := (bytesOf t)) (by rw [← hP] <;> simp only [List.append_assoc, List.nil_append]) (by simp [leB_length]) (by simp [leB_length])]
        exact fit2 f7
      have e8 : strOfNums (P.drop 24) = t := by
        have : P.drop 24 = bytesOf t := by rw [← hP]; exact List.drop_left' (by simp [leB_length])
        rw [this, str_back]
      refine ⟨?_, by rw [hl]; exact frm_bytes hPb, by omega⟩
      unfold recRes
      rw [hu, if_pos rfl, if_neg h24]
      unfold recVals
      rw [e0, e1, e2, e3, e4, e5, e6, e7, e8, hlen]
    · rw [if_neg c2] at h
      simp at h
  · rw [if_neg c] at h
    simp at h
theorem mk_sound2 {a0 a1 a2 a3 a4 a5 a6 a7 a8 a9 a10 a11 : Int} (s : Sound a0 a1 a2 a3 a4 a5 a6 a7 a8 a9 a10 a11) : mk a0 a1 a2 a3 = (a0, a1, a2, a3, a4, a5, a6, a7, a8, a9, a10, a11, 0) := by
  obtain ⟨g, h1, h2, rfl, rfl, rfl, rfl, rfl, rfl, rfl, rfl⟩ := s
  unfold mk
  rw [if_pos g]
  unfold plan_Make.spec
  rw [if_neg (by omega), if_neg (by omega)]
theorem seal_bytes {h : List Int} (hb : Bytes h) (b : Int) : Bytes (sealB h b) := by
  unfold sealB
  refine (hb.append (leB_bytes _ _)).append ?_
  intro y hy
  rw [(List.mem_replicate.1 hy).2]
  omega
theorem super_back {a0 a1 a2 a3 a4 a5 a6 a7 a8 a9 a10 a11 : Int} {l : List Int} (h : superOut a0 a1 a2 a3 a4 a5 a6 a7 a8 a9 a10 a11 = (l, 0)) : (l.length : Int) = a0 ∧ unsuperOut l = (a0, a1, a2, a3, a4, a5, a6, a7, a8, a9, a10, a11, 0) ∧ Bytes l ∧ l.length ≤ 4096 := by
  unfold superOut at h
  rcases check_is a0 a1 a2 a3 a4 a5 a6 a7 a8 a9 a10 a11 with ⟨hc, hs⟩ | ⟨hc, _⟩
  · rw [if_pos hc] at h
    have hq : l = sealB (superH a0 a1 a2 a3) a0 := (Prod.mk.inj h).1.symm
    obtain ⟨g0, g1, g2, g3, _⟩ := hs.facts
    have hl : l = ([83, 75, 82, 89] ++ leB 2 a0 ++ leB 2 a1 ++ leB 2 a2 ++ leB 2 a3 ++ leB 4 (crc 0 (superH a0 a1 a2 a3)) ++ List.replicate (a0.toNat - 16) 0) := by rw [hq]; unfold sealB; rw [show superH a0 a1 a2 a3 = [83, 75, 82, 89] ++ leB 2 a0 ++ leB 2 a1 ++ leB 2 a2 ++ leB 2 a3 from rfl] <;> simp only [List.append_assoc]
    have hlen : (l.length : Int) = a0 := by rw [hq]; unfold sealB; rw [List.length_append, List.length_append, superH_length, leB_length, List.length_replicate]; omega
    have f1 : Fits 2 a0 := ⟨by omega, by omega⟩
    have f2 : Fits 2 a1 := ⟨by omega, by omega⟩
    have f3 : Fits 2 a2 := ⟨by omega, by omega⟩
    have f4 : Fits 2 a3 := ⟨by omega, by omega⟩
    have e1 : nm l 4 2 = a0 := by
      unfold nm
      rw [seg_mid (p := ([83, 75, 82, 89])) (q := leB 2 a0) (r := (leB 2 a1 ++ leB 2 a2 ++ leB 2 a3 ++ leB 4 (crc 0 (superH a0 a1 a2 a3)) ++ List.replicate (a0.toNat - 16) 0)) (by rw [hl] <;> simp only [List.append_assoc, List.nil_append]) (by simp [leB_length]) (by simp [leB_length])]
      exact fit2 f1
    have e2 : nm l 6 2 = a1 := by
      unfold nm
      rw [seg_mid (p := ([83, 75, 82, 89] ++ leB 2 a0)) (q := leB 2 a1) (r := (leB 2 a2 ++ leB 2 a3 ++ leB 4 (crc 0 (superH a0 a1 a2 a3)) ++ List.replicate (a0.toNat - 16) 0)) (by rw [hl] <;> simp only [List.append_assoc, List.nil_append]) (by simp [leB_length]) (by simp [leB_length])]
      exact fit2 f2
    have e3 : nm l 8 2 = a2 := by
      unfold nm
      rw [seg_mid (p := ([83, 75, 82, 89] ++ leB 2 a0 ++ leB 2 a1)) (q := leB 2 a2) (r := (leB 2 a3 ++ leB 4 (crc 0 (superH a0 a1 a2 a3)) ++ List.replicate (a0.toNat - 16) 0)) (by rw [hl] <;> simp only [List.append_assoc, List.nil_append]) (by simp [leB_length]) (by simp [leB_length])]
      exact fit2 f3
    have e4 : nm l 10 2 = a3 := by
      unfold nm
      rw [seg_mid (p := ([83, 75, 82, 89] ++ leB 2 a0 ++ leB 2 a1 ++ leB 2 a2)) (q := leB 2 a3) (r := (leB 4 (crc 0 (superH a0 a1 a2 a3)) ++ List.replicate (a0.toNat - 16) 0)) (by rw [hl] <;> simp only [List.append_assoc, List.nil_append]) (by simp [leB_length]) (by simp [leB_length])]
      exact fit2 f4
    have hm := mk_sound2 hs
    refine ⟨hlen, ?_, by rw [hq]; exact seal_bytes (superH_bytes _ _ _ _) _, by omega⟩
    unfold unsuperOut
    rw [e1, e2, e3, e4, hm, hlen, if_pos ((pw_iff a0).2 g0), if_pos (show err13 (a0, a1, a2, a3, a4, a5, a6, a7, a8, a9, a10, a11, 0) = 0 from rfl), hq, if_pos rfl]
  · rw [if_neg (by rw [hc]; decide)] at h
    simp at h
theorem head_back {s t u b : Int} {l : List Int} (h : headOut s t u b = (l, 0)) : (l.length : Int) = b ∧ unheadOut l = (s, t, u, 0) ∧ Bytes l ∧ l.length ≤ 4096 := by
  have h0 := h
  unfold headOut at h
  by_cases hp : pw b = true
  · rw [if_pos hp] at h
    by_cases hf : Fits 4 s ∧ Fits 2 t ∧ Fits 2 u
    · rw [if_pos hf] at h
      have hq : l = sealB (headH s t u) b := (Prod.mk.inj h).1.symm
      have g0 := (pw_iff b).1 hp
      have hl : l = ([83, 76, 79, 71] ++ leB 4 s ++ leB 2 t ++ leB 2 u ++ leB 4 (crc 0 (headH s t u)) ++ List.replicate (b.toNat - 16) 0) := by rw [hq]; unfold sealB; rw [show headH s t u = [83, 76, 79, 71] ++ leB 4 s ++ leB 2 t ++ leB 2 u from rfl] <;> simp only [List.append_assoc]
      have hlen : (l.length : Int) = b := by rw [hq]; unfold sealB; rw [List.length_append, List.length_append, headH_length, leB_length, List.length_replicate]; omega
      obtain ⟨f1, f2, f3⟩ := hf
      have e1 : nm l 4 4 = s := by
        unfold nm
        rw [seg_mid (p := ([83, 76, 79, 71])) (q := leB 4 s) (r := (leB 2 t ++ leB 2 u ++ leB 4 (crc 0 (headH s t u)) ++ List.replicate (b.toNat - 16) 0)) (by rw [hl] <;> simp only [List.append_assoc, List.nil_append]) (by simp [leB_length]) (by simp [leB_length])]
        exact fit4 f1
      have e2 : nm l 8 2 = t := by
        unfold nm
        rw [seg_mid (p := ([83, 76, 79, 71] ++ leB 4 s)) (q := leB 2 t) (r := (leB 2 u ++ leB 4 (crc 0 (headH s t u)) ++ List.replicate (b.toNat - 16) 0)) (by rw [hl] <;> simp only [List.append_assoc, List.nil_append]) (by simp [leB_length]) (by simp [leB_length])]
        exact fit2 f2
      have e3 : nm l 10 2 = u := by
        unfold nm
        rw [seg_mid (p := ([83, 76, 79, 71] ++ leB 4 s ++ leB 2 t)) (q := leB 2 u) (r := (leB 4 (crc 0 (headH s t u)) ++ List.replicate (b.toNat - 16) 0)) (by rw [hl] <;> simp only [List.append_assoc, List.nil_append]) (by simp [leB_length]) (by simp [leB_length])]
        exact fit2 f3
      refine ⟨hlen, ?_, by rw [hq]; exact seal_bytes (headH_bytes _ _ _) _, by omega⟩
      unfold unheadOut
      rw [e1, e2, e3, hlen, if_pos hp, h0, if_pos rfl]
    · rw [if_neg hf] at h
      simp at h
  · rw [if_neg hp] at h
    simp at h
end Go.Proofs.YtbplffdmggbcdaaDoor.Codec
