/- The reference splits and joins as the words say. -/
import Derived.Test.YtdihhdmndjjknaaDoorKWRname
import Derived.Test.YtdihhdmndjjknaaDoorKWParent
import Derived.Test.YtdihhdmndjjknaaDoorPWalkOrdersx4
import Derived.Test.YtdihhdmndjjknaaDoorPWalkOrdersx5
namespace Go.Proofs.YtdihhdmndjjknaaDoor.Walk
open Go.RowKit Go.Proofs.YtdihhdmndjjknaaDoor.PWalkOrders Go.Proofs.YtdihhdmndjjknaaDoor.Plain Go.Proofs.YtdihhdmndjjknaaDoor.Codec Go.Proofs.YtdihhdmndjjknaaDoorW.PrintWords Go.Proofs.YtdihhdmndjjknaaDoorW.PrintLast Go.Proofs.YtdihhdmndjjknaaDoorW.PrintMore
set_option linter.unusedVariables false
set_option linter.unusedSimpArgs false
theorem extract_list (s : ByteArray) (a b : Nat) : s.extract a b = bs ((s.data.toList.drop a).take (b - a)) := by
  have h : (s.extract a b).data.toList = (s.data.toList.drop a).take (b - a) := by
    rw [ByteArray.data_extract, Array.toList_extract]
  rw [← h, bs_of]
/-- What the loop answers. -/
def splitRes (P : List ByteArray) : List ByteArray × Int := if Sound P then (P, 0) else ([], 16)
theorem not_sound_len {P : List ByteArray} (h : 16 < P.length) : splitRes P = ([], 16) := by unfold splitRes; rw [if_neg fun q => by have := q.1; omega]
theorem not_sound_bad {P : List ByteArray} {p : ByteArray} (h : p ∈ P) (hn : ¬ NameOk p) : splitRes P = ([], 16) := by unfold splitRes; rw [if_neg fun q => hn (q.2 p h)]
theorem btAt (s : ByteArray) (i : Nat) (h : i < s.size) : bt s (i : Int) = ((s.data.toList[i]'(by rw [list_len]; exact h)).toNat : Int) := by
  unfold bt
  simp [h, ByteArray.getElem_eq_getElem_data]
theorem b47 (b : UInt8) : (((b.toNat : Int) == 47) = true) ↔ b = 47 := by
  rw [beq_iff_eq]
  constructor
  · intro h
    have : b.toNat = 47 := by omega
    exact UInt8.toNat_inj.1 (by rw [this]; rfl)
  · rintro rfl; rfl
theorem rsplit_j2 (s : ByteArray) (L : List ByteArray) (f i k : Nat) (hf : f ≤ i) (hi : i ≤ s.size) (hs : s.size ≤ 200) (hL : L.length ≤ 16) (hk : 20 ≤ k) (seg : List UInt8) (hseg : (s.data.toList.drop f).take (i - f) = seg) :
    skerryref16_Split.j2 (k + 1) s L (f : Int) (i : Int) true = if NameOk (bs seg) then (if L.length = 16 then some ([], 16) else skerryref16_Split.l0 k s (L ++ [bs seg]) ((i + 1 : Nat) : Int) ((i + 1 : Nat) : Int)) else some ([], 16) := by
  have e : s.extract f i = bs seg := by rw [extract_list, hseg]
  simp only [skerryref16_Split.j2]
  rw [if_pos trivial, if_pos (by omega), if_pos (by omega), if_pos (by omega)]
  rw [Int.toNat_natCast, Int.toNat_natCast, e, rname_is _ k hk, Option.bind_some, w64 (x := (i : Int) + 1) (by omega) (by omega), show ((i : Int) + 1) = ((i + 1 : Nat) : Int) by omega]
  unfold nameOut
  by_cases h : NameOk (bs seg)
  · rw [if_pos h, if_pos h, if_pos rfl]
    by_cases h2 : L.length = 16
    · rw [if_pos (by omega), if_pos h2]
    · rw [if_neg (by omega), if_neg h2, if_pos (by omega)]
  · rw [if_neg h, if_neg h, if_neg (by decide)]
theorem rsplit_no (s : ByteArray) (L : List ByteArray) (f i k : Nat) (hi : i ≤ s.size) (hs : s.size ≤ 200) : skerryref16_Split.j2 (k + 1) s L (f : Int) (i : Int) false = skerryref16_Split.l0 k s L (f : Int) ((i + 1 : Nat) : Int) := by
  simp only [skerryref16_Split.j2]
  rw [if_neg (by simp), w64 (x := (i : Int) + 1) (by omega) (by omega), show ((i : Int) + 1) = ((i + 1 : Nat) : Int) by omega]
theorem rsplit_loop (s : ByteArray) (hs : s.size ≤ 200) (P : List ByteArray) : ∀ (d k i f : Nat) (L : List ByteArray) (seg : List UInt8), i + d = s.size → f ≤ i → L.length ≤ 16 → (∀ p ∈ L, NameOk p) → (s.data.toList.drop f).take (i - f) = seg → P = L ++ (glue seg (pieces (s.data.toList.drop i))).map bs → 2 * d + 30 ≤ k → skerryref16_Split.l0 k s L (f : Int) (i : Int) = some (splitRes P) := by
  intro d
  induction d with
  | zero =>
    intro k i f L seg hd hf hL hok hseg hP hk
    obtain ⟨k, rfl⟩ : ∃ m, k = m + 3 := ⟨k - 3, by omega⟩
    have hi : i = s.size := by omega
    have hdr : s.data.toList.drop i = [] := List.drop_of_length_le (by rw [list_len]; omega)
    rw [hdr, glue_end] at hP
    simp only [skerryref16_Split.l0]
    rw [if_pos (by omega), if_pos (by omega), rsplit_j2 s L f i (k + 1) hf (by omega) hs hL (by omega) seg hseg]
    by_cases h : NameOk (bs seg)
    · rw [if_pos h]
      by_cases h2 : L.length = 16
      · rw [if_pos h2, not_sound_len (by rw [hP]; simp; omega)]
      · rw [if_neg h2]
        simp only [skerryref16_Split.l0]
        rw [if_neg (by omega)]
        unfold splitRes
        rw [if_pos]
        · rw [hP]; rfl
        · rw [hP]
          refine ⟨by simp; omega, fun p hp => ?_⟩
          rcases List.mem_append.1 hp with q | q
          · exact hok p q
          · rw [List.mem_singleton.1 q]; exact h
    · rw [if_neg h, not_sound_bad (p := bs seg) (by rw [hP]; simp) h]
  | succ d ih =>
    intro k i f L seg hd hf hL hok hseg hP hk
    obtain ⟨k, rfl⟩ : ∃ m, k = m + 2 := ⟨k - 2, by omega⟩
    have hlt : i < s.data.toList.length := by rw [list_len]; omega
    have hlt2 : i < s.size := by omega
    have hdr := List.drop_eq_getElem_cons hlt
    obtain ⟨b, hb⟩ : ∃ b, s.data.toList[i] = b := ⟨_, rfl⟩
    have hbt := btAt s i hlt2
    rw [hb] at hdr hbt
    rw [hdr] at hP
    simp only [skerryref16_Split.l0]
    rw [if_pos (by omega), if_neg (by omega), if_pos (by omega), if_pos (by omega), hbt]
    by_cases hc : b = 47
    · rw [(b47 b).2 hc, rsplit_j2 s L f i k hf (by omega) hs hL (by omega) seg hseg]
      subst hc
      rw [glue_slash] at hP
      by_cases h : NameOk (bs seg)
      · rw [if_pos h]
        by_cases h2 : L.length = 16
        · rw [if_pos h2, not_sound_len (by rw [hP]; simp; omega)]
        · rw [if_neg h2]
          refine ih k (i + 1) (i + 1) (L ++ [bs seg]) [] (by omega) (Nat.le_refl _) (by simp; omega) ?_ (by simp) ?_ (by omega)
          · intro p hp
            rcases List.mem_append.1 hp with q | q
            · exact hok p q
            · rw [List.mem_singleton.1 q]; exact h
          · rw [hP, glue_nil]
            simp
      · rw [if_neg h, not_sound_bad (p := bs seg) (by rw [hP]; simp) h]
    · have hcb : ((b.toNat : Int) == 47) = false := by
        cases hq : ((b.toNat : Int) == 47) with
        | false => rfl
        | true => exact absurd ((b47 b).1 hq) hc
      rw [hcb, rsplit_no s L f i k (by omega) hs]
      rw [glue_other seg hc] at hP
      refine ih k (i + 1) f L (seg ++ [b]) (by omega) (by omega) hL hok ?_ hP (by omega)
      have e1 : i + 1 - f = (i - f) + 1 := by omega
      rw [e1, List.take_add_one, hseg]
      congr 1
      rw [List.getElem?_drop, show f + (i - f) = i by omega, List.getElem?_eq_getElem hlt, hb]
      rfl
theorem rsplit_is (s : ByteArray) (k : Nat) (hk : 500 ≤ k) : skerryref16_Split.f k s = some (splitOut s) := by
  obtain ⟨k, rfl⟩ : ∃ m, k = m + 1 := ⟨k - 1, by omega⟩
  have hj : ∀ b, skerryref16_Split.j0 (k + 1) s b = if b = true then some ([], 16) else if s.toList = [47] then some ([], 0) else skerryref16_Split.l0 k s [] 1 1 := fun b => by simp only [skerryref16_Split.j0]
  unfold skerryref16_Split.f splitOut
  by_cases h1 : s.size < 1
  · rw [if_pos (by omega), hj, if_pos rfl, if_pos (.inl h1)]
  by_cases h2 : 200 < s.size
  · rw [if_neg (by omega), if_pos (by omega), hj, if_pos rfl, if_pos (.inr (.inl h2))]
  rw [if_neg (by omega), if_neg (by omega), if_pos (by omega), hj]
  have hl : 0 < s.data.toList.length := by rw [list_len]; omega
  have hb := btAt s 0 (by omega)
  obtain ⟨b, t, hbt⟩ : ∃ b t, s.data.toList = b :: t := by
    cases hq : s.data.toList with
    | nil => rw [hq] at hl; simp at hl
    | cons b t => exact ⟨b, t, rfl⟩
  have hb0 : bt s 0 = (b.toNat : Int) := by
    rw [show (0 : Int) = ((0 : Nat) : Int) from rfl, hb]
    simp [hbt]
  rw [hb0]
  by_cases hc : b = 47
  · have hf : ((b.toNat : Int) != 47) = false := by rw [bne, (b47 b).2 hc]; rfl
    rw [hf, if_neg (by simp)]
    have hnb : ¬ BadPath s := by
      unfold BadPath
      rw [hbt, hc]
      rintro (q | q | q)
      · omega
      · omega
      · exact q rfl
    rw [if_neg hnb]
    by_cases h3 : s.size = 1
    · have e : s.toList = [47] := by
        have ht : t = [] := by
          have := list_len s
          rw [hbt, List.length_cons] at this
          exact List.eq_nil_of_length_eq_zero (by omega)
        rw [ByteArray.toList_eq, hbt, hc, ht]
      rw [if_pos e, if_pos h3]
    · have e : s.toList ≠ [47] := by
        rw [ByteArray.toList_eq]
        intro q
        apply h3
        rw [← list_len, q]
        rfl
      rw [if_neg e, if_neg h3]
      have h := rsplit_loop s (by omega) (parts s.data.toList.tail) (s.size - 1) k 1 1 [] [] (by omega) (Nat.le_refl _) (by simp) (by simp) (by simp) (by rw [glue_nil, List.drop_one]; rfl) (by omega)
      exact h
  · have hf : ((b.toNat : Int) != 47) = true := by
      rw [bne]
      cases hq : ((b.toNat : Int) == 47) with
      | false => rfl
      | true => exact absurd ((b47 b).1 hq) hc
    rw [hf, if_pos rfl, if_pos (.inr (.inr (by rw [hbt]; intro q; exact hc (Option.some.inj q))))]
/-- A text's bytes as numbers. -/
def numsOf (l : List UInt8) : List Int := l.map fun b => (b.toNat : Int)
theorem numsOf_str (l : List UInt8) : strOfNums (numsOf l) = bs l := by
  unfold strOfNums numsOf bs
  congr 1
  rw [List.map_map]
  conv => rhs; rw [← List.map_id l]
  congr 1
  refine List.map_congr_left fun b _ => ?_
  simp
theorem rjoin_loop (l : List ByteArray) (hl : l.length ≤ 16) : ∀ (d k i : Nat), i + d = l.length → (∀ p ∈ l.take i, NameOk p) → d + 30 ≤ k → skerryref16_Join.l0 k l (numsOf (joined (l.take i))) (i : Int) = some (joinOut l) := by
  intro d
  induction d with
  | zero =>
    intro k i hd hok hk
    obtain ⟨k, rfl⟩ : ∃ m, k = m + 1 := ⟨k - 1, by omega⟩
    have hi : i = l.length := by omega
    subst hi
    rw [List.take_length] at hok ⊢
    have hS : Sound l := ⟨hl, hok⟩
    have hsm := joined_small l hok
    have hlen : (numsOf (joined l)).length = (joined l).length := by unfold numsOf; rw [List.length_map]
    simp only [skerryref16_Join.l0]
    rw [if_neg (by omega), hlen]
    unfold joinOut
    by_cases h0 : l = []
    · subst h0
      rw [if_pos (by rfl), if_pos (by decide)]
      simp only [Option.bind_some]
      rw [pathOf_nil, if_neg (by decide), if_pos ⟨hS, by decide⟩]
      rfl
    · have hne : (joined l).length ≠ 0 := by
        cases l with
        | nil => exact absurd rfl h0
        | cons x r => show (47 :: (x.data.toList ++ joined r)).length ≠ 0; simp
      rw [if_neg (by omega), pathOf_joined l h0, bs_size]
      by_cases h2 : (joined l).length ≤ 200
      · rw [if_neg (by omega), if_pos ⟨hS, h2⟩, numsOf_str]
      · rw [if_pos (by omega), if_neg (fun q => h2 q.2)]
  | succ d ih =>
    intro k i hd hok hk
    obtain ⟨k, rfl⟩ : ∃ m, k = m + 1 := ⟨k - 1, by omega⟩
    have hlt : i < l.length := by omega
    have e : rdOf ByteArray.empty l (i : Int) = l[i] := by simp [rdOf, hlt]
    have htk : l.take (i + 1) = l.take i ++ [l[i]] := by rw [List.take_add_one, List.getElem?_eq_getElem hlt]; rfl
    have hsm := joined_small (l.take i) hok
    rw [List.length_take] at hsm
    have hlen : (numsOf (joined (l.take i))).length = (joined (l.take i)).length := by unfold numsOf; rw [List.length_map]
    simp only [skerryref16_Join.l0]
    rw [if_pos (by omega), if_pos (by omega), e, rname_is _ k (by omega)]
    simp only [Option.bind_some]
    unfold nameOut
    by_cases h : NameOk l[i]
    · rw [if_pos h, if_pos rfl, if_pos (by omega), if_pos (by
        have := h.2.1
        rw [List.length_append, hlen]
        simp
        omega), w64 (x := (i : Int) + 1) (by omega) (by omega), show ((i : Int) + 1) = ((i + 1 : Nat) : Int) by omega]
      have e2 : numsOf (joined (l.take i)) ++ [47] ++ bytesOf l[i] = numsOf (joined (l.take (i + 1))) := by
        rw [htk, joined_append]
        unfold numsOf
        simp [joined, bytesOf]
      rw [e2]
      refine ih k (i + 1) (by omega) ?_ (by omega)
      rw [htk]
      intro p hp
      rcases List.mem_append.1 hp with q | q
      · exact hok p q
      · rw [List.mem_singleton.1 q]; exact h
    · rw [if_neg h, if_neg (by decide)]
      unfold joinOut
      rw [if_neg fun q => h (q.1.2 _ (List.getElem_mem hlt))]
theorem rjoin_is (l : List ByteArray) (k : Nat) (hk : 60 ≤ k) : skerryref16_Join.f k l = some (joinOut l) := by
  unfold skerryref16_Join.f
  by_cases h : l.length ≤ 16
  · rw [if_neg (by omega)]
    have := rjoin_loop l h l.length k 0 (by omega) (by simp) (by omega)
    simpa [joined, numsOf] using this
  · rw [if_pos (by omega)]
    unfold joinOut
    rw [if_neg fun q => h q.1.1]
end Go.Proofs.YtdihhdmndjjknaaDoor.Walk
