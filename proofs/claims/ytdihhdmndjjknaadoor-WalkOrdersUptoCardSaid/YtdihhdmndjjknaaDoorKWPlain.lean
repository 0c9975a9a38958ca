/- Paths and names in plain words: what is split and what is joined. No program. -/
import Derived.Lib.Join
import Derived.Lib.Bytealg
namespace Go.Proofs.YtdihhdmndjjknaaDoor.Codec
/-- May a letter stand in a name? -/
def Even (r : Int) : Prop := (97 ≤ r ∧ r ≤ 122) ∨ (48 ≤ r ∧ r ≤ 57) ∨ r = 46 ∨ r = 95 ∨ r = 45
instance (r : Int) : Decidable (Even r) := by unfold Even; infer_instance
/-- All letters may stand in a name. -/
def Letters (s : ByteArray) : Prop := ∀ (i : Nat) (h : i < s.size), Even ((s[i]'h).toNat : Int)
/-- A sound name. -/
def NameOk (s : ByteArray) : Prop := s.data.toList ≠ [] ∧ s.size ≤ 13 ∧ s.data.toList ≠ [46] ∧ s.data.toList ≠ [46, 46] ∧ Letters s
instance (s : ByteArray) : Decidable (Letters s) := by unfold Letters; infer_instance
instance (s : ByteArray) : Decidable (NameOk s) := by unfold NameOk; infer_instance
/-- What is answered of a name. -/
def nameOut (s : ByteArray) : Int := if NameOk s then 0 else 16
end Go.Proofs.YtdihhdmndjjknaaDoor.Codec
namespace Go.Proofs.YtdihhdmndjjknaaDoor.Walk
open Go.Proofs.YtdihhdmndjjknaaDoor.Codec
/-- A text of bytes. -/
def bs (l : List UInt8) : ByteArray := ⟨l.toArray⟩
theorem bs_list (l : List UInt8) : (bs l).data.toList = l := by simp [bs]
theorem bs_size (l : List UInt8) : (bs l).size = l.length := by simp [bs, ByteArray.size]
theorem bs_of (s : ByteArray) : bs s.data.toList = s := by cases s; simp [bs]
theorem list_len (s : ByteArray) : s.data.toList.length = s.size := by rw [Array.length_toList]; rfl
/-- The parts between bytes 47. -/
def pieces : List UInt8 → List (List UInt8)
  | [] => [[]]
  | b :: t => if b = 47 then [] :: pieces t else (b :: (pieces t).headD []) :: (pieces t).tail
theorem pieces_form (l : List UInt8) : pieces l = (pieces l).headD [] :: (pieces l).tail := by
  cases l with
  | nil => rfl
  | cons b t =>
    unfold pieces
    split <;> rfl
theorem pieces_slash (t : List UInt8) : pieces (47 :: t) = [] :: pieces t := by
  show (if (47 : UInt8) = 47 then _ else _) = _
  rw [if_pos rfl]
theorem pieces_other {b : UInt8} (h : b ≠ 47) (t : List UInt8) : pieces (b :: t) = (b :: (pieces t).headD []) :: (pieces t).tail := by
  show (if b = 47 then _ else _) = _
  rw [if_neg h]
/-- What stands ahead of the first part is of it. -/
def glue (p : List UInt8) (ps : List (List UInt8)) : List (List UInt8) := (p ++ ps.headD []) :: ps.tail
theorem glue_nil (l : List UInt8) : glue [] (pieces l) = pieces l := by
  rw [pieces_form l]
  rfl
theorem glue_slash (p t : List UInt8) : glue p (pieces (47 :: t)) = p :: pieces t := by
  rw [pieces_slash]
  simp [glue]
theorem glue_other (p : List UInt8) {b : UInt8} (h : b ≠ 47) (t : List UInt8) : glue p (pieces (b :: t)) = glue (p ++ [b]) (pieces t) := by
  rw [pieces_other h]
  simp [glue]
theorem glue_end (p : List UInt8) : glue p (pieces []) = [p] := by simp [glue, pieces]
theorem glue_append (p q l : List UInt8) : glue p (glue q (pieces l)) = glue (p ++ q) (pieces l) := by simp [glue]
/-- How many bytes stand ahead of the first byte 47. -/
def first (l : List UInt8) : Nat := (l.takeWhile (fun b => b != 47)).length
theorem first_cons (b : UInt8) (l : List UInt8) : first (b :: l) = if b = 47 then 0 else first l + 1 := by
  unfold first
  rw [List.takeWhile_cons]
  by_cases c : b = 47
  · rw [if_pos c]; simp [c]
  · rw [if_neg c]; simp [c]
theorem first_le (l : List UInt8) : first l ≤ l.length := (List.takeWhile_sublist _).length_le
theorem idx_eq (l : List UInt8) : Lib.indexByte l 47 = if Lib.countByte l 47 = 0 then -1 else (first l : Int) := by
  induction l with
  | nil => rfl
  | cons b l ih =>
    unfold Lib.indexByte
    rw [first_cons]
    unfold Lib.countByte at *
    by_cases c : b = 47
    · rw [if_pos (by simp [c]), if_neg (by simp [c]), if_pos c]
      rfl
    · have hb : (b == 47) = false := by simp [c]
      rw [hb, List.count_cons_of_ne (by simpa using c), if_neg c, ih]
      by_cases d : l.count 47 = 0
      · rw [if_pos d, if_pos d]
        rfl
      · have : ((first l : Int) == -1) = false := by rw [beq_eq_false_iff_ne]; omega
        rw [if_neg d, if_neg d, this]
        simp
theorem pieces_none (l : List UInt8) (h : Lib.countByte l 47 = 0) : pieces l = [l] := by
  induction l with
  | nil => rfl
  | cons b l ih =>
    unfold Lib.countByte at *
    by_cases c : b = 47
    · simp [c] at h
    · rw [List.count_cons_of_ne (by simpa using c)] at h
      rw [pieces_other c, ih h]
      rfl
theorem pieces_first (l : List UInt8) (h : Lib.countByte l 47 ≠ 0) : first l < l.length ∧ pieces l = l.take (first l) :: pieces (l.drop (first l + 1)) ∧ Lib.countByte (l.drop (first l + 1)) 47 + 1 = Lib.countByte l 47 := by
  induction l with
  | nil => exact absurd rfl h
  | cons b l ih =>
    rw [first_cons]
    unfold Lib.countByte at *
    by_cases c : b = 47
    · rw [if_pos c]
      subst c
      rw [pieces_slash]
      simp
    · rw [if_neg c]
      rw [List.count_cons_of_ne (by simpa using c)] at h ⊢
      obtain ⟨h1, h2, h3⟩ := ih h
      refine ⟨by rw [List.length_cons]; omega, ?_, ?_⟩
      · rw [pieces_other c, h2]
        simp
      · rw [List.drop_succ_cons]; exact h3
theorem pieces_count (l : List UInt8) : (pieces l).length = Lib.countByte l 47 + 1 := by
  induction l with
  | nil => rfl
  | cons b l ih =>
    unfold Lib.countByte at *
    by_cases c : b = 47
    · subst c
      rw [pieces_slash]
      simp [ih]
    · rw [pieces_other c, List.count_cons_of_ne (by simpa using c), ← ih]
      conv => rhs; rw [pieces_form l]
      rfl
theorem count_le (l : List UInt8) : Lib.countByte l 47 ≤ l.length := List.count_le_length
/-- The parts of a text, as texts. -/
def parts (l : List UInt8) : List ByteArray := (pieces l).map bs
/-- Is this no path at all? -/
def BadPath (s : ByteArray) : Prop := s.size < 1 ∨ 200 < s.size ∨ s.data.toList.head? ≠ some 47
instance (s : ByteArray) : Decidable (BadPath s) := by unfold BadPath; infer_instance
/-- May names stand in a path? -/
def Sound (l : List ByteArray) : Prop := l.length ≤ 16 ∧ ∀ p ∈ l, NameOk p
instance (l : List ByteArray) : Decidable (Sound l) := by unfold Sound; infer_instance
/-- The names of a path. -/
def splitOut (s : ByteArray) : List ByteArray × Int :=
  if BadPath s then ([], 16) else if s.size = 1 then ([], 0) else if Sound (parts s.data.toList.tail) then (parts s.data.toList.tail, 0) else ([], 16)
theorem splitOut_le (s : ByteArray) : (splitOut s).1.length ≤ 16 := by
  unfold splitOut
  split
  · simp
  · split
    · simp
    · split
      · rename_i h; exact h.1
      · simp
theorem splitOut_ok (s : ByteArray) : ∀ p ∈ (splitOut s).1, NameOk p := by
  unfold splitOut
  split
  · simp
  · split
    · simp
    · split
      · rename_i h; exact h.2
      · simp
/-- The text of a path of names. -/
def pathOf (l : List ByteArray) : ByteArray := bs (47 :: Lib.join (l.map (fun x => x.data.toList)) [47])
/-- The path of names. -/
def joinOut (l : List ByteArray) : ByteArray × Int := if Sound l ∧ (pathOf l).size ≤ 200 then (pathOf l, 0) else (⟨#[]⟩, 16)
/-- A path without its last name, and that name. -/
def parentOut (s : ByteArray) : ByteArray × ByteArray × Int :=
  if (splitOut s).2 ≠ 0 then (⟨#[]⟩, ⟨#[]⟩, (splitOut s).2)
  else if (splitOut s).1.length = 0 then (⟨#[]⟩, ⟨#[]⟩, 1)
  else ((joinOut ((splitOut s).1.take ((splitOut s).1.length - 1))).1, (splitOut s).1.getD ((splitOut s).1.length - 1) ⟨#[]⟩, (joinOut ((splitOut s).1.take ((splitOut s).1.length - 1))).2)
/-- The names one behind the other, a byte 47 ahead of each. -/
def joined : List ByteArray → List UInt8
  | [] => []
  | p :: ps => 47 :: p.data.toList ++ joined ps
theorem joined_append (a b : List ByteArray) : joined (a ++ b) = joined a ++ joined b := by
  induction a with
  | nil => rfl
  | cons x a ih => simp [joined, ih]
theorem tail_joined (r : List ByteArray) : Lib.joinTail [47] (r.map (fun x => x.data.toList)) = joined r := by
  induction r with
  | nil => rfl
  | cons x r ih =>
    show ([47] ++ x.data.toList ++ Lib.joinTail [47] (r.map (fun x => x.data.toList))) = _
    rw [ih]
    rfl
theorem pathOf_joined (l : List ByteArray) (h : l ≠ []) : pathOf l = bs (joined l) := by
  cases l with
  | nil => exact absurd rfl h
  | cons x r =>
    unfold pathOf
    rw [List.map_cons, Lib.join_cons, tail_joined]
    rfl
theorem pathOf_nil : pathOf [] = bs [47] := rfl
/-- A sound name has no byte 47. -/
theorem name_free {s : ByteArray} (h : NameOk s) : ∀ b ∈ s.data.toList, b ≠ 47 := by
  intro b hb e
  obtain ⟨i, hi, hg⟩ := List.getElem_of_mem hb
  have hi2 : i < s.size := by rw [← list_len]; exact hi
  have h2 := h.2.2.2.2 i hi2
  have h3 : (s[i]'hi2) = b := by
    rw [← hg]
    simp [ByteArray.getElem_eq_getElem_data]
  rw [h3, e] at h2
  exact absurd h2 (by decide)
theorem pieces_free {l : List UInt8} (h : ∀ b ∈ l, b ≠ 47) (t : List UInt8) : pieces (l ++ t) = glue l (pieces t) := by
  induction l with
  | nil => rw [glue_nil]; rfl
  | cons b l ih =>
    rw [List.cons_append, pieces_other (h b (by simp)), ih (fun x hx => h x (by simp [hx]))]
    rfl
theorem pieces_joined (r : List ByteArray) (hr : ∀ p ∈ r, NameOk p) : pieces (joined r) = [] :: r.map (fun x => x.data.toList) := by
  induction r with
  | nil => rfl
  | cons x r ih =>
    show pieces (47 :: (x.data.toList ++ joined r)) = _
    rw [pieces_slash, pieces_free (name_free (hr x (by simp))), ih (fun p hp => hr p (by simp [hp]))]
    simp [glue]
/-- What is joined is split again. -/
theorem parts_joined (l : List ByteArray) (h : l ≠ []) (hl : ∀ p ∈ l, NameOk p) : parts (joined l).tail = l := by
  have h1 := pieces_joined l hl
  cases l with
  | nil => exact absurd rfl h
  | cons x r =>
    have e : joined (x :: r) = 47 :: (x.data.toList ++ joined r) := rfl
    rw [e, pieces_slash] at h1
    have h2 := (List.cons.inj h1).2
    rw [e, List.tail_cons]
    unfold parts
    rw [h2, List.map_map]
    conv => rhs; rw [← List.map_id (x :: r)]
    exact List.map_congr_left fun y _ => bs_of y
/-- What is split is joined again. -/
theorem joined_parts (l : List UInt8) : joined (parts l) = 47 :: l := by
  unfold parts
  induction l with
  | nil => rfl
  | cons b l ih =>
    by_cases c : b = 47
    · subst c
      rw [pieces_slash, List.map_cons]
      show 47 :: ((bs []).data.toList ++ joined ((pieces l).map bs)) = _
      rw [ih, bs_list]
      rfl
    · rw [pieces_other c, List.map_cons]
      rw [pieces_form l, List.map_cons] at ih
      have e : ∀ p q, joined (bs p :: q) = 47 :: (p ++ joined q) := fun p q => by show 47 :: ((bs p).data.toList ++ joined q) = _; rw [bs_list]
      rw [e] at ih ⊢
      have h2 := (List.cons.inj ih).2
      rw [List.cons_append, h2]
theorem split_join (s : ByteArray) (h : (splitOut s).2 = 0) : joinOut (splitOut s).1 = (s, 0) := by
  unfold splitOut at h ⊢
  by_cases hb : BadPath s
  · rw [if_pos hb] at h; cases h
  rw [if_neg hb] at h ⊢
  have hsz : 1 ≤ s.size ∧ s.size ≤ 200 ∧ s.data.toList.head? = some 47 := by
    unfold BadPath at hb
    refine ⟨by omega, by omega, ?_⟩
    exact Classical.byContradiction fun q => hb (.inr (.inr q))
  have hf : s.data.toList = 47 :: s.data.toList.tail := by
    cases hl : s.data.toList with
    | nil => rw [hl] at hsz; cases hsz.2.2
    | cons b t => rw [hl] at hsz; rw [Option.some.inj hsz.2.2]; rfl
  by_cases h1 : s.size = 1
  · rw [if_pos h1]
    have ht : s.data.toList.tail = [] := by
      refine List.eq_nil_of_length_eq_zero ?_
      rw [List.length_tail, list_len]; omega
    rw [ht] at hf
    have e : pathOf [] = s := by rw [pathOf_nil, ← hf, bs_of]
    unfold joinOut
    rw [e, if_pos ⟨⟨by simp, by simp⟩, hsz.2.1⟩]
  · rw [if_neg h1] at h ⊢
    by_cases hs : Sound (parts s.data.toList.tail)
    · rw [if_pos hs]
      have hne : parts s.data.toList.tail ≠ [] := by
        unfold parts
        rw [pieces_form]
        simp
      have e : pathOf (parts s.data.toList.tail) = s := by rw [pathOf_joined _ hne, joined_parts, ← hf, bs_of]
      unfold joinOut
      rw [e, if_pos ⟨hs, hsz.2.1⟩]
    · rw [if_neg hs] at h; cases h
theorem joined_len (l : List ByteArray) (k : Nat) : (joined (l.take k)).length ≤ (joined l).length := by
  have h := joined_append (l.take k) (l.drop k)
  rw [List.take_append_drop] at h
  rw [h, List.length_append]
  omega
/-- The path of fewer of a path's names. -/
theorem join_take (l : List ByteArray) (k : Nat) (h : (joinOut l).2 = 0) : joinOut (l.take k) = (pathOf (l.take k), 0) ∧ splitOut (pathOf (l.take k)) = (l.take k, 0) := by
  have hj : Sound l ∧ (pathOf l).size ≤ 200 := by
    unfold joinOut at h
    split at h
    · assumption
    · cases h
  have hs : Sound (l.take k) := ⟨Nat.le_trans (by rw [List.length_take]; omega) hj.1.1, fun p hp => hj.1.2 p (List.mem_of_mem_take hp)⟩
  have hsz : (pathOf (l.take k)).size ≤ 200 := by
    by_cases c : l.take k = []
    · rw [c, pathOf_nil, bs_size]; decide
    · have hl : l ≠ [] := by rintro rfl; simp at c
      have h2 := hj.2
      rw [pathOf_joined _ hl, bs_size] at h2
      rw [pathOf_joined _ c, bs_size]
      exact Nat.le_trans (joined_len l k) h2
  refine ⟨by unfold joinOut; rw [if_pos ⟨hs, hsz⟩], ?_⟩
  unfold splitOut
  by_cases c : l.take k = []
  · rw [c, pathOf_nil]
    rw [if_neg (by unfold BadPath; rw [bs_size, bs_list]; simp), if_pos (by rw [bs_size]; rfl)]
  · have he : pathOf (l.take k) = bs (joined (l.take k)) := pathOf_joined _ c
    rw [he] at hsz ⊢
    rw [bs_size] at hsz
    obtain ⟨x, r, hx⟩ : ∃ x r, l.take k = x :: r := by
      cases hq : l.take k with
      | nil => exact absurd hq c
      | cons x r => exact ⟨x, r, rfl⟩
    have hxo := hs.2 x (by rw [hx]; simp)
    have hxl : x.data.toList.length ≠ 0 := fun q => hxo.1 (List.eq_nil_of_length_eq_zero q)
    have hjl : 1 < (joined (l.take k)).length := by rw [hx]; show 1 < (47 :: (x.data.toList ++ joined r)).length; rw [List.length_cons, List.length_append]; omega
    rw [if_neg (by
      unfold BadPath
      rw [bs_size, bs_list]
      rintro (q | q | q)
      · omega
      · omega
      · rw [hx] at q; exact q rfl), if_neg (by rw [bs_size]; omega)]
    rw [bs_list, parts_joined _ c hs.2, if_pos hs]
end Go.Proofs.YtdihhdmndjjknaaDoor.Walk
