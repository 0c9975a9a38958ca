/- A path's parent; the law's first call: contracts. -/
import Derived.Test.YtdihhdmndjjknaaDoorKWJoin
import Derived.Deep.QuietTactic
namespace Go.Proofs.YtdihhdmndjjknaaDoor.Walk
open Go.RowKit Go.Proofs.YtdihhdmndjjknaaDoor.PWalkOrders Go.Proofs.YtdihhdmndjjknaaDoor.Plain Go.Proofs.YtdihhdmndjjknaaDoor.Codec Go.Proofs.YtdihhdmndjjknaaDoorW.PrintWords Go.Proofs.YtdihhdmndjjknaaDoorW.PrintLast Go.Proofs.YtdihhdmndjjknaaDoorW.PrintMore
set_option linter.unusedVariables false
set_option linter.unusedSimpArgs false
theorem joined_small (l : List ByteArray) (h : ∀ p ∈ l, NameOk p) : (joined l).length ≤ 14 * l.length := by
  induction l with
  | nil => simp [joined]
  | cons x l ih =>
    have hx := (h x (by simp)).2.1
    have := ih fun p hp => h p (by simp [hp])
    show (47 :: (x.data.toList ++ joined l)).length ≤ _
    rw [List.length_cons, List.length_append, list_len, List.length_cons]
    omega
theorem join_small (l : List ByteArray) (h : ∀ p ∈ l, NameOk p) (hl : l.length ≤ 16) : (Lib.join (l.map (fun x => x.data.toList)) [47]).length ≤ 8388607 := by
  by_cases c : l = []
  · subst c
    simp [Lib.join]
  · have h1 := joined_small l h
    have h2 := congrArg ByteArray.size (pathOf_joined l c)
    rw [bs_size] at h2
    unfold pathOf at h2
    rw [bs_size, List.length_cons] at h2
    omega
theorem take_C {w : World} {A : Option Addr} {l : List ByteArray} (h : Kd.C Kd.string w A l.length l) (m : Nat) (hm : m ≤ l.length) : Kd.C Kd.string w A (l.take m).length (l.take m) := by
  have h1 := Kd.reads_of_C (enc := Value.string) (d := (⟨#[]⟩ : ByteArray)) (h1 := fun _ => rfl) h
  have h2 := h1.take_ m hm
  have e : (l.take m).length = m := by rw [List.length_take]; omega
  rw [e]
  exact Kd.C_of_reads (enc := Value.string) (d := (⟨#[]⟩ : ByteArray)) (h1 := fun _ => rfl) h2
theorem take_plain {A : Option Addr} {l : List ByteArray} (h : PlainAt A l) (m : Nat) : PlainAt A (l.take m) := by
  rcases h with rfl | h
  · left; simp
  · exact .inr h
theorem cut_texts2 (A : Option Addr) (n c m : Nat) (h : m ≤ c) (W : World) : (Instr.slice 22 (.slice A n c) none (some (.int .i64 (m : Int))) none).run Tryd.prog W = .ok (.slice A m c) W := by
  obtain ⟨i, hi, h3⟩ := Option.map_eq_some_iff.1 info9
  simp only [Prod.mk.injEq] at h3
  obtain ⟨hz, hs, hb⟩ := h3
  have hel : Tryd.prog.elem 22 = 9 := by simp [Program.elem, Tryd.underlying22]
  have hu : Tryd.prog.underlying 22 = some (.slice (Tryd.prog.elem 22)) := by rw [hel]; exact Tryd.underlying22
  have ha : (A.map fun x => x.add 0) = A := by cases A <;> simp [Addr.add]
  rw [run_slice_h W 22 A n c hu .i64 m (by omega) (by omega), hel]
  simp [sizeOf, typeInfo, hi, hs, sliced, Result.andThen, ha]
theorem str_eq {a b : ByteArray} (h : a.toList = b.toList) : a = b := by
  rw [ByteArray.toList_eq, ByteArray.toList_eq] at h
  rw [← bs_of a, ← bs_of b, h]
theorem texts_l0 (x : List ByteArray) (hs : x.length ≤ 1048576) : ∀ d i : Nat, i + d = x.length → skerryref01_SameTexts.l0 (d + 1) x x (i : Int) = some true
  | 0, i, h => by
    unfold skerryref01_SameTexts.l0
    rw [if_neg (by omega)]
  | d + 1, i, h => by
    unfold skerryref01_SameTexts.l0
    rw [if_pos (by omega), if_pos (by omega), if_pos (by omega), if_pos rfl, w64 (by omega) (by omega)]
    exact texts_l0 x hs d (i + 1) (by omega)
theorem same_texts (x : List ByteArray) (hs : x.length ≤ 1048576) : skerryref01_SameTexts.f (x.length + 1) x x = some true := by
  unfold skerryref01_SameTexts.f
  rw [if_pos rfl]
  exact texts_l0 x hs x.length 0 (by omega)
theorem split_cases (s : ByteArray) : ((splitOut s).2 = 0) ∨ ((splitOut s).2 = 16 ∧ (splitOut s).1 = []) := by
  unfold splitOut
  split
  · exact .inr ⟨rfl, rfl⟩
  · split
    · exact .inl rfl
    · split
      · exact .inl rfl
      · exact .inr ⟨rfl, rfl⟩
set_option maxHeartbeats 4000000 in
set_option maxRecDepth 100000 in
theorem parent_calls (s : ByteArray) (hs : s.size ≤ 9223372036854775807) (w : World) : Calls Tryd.prog 13 #[.string s] w fun e w' => e = .returned (.tuple #[.string (parentOut s).1, .string (parentOut s).2.1, .int .i64 (parentOut s).2.2]) ∧ Below w.heap.size w w' := by
  have HA := Aside0.mk (fun W => split_calls s hs W)
  unfold SplitEnds at HA
  have hO : parentOut s = if (splitOut s).2 ≠ 0 then (⟨#[]⟩, ⟨#[]⟩, (splitOut s).2) else if (splitOut s).1.length = 0 then (⟨#[]⟩, ⟨#[]⟩, 1) else ((joinOut ((splitOut s).1.take ((splitOut s).1.length - 1))).1, (splitOut s).1.getD ((splitOut s).1.length - 1) ⟨#[]⟩, (joinOut ((splitOut s).1.take ((splitOut s).1.length - 1))).2) := rfl
  have hla := splitOut_le s
  have hok := splitOut_ok s
  obtain ⟨⟨x, ea⟩, hx⟩ : ∃ z, splitOut s = z := ⟨_, rfl⟩
  rw [hx] at HA hla hO hok
  simp only at HA hla hO hok
  rw [hO]
  clear hO hx hs
  by_cases h1 : ea = 0
  rotate_left
  · rw [if_pos h1]
    have d1 : (ea != 0) = true := bne_iff_ne.2 h1
    clear h1 hok
    go_enter Tryd.func13, Tryd.ntmps13
    go_wp2_with fail
    ((refine (HA.out _).mono ?_); rintro e w2 ⟨v, rfl, hr, hb⟩)
    have H2 := Aside0.mk hb
    clear hb hr HA
    go_wp2
    go_ret3
    exact ⟨rfl, H2.out⟩
  subst h1
  rw [if_neg (by simp)]
  by_cases h0 : x.length = 0
  · rw [if_pos h0]
    have hx0 : x = [] := List.eq_nil_of_length_eq_zero h0
    subst hx0
    clear h0 hok hla
    go_enter Tryd.func13, Tryd.ntmps13
    go_wp2_with fail
    ((refine (HA.out _).mono ?_); rintro e w2 ⟨v, rfl, hr, hb⟩)
    have H2 := Aside0.mk hb
    obtain ⟨A1, k1, rfl, hk1, hc1, _⟩ := texts_reads hr
    clear hb hr HA hc1
    go_wp2
    go_ret3
    exact ⟨rfl, H2.out⟩
  rw [if_neg h0]
  obtain ⟨m, hm⟩ : ∃ m, x.length = m + 1 := ⟨x.length - 1, by omega⟩
  have hm1 : x.length - 1 = m := by omega
  rw [hm1]
  have hts : (x.take m).length = m := by rw [List.length_take]; omega
  have HJ := Aside0.mk (fun A c W h1 h2 h3 => join_calls A c (x.take m) W h1 h2 h3 (by omega) (join_small _ (fun p hp => hok p (List.mem_of_mem_take hp)) (by omega)))
  obtain ⟨⟨jp, je⟩, hj⟩ : ∃ z, joinOut (x.take m) = z := ⟨_, rfl⟩
  rw [hj] at HJ ⊢
  have HTS := Aside0.mk hts
  have HM := Aside0.mk hm
  obtain ⟨nm, hnm⟩ : ∃ z, x.getD m ⟨#[]⟩ = z := ⟨_, rfl⟩
  have HNM := Aside0.mk hnm
  rw [hnm]
  have w1 : wrap64 ((m : Int) + 1 - 1) = (m : Int) := by rw [show (m : Int) + 1 - 1 = (m : Int) by omega]; exact w64 (by omega) (by omega)
  have w2' : wrap64 (m : Int) = (m : Int) := w64 (by omega) (by omega)
  have z0 : ((m : Int) + 1 == 0) = false := beq_eq_false_iff_ne.2 (by omega)
  have z1 : (m + 1 == 0) = false := beq_eq_false_iff_ne.2 (by omega)
  have p0 : (0 : Int) ≤ (m : Int) := by omega
  have p1 : (m : Int) < (m : Int) + 1 := by omega
  have p2 : m < m + 1 := by omega
  clear hok hla h0 hm1 hts hj hnm hm
  go_enter Tryd.func13, Tryd.ntmps13
  go_wp2_with fail
  ((refine (HA.out _).mono ?_); rintro e w2 ⟨v, rfl, hr, hb⟩)
  have H2 := Aside0.mk hb
  obtain ⟨A1, k1, rfl, hk1, hc1, hp1⟩ := texts_reads hr
  have HC1 := Aside0.mk hc1
  have hk1' : m + 1 ≤ k1 := by rw [← HM.out]; exact hk1
  have hct := fun W => cut_texts2 A1 (m + 1) k1 m (by omega) W
  have hcal := HJ.out A1 k1 w2 (take_C hc1 m (by rw [HM.out]; omega)) (by rw [HTS.out]; omega) (take_plain hp1 m)
  rw [HTS.out] at hcal
  have HCAL := Aside0.mk hcal
  rw [HM.out]
  clear hb hr HA hc1 hk1 hk1' hp1 HJ hcal
  go_wp2_with fail
  ((refine HCAL.out.mono ?_); rintro e w3 ⟨rfl, hb⟩)
  have H3 := Aside0.mk (below_then H2.out H2.out.size hb)
  obtain ⟨ad, hA, hc⟩ := load_str (Kd.C_below HC1.out hb) m (by rw [HM.out]; omega)
  rw [HNM.out] at hc
  subst hA
  clear hb HCAL HC1
  go_wp2
  go_quiet (fail)
  go_wp2
  go_ret3
  exact ⟨rfl, below_drewN H3.out nq⟩
theorem lit_C (W : World) (xs : List ByteArray) (hl : xs.length ≤ 9223372036854775807) : Kd.C Kd.string (W.alloc (.cells (xs.map Value.string).toArray 9)) (some ⟨W.heap.size, 0, none⟩) xs.length xs := by
  refine Kd.C_of_reads (enc := Value.string) (d := (⟨#[]⟩ : ByteArray)) (h1 := fun _ => rfl) ⟨rfl, hl, fun _ => ⟨_, rfl, fun j hj => ?_⟩⟩
  rw [add_plain, blk_cell (blk_new W (.cells (xs.map Value.string).toArray 9))]
  simp [List.getElem?_eq_getElem hj, List.getD]
theorem alloc_le {n : Nat} {W : World} (h : n ≤ W.heap.size) (o : Obj) : n ≤ (W.alloc o).heap.size := by simp; omega
theorem lit_R0 (W : World) : Kd.R Kd.string 9 (W.alloc (.cells #[] 9)) W.heap.size (fun _ => True) (.slice (some ⟨W.heap.size, 0, none⟩) 0 0) [] :=
  row_owned (xs := []) (blk_new W (.cells #[] 9)) (Nat.le_refl _) (by simp)
theorem wake_split : splitOut ⟨#[47, 97, 47, 98, 46, 99]⟩ = ([⟨#[97]⟩, ⟨#[98, 46, 99]⟩], 0) := by decide +kernel
theorem slash_split : splitOut ⟨#[47]⟩ = ([], 0) := by decide +kernel
set_option maxHeartbeats 4000000 in
set_option maxRecDepth 100000 in
theorem wakes_calls (w : World) : Calls Tryd.prog 8 #[] w fun e w' => e = .returned (.bool true) ∧ Below w.heap.size w w' := by
  have HS := Aside0.mk (split_calls ⟨#[47, 97, 47, 98, 46, 99]⟩ (by decide) w)
  unfold SplitEnds at HS
  rw [wake_split] at HS
  have HL := Aside0.mk (fun W : World => lit_C W [⟨#[97]⟩, ⟨#[98, 46, 99]⟩] (by decide))
  go_enter Tryd.func8, Tryd.ntmps8
  go_wp2_with fail
  ((refine HS.out.mono ?_); rintro e w2 ⟨v, rfl, hr, hb⟩)
  have H2 := Aside0.mk hb
  obtain ⟨A, k, rfl, hk, hc, _⟩ := texts_reads hr
  have HC := Aside0.mk hc
  have HK := Aside0.mk hk
  clear hb hr hc hk HS
  go_wp2_with fail
  ((refine (skerryref01_SameTexts.calls 3 A k [⟨#[97]⟩, ⟨#[98, 46, 99]⟩] (some ⟨w2.heap.size, 0, none⟩) 2 [⟨#[97]⟩, ⟨#[98, 46, 99]⟩] true _ (Kd.C_below HC.out (below_alloc (Below.refl _ _) _)) HK.out (HL.out w2) (by decide) (same_texts _ (by decide))).mono ?_); rintro e w3 ⟨rfl, hd⟩)
  have H3 := Aside0.mk (below_then (H2.out.alloc H2.out.size _) (H2.out.alloc H2.out.size _).size hd.below)
  clear hd
  go_wp2
  go_ret
  exact ⟨rfl, H3.out⟩
end Go.Proofs.YtdihhdmndjjknaaDoor.Walk
