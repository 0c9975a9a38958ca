/- A path that is split and joined is itself; its parent is above it, and, with the name behind it, it again: the walk of the law. No conditions. -/
import Derived.Test.YtdihhdmndjjknaaDoorKWAbove
namespace Go.Proofs.YtdihhdmndjjknaaDoor.Walk
open Go.RowKit Go.Proofs.YtdihhdmndjjknaaDoor.PWalkBack Go.Proofs.YtdihhdmndjjknaaDoor.Plain Go.Proofs.YtdihhdmndjjknaaDoor.Codec Go.Proofs.YtdihhdmndjjknaaDoorW.PrintWords Go.Proofs.YtdihhdmndjjknaaDoorW.PrintLast Go.Proofs.YtdihhdmndjjknaaDoorW.PrintMore
set_option linter.unusedVariables false
set_option linter.unusedSimpArgs false
theorem lit_C (W : World) (xs : List ByteArray) (hl : xs.length ≤ 9223372036854775807) : Kd.C Kd.string (W.alloc (.cells (xs.map Value.string).toArray 9)) (some ⟨W.heap.size, 0, none⟩) xs.length xs := by
  refine Kd.C_of_reads (enc := Value.string) (d := (⟨#[]⟩ : ByteArray)) (h1 := fun _ => rfl) ⟨rfl, hl, fun _ => ⟨_, rfl, fun j hj => ?_⟩⟩
  rw [add_plain, blk_cell (blk_new W (.cells (xs.map Value.string).toArray 9))]
  simp [List.getElem?_eq_getElem hj, List.getD]
theorem alloc_le {n : Nat} {W : World} (h : n ≤ W.heap.size) (o : Obj) : n ≤ (W.alloc o).heap.size := by simp; omega
theorem lit_R0 (W : World) : Kd.R Kd.string 9 (W.alloc (.cells #[] 9)) W.heap.size (fun _ => True) (.slice (some ⟨W.heap.size, 0, none⟩) 0 0) [] :=
  row_owned (xs := []) (blk_new W (.cells #[] 9)) (Nat.le_refl _) (by simp)
theorem wake_split : splitOut ⟨#[47, 97, 47, 98, 46, 99]⟩ = ([⟨#[97]⟩, ⟨#[98, 46, 99]⟩], 0) := by decide +kernel
theorem slash_split : splitOut ⟨#[47]⟩ = ([], 0) := by decide +kernel
set_option maxHeartbeats 4000000 in
set_option maxRecDepth 100000 in
theorem wakes_calls (w : World) : Calls Tryd.prog 8 #[] w fun e w' => e = .returned (.bool true) ∧ Below w.heap.size w w' := by
  have HS := Aside0.mk (split_calls ⟨#[47, 97, 47, 98, 46, 99]⟩ (by decide) w)
  unfold SplitEnds at HS
  rw [wake_split] at HS
  have HL := Aside0.mk (fun W : World => lit_C W [⟨#[97]⟩, ⟨#[98, 46, 99]⟩] (by decide))
  go_enter Tryd.func8, Tryd.ntmps8
  go_wp2_with fail
  ((refine HS.out.mono ?_); rintro e w2 ⟨v, rfl, hr, hb⟩)
  have H2 := Aside0.mk hb
  obtain ⟨A, k, rfl, hk, hc, _⟩ := texts_reads hr
  have HC := Aside0.mk hc
  have HK := Aside0.mk hk
  clear hb hr hc hk HS
  go_wp2_with fail
  ((refine (skerryref01_SameTexts.calls 3 A k [⟨#[97]⟩, ⟨#[98, 46, 99]⟩] (some ⟨w2.heap.size, 0, none⟩) 2 [⟨#[97]⟩, ⟨#[98, 46, 99]⟩] true _ (Kd.C_below HC.out (below_alloc (Below.refl _ _) _)) HK.out (HL.out w2) (by decide) (same_texts _ (by decide))).mono ?_); rintro e w3 ⟨rfl, hd⟩)
  have H3 := Aside0.mk (below_then (H2.out.alloc H2.out.size _) (H2.out.alloc H2.out.size _).size hd.below)
  clear hd
  go_wp2
  go_ret
  exact ⟨rfl, H3.out⟩
theorem above_slash (s : ByteArray) (h : (splitOut s).2 = 0) : aboveOut ⟨#[47]⟩ s = (true, 0) := by
  unfold aboveOut
  rw [slash_split, if_neg (fun q => q.elim (fun q => q rfl) (fun q => q h))]
  simp
/-- What follows of a path that is not the root. -/
theorem back_facts (s : ByteArray) (h : (splitOut s).2 = 0) (h1 : s.size ≠ 1) : ∃ (M : List ByteArray) (n d : ByteArray), parentOut s = (d, n, 0) ∧ splitOut d = (M, 0) ∧ aboveOut d s = (true, 0) ∧ aboveOut s d = (false, 0) ∧ joinOut (M ++ [n]) = (s, 0) ∧ Sound (M ++ [n]) ∧ d.size ≤ 200 := by
  have hj := split_join s h
  have hle := splitOut_le s
  have hok := splitOut_ok s
  have hne : (splitOut s).1.length ≠ 0 := by
    have key : splitOut s = if BadPath s then ([], 16) else if Sound (parts s.data.toList.tail) then (parts s.data.toList.tail, 0) else ([], 16) := by
      unfold splitOut
      rw [if_neg h1]
    rw [key] at h ⊢
    by_cases hb : BadPath s
    · rw [if_pos hb] at h; cases h
    · rw [if_neg hb] at h ⊢
      by_cases hs : Sound (parts s.data.toList.tail)
      · rw [if_pos hs]
        show (parts _).length ≠ 0
        rw [parts_length]
        omega
      · rw [if_neg hs] at h; cases h
  obtain ⟨L, hL⟩ : ∃ L, (splitOut s).1 = L := ⟨_, rfl⟩
  have hS : splitOut s = (L, 0) := by rw [← hL, ← h]
  rw [hL] at hj hle hok hne
  obtain ⟨k, hk⟩ : ∃ k, L.length = k + 1 := ⟨L.length - 1, by omega⟩
  have jt := join_take L k (by rw [hj])
  have hkm : L.length - 1 = k := by omega
  have hML : L.take k ++ [L.getD k ⟨#[]⟩] = L := by
    have e := List.take_add_one (l := L) (i := k)
    rw [show k + 1 = L.length by omega, List.take_length] at e
    rw [List.getElem?_eq_getElem (show k < L.length by omega)] at e
    rw [List.getD_eq_getElem?_getD, List.getElem?_eq_getElem (show k < L.length by omega)]
    exact e.symm
  have htl : (L.take k).length = k := by rw [List.length_take]; omega
  refine ⟨L.take k, L.getD k ⟨#[]⟩, pathOf (L.take k), ?_, jt.2, ?_, ?_, ?_, ?_, ?_⟩
  · unfold parentOut
    rw [hS]
    simp only
    rw [if_neg (by simp), if_neg (by omega), hkm, jt.1]
  · unfold aboveOut
    rw [hS, jt.2]
    simp only
    rw [if_neg (by simp), htl]
    congr 1
    exact decide_eq_true ⟨by omega, rfl⟩
  · unfold aboveOut
    rw [hS, jt.2]
    simp only
    rw [if_neg (by simp), htl]
    congr 1
    exact decide_eq_false fun q => by omega
  · rw [hML]; exact hj
  · rw [hML]; exact ⟨hle, hok⟩
  · have h2 := jt.1
    unfold joinOut at h2
    split at h2
    · rename_i q; exact q.2
    · have h3 := congrArg Prod.snd h2
      simp at h3
set_option maxHeartbeats 8000000 in
set_option maxRecDepth 100000 in
theorem back_calls (s : ByteArray) (hs : s.size ≤ 1125899906842624) (w : World) : Calls Tryd.prog 4 #[.string s] w fun e w' => e = .returned (.bool true) ∧ Below w.heap.size w w' := by
  have HW := Aside0.mk (wakes_calls w)
  have HSP := Aside0.mk (fun W => split_calls s hs W)
  unfold SplitEnds at HSP
  have hla := splitOut_le s
  have hok := splitOut_ok s
  rcases split_cases s with h0 | ⟨h0, hnil⟩
  rotate_left
  · rw [h0, hnil] at HSP
    clear hla hok h0 hnil hs
    go_enter Tryd.func4, Tryd.ntmps4
    go_wp2_with fail
    ((refine HW.out.mono ?_); rintro e w1 ⟨rfl, hb⟩)
    have H1 := Aside0.mk hb
    clear hb HW
    go_wp2_with fail
    ((refine (HSP.out _).mono ?_); rintro e w2 ⟨v, rfl, hr, hb⟩)
    have H2 := Aside0.mk (below_then H1.out H1.out.size hb)
    obtain ⟨A, k, rfl, hk, hc, _⟩ := texts_reads hr
    clear hb hr hk hc HSP
    go_wp2
    go_ret
    exact ⟨rfl, H2.out⟩
  have hj := split_join s h0
  have hsm := join_small _ hok hla
  have HJ := Aside0.mk (fun A c W h1 h2 h3 => join_calls A c (splitOut s).1 W h1 h2 h3 (by omega) hsm)
  rw [hj] at HJ
  have HA := Aside0.mk (fun W => above_calls ⟨#[47]⟩ s (by decide) hs W)
  rw [above_slash s h0] at HA
  have HP := Aside0.mk (fun W => parent_calls s hs W)
  have hq1 : (s.toList == s.toList) = true := beq_iff_eq.2 rfl
  have hq2 : (s.toList != s.toList) = false := bne_eq_false_iff_eq.2 rfl
  by_cases h1 : s.size = 1
  · have hnb : s.data.toList = [47] := by
      unfold splitOut at h0
      split at h0
      · cases h0
      · rename_i hb
        unfold BadPath at hb
        have hh : s.data.toList.head? = some 47 := Classical.byContradiction fun q => hb (.inr (.inr q))
        have hl : s.data.toList.length = 1 := by rw [list_len]; exact h1
        match hm : s.data.toList, hh, hl with
        | [b], hh, _ => rw [Option.some.inj hh]
    have hs0 : splitOut s = ([], 0) := by
      have e : s = ⟨#[47]⟩ := by rw [← bs_of s, hnb]; rfl
      rw [e]; exact slash_split
    have hp : parentOut s = (⟨#[]⟩, ⟨#[]⟩, 1) := by unfold parentOut; rw [hs0]; rfl
    have b1 : (s.toList == [47]) = true := by rw [beq_iff_eq, ByteArray.toList_eq]; exact hnb
    rw [hp] at HP
    rw [hs0] at HSP HJ
    clear hla hok h0 hs hj hsm h1 hnb hs0 hp
    go_enter Tryd.func4, Tryd.ntmps4
    go_wp2_with fail
    ((refine HW.out.mono ?_); rintro e w1 ⟨rfl, hb⟩)
    have H1 := Aside0.mk hb
    clear hb HW
    go_wp2_with fail
    ((refine (HSP.out _).mono ?_); rintro e w2 ⟨v, rfl, hr, hb⟩)
    have H2 := Aside0.mk (below_then H1.out H1.out.size hb)
    obtain ⟨A, k, rfl, hk, hc, hpl⟩ := texts_reads hr
    have HJ2 := Aside0.mk (HJ.out A k w2 hc hk hpl)
    clear hb hr hk hc HSP HJ hpl
    go_wp2_with fail
    ((refine HJ2.out.mono ?_); rintro e w3 ⟨rfl, hb⟩)
    have H3 := Aside0.mk (below_then H2.out H2.out.size hb)
    clear hb HJ2
    go_wp2_with fail
    ((refine (HA.out _).mono ?_); rintro e w4 ⟨rfl, hb⟩)
    have H4 := Aside0.mk (below_then H3.out H3.out.size hb)
    clear hb HA
    go_wp2_with fail
    ((refine (HP.out _).mono ?_); rintro e w5 ⟨rfl, hb⟩)
    have H5 := Aside0.mk (below_then H4.out H4.out.size hb)
    clear hb HP
    go_wp2
    go_ret
    exact ⟨rfl, H5.out⟩
  obtain ⟨M, n, d, hp, hd, ha1, ha2, hjn, hsn, hds⟩ := back_facts s h0 h1
  have b1 : (s.toList == [47]) = false := by
    rw [beq_eq_false_iff_ne, ByteArray.toList_eq]
    intro q
    apply h1
    rw [← list_len, q]
    rfl
  rw [hp] at HP
  have HSD := Aside0.mk (fun W => split_calls d (by omega) W)
  unfold SplitEnds at HSD
  rw [hd] at HSD
  have HA1 := Aside0.mk (fun W => above_calls d s (by omega) hs W)
  rw [ha1] at HA1
  have HA2 := Aside0.mk (fun W => above_calls s d hs (by omega) W)
  rw [ha2] at HA2
  have HJN := Aside0.mk (fun A c W h1 h2 h3 => join_calls A c (M ++ [n]) W h1 h2 h3 (by have := hsn.1; omega) (join_small _ hsn.2 hsn.1))
  rw [hjn] at HJN
  have hM16 : M.length ≤ 16 := by have := hsn.1; rw [List.length_append] at this; omega
  have HM := Aside0.mk hM16
  obtain ⟨L, hL⟩ : ∃ L, (splitOut s).1 = L := ⟨_, rfl⟩
  rw [hL, h0] at HSP
  rw [hL] at HJ
  clear hla hok h0 hs hj hsm h1 hp hd ha1 ha2 hjn hsn hds hL hM16
  go_enter Tryd.func4, Tryd.ntmps4
  go_wp2_with fail
  ((refine HW.out.mono ?_); rintro e w1 ⟨rfl, hb⟩)
  have H1 := Aside0.mk hb
  clear hb HW
  go_wp2_with fail
  ((refine (HSP.out _).mono ?_); rintro e w2 ⟨v, rfl, hr, hb⟩)
  have H2 := Aside0.mk (below_then H1.out H1.out.size hb)
  obtain ⟨A, k, rfl, hk, hc, hpl⟩ := texts_reads hr
  have HJ2 := Aside0.mk (HJ.out A k w2 hc hk hpl)
  clear hb hr hk hc HSP HJ hpl
  go_wp2_with fail
  ((refine HJ2.out.mono ?_); rintro e w3 ⟨rfl, hb⟩)
  have H3 := Aside0.mk (below_then H2.out H2.out.size hb)
  clear hb HJ2
  go_wp2_with fail
  ((refine (HA.out _).mono ?_); rintro e w4 ⟨rfl, hb⟩)
  have H4 := Aside0.mk (below_then H3.out H3.out.size hb)
  clear hb HA
  go_wp2_with fail
  ((refine (HP.out _).mono ?_); rintro e w5 ⟨rfl, hb⟩)
  have H5 := Aside0.mk (below_then H4.out H4.out.size hb)
  clear hb HP
  go_wp2_with fail
  ((refine (HSD.out _).mono ?_); rintro e w6 ⟨v6, rfl, hr, hb⟩)
  have H6 := Aside0.mk (below_then H5.out H5.out.size hb)
  obtain ⟨A6, k6, rfl, hk6, hc6, _⟩ := texts_reads hr
  have HC6 := Aside0.mk hc6
  clear hb hr hk6 hc6 HSD
  go_wp2_with fail
  ((refine (HA1.out _).mono ?_); rintro e w7 ⟨rfl, hb⟩)
  have H7 := Aside0.mk (below_then H6.out H6.out.size hb)
  have HC7 := Aside0.mk (Kd.C_below HC6.out hb)
  clear hb HA1 HC6
  go_wp2_with fail
  ((refine (HA2.out _).mono ?_); rintro e w8 ⟨rfl, hb⟩)
  have H8 := Aside0.mk (below_then H7.out H7.out.size hb)
  have HC8 := Aside0.mk (Kd.C_below HC7.out hb)
  clear hb HA2 HC7
  have hsz : (w8.alloc (.cells #[] 9)).heap.size = w8.heap.size + 1 := by simp
  have hf1 : (0 + M.length) * 16 ≤ 140737488355328 := by have := HM.out; omega
  have hf2 : (M.length + 1) * 16 ≤ 140737488355328 := by have := HM.out; omega
  go_wp2_with (first
    | ((with_reducible refine gate_builtin (b := .append) (xs := #[.tmp 95, .tmp 96]) rfl ?_); at_builtin; refine Kd.R_append_rows Kd.string (w0 := w8) w8.heap.size rfl (.tmp 95) (.tmp 96) 22 9 (.string ⟨#[]⟩) 16 rfl Tryd.underlying22 info9 rfl (by decide) (by omega) (.slice (some ⟨w8.heap.size, 0, none⟩) 0 0) [] M A6 M.length k6 (fun _ => True) (fun _ => False) (by rfl) (by rfl) (lit_R0 w8) (Kd.C_below HC8.out (below_alloc (Below.refl _ _) _)) (fun _ _ h => h) (fun _ h => h.elim) (fun _ _ => trivial) (below_alloc (Below.refl _ _) _) (by rw [hsz]; omega) hf1 ?_; intro v9 w9 ho hb hg hat; have H9 := Aside0.mk (below_then H8.out H8.out.size hb); have HR9 := Aside0.mk ho; have HZ9 := Aside0.mk hb.size; (obtain ⟨A9, k9, rfl, hx1, hx2, hx3⟩ := texts_reads ho); clear ho hb hg hat hx1 hx2 hx3)
    | ((with_reducible refine gate_builtin (b := .append) (xs := #[.tmp 97, .tmp 99]) rfl ?_); at_builtin; refine Kd.R_append_rows Kd.string (w0 := w9) w8.heap.size rfl (.tmp 97) (.tmp 99) 22 9 (.string ⟨#[]⟩) 16 rfl Tryd.underlying22 info9 rfl (by decide) (by omega) (.slice A9 M.length k9) M [n] (some ⟨w9.heap.size, 0, none⟩) 1 1 (fun _ => True) (fun _ => False) (by rfl) (by rfl) (Kd.R_alloc HR9.out _) (lit_C w9 [n] (by simp)) (fun _ _ h => h) (fun _ h => h.elim) (fun _ _ => trivial) ((below_alloc (Below.refl _ _) _).mono HZ9.out) (alloc_le HZ9.out _) hf2 ?_; intro v10 w10 ho hb hg hat; have H10 := Aside0.mk (H9.out.trans (hb.mono H8.out.size)); have HR10 := Aside0.mk ho; (obtain ⟨A10, k10, rfl, hk10, hc10, hp10⟩ := texts_reads ho); have hjj := HJN.out A10 k10 w10 hc10 hk10 hp10; rw [List.length_append] at hjj; have HJN2 := Aside0.mk (show Calls Tryd.prog 11 #[.slice A10 (M.length + 1) k10] w10 _ from hjj); clear hjj; clear ho hb hg hat hk10 hc10 hp10))
  ((refine HJN2.out.mono ?_); rintro e w11 ⟨rfl, hb⟩)
  have H11 := Aside0.mk (below_then H10.out H10.out.size hb)
  clear hb HJN2 HJN HR10 HR9 HZ9 HC8 H1 H2 H3 H4 H5 H6 H7 H8 H9 H10 hsz hf1 hf2 HM b1
  go_wp2
  go_ret
  exact ⟨rfl, H11.out⟩
theorem back_row (s : ByteArray) (w : World) (hs : s.size ≤ 1125899906842624) : Calls Tryd.prog 4 #[.string s] w fun e w' => e = .returned (.bool true) ∧ Below w.heap.size w w' := back_calls s hs w
end Go.Proofs.YtdihhdmndjjknaaDoor.Walk
