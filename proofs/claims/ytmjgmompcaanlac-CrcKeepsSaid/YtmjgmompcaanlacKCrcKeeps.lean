/- Bytes that are handed in are not changed, what is answered is new memory: the walk of the law. No conditions. -/
import Derived.Test.YtmjgmompcaanlacKGot
import Derived.Test.YtmjgmompcaanlacPureCrcKeeps
import Derived.Deep.CutRange
import Derived.Outline
namespace Go.Proofs.Ytmjgmompcaanlac.Keeps
open Go.RowKit Go.Proofs.Ytmjgmompcaanlac.PCrcKeeps Go.Proofs.Ytmjgmompcaanlac.Plain Go.Proofs.YtmjgmompcaanlacW.PrintWords Go.Proofs.YtmjgmompcaanlacW.PrintLast Go.Proofs.YtmjgmompcaanlacW.PrintMore
set_option linter.unusedVariables false
set_option linter.unusedSimpArgs false
theorem row_fill {w : World} {g : Nat} {l : List Int} (hg : w.heap[g]? = some (.cells (nums .u8 (fill l (l.length + 4))).toArray 5 (0, 0))) (hl : l.length ≤ 281474976710000) : (Kd.int .u8).R 5 w 0 (fun _ => True) (.slice (some ⟨g, 0, none⟩) l.length (l.length + 4)) l :=
  Kd.R_of_own (enc := Value.int .u8) (h1 := fun _ => rfl) (Row.owns (g := g) (.inr ⟨g, l.length + 4, _, rfl, rfl, by omega, by unfold maxLen; omega, hg, by simp [nums, fill_len l (l.length + 4) (by omega) (by omega)], by
    show (nums .u8 (fill l (l.length + 4))).take l.length = _
    simp [nums, fill]⟩)) (fun _ _ => trivial)
theorem got_form {w : World} {v : Value} {xs : List Int} {lo hi : Nat} (h : Got w v xs lo hi) : ∃ A n c, v = .slice A n c := by
  obtain ⟨b, h1, _⟩ := h
  obtain ⟨A, c, e⟩ := h1.rd.form
  exact ⟨A, _, c, e⟩
theorem got_row {w : World} {v : Value} {xs : List Int} {lo hi : Nat} (h : Got w v xs lo hi) (hm : xs.length ≤ 9223372036854775807) : ∃ A c, v = .slice A xs.length c ∧ xs.length ≤ c ∧ ReadsInt w .u8 A xs.length xs := by
  obtain ⟨b, ⟨⟨A, rfl⟩, _, rfl⟩ | ⟨g, cap, cur, rfl, _, h3, h4, h5, h6, h7⟩, _⟩ := h
  · exact ⟨A, 0, rfl, Nat.le_refl _, rfl, by simp, by simp⟩
  · refine ⟨_, cap, rfl, h3, rfl, hm, fun _ => ⟨_, rfl, fun j hj => ?_⟩⟩
    have ha : (⟨g, 0, none⟩ : Addr).add j = ⟨g, j, none⟩ := by unfold Addr.add; split <;> simp_all
    have hx : cur.toList[j]? = (nums .u8 xs)[j]? := by rw [← h7, List.getElem?_take, if_pos hj]
    rw [ha, blk_cell h5 j, ← Array.getElem?_toList, hx]
    simp only [nums, List.getElem?_map]
    rw [List.getD_eq_getElem?_getD, List.getElem?_eq_getElem hj]
    rfl
theorem got_C {w : World} {A : Option Addr} {c : Nat} {xs : List Int} {lo hi : Nat} (h : Got w (.slice A xs.length c) xs lo hi) (hm : xs.length ≤ 9223372036854775807) : (Kd.int .u8).C w A xs.length xs := by
  obtain ⟨A', c', e, _, h2⟩ := got_row h hm
  cases e
  exact row_int h2
theorem pick6 (a b c d e f : Value) : ∀ k, k < 6 → #[a, b, c, d, e, f][k]? = some ((fun k => match k with | 0 => a | 1 => b | 2 => c | 3 => d | 4 => e | _ => f) k) := by
  intro k hk
  rcases (by omega : k = 0 ∨ k = 1 ∨ k = 2 ∨ k = 3 ∨ k = 4 ∨ k = 5) with rfl | rfl | rfl | rfl | rfl | rfl <;> rfl
set_option maxHeartbeats 16000000 in
set_option maxRecDepth 100000 in
theorem law_main (A1 : Option Addr) (c1 : Nat) (l1 : List Int) (i : Int) (w : World) (hr1 : ReadsInt w .u8 A1 l1.length l1) (hy1 : Bytes l1) (hi : -9223372036854775808 ≤ i ∧ i ≤ 9223372036854775807) (hl1 : l1.length ≤ 140737488351232) :
    Calls Try.prog 8 #[.slice A1 l1.length c1, .int .i64 i] w fun e w' => e = .returned (.bool true) ∧ Below w.heap.size w w' := by
  have R1 := Aside0.mk hr1
  obtain ⟨x1, e1, hx1, hb1, hlen1⟩ := Pure.frame_some hy1
  obtain ⟨x2, n2, e2, hx2, hlen2⟩ := Pure.unframe_some hy1 hl1 hi
  obtain ⟨x7, n7, e7, hx7, hlen7⟩ := Pure.unframe_some (a := 0) hb1 (by omega) (by omega)
  obtain ⟨x5, hx5⟩ : ∃ x, crc_Sum.f l1 = some x := ⟨_, Pure.sum_is hy1⟩
  obtain ⟨x6, e6, hx6⟩ : ∃ x e, crc_Add.f 5 l1 = some (x, e) := ⟨_, _, Pure.add_is hy1 (by omega) (by omega)⟩
  have HX1 := Aside0.mk hx1
  have HX2 := Aside0.mk hx2
  have HX5 := Aside0.mk hx5
  have HX6 := Aside0.mk hx6
  have HX7 := Aside0.mk hx7
  have HL1 := Aside0.mk hlen1
  have HL2 : Aside0 (x2.length ≤ 140737488351232) := ⟨by omega⟩
  have HL7 : Aside0 (x7.length ≤ 65541) := ⟨by omega⟩
  clear hr1 hx1 hx2 hx5 hx6 hx7 hlen1 hlen2 hlen7
  go_enter Try.func8, Try.ntmps8
  go_wp2_with fail
  refine (skerrylaw02_wakes.calls true _ rfl).mono ?_
  rintro e w1 ⟨rfl, hb1⟩
  have HB1 := Aside0.mk hb1
  clear hb1
  go_wp2_with fail
  refine (roomy_calls A1 c1 l1 w1 (R1.out.below HB1.out) (by omega)).mono ?_
  rintro e w2 ⟨rfl, hg2, hb2⟩
  obtain ⟨gr, hgr⟩ : ∃ gr, w1.heap.size = gr := ⟨_, rfl⟩
  rw [hgr] at hg2 hb2 ⊢
  have HG2 := Aside0.mk hg2
  have HB2 : Aside0 (Below w.heap.size w w2) := ⟨HB1.out.trans (hb2.mono (by have := HB1.out.size; omega))⟩
  have HK2 := Aside0.mk (show gr < w2.heap.size from (Array.getElem?_eq_some_iff.1 hg2).1)
  have HW2 := Aside0.mk HB2.out.size
  clear hg2 hb2 hgr HB1
  go_wp2_with fail
  refine (crc_Frame.calls (fun _ => True) (some ⟨gr, 0, none⟩) _ l1 x1 e1 w2 (Kd.R_V (base' := _) (row_fill HG2.out (by omega))) HX1.out).mono ?_
  rintro e w3 ⟨v1, rfl, hr_, hb_⟩
  have Gv1_3 := Aside0.mk (Got.of_R hr_)
  have HG3 := Aside0.mk ((hb_.block gr (by have := HW2.out; have := HK2.out; omega)).trans HG2.out)
  have HB3 : Aside0 (Below w.heap.size w w3) := ⟨HB2.out.trans (hb_.mono HB2.out.size)⟩
  have HK3 := Aside0.mk hb_.size
  clear hr_ hb_ HG2 HB2
  go_wp2_with fail
  refine (crc_Frame.calls (fun _ => True) (some ⟨gr, 0, none⟩) _ l1 x1 e1 w3 (Kd.R_V (base' := _) (row_fill HG3.out (by omega))) HX1.out).mono ?_
  rintro e w4 ⟨v2, rfl, hr_, hb_⟩
  have Gv2_4 := Aside0.mk (Got.of_R hr_)
  have Gv1_4 := Aside0.mk (Gv1_3.out.below hb_ (by have := HW2.out; have := HK2.out; have := HK3.out; omega))
  have HG4 := Aside0.mk ((hb_.block gr (by have := HW2.out; have := HK2.out; have := HK3.out; omega)).trans HG3.out)
  have HB4 : Aside0 (Below w.heap.size w w4) := ⟨HB3.out.trans (hb_.mono HB3.out.size)⟩
  have HK4 := Aside0.mk hb_.size
  clear hr_ hb_ HG3 HB3 Gv1_3
  go_wp2_with fail
  refine (crc_Unframe.calls 2 (some ⟨gr, 0, none⟩) _ l1 i x2 n2 e2 w4 (row_int (reads_fill HG4.out (by omega))) (by omega) HX2.out).mono ?_
  rintro e w5 ⟨v3, rfl, hr_, hb_⟩
  have Gv3_5 := Aside0.mk (Got.of_R hr_)
  have Gv1_5 := Aside0.mk (Gv1_4.out.below hb_ (by have := HW2.out; have := HK2.out; have := HK3.out; have := HK4.out; omega))
  have Gv2_5 := Aside0.mk (Gv2_4.out.below hb_ (by have := HW2.out; have := HK2.out; have := HK3.out; have := HK4.out; omega))
  have HG5 := Aside0.mk ((hb_.block gr (by have := HW2.out; have := HK2.out; have := HK3.out; have := HK4.out; omega)).trans HG4.out)
  have HB5 : Aside0 (Below w.heap.size w w5) := ⟨HB4.out.trans (hb_.mono HB4.out.size)⟩
  have HK5 := Aside0.mk hb_.size
  clear hr_ hb_ HG4 HB4 Gv1_4 Gv2_4
  go_wp2_with fail
  refine (crc_Unframe.calls 2 (some ⟨gr, 0, none⟩) _ l1 i x2 n2 e2 w5 (row_int (reads_fill HG5.out (by omega))) (by omega) HX2.out).mono ?_
  rintro e w6 ⟨v4, rfl, hr_, hb_⟩
  have Gv4_6 := Aside0.mk (Got.of_R hr_)
  have Gv1_6 := Aside0.mk (Gv1_5.out.below hb_ (by have := HW2.out; have := HK2.out; have := HK3.out; have := HK4.out; have := HK5.out; omega))
  have Gv2_6 := Aside0.mk (Gv2_5.out.below hb_ (by have := HW2.out; have := HK2.out; have := HK3.out; have := HK4.out; have := HK5.out; omega))
  have Gv3_6 := Aside0.mk (Gv3_5.out.below hb_ (by have := HW2.out; have := HK2.out; have := HK3.out; have := HK4.out; have := HK5.out; omega))
  have HG6 := Aside0.mk ((hb_.block gr (by have := HW2.out; have := HK2.out; have := HK3.out; have := HK4.out; have := HK5.out; omega)).trans HG5.out)
  have HB6 : Aside0 (Below w.heap.size w w6) := ⟨HB5.out.trans (hb_.mono HB5.out.size)⟩
  have HK6 := Aside0.mk hb_.size
  clear hr_ hb_ HG5 HB5 Gv1_5 Gv2_5 Gv3_5
  go_wp2_with fail
  refine (crc_Sum.calls (some ⟨gr, 0, none⟩) _ l1 x5 w6 (row_int (reads_fill HG6.out (by omega))) (by omega) HX5.out).mono ?_
  rintro e w7 ⟨rfl, hb_⟩
  have Gv1_7 := Aside0.mk (Gv1_6.out.below hb_ (by have := HW2.out; have := HK2.out; have := HK3.out; have := HK4.out; have := HK5.out; have := HK6.out; omega))
  have Gv2_7 := Aside0.mk (Gv2_6.out.below hb_ (by have := HW2.out; have := HK2.out; have := HK3.out; have := HK4.out; have := HK5.out; have := HK6.out; omega))
  have Gv3_7 := Aside0.mk (Gv3_6.out.below hb_ (by have := HW2.out; have := HK2.out; have := HK3.out; have := HK4.out; have := HK5.out; have := HK6.out; omega))
  have Gv4_7 := Aside0.mk (Gv4_6.out.below hb_ (by have := HW2.out; have := HK2.out; have := HK3.out; have := HK4.out; have := HK5.out; have := HK6.out; omega))
  have HG7 := Aside0.mk ((hb_.block gr (by have := HW2.out; have := HK2.out; have := HK3.out; have := HK4.out; have := HK5.out; have := HK6.out; omega)).trans HG6.out)
  have HB7 : Aside0 (Below w.heap.size w w7) := ⟨HB6.out.trans (hb_.mono HB6.out.size)⟩
  have HK7 := Aside0.mk hb_.size
  clear  hb_ HG6 HB6 Gv1_6 Gv2_6 Gv3_6 Gv4_6
  go_wp2_with fail
  refine (crc_Add.calls 5 (some ⟨gr, 0, none⟩) _ l1 x6 e6 w7 (row_int (reads_fill HG7.out (by omega))) (by omega) HX6.out).mono ?_
  rintro e w8 ⟨rfl, hb_⟩
  have Gv1_8 := Aside0.mk (Gv1_7.out.below hb_ (by have := HW2.out; have := HK2.out; have := HK3.out; have := HK4.out; have := HK5.out; have := HK6.out; have := HK7.out; omega))
  have Gv2_8 := Aside0.mk (Gv2_7.out.below hb_ (by have := HW2.out; have := HK2.out; have := HK3.out; have := HK4.out; have := HK5.out; have := HK6.out; have := HK7.out; omega))
  have Gv3_8 := Aside0.mk (Gv3_7.out.below hb_ (by have := HW2.out; have := HK2.out; have := HK3.out; have := HK4.out; have := HK5.out; have := HK6.out; have := HK7.out; omega))
  have Gv4_8 := Aside0.mk (Gv4_7.out.below hb_ (by have := HW2.out; have := HK2.out; have := HK3.out; have := HK4.out; have := HK5.out; have := HK6.out; have := HK7.out; omega))
  have HG8 := Aside0.mk ((hb_.block gr (by have := HW2.out; have := HK2.out; have := HK3.out; have := HK4.out; have := HK5.out; have := HK6.out; have := HK7.out; omega)).trans HG7.out)
  have HB8 : Aside0 (Below w.heap.size w w8) := ⟨HB7.out.trans (hb_.mono HB7.out.size)⟩
  have HK8 := Aside0.mk hb_.size
  clear  hb_ HG7 HB7 Gv1_7 Gv2_7 Gv3_7 Gv4_7
  obtain ⟨A1f, c1f, hv1, hcf, hrf⟩ := got_row Gv1_8.out (by have := HL1.out; omega)
  subst hv1
  clear hrf
  have HL1f := Aside0.mk (show x1.length ≤ 9223372036854775807 by have := HL1.out; omega)
  by_cases hpos : 0 < x1.length
  · have d0 : decide ((0 : Int) < (x1.length : Int)) = true := decide_eq_true (by omega)
    go_wp2_with fail
    refine (crc_Unframe.calls 2 A1f c1f x1 0 x7 n7 e7 w8 (got_C (Gv1_8.out) HL1f.out) hcf HX7.out).mono ?_
    rintro e w9 ⟨v5, rfl, hr_, hb_⟩
    have Gv5_9 := Aside0.mk (Got.of_R hr_)
    have Gv1_9 := Aside0.mk (Gv1_8.out.below hb_ (by have := HW2.out; have := HK2.out; have := HK3.out; have := HK4.out; have := HK5.out; have := HK6.out; have := HK7.out; have := HK8.out; omega))
    have Gv2_9 := Aside0.mk (Gv2_8.out.below hb_ (by have := HW2.out; have := HK2.out; have := HK3.out; have := HK4.out; have := HK5.out; have := HK6.out; have := HK7.out; have := HK8.out; omega))
    have Gv3_9 := Aside0.mk (Gv3_8.out.below hb_ (by have := HW2.out; have := HK2.out; have := HK3.out; have := HK4.out; have := HK5.out; have := HK6.out; have := HK7.out; have := HK8.out; omega))
    have Gv4_9 := Aside0.mk (Gv4_8.out.below hb_ (by have := HW2.out; have := HK2.out; have := HK3.out; have := HK4.out; have := HK5.out; have := HK6.out; have := HK7.out; have := HK8.out; omega))
    have HG9 := Aside0.mk ((hb_.block gr (by have := HW2.out; have := HK2.out; have := HK3.out; have := HK4.out; have := HK5.out; have := HK6.out; have := HK7.out; have := HK8.out; omega)).trans HG8.out)
    have HB9 : Aside0 (Below w.heap.size w w9) := ⟨HB8.out.trans (hb_.mono HB8.out.size)⟩
    have HK9 := Aside0.mk hb_.size
    clear hr_ hb_ HG8 HB8 Gv1_8 Gv2_8 Gv3_8 Gv4_8
    go_wp2_with fail
    refine (crc_Unframe.calls 2 A1f c1f x1 0 x7 n7 e7 w9 (got_C (Gv1_9.out) HL1f.out) hcf HX7.out).mono ?_
    rintro e w10 ⟨v6, rfl, hr_, hb_⟩
    have Gv6_10 := Aside0.mk (Got.of_R hr_)
    have Gv1_10 := Aside0.mk (Gv1_9.out.below hb_ (by have := HW2.out; have := HK2.out; have := HK3.out; have := HK4.out; have := HK5.out; have := HK6.out; have := HK7.out; have := HK8.out; have := HK9.out; omega))
    have Gv2_10 := Aside0.mk (Gv2_9.out.below hb_ (by have := HW2.out; have := HK2.out; have := HK3.out; have := HK4.out; have := HK5.out; have := HK6.out; have := HK7.out; have := HK8.out; have := HK9.out; omega))
    have Gv3_10 := Aside0.mk (Gv3_9.out.below hb_ (by have := HW2.out; have := HK2.out; have := HK3.out; have := HK4.out; have := HK5.out; have := HK6.out; have := HK7.out; have := HK8.out; have := HK9.out; omega))
    have Gv4_10 := Aside0.mk (Gv4_9.out.below hb_ (by have := HW2.out; have := HK2.out; have := HK3.out; have := HK4.out; have := HK5.out; have := HK6.out; have := HK7.out; have := HK8.out; have := HK9.out; omega))
    have Gv5_10 := Aside0.mk (Gv5_9.out.below hb_ (by have := HW2.out; have := HK2.out; have := HK3.out; have := HK4.out; have := HK5.out; have := HK6.out; have := HK7.out; have := HK8.out; have := HK9.out; omega))
    have HG10 := Aside0.mk ((hb_.block gr (by have := HW2.out; have := HK2.out; have := HK3.out; have := HK4.out; have := HK5.out; have := HK6.out; have := HK7.out; have := HK8.out; have := HK9.out; omega)).trans HG9.out)
    have HB10 : Aside0 (Below w.heap.size w w10) := ⟨HB9.out.trans (hb_.mono HB9.out.size)⟩
    have HK10 := Aside0.mk hb_.size
    clear hr_ hb_ HG9 HB9 Gv1_9 Gv2_9 Gv3_9 Gv4_9 Gv5_9
    go_wp2_with fail
    refine (kept_calls gr A1 c1 l1 w10 HG10.out (R1.out.below HB10.out) (by omega)).mono ?_
    rintro e w11 ⟨rfl, hd_⟩
    have hb_ := hd_.below
    have Gv1_11 := Aside0.mk (Gv1_10.out.below hb_ (by have := HW2.out; have := HK2.out; have := HK3.out; have := HK4.out; have := HK5.out; have := HK6.out; have := HK7.out; have := HK8.out; have := HK9.out; have := HK10.out; omega))
    have Gv2_11 := Aside0.mk (Gv2_10.out.below hb_ (by have := HW2.out; have := HK2.out; have := HK3.out; have := HK4.out; have := HK5.out; have := HK6.out; have := HK7.out; have := HK8.out; have := HK9.out; have := HK10.out; omega))
    have Gv3_11 := Aside0.mk (Gv3_10.out.below hb_ (by have := HW2.out; have := HK2.out; have := HK3.out; have := HK4.out; have := HK5.out; have := HK6.out; have := HK7.out; have := HK8.out; have := HK9.out; have := HK10.out; omega))
    have Gv4_11 := Aside0.mk (Gv4_10.out.below hb_ (by have := HW2.out; have := HK2.out; have := HK3.out; have := HK4.out; have := HK5.out; have := HK6.out; have := HK7.out; have := HK8.out; have := HK9.out; have := HK10.out; omega))
    have Gv5_11 := Aside0.mk (Gv5_10.out.below hb_ (by have := HW2.out; have := HK2.out; have := HK3.out; have := HK4.out; have := HK5.out; have := HK6.out; have := HK7.out; have := HK8.out; have := HK9.out; have := HK10.out; omega))
    have Gv6_11 := Aside0.mk (Gv6_10.out.below hb_ (by have := HW2.out; have := HK2.out; have := HK3.out; have := HK4.out; have := HK5.out; have := HK6.out; have := HK7.out; have := HK8.out; have := HK9.out; have := HK10.out; omega))
    have HG11 := Aside0.mk ((hb_.block gr (by have := HW2.out; have := HK2.out; have := HK3.out; have := HK4.out; have := HK5.out; have := HK6.out; have := HK7.out; have := HK8.out; have := HK9.out; have := HK10.out; omega)).trans HG10.out)
    have HB11 : Aside0 (Below w.heap.size w w11) := ⟨HB10.out.trans (hb_.mono HB10.out.size)⟩
    have HK11 := Aside0.mk hb_.size
    clear hd_ hb_ HG10 HB10 Gv1_10 Gv2_10 Gv3_10 Gv4_10 Gv5_10 Gv6_10
    -- obtain Gv1_11.out
    obtain ⟨Av2, nv2, cv2, rfl⟩ : ∃ A n c, v2 = .slice A n c := got_form Gv2_11.out
    obtain ⟨Av3, nv3, cv3, rfl⟩ : ∃ A n c, v3 = .slice A n c := got_form Gv3_11.out
    obtain ⟨Av4, nv4, cv4, rfl⟩ : ∃ A n c, v4 = .slice A n c := got_form Gv4_11.out
    obtain ⟨Av5, nv5, cv5, rfl⟩ : ∃ A n c, v5 = .slice A n c := got_form Gv5_11.out
    obtain ⟨Av6, nv6, cv6, rfl⟩ : ∃ A n c, v6 = .slice A n c := got_form Gv6_11.out
    go_wp2_with fail
    refine (apart_got 6 6 (fun k => match k with | 0 => _ | 1 => _ | 2 => _ | 3 => _ | 4 => _ | _ => _) (fun k => match k with | 0 => x1 | 1 => x1 | 2 => x2 | 3 => x2 | 4 => x7 | _ => x7) (fun k => match k with | 0 => w2.heap.size | 1 => w3.heap.size | 2 => w4.heap.size | 3 => w5.heap.size | 4 => w8.heap.size | _ => w9.heap.size) (fun k => match k with | 0 => w3.heap.size | 1 => w4.heap.size | 2 => w5.heap.size | 3 => w6.heap.size | 4 => w9.heap.size | _ => w10.heap.size) w2.heap.size w11 (by omega) (by omega) ?_ ?_ ?_ ?_ ?_ _ rfl _ (pick6 _ _ _ _ _ _)).mono ?_
    · intro k hk
      rcases (by omega : k = 0 ∨ k = 1 ∨ k = 2 ∨ k = 3 ∨ k = 4 ∨ k = 5) with rfl | rfl | rfl | rfl | rfl | rfl
      · exact Gv1_11.out
      · exact Gv2_11.out
      · exact Gv3_11.out
      · exact Gv4_11.out
      · exact Gv5_11.out
      · exact Gv6_11.out
    · have := HW2.out; have := HK2.out; have := HK3.out; have := HK4.out; have := HK5.out; have := HK6.out; have := HK7.out; have := HK8.out; have := HK9.out; have := HK10.out; have := HK11.out;
      refine sorted_apart ?_ ?_
      · intro k hk
        rcases (by omega : k = 0 ∨ k = 1 ∨ k = 2 ∨ k = 3 ∨ k = 4 ∨ k = 5) with rfl | rfl | rfl | rfl | rfl | rfl <;> simp only <;> omega
      · intro k hk
        rcases (by omega : k = 0 ∨ k = 1 ∨ k = 2 ∨ k = 3 ∨ k = 4) with rfl | rfl | rfl | rfl | rfl <;> simp only <;> omega
    · intro k hk
      have := HL1.out; have := HL2.out; have := HL7.out
      rcases (by omega : k = 0 ∨ k = 1 ∨ k = 2 ∨ k = 3 ∨ k = 4 ∨ k = 5) with rfl | rfl | rfl | rfl | rfl | rfl <;> first | (simp only; omega) | simp
    · intro k hk
      have := HW2.out; have := HK2.out; have := HK3.out; have := HK4.out; have := HK5.out; have := HK6.out; have := HK7.out; have := HK8.out; have := HK9.out; have := HK10.out; have := HK11.out;
      rcases (by omega : k = 0 ∨ k = 1 ∨ k = 2 ∨ k = 3 ∨ k = 4 ∨ k = 5) with rfl | rfl | rfl | rfl | rfl | rfl <;> simp only <;> omega
    · have := HW2.out; have := HK2.out; have := HK3.out; have := HK4.out; have := HK5.out; have := HK6.out; have := HK7.out; have := HK8.out; have := HK9.out; have := HK10.out; have := HK11.out;
      omega
    rintro e w12 ⟨rfl, hb_⟩
    have HB12 : Aside0 (Below w.heap.size w w12) := ⟨((HB11.out.alloc HB11.out.size _).trans (hb_.mono (by have := HW2.out; have := HK2.out; have := HK3.out; have := HK4.out; have := HK5.out; have := HK6.out; have := HK7.out; have := HK8.out; have := HK9.out; have := HK10.out; have := HK11.out; omega)))⟩
    have HG12 : Aside0 (w12.heap[gr]? = some (.cells (nums .u8 (fill l1 (l1.length + 4))).toArray 5 (0, 0))) := ⟨by
      rw [hb_.block gr (by have := HW2.out; have := HK2.out; have := HK3.out; have := HK4.out; have := HK5.out; have := HK6.out; have := HK7.out; have := HK8.out; have := HK9.out; have := HK10.out; have := HK11.out; omega), Below.heap_alloc _ _ _ (by have := HW2.out; have := HK2.out; have := HK3.out; have := HK4.out; have := HK5.out; have := HK6.out; have := HK7.out; have := HK8.out; have := HK9.out; have := HK10.out; have := HK11.out; omega)]
      exact HG11.out⟩
    clear hb_ HG11 HB11
    go_wp2_with fail
    refine (kept_calls gr A1 c1 l1 w12 HG12.out (R1.out.below HB12.out) (by omega)).mono ?_
    rintro e w13 ⟨rfl, hd_⟩
    have HD := Aside0.mk hd_
    clear hd_
    go_wp2_with fail
    go_ret
    exact ⟨rfl, HB12.out.trans (HD.out.below.mono HB12.out.size)⟩
  · have d0 : decide ((0 : Int) < (x1.length : Int)) = false := decide_eq_false (by omega)
    go_wp2_with fail
    refine (kept_calls gr A1 c1 l1 w8 HG8.out (R1.out.below HB8.out) (by omega)).mono ?_
    rintro e w9 ⟨rfl, hd_⟩
    have hb_ := hd_.below
    have Gv1_9 := Aside0.mk (Gv1_8.out.below hb_ (by have := HW2.out; have := HK2.out; have := HK3.out; have := HK4.out; have := HK5.out; have := HK6.out; have := HK7.out; have := HK8.out; omega))
    have Gv2_9 := Aside0.mk (Gv2_8.out.below hb_ (by have := HW2.out; have := HK2.out; have := HK3.out; have := HK4.out; have := HK5.out; have := HK6.out; have := HK7.out; have := HK8.out; omega))
    have Gv3_9 := Aside0.mk (Gv3_8.out.below hb_ (by have := HW2.out; have := HK2.out; have := HK3.out; have := HK4.out; have := HK5.out; have := HK6.out; have := HK7.out; have := HK8.out; omega))
    have Gv4_9 := Aside0.mk (Gv4_8.out.below hb_ (by have := HW2.out; have := HK2.out; have := HK3.out; have := HK4.out; have := HK5.out; have := HK6.out; have := HK7.out; have := HK8.out; omega))
    have HG9 := Aside0.mk ((hb_.block gr (by have := HW2.out; have := HK2.out; have := HK3.out; have := HK4.out; have := HK5.out; have := HK6.out; have := HK7.out; have := HK8.out; omega)).trans HG8.out)
    have HB9 : Aside0 (Below w.heap.size w w9) := ⟨HB8.out.trans (hb_.mono HB8.out.size)⟩
    have HK9 := Aside0.mk hb_.size
    clear hd_ hb_ HG8 HB8 Gv1_8 Gv2_8 Gv3_8 Gv4_8
    -- obtain Gv1_9.out
    obtain ⟨Av2, nv2, cv2, rfl⟩ : ∃ A n c, v2 = .slice A n c := got_form Gv2_9.out
    obtain ⟨Av3, nv3, cv3, rfl⟩ : ∃ A n c, v3 = .slice A n c := got_form Gv3_9.out
    obtain ⟨Av4, nv4, cv4, rfl⟩ : ∃ A n c, v4 = .slice A n c := got_form Gv4_9.out
    go_wp2_with fail
    refine (apart_got 6 6 (fun k => match k with | 0 => _ | 1 => _ | 2 => _ | 3 => _ | 4 => _ | _ => _) (fun k => match k with | 0 => x1 | 1 => x1 | 2 => x2 | 3 => x2 | 4 => [] | _ => []) (fun k => match k with | 0 => w2.heap.size | 1 => w3.heap.size | 2 => w4.heap.size | 3 => w5.heap.size | 4 => w6.heap.size | _ => w6.heap.size) (fun k => match k with | 0 => w3.heap.size | 1 => w4.heap.size | 2 => w5.heap.size | 3 => w6.heap.size | 4 => w6.heap.size | _ => w6.heap.size) w2.heap.size w9 (by omega) (by omega) ?_ ?_ ?_ ?_ ?_ _ rfl _ (pick6 _ _ _ _ _ _)).mono ?_
    · intro k hk
      rcases (by omega : k = 0 ∨ k = 1 ∨ k = 2 ∨ k = 3 ∨ k = 4 ∨ k = 5) with rfl | rfl | rfl | rfl | rfl | rfl
      · exact Gv1_9.out
      · exact Gv2_9.out
      · exact Gv3_9.out
      · exact Gv4_9.out
      · exact Got.nil _ _ _
      · exact Got.nil _ _ _
    · have := HW2.out; have := HK2.out; have := HK3.out; have := HK4.out; have := HK5.out; have := HK6.out; have := HK7.out; have := HK8.out; have := HK9.out;
      refine sorted_apart ?_ ?_
      · intro k hk
        rcases (by omega : k = 0 ∨ k = 1 ∨ k = 2 ∨ k = 3 ∨ k = 4 ∨ k = 5) with rfl | rfl | rfl | rfl | rfl | rfl <;> simp only <;> omega
      · intro k hk
        rcases (by omega : k = 0 ∨ k = 1 ∨ k = 2 ∨ k = 3 ∨ k = 4) with rfl | rfl | rfl | rfl | rfl <;> simp only <;> omega
    · intro k hk
      have := HL1.out; have := HL2.out
      rcases (by omega : k = 0 ∨ k = 1 ∨ k = 2 ∨ k = 3 ∨ k = 4 ∨ k = 5) with rfl | rfl | rfl | rfl | rfl | rfl <;> first | (simp only; omega) | simp
    · intro k hk
      have := HW2.out; have := HK2.out; have := HK3.out; have := HK4.out; have := HK5.out; have := HK6.out; have := HK7.out; have := HK8.out; have := HK9.out;
      rcases (by omega : k = 0 ∨ k = 1 ∨ k = 2 ∨ k = 3 ∨ k = 4 ∨ k = 5) with rfl | rfl | rfl | rfl | rfl | rfl <;> simp only <;> omega
    · have := HW2.out; have := HK2.out; have := HK3.out; have := HK4.out; have := HK5.out; have := HK6.out; have := HK7.out; have := HK8.out; have := HK9.out;
      omega
    rintro e w10 ⟨rfl, hb_⟩
    have HB10 : Aside0 (Below w.heap.size w w10) := ⟨((HB9.out.alloc HB9.out.size _).trans (hb_.mono (by have := HW2.out; have := HK2.out; have := HK3.out; have := HK4.out; have := HK5.out; have := HK6.out; have := HK7.out; have := HK8.out; have := HK9.out; omega)))⟩
    have HG10 : Aside0 (w10.heap[gr]? = some (.cells (nums .u8 (fill l1 (l1.length + 4))).toArray 5 (0, 0))) := ⟨by
      rw [hb_.block gr (by have := HW2.out; have := HK2.out; have := HK3.out; have := HK4.out; have := HK5.out; have := HK6.out; have := HK7.out; have := HK8.out; have := HK9.out; omega), Below.heap_alloc _ _ _ (by have := HW2.out; have := HK2.out; have := HK3.out; have := HK4.out; have := HK5.out; have := HK6.out; have := HK7.out; have := HK8.out; have := HK9.out; omega)]
      exact HG9.out⟩
    clear hb_ HG9 HB9
    go_wp2_with fail
    refine (kept_calls gr A1 c1 l1 w10 HG10.out (R1.out.below HB10.out) (by omega)).mono ?_
    rintro e w11 ⟨rfl, hd_⟩
    have HD := Aside0.mk hd_
    clear hd_
    go_wp2_with fail
    go_ret
    exact ⟨rfl, HB10.out.trans (HD.out.below.mono HB10.out.size)⟩
theorem law_row (A1 : Option Addr) (c1 : Nat) (l1 : List Int) (i : Int) (w : World) (hr1 : ReadsInt w .u8 A1 l1.length l1) (hc1 : l1.length ≤ c1) (hw1 : ∀ x ∈ l1, (Lit.int .u8 x).wf = true) (hy1 : l1.length * 1 ≤ 140737488351232) (hi : (Lit.int .i64 i).wf = true) :
    Calls Try.prog 8 #[.slice A1 l1.length c1, .int .i64 i] w fun e w' => e = .returned (.bool true) ∧ Below w.heap.size w w' :=
  law_main A1 c1 l1 i w hr1 (bytes_wf hw1) (i64_wf hi) (by omega)
end Go.Proofs.Ytmjgmompcaanlac.Keeps
