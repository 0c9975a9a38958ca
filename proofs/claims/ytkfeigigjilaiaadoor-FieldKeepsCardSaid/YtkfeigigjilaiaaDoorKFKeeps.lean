/- Bytes that are handed in are not changed, what is answered is new memory: the walk of the law. No conditions. -/
import Derived.Test.YtkfeigigjilaiaaDoorKFZero
import Derived.Test.YtkfeigigjilaiaaDoorKGot
import Derived.Deep.CutRange
import Derived.Outline
namespace Go.Proofs.YtkfeigigjilaiaaDoor.Keeps
open Go.RowKit Go.Proofs.YtkfeigigjilaiaaDoor.PFieldKeeps Go.Proofs.YtkfeigigjilaiaaDoor.Plain Go.Proofs.YtkfeigigjilaiaaDoor.Field Go.Proofs.YtkfeigigjilaiaaDoorW.PrintWords Go.Proofs.YtkfeigigjilaiaaDoorW.PrintLast Go.Proofs.YtkfeigigjilaiaaDoorW.PrintMore
set_option linter.unusedVariables false
set_option linter.unusedSimpArgs false
theorem drawn_of {w w2 : World} (h : ∃ nd, w2 = w.drewN nd) : Drawn0 w w2 := by
  obtain ⟨n, rfl⟩ := h
  exact ⟨⟨n, rfl⟩⟩
theorem blk_drawn {w w2 : World} (d : Drawn0 w w2) (g : Nat) : w2.heap[g]? = w.heap[g]? := by
  obtain ⟨n, rfl⟩ := d
  rfl
theorem drawn_trans {a b c : World} (h : Drawn0 a b) (k : Drawn0 b c) : Drawn0 a c := by
  obtain ⟨n, rfl⟩ := h
  obtain ⟨m, rfl⟩ := k
  exact ⟨⟨n + m, by rw [World.drewN_drewN]⟩⟩
theorem drawn_size {w w2 : World} (d : Drawn0 w w2) : w2.heap.size = w.heap.size := by
  obtain ⟨n, rfl⟩ := d
  rfl
theorem got_form {w : World} {v : Value} {xs : List Int} {lo hi : Nat} (h : Got w v xs lo hi) : ∃ A n c, v = .slice A n c := by
  obtain ⟨b, h1, _⟩ := h
  obtain ⟨A, c, e⟩ := h1.rd.form
  exact ⟨A, _, c, e⟩
theorem pick4 (a b c d : Value) : ∀ k, k < 4 → #[a, b, c, d][k]? = some ((fun k => match k with | 0 => a | 1 => b | 2 => c | _ => d) k) := by
  intro k hk
  rcases (by omega : k = 0 ∨ k = 1 ∨ k = 2 ∨ k = 3) with rfl | rfl | rfl | rfl <;> rfl
theorem put_some_ (l : List Int) (h : l.length ≤ 140737488351232) (a n v : Int) : ∃ r e, field_Put.f l a n v = some (r, e) ∧ r.length ≤ l.length := by
  unfold field_Put.f
  rw [if_pos h]
  by_cases h1 : n = 1 ∨ n = 2 ∨ n = 4
  · rw [if_pos h1]
    by_cases h2 : field_part.Inside l a n
    · rw [if_pos h2]
      by_cases h3 : 0 ≤ v ∧ v < 256 ^ n.toNat
      · rw [if_pos h3]
        refine ⟨_, _, rfl, ?_⟩
        obtain ⟨i0, i1, i2, i3⟩ := h2
        rw [putB_length (by omega) v]
        exact Nat.le_refl _
      · rw [if_neg h3]; exact ⟨_, _, rfl, Nat.zero_le _⟩
    · rw [if_neg h2]; exact ⟨_, _, rfl, Nat.zero_le _⟩
  · rw [if_neg h1]; exact ⟨_, _, rfl, Nat.zero_le _⟩
theorem get_some_ {l : List Int} (hb : Bytes l) (h : l.length ≤ 140737488351232) (a n : Int) : ∃ r e, field_Get.f l a n = some (r, e) := by
  unfold field_Get.f
  rw [if_pos hb, if_pos h]
  split
  · split <;> exact ⟨_, _, rfl⟩
  · exact ⟨_, _, rfl⟩
theorem putOut_length (l : List Int) (a n : Int) (s : ByteArray) : (putOut l a n s).1.length ≤ l.length := by
  unfold putOut
  split
  · exact Nat.zero_le _
  · split
    · rename_i h
      obtain ⟨i0, i1, i2, i3⟩ := h
      split
      · exact Nat.zero_le _
      · split
        · have e : (putT l a.toNat n.toNat s).length = l.length := by
            unfold putT
            simp only [List.length_append, List.length_take, List.length_drop, List.length_replicate, nums8_length]
            omega
          rw [e]
          exact Nat.le_refl _
        · exact Nat.zero_le _
    · exact Nat.zero_le _
set_option maxHeartbeats 16000000 in
set_option maxRecDepth 100000 in
theorem law_main (A1 : Option Addr) (c1 : Nat) (l1 : List Int) (a n v : Int) (s : ByteArray) (w : World) (hr1 : ReadsInt w .u8 A1 l1.length l1) (hc1 : l1.length ≤ c1) (hy1 : Bytes l1) (hl1 : l1.length ≤ 140737488351232) :
    Calls Tryd.prog 4 #[.slice A1 l1.length c1, .int .i64 a, .int .i64 n, .int .i64 v, .string s] w fun e w' => e = .returned (.bool true) ∧ Below w.heap.size w w' := by
  have R1 := Aside0.mk hr1
  obtain ⟨x1, e1, hx, hxl⟩ := put_some_ l1 hl1 a n v
  obtain ⟨x2, e2, hg⟩ := get_some_ hy1 hl1 a n
  have hpl := putOut_length l1 a n s
  obtain ⟨⟨x3, e3⟩, hpo⟩ : ∃ z, putOut l1 a n s = z := ⟨_, rfl⟩
  have hput := fun A c w hr hc => put_calls A c l1 a n s w hr hc hl1
  rw [hpo] at hput hpl
  have HP := Aside0.mk hput
  have HX := Aside0.mk hx
  have HXL := Aside0.mk hxl
  have HPL := Aside0.mk (show x3.length ≤ l1.length from hpl)
  have HG := Aside0.mk hg
  have HY := Aside0.mk hy1
  have HW := Aside0.mk (skerrylaw01_wakes.calls true w (by decide +kernel))
  clear hr1 hx hxl hg hpl hpo hput hy1
  go_enter Tryd.func4, Tryd.ntmps4
  go_wp2_with fail
  refine HW.out.mono ?_
  rintro e w1 ⟨rfl, hb1⟩
  have HB1 := Aside0.mk hb1
  clear hb1 HW
  go_wp2_with fail
  refine (roomy_calls A1 c1 l1 w1 (R1.out.below HB1.out) (by omega)).mono ?_
  rintro e w2 ⟨rfl, hg2, hb2⟩
  obtain ⟨gr, hgr⟩ : ∃ gr, w1.heap.size = gr := ⟨_, rfl⟩
  rw [hgr] at hg2 hb2 ⊢
  have HG2 := Aside0.mk hg2
  have HGR := Aside0.mk hgr
  have HB2 : Aside0 (Below w.heap.size w w2) := ⟨HB1.out.trans (hb2.mono (by have := HB1.out.size; omega))⟩
  have HK2 := Aside0.mk (show gr < w2.heap.size from (Array.getElem?_eq_some_iff.1 hg2).1)
  clear hg2 hb2 hgr
  go_wp2_with fail
  refine (field_Put.calls (some ⟨gr, 0, none⟩) _ l1 a n v x1 e1 w2 (row_int (reads_fill HG2.out (by omega))) (by omega) HX.out).mono ?_
  rintro e w3 ⟨v3, rfl, hr3, hb3⟩
  have GX := Aside0.mk (Got.of_R hr3)
  have HG3 := Aside0.mk ((hb3.block gr HK2.out).trans HG2.out)
  have HB3 : Aside0 (Below w.heap.size w w3) := ⟨HB2.out.trans (hb3.mono HB2.out.size)⟩
  have HK3 := Aside0.mk hb3.size
  clear hr3 hb3
  go_wp2_with fail
  refine (field_Put.calls (some ⟨gr, 0, none⟩) _ l1 a n v x1 e1 w3 (row_int (reads_fill HG3.out (by omega))) (by omega) HX.out).mono ?_
  rintro e w4 ⟨v4, rfl, hr4, hb4⟩
  have GY := Aside0.mk (Got.of_R hr4)
  have GX4 := Aside0.mk (GX.out.below hb4 (Nat.le_refl _))
  have HG4 := Aside0.mk ((hb4.block gr (Nat.lt_of_lt_of_le HK2.out HK3.out)).trans HG3.out)
  have HB4 : Aside0 (Below w.heap.size w w4) := ⟨HB3.out.trans (hb4.mono HB3.out.size)⟩
  have HK4 := Aside0.mk hb4.size
  clear hr4 hb4 GX HG3 HB3
  go_wp2_with fail
  refine (HP.out (some ⟨gr, 0, none⟩) _ w4 (row_int (reads_fill HG4.out (by omega))) (by omega)).mono ?_
  rintro e w5 ⟨v5, rfl, hr5, hb5⟩
  have GP := Aside0.mk (Got.of_R hr5)
  have GX5 := Aside0.mk (GX4.out.below hb5 HK4.out)
  have GY5 := Aside0.mk (GY.out.below hb5 (Nat.le_refl _))
  have HG5 := Aside0.mk ((hb5.block gr (by have := HK2.out; have := HK3.out; have := HK4.out; omega)).trans HG4.out)
  have HB5 : Aside0 (Below w.heap.size w w5) := ⟨HB4.out.trans (hb5.mono HB4.out.size)⟩
  have HK5 := Aside0.mk hb5.size
  clear hr5 hb5 GX4 GY HG4 HB4
  go_wp2_with fail
  refine (HP.out (some ⟨gr, 0, none⟩) _ w5 (row_int (reads_fill HG5.out (by omega))) (by omega)).mono ?_
  rintro e w6 ⟨v6, rfl, hr6, hb6⟩
  have GQ := Aside0.mk (Got.of_R hr6)
  have GX6 := Aside0.mk (GX5.out.below hb6 (by have := HK4.out; have := HK5.out; omega))
  have GY6 := Aside0.mk (GY5.out.below hb6 HK5.out)
  have GP6 := Aside0.mk (GP.out.below hb6 (Nat.le_refl _))
  have HG6 := Aside0.mk ((hb6.block gr (by have := HK2.out; have := HK3.out; have := HK4.out; have := HK5.out; omega)).trans HG5.out)
  have HB6 : Aside0 (Below w.heap.size w w6) := ⟨HB5.out.trans (hb6.mono HB5.out.size)⟩
  have HK6 := Aside0.mk hb6.size
  clear hr6 hb6 GX5 GY5 GP HG5 HB5
  go_wp2_with fail
  refine (field_Get.calls (some ⟨gr, 0, none⟩) _ l1 a n x2 e2 w6 (row_int (reads_fill HG6.out (by omega))) (by omega) HG.out).mono ?_
  rintro e w7 ⟨rfl, hb7⟩
  have GX7 := Aside0.mk (GX6.out.below hb7 (by have := HK4.out; have := HK5.out; have := HK6.out; omega))
  have GY7 := Aside0.mk (GY6.out.below hb7 (by have := HK5.out; have := HK6.out; omega))
  have GP7 := Aside0.mk (GP6.out.below hb7 HK6.out)
  have GQ7 := Aside0.mk (GQ.out.below hb7 (Nat.le_refl _))
  have HG7 := Aside0.mk ((hb7.block gr (by have := HK2.out; have := HK3.out; have := HK4.out; have := HK5.out; have := HK6.out; omega)).trans HG6.out)
  have HB7 : Aside0 (Below w.heap.size w w7) := ⟨HB6.out.trans (hb7.mono HB6.out.size)⟩
  have HK7 := Aside0.mk hb7.size
  clear hb7 GX6 GY6 GP6 GQ HG6 HB6
  have HT := Aside0.mk (text_any (some ⟨gr, 0, none⟩) (l1.length + 4) l1 a n w7 (row_int (reads_fill HG7.out (by omega))) (by omega) hl1)
  go_wp2_with fail
  refine HT.out.mono ?_
  rintro e w8 ⟨⟨st, er, rfl⟩, hd8⟩
  have HD8 := Aside0.mk (drawn_of hd8)
  clear hd8 HT
  have HZ := Aside0.mk (zero_calls (some ⟨gr, 0, none⟩) (l1.length + 4) l1 a n w8 (row_int (reads_fill ((blk_drawn HD8.out _).trans HG7.out) (by omega))) (by omega) hl1)
  go_wp2_with fail
  refine HZ.out.mono ?_
  rintro e w9 ⟨⟨zb, zr, rfl⟩, hd9⟩
  have HD9 := Aside0.mk (drawn_trans HD8.out (drawn_of hd9))
  clear hd9 HZ HD8
  have HG9 := Aside0.mk ((blk_drawn HD9.out gr).trans HG7.out)
  have HB9 : Aside0 (Below w.heap.size w w9) := ⟨HB7.out.trans (HD9.out.below.mono HB7.out.size)⟩
  go_wp2_with fail
  refine (kept_calls gr A1 c1 l1 w9 HG9.out (R1.out.below HB9.out) (by omega)).mono ?_
  rintro e w12 ⟨rfl, hd12⟩
  have HD12 := Aside0.mk (drawn_trans HD9.out hd12)
  have HZ12 : Aside0 (w12.heap.size = w7.heap.size) := ⟨drawn_size HD12.out⟩
  clear hd12 HD9 HG9 HB9
  obtain ⟨Ax, nx, cx, rfl⟩ : ∃ A n c, v3 = .slice A n c := got_form GX7.out
  obtain ⟨Ay, ny, cy, rfl⟩ : ∃ A n c, v4 = .slice A n c := got_form GY7.out
  obtain ⟨Ap, np, cp, rfl⟩ : ∃ A n c, v5 = .slice A n c := got_form GP7.out
  obtain ⟨Aq, nq, cq, rfl⟩ : ∃ A n c, v6 = .slice A n c := got_form GQ7.out
  go_wp2_with fail
  refine (apart_got 4 4 (fun k => match k with | 0 => _ | 1 => _ | 2 => _ | _ => _) (fun k => match k with | 0 => x1 | 1 => x1 | 2 => x3 | _ => x3) (fun k => match k with | 0 => w2.heap.size | 1 => w3.heap.size | 2 => w4.heap.size | _ => w5.heap.size) (fun k => match k with | 0 => w3.heap.size | 1 => w4.heap.size | 2 => w5.heap.size | _ => w6.heap.size) w2.heap.size w12 (by omega) (by omega) ?_ ?_ ?_ ?_ ?_ _ rfl _ (pick4 _ _ _ _)).mono ?_
  · intro k hk
    rcases (by omega : k = 0 ∨ k = 1 ∨ k = 2 ∨ k = 3) with rfl | rfl | rfl | rfl
    · exact GX7.out.below HD12.out.below (by have := HK4.out; have := HK5.out; have := HK6.out; have := HK7.out; omega)
    · exact GY7.out.below HD12.out.below (by have := HK5.out; have := HK6.out; have := HK7.out; omega)
    · exact GP7.out.below HD12.out.below (by have := HK6.out; have := HK7.out; omega)
    · exact GQ7.out.below HD12.out.below HK7.out
  · intro k l hk hl hkl
    have := HK3.out; have := HK4.out; have := HK5.out; have := HK6.out
    rcases (by omega : (k = 0 ∧ l = 1) ∨ (k = 0 ∧ l = 2) ∨ (k = 0 ∧ l = 3) ∨ (k = 1 ∧ l = 2) ∨ (k = 1 ∧ l = 3) ∨ (k = 2 ∧ l = 3)) with ⟨rfl, rfl⟩ | ⟨rfl, rfl⟩ | ⟨rfl, rfl⟩ | ⟨rfl, rfl⟩ | ⟨rfl, rfl⟩ | ⟨rfl, rfl⟩ <;> refine .inl ?_ <;> simp only <;> omega
  · intro k hk
    have := HXL.out; have := HPL.out
    rcases (by omega : k = 0 ∨ k = 1 ∨ k = 2 ∨ k = 3) with rfl | rfl | rfl | rfl <;> simp only <;> omega
  · intro k hk
    have := HK3.out; have := HK4.out; have := HK5.out
    rcases (by omega : k = 0 ∨ k = 1 ∨ k = 2 ∨ k = 3) with rfl | rfl | rfl | rfl <;> simp only <;> omega
  · have := HK3.out; have := HK4.out; have := HK5.out; have := HK6.out; have := HK7.out; have := HZ12.out
    omega
  rintro e w13 ⟨rfl, hb13⟩
  have HB13 := Aside0.mk hb13
  clear hb13
  have HB12 : Aside0 (Below w.heap.size w (w12.alloc (.cells #[.slice Ax nx cx, .slice Ay ny cy, .slice Ap np cp, .slice Aq nq cq] 22))) := ⟨(HB7.out.trans (HD12.out.below.mono HB7.out.size)).alloc (by have := HZ12.out; have := HB7.out.size; omega) _⟩
  have HB : Aside0 (Below w.heap.size w w13) := ⟨HB12.out.trans (HB13.out.mono HB2.out.size)⟩
  have HG13 : Aside0 (w13.heap[gr]? = some (.cells (nums .u8 (fill l1 (l1.length + 4))).toArray 5 (0, 0))) := ⟨by
    rw [HB13.out.block gr HK2.out, Below.heap_alloc _ _ _ (by have := HK2.out; have := HK3.out; have := HK4.out; have := HK5.out; have := HK6.out; have := HK7.out; have := HZ12.out; omega), blk_drawn HD12.out]
    exact HG7.out⟩
  go_wp2_with fail
  refine (kept_calls gr A1 c1 l1 w13 HG13.out (R1.out.below HB.out) (by omega)).mono ?_
  rintro e w14 ⟨rfl, hd14⟩
  have HD14 := Aside0.mk hd14
  clear hd14
  go_wp2_with fail
  go_ret
  exact ⟨rfl, HB.out.trans (HD14.out.below.mono HB.out.size)⟩
theorem keeps_row (A : Option Addr) (c : Nat) (l : List Int) (a n v : Int) (s : ByteArray) (w : World) (hr : ReadsInt w .u8 A l.length l) (hc : l.length ≤ c) (hw : ∀ x ∈ l, (Lit.int .u8 x).wf = true) (y : l.length * 1 ≤ 140737488351232) (_ : (Lit.int .i64 a).wf = true) (_ : (Lit.int .i64 n).wf = true) (_ : (Lit.int .i64 v).wf = true) (_ : s.size ≤ 1125899906842624) :
    Calls Tryd.prog 4 #[.slice A l.length c, .int .i64 a, .int .i64 n, .int .i64 v, .string s] w fun e w' => e = .returned (.bool true) ∧ Below w.heap.size w w' :=
  law_main A c l a n v s w hr hc (bytes_wf hw) (by omega)
end Go.Proofs.YtkfeigigjilaiaaDoor.Keeps
