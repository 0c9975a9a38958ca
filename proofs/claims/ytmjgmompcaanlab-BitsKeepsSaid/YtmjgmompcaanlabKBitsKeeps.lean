/- Bytes that are handed in are not changed, what is answered is new memory: the walk of the law. No conditions. -/
import Derived.Test.YtmjgmompcaanlabKGot
import Derived.Test.YtmjgmompcaanlabPureBitsKeeps
import Derived.Deep.CutRange
import Derived.Outline
namespace Go.Proofs.Ytmjgmompcaanlab.Keeps
open Go.RowKit Go.Proofs.Ytmjgmompcaanlab.PBitsKeeps Go.Proofs.Ytmjgmompcaanlab.Plain Go.Proofs.YtmjgmompcaanlabW.PrintWords Go.Proofs.YtmjgmompcaanlabW.PrintLast Go.Proofs.YtmjgmompcaanlabW.PrintMore
set_option linter.unusedVariables false
set_option linter.unusedSimpArgs false
theorem info3 : (Try.prog.info? 3).map (fun i => (i.zero, i.size, i.bytes)) = some (some (.int .i64 0), 1, 8) := by kernel_rfl
theorem row_i64 {w : World} {A : Option Addr} {xs : List Int} (h : ReadsInt w .i64 A xs.length xs) : (Kd.int .i64).C w A xs.length xs := Kd.C_of_reads (d := (0 : Int)) (h1 := fun _ => rfl) (readsInt_of.1 h)
theorem row_lit64 (w0 W : World) (hb : w0.heap.size ≤ W.heap.size) : (Kd.int .i64).R 3 (W.alloc (.cells #[] 3)) w0.heap.size (fun _ => True) (.slice (some ⟨W.heap.size, 0, none⟩) 0 0) [] :=
  Kd.R_of_own (enc := Value.int .i64) (h1 := fun _ => rfl) (own_lit W w0.heap.size 3 .i64 [] hb (by decide)) (fun _ _ => trivial)
theorem blk_drawn {w w2 : World} (d : Drawn0 w w2) (g : Nat) : w2.heap[g]? = w.heap[g]? := by
  obtain ⟨n, rfl⟩ := d
  rfl
theorem drawn_trans {a b c : World} (h : Drawn0 a b) (k : Drawn0 b c) : Drawn0 a c := by
  obtain ⟨n, rfl⟩ := h
  obtain ⟨m, rfl⟩ := k
  exact ⟨⟨n + m, by rw [World.drewN_drewN]⟩⟩
theorem drawn_size {w w2 : World} (d : Drawn0 w w2) : w2.heap.size = w.heap.size := by
  obtain ⟨n, rfl⟩ := d
  rfl
theorem C_drawn {α : Type} {d : Kd α} {w w2 : World} {A : Option Addr} {n : Nat} {xs : List α} (hd : Drawn0 w w2) (h : d.C w A n xs) : d.C w2 A n xs := Kd.C_below h hd.below
theorem got_form {w : World} {v : Value} {xs : List Int} {lo hi : Nat} (h : Got w v xs lo hi) : ∃ A n c, v = .slice A n c := by
  obtain ⟨b, h1, _⟩ := h
  obtain ⟨A, c, e⟩ := h1.rd.form
  exact ⟨A, _, c, e⟩
theorem pick4 (a b c d : Value) : ∀ k, k < 4 → #[a, b, c, d][k]? = some ((fun k => match k with | 0 => a | 1 => b | 2 => c | _ => d) k) := by
  intro k hk
  rcases (by omega : k = 0 ∨ k = 1 ∨ k = 2 ∨ k = 3) with rfl | rfl | rfl | rfl <;> rfl
set_option maxHeartbeats 16000000 in
set_option maxRecDepth 100000 in
theorem law_main (A1 A2 : Option Addr) (c1 c2 : Nat) (l1 l2 : List Int) (i : Int) (w : World) (hr1 : ReadsInt w .u8 A1 l1.length l1) (hr2 : ReadsInt w .i64 A2 l2.length l2) (hc1 : l1.length ≤ c1) (hc2 : l2.length ≤ c2) (hy1 : Bytes l1) (hi : i ≤ 9223372036854775807) (hl1 : l1.length ≤ 140737488351232) (hl2 : l2.length ≤ 17592186043904) :
    Calls Try.prog 8 #[.slice A1 l1.length c1, .int .i64 i, .slice A2 l2.length c2] w fun e w' => e = .returned (.bool true) ∧ Below w.heap.size w w' := by
  have R1 := Aside0.mk hr1
  have R2 := Aside0.mk hr2
  obtain ⟨x1, e1, hx, hxl⟩ := Pure.set_some hy1 hl1 i hi true
  obtain ⟨x2, e2, hy, hyl⟩ := Pure.set_some hy1 hl1 i hi false
  obtain ⟨x3, e3, hg⟩ := Pure.get_some hy1 hl1 i hi
  obtain ⟨x4, e4, hcn⟩ := Pure.cnt_some hy1 hl1 i
  obtain ⟨x5, e5, hfi⟩ := Pure.first_some hy1 hl1 i
  obtain ⟨x6, e6, hmk, hml⟩ := Pure.make_some l2 (by omega)
  have hsi := Pure.same_self l2 (by omega)
  have HX := Aside0.mk hx
  have HXL := Aside0.mk hxl
  have HY := Aside0.mk hy
  have HYL := Aside0.mk hyl
  have HG := Aside0.mk hg
  have HCN := Aside0.mk hcn
  have HFI := Aside0.mk hfi
  have HMK := Aside0.mk hmk
  have HML := Aside0.mk hml
  have HSI := Aside0.mk hsi
  clear hr1 hr2 hx hxl hy hyl hg hcn hfi hmk hml hsi
  go_enter Try.func8, Try.ntmps8
  go_wp2_with fail
  refine (skerrylaw04_wakes.calls 40 true _ (Pure.wakes_all (Nat.le_refl _))).mono ?_
  rintro e w1 ⟨rfl, hb1⟩
  have HB1 := Aside0.mk hb1
  clear hb1
  go_wp2_with fail
  refine (roomy_calls A1 c1 l1 w1 (R1.out.below HB1.out) (by omega)).mono ?_
  rintro e w2 ⟨rfl, hg2, hb2⟩
  obtain ⟨gr, hgr⟩ : ∃ gr, w1.heap.size = gr := ⟨_, rfl⟩
  rw [hgr] at hg2 hb2 ⊢
  have HG2 := Aside0.mk hg2
  have HGR := Aside0.mk hgr
  have HB2 : Aside0 (Below w.heap.size w w2) := ⟨HB1.out.trans (hb2.mono (by have := HB1.out.size; omega))⟩
  have HK2 := Aside0.mk (show gr < w2.heap.size from (Array.getElem?_eq_some_iff.1 hg2).1)
  clear hg2 hb2 hgr
  go_wp2_with fail
  refine (bits_Set.calls 1 (some ⟨gr, 0, none⟩) _ l1 i true x1 e1 w2 (row_int (reads_fill HG2.out (by omega))) (by omega) HX.out).mono ?_
  rintro e w3 ⟨v3, rfl, hr3, hb3⟩
  have GX := Aside0.mk (Got.of_R hr3)
  have HG3 := Aside0.mk ((hb3.block gr HK2.out).trans HG2.out)
  have HB3 : Aside0 (Below w.heap.size w w3) := ⟨HB2.out.trans (hb3.mono HB2.out.size)⟩
  have HK3 := Aside0.mk hb3.size
  clear hr3 hb3
  go_wp2_with fail
  refine (bits_Set.calls 1 (some ⟨gr, 0, none⟩) _ l1 i false x2 e2 w3 (row_int (reads_fill HG3.out (by omega))) (by omega) HY.out).mono ?_
  rintro e w4 ⟨v4, rfl, hr4, hb4⟩
  have GY := Aside0.mk (Got.of_R hr4)
  have GX4 := Aside0.mk (GX.out.below hb4 (Nat.le_refl _))
  have HG4 := Aside0.mk ((hb4.block gr (Nat.lt_of_lt_of_le HK2.out HK3.out)).trans HG3.out)
  have HB4 : Aside0 (Below w.heap.size w w4) := ⟨HB3.out.trans (hb4.mono HB3.out.size)⟩
  have HK4 := Aside0.mk hb4.size
  clear hr4 hb4 GX HG3 HB3
  go_wp2_with fail
  refine (bits_Get.calls (some ⟨gr, 0, none⟩) _ l1 i x3 e3 w4 (row_int (reads_fill HG4.out (by omega))) (by omega) HG.out).mono ?_
  rintro e w5 ⟨rfl, hd5⟩
  have HD5 := Aside0.mk hd5
  clear hd5
  go_wp2_with fail
  refine (bits_Count.calls (some ⟨gr, 0, none⟩) _ l1 0 i x4 e4 w5 (row_int (reads_fill ((blk_drawn HD5.out _).trans HG4.out) (by omega))) (by omega) HCN.out).mono ?_
  rintro e w6 ⟨rfl, hd6⟩
  have HD6 := Aside0.mk (drawn_trans HD5.out hd6)
  clear hd6 HD5
  go_wp2_with fail
  refine (bits_First.calls (some ⟨gr, 0, none⟩) _ l1 0 i x5 e5 w6 (row_int (reads_fill ((blk_drawn HD6.out _).trans HG4.out) (by omega))) (by omega) HFI.out).mono ?_
  rintro e w7 ⟨rfl, hd7⟩
  have HD7 := Aside0.mk (drawn_trans HD6.out hd7)
  clear hd7 HD6
  have HB7 : Aside0 (Below w.heap.size w w7) := ⟨HB4.out.trans (HD7.out.below.mono HB4.out.size)⟩
  have GX7 := Aside0.mk (GX4.out.below HD7.out.below (HK4.out))
  have GY7 := Aside0.mk (GY.out.below HD7.out.below (Nat.le_refl _))
  have HG7 := Aside0.mk ((blk_drawn HD7.out gr).trans HG4.out)
  have HK7 := Aside0.mk HD7.out.below.size
  clear GX4 GY HG4 HB4 HD7
  have h8 : l2.length * 8 ≤ 140737488355328 := by omega
  go_upto_region 10 with ((with_reducible refine gate_builtin (b := .append) (xs := #[.tmp 51, .tmp 52]) rfl ?_); at_builtin; refine Kd.R_append_rows (Kd.int .i64) (w0 := w7) w7.heap.size rfl (.tmp 51) (.tmp 52) 22 3 (.int .i64 0) 8 rfl Try.underlying22 info3 rfl (by decide) (by omega) _ [] l2 _ _ _ (fun _ => True) (fun _ => False) rfl rfl (row_lit64 w7 w7 (Nat.le_refl _)) (Kd.C_alloc (Kd.C_below (row_i64 R2.out) HB7.out) _) (fun _ _ h => h) (fun _ h => h.elim) (fun _ _ => trivial) ((Below.refl _ _).alloc (Nat.le_refl _) _) (by simp) (by simpa using h8) ?_; intro v2 w8 ho hb hg hat; have HO := Aside0.mk ho; have HB8 := Aside0.mk hb; clear ho hb hg hat)
  obtain ⟨A4, c4, rfl, hc4, hr4⟩ := Kd.R_reads (show (Kd.int .i64).R 3 w8 w7.heap.size (fun _ => True) v2 l2 from HO.out)
  have R4 := Aside0.mk hr4
  clear hr4 HO
  have HB8' : Aside0 (Below w.heap.size w w8) := ⟨HB7.out.trans (HB8.out.mono HB7.out.size)⟩
  have GX8 := Aside0.mk (GX7.out.below HB8.out (by have := HK4.out; have := HK7.out; omega))
  have GY8 := Aside0.mk (GY7.out.below HB8.out HK7.out)
  have HG8 := Aside0.mk ((HB8.out.block gr (by have := HK2.out; have := HK3.out; have := HK4.out; have := HK7.out; omega)).trans HG7.out)
  have HK8 := Aside0.mk HB8.out.size
  clear GX7 GY7 HG7 HB7 HB8
  go_wp2_with fail
  refine (bits_Make.calls _ 64 A4 c4 l2 x6 e6 w8 R4.out hc4 HMK.out).mono ?_
  rintro e w9 ⟨v9, rfl, hr9, hb9⟩
  have GP := Aside0.mk (Got.of_R hr9)
  have GX9 := Aside0.mk (GX8.out.below hb9 (by have := HK4.out; have := HK7.out; have := HK8.out; omega))
  have GY9 := Aside0.mk (GY8.out.below hb9 (by have := HK4.out; have := HK7.out; have := HK8.out; omega))
  have HG9 := Aside0.mk ((hb9.block gr (by have := HK2.out; have := HK3.out; have := HK4.out; have := HK7.out; have := HK8.out; omega)).trans HG8.out)
  have HB9 : Aside0 (Below w.heap.size w w9) := ⟨HB8'.out.trans (hb9.mono HB8'.out.size)⟩
  have R9 := Aside0.mk (Kd.C_below R4.out hb9)
  have HK9 := Aside0.mk hb9.size
  clear hr9 hb9 GX8 GY8 HG8 HB8' R4
  go_wp2_with fail
  refine (bits_Make.calls _ 64 A4 c4 l2 x6 e6 w9 R9.out hc4 HMK.out).mono ?_
  rintro e w10 ⟨v10, rfl, hr10, hb10⟩
  have GQ := Aside0.mk (Got.of_R hr10)
  have GX10 := Aside0.mk (GX9.out.below hb10 (by have := HK4.out; have := HK7.out; have := HK8.out; have := HK9.out; omega))
  have GY10 := Aside0.mk (GY9.out.below hb10 (by have := HK4.out; have := HK7.out; have := HK8.out; have := HK9.out; omega))
  have GP10 := Aside0.mk (GP.out.below hb10 (by omega))
  have HG10 := Aside0.mk ((hb10.block gr (by have := HK2.out; have := HK3.out; have := HK4.out; have := HK7.out; have := HK8.out; have := HK9.out; omega)).trans HG9.out)
  have HB10 : Aside0 (Below w.heap.size w w10) := ⟨HB9.out.trans (hb10.mono HB9.out.size)⟩
  have R10 := Aside0.mk (Kd.C_below R9.out hb10)
  have HK10 := Aside0.mk hb10.size
  clear hr10 hb10 GX9 GY9 GP HG9 HB9 R9
  go_wp2_with fail
  refine (kept_calls gr A1 c1 l1 w10 HG10.out (R1.out.below HB10.out) (by omega)).mono ?_
  rintro e w11 ⟨rfl, hd11⟩
  have HD11 := Aside0.mk hd11
  clear hd11
  go_wp2_with fail
  refine (skerryref01_SameInts.calls _ A4 c4 l2 A2 c2 l2 true w11 (C_drawn HD11.out R10.out) hc4 (C_drawn HD11.out (Kd.C_below (row_i64 R2.out) HB10.out)) hc2 HSI.out).mono ?_
  rintro e w12 ⟨rfl, hd12⟩
  have HD12 := Aside0.mk (drawn_trans HD11.out hd12)
  have HZ12 : Aside0 (w12.heap.size = w10.heap.size) := ⟨drawn_size HD12.out⟩
  clear hd12 HD11
  obtain ⟨Ax, nx, cx, rfl⟩ : ∃ A n c, v3 = .slice A n c := got_form GX10.out
  obtain ⟨Ay, ny, cy, rfl⟩ : ∃ A n c, v4 = .slice A n c := got_form GY10.out
  obtain ⟨Ap, np, cp, rfl⟩ : ∃ A n c, v9 = .slice A n c := got_form GP10.out
  obtain ⟨Aq, nq, cq, rfl⟩ : ∃ A n c, v10 = .slice A n c := got_form GQ.out
  go_wp2_with fail
  refine (apart_got 4 4 (fun k => match k with | 0 => _ | 1 => _ | 2 => _ | _ => _) (fun k => match k with | 0 => x1 | 1 => x2 | 2 => x6 | _ => x6) (fun k => match k with | 0 => w2.heap.size | 1 => w3.heap.size | 2 => w8.heap.size | _ => w9.heap.size) (fun k => match k with | 0 => w3.heap.size | 1 => w4.heap.size | 2 => w9.heap.size | _ => w10.heap.size) w2.heap.size w12 (by omega) (by omega) ?_ ?_ ?_ ?_ ?_ _ rfl _ (pick4 _ _ _ _)).mono ?_
  · intro k hk
    rcases (by omega : k = 0 ∨ k = 1 ∨ k = 2 ∨ k = 3) with rfl | rfl | rfl | rfl
    · exact GX10.out.below HD12.out.below (by have := HK4.out; have := HK7.out; have := HK8.out; have := HK9.out; have := HK10.out; omega)
    · exact GY10.out.below HD12.out.below (by have := HK4.out; have := HK7.out; have := HK8.out; have := HK9.out; have := HK10.out; omega)
    · exact GP10.out.below HD12.out.below (by have := HK10.out; omega)
    · exact GQ.out.below HD12.out.below (by have := HK10.out; omega)
  · intro k l hk hl hkl
    have := HK3.out; have := HK4.out; have := HK7.out; have := HK8.out; have := HK9.out; have := HK10.out
    rcases (by omega : (k = 0 ∧ l = 1) ∨ (k = 0 ∧ l = 2) ∨ (k = 0 ∧ l = 3) ∨ (k = 1 ∧ l = 2) ∨ (k = 1 ∧ l = 3) ∨ (k = 2 ∧ l = 3)) with ⟨rfl, rfl⟩ | ⟨rfl, rfl⟩ | ⟨rfl, rfl⟩ | ⟨rfl, rfl⟩ | ⟨rfl, rfl⟩ | ⟨rfl, rfl⟩ <;> refine .inl ?_ <;> simp only <;> omega
  · intro k hk
    have := HXL.out; have := HYL.out; have := HML.out
    rcases (by omega : k = 0 ∨ k = 1 ∨ k = 2 ∨ k = 3) with rfl | rfl | rfl | rfl <;> simp only <;> omega
  · intro k hk
    have := HK3.out; have := HK4.out; have := HK7.out; have := HK8.out; have := HK9.out; have := HK10.out
    rcases (by omega : k = 0 ∨ k = 1 ∨ k = 2 ∨ k = 3) with rfl | rfl | rfl | rfl <;> simp only <;> omega
  · have := HK3.out; have := HK4.out; have := HK7.out; have := HK8.out; have := HK9.out; have := HK10.out; have := HZ12.out
    omega
  rintro e w13 ⟨rfl, hb13⟩
  have HB13 := Aside0.mk hb13
  clear hb13
  have HB12 : Aside0 (Below w.heap.size w (w12.alloc (.cells #[.slice Ax nx cx, .slice Ay ny cy, .slice Ap np cp, .slice Aq nq cq] 24))) := ⟨(HB10.out.trans (HD12.out.below.mono HB10.out.size)).alloc (by have := HZ12.out; have := HB10.out.size; omega) _⟩
  have HB : Aside0 (Below w.heap.size w w13) := ⟨HB12.out.trans (HB13.out.mono HB2.out.size)⟩
  have HG13 : Aside0 (w13.heap[gr]? = some (.cells (nums .u8 (fill l1 (l1.length + 4))).toArray 5 (0, 0))) := ⟨by
    rw [HB13.out.block gr HK2.out, Below.heap_alloc _ _ _ (by have := HK2.out; have := HK3.out; have := HK4.out; have := HK7.out; have := HK8.out; have := HK9.out; have := HK10.out; have := HZ12.out; omega), blk_drawn HD12.out]
    exact HG10.out⟩
  go_wp2_with fail
  refine (kept_calls gr A1 c1 l1 w13 HG13.out (R1.out.below HB.out) (by omega)).mono ?_
  rintro e w14 ⟨rfl, hd14⟩
  have HD14 := Aside0.mk hd14
  clear hd14
  go_wp2_with fail
  go_ret
  exact ⟨rfl, HB.out.trans (HD14.out.below.mono HB.out.size)⟩
theorem law_row (A1 : Option Addr) (c1 : Nat) (l1 : List Int) (i : Int) (A2 : Option Addr) (c2 : Nat) (l2 : List Int) (w : World) (hr1 : ReadsInt w .u8 A1 l1.length l1) (hc1 : l1.length ≤ c1) (hw1 : ∀ x ∈ l1, (Lit.int .u8 x).wf = true) (hy1 : l1.length * 1 ≤ 140737488351232) (hi : (Lit.int .i64 i).wf = true) (hr2 : ReadsInt w .i64 A2 l2.length l2) (hc2 : l2.length ≤ c2) (hw2 : ∀ x ∈ l2, (Lit.int .i64 x).wf = true) (hy2 : l2.length * 8 ≤ 140737488351232) :
    Calls Try.prog 8 #[.slice A1 l1.length c1, .int .i64 i, .slice A2 l2.length c2] w fun e w' => e = .returned (.bool true) ∧ Below w.heap.size w w' := by
  have := i64_wf hi
  exact law_main A1 A2 c1 c2 l1 l2 i w hr1 hr2 hc1 hc2 (bytes_wf hw1) (by omega) (by omega) (by omega)
end Go.Proofs.Ytmjgmompcaanlab.Keeps
