/- The reference reads an inode: a contract. -/
import Derived.Test.YtbplffdmggbcdaaDoorKKUninode
import Derived.Test.YtbplffdmggbcdaaDoorKKRinode
namespace Go.Proofs.YtbplffdmggbcdaaDoor.Codec
open Go.RowKit Go.Proofs.YtbplffdmggbcdaaDoor.PCodecInodes Go.Proofs.YtbplffdmggbcdaaDoor.Plain Go.Proofs.YtbplffdmggbcdaaDoor.Pure Go.Proofs.YtbplffdmggbcdaaDoorW.PrintWords Go.Proofs.YtbplffdmggbcdaaDoorW.PrintLast Go.Proofs.YtbplffdmggbcdaaDoorW.PrintMore
set_option linter.unusedVariables false
set_option linter.unusedSimpArgs false

theorem rnumI_calls {A : Option Addr} {c : Nat} {l : List Int} (hc : l.length ≤ c) (hl : Bytes l) (hs : l.length ≤ 140737488351232) (a n : Nat) (hn : n = 1 ∨ n = 2 ∨ n = 4) (h : a + n ≤ l.length) (W : World) (hr : Kd.C (Kd.int .u8) W A l.length l) :
    Calls Tryd.prog 39 #[.slice A l.length c, .int .i64 a, .int .i64 n] W fun e w' => e = .returned (.int .i64 (nmI l a n)) ∧ Below W.heap.size W w' := by
  refine (skerryref06_num.calls 8 A c l a n (nmI l a n) W hr hc ?_).mono ?_
  · unfold skerryref06_num.f nmI
    rw [rget_yes hl hs (by omega) ⟨by omega, by omega, by omega, by omega⟩ 0]
    rfl
  · rintro e w' ⟨rfl, hd⟩
    exact ⟨rfl, hd.below⟩
set_option maxHeartbeats 4000000 in
set_option maxRecDepth 100000 in
theorem runinode_calls (A : Option Addr) (c : Nat) (l : List Int) (w : World) (hr : Kd.C (Kd.int .u8) w A l.length l) (hc : l.length ≤ c) (hl : Bytes l) (hs : l.length ≤ 140737488351232) :
    Calls Tryd.prog 10 #[.slice A l.length c] w fun e w' => e = .returned (.tuple #[aggI (uniVals l), .int .i64 (uniErr l)]) ∧ Below w.heap.size w w' := by
  have hu := Tryd.underlying24
  have u22 := Tryd.underlying22
  have HR0 := Aside0.mk hr
  by_cases h32 : l.length = 32
  rotate_left
  · have hb : ((l.length : Int) != 32) = true := bne_iff_ne.2 (by omega)
    have hb2 : (l.length != 32) = true := bne_iff_ne.2 h32
    have hb3 : (l.length == 32) = false := beq_eq_false_iff_ne.2 h32
    have HU : Aside0 (uniVals l = [0, 0, 0, 0, 0, 0, 0, 0, 0, 0, 0, 0, 0] ∧ uniErr l = 4) := ⟨by unfold uniVals uniErr; rw [if_neg (fun h => h32 h.1), if_neg (fun h => h32 h.1)]; exact ⟨rfl, rfl⟩⟩
    clear hr hc hl hs h32
    go_enter Tryd.func10, Tryd.ntmps10
    go_upto_region 1 with (((with_reducible refine gate_dst (N := 2) rfl ?_); refine box_event ?hg (N := 2) ?hd (cs := #[.int .i64 0, .int .i64 0, .int .i64 0, .int .i64 0, .int .i64 0, .int .i64 0, .int .i64 0, .int .i64 0, .int .i64 0, .int .i64 0, .int .i64 0, .int .i64 0, .int .i64 0]) (t := 24) ?hr ?_; (case hd => rfl); (case hg => rfl); (case hr => first | (go_simp; done) | (go_simp; rfl)); intro X hgX w1 hbox hb; have BKX := Aside0.mk hbox; have BHX := Aside0.mk hb; have GEX := Aside0.mk hgX; clear hb hbox hgX))
    have HGE : Aside0 (w.heap.size ≤ X) := ⟨by have := GEX.out; omega⟩
    have HX2 := Aside0.mk BKX.out
    have HB2 := Aside0.mk BHX.out
    clear BKX BHX GEX
    have x0 : w1.cell? ⟨X, 0, none⟩ = some (.int .i64 0) := (blk_cell HX2.out 0).trans rfl
    have x1 : w1.cell? ⟨X, 1, none⟩ = some (.int .i64 0) := (blk_cell HX2.out 1).trans rfl
    have x2 : w1.cell? ⟨X, 2, none⟩ = some (.int .i64 0) := (blk_cell HX2.out 2).trans rfl
    have x3 : w1.cell? ⟨X, 3, none⟩ = some (.int .i64 0) := (blk_cell HX2.out 3).trans rfl
    have x4 : w1.cell? ⟨X, 4, none⟩ = some (.int .i64 0) := (blk_cell HX2.out 4).trans rfl
    have x5 : w1.cell? ⟨X, 5, none⟩ = some (.int .i64 0) := (blk_cell HX2.out 5).trans rfl
    have x6 : w1.cell? ⟨X, 6, none⟩ = some (.int .i64 0) := (blk_cell HX2.out 6).trans rfl
    have x7 : w1.cell? ⟨X, 7, none⟩ = some (.int .i64 0) := (blk_cell HX2.out 7).trans rfl
    have x8 : w1.cell? ⟨X, 8, none⟩ = some (.int .i64 0) := (blk_cell HX2.out 8).trans rfl
    have x9 : w1.cell? ⟨X, 9, none⟩ = some (.int .i64 0) := (blk_cell HX2.out 9).trans rfl
    have x10 : w1.cell? ⟨X, 10, none⟩ = some (.int .i64 0) := (blk_cell HX2.out 10).trans rfl
    have x11 : w1.cell? ⟨X, 11, none⟩ = some (.int .i64 0) := (blk_cell HX2.out 11).trans rfl
    have x12 : w1.cell? ⟨X, 12, none⟩ = some (.int .i64 0) := (blk_cell HX2.out 12).trans rfl
    have f0 : w1.frozen? ⟨X, 0, none⟩ = false := blk_frozen HX2.out 0
    have f1 : w1.frozen? ⟨X, 1, none⟩ = false := blk_frozen HX2.out 1
    have f2 : w1.frozen? ⟨X, 2, none⟩ = false := blk_frozen HX2.out 2
    have f3 : w1.frozen? ⟨X, 3, none⟩ = false := blk_frozen HX2.out 3
    have f4 : w1.frozen? ⟨X, 4, none⟩ = false := blk_frozen HX2.out 4
    have f5 : w1.frozen? ⟨X, 5, none⟩ = false := blk_frozen HX2.out 5
    have f6 : w1.frozen? ⟨X, 6, none⟩ = false := blk_frozen HX2.out 6
    have f7 : w1.frozen? ⟨X, 7, none⟩ = false := blk_frozen HX2.out 7
    have f8 : w1.frozen? ⟨X, 8, none⟩ = false := blk_frozen HX2.out 8
    have f9 : w1.frozen? ⟨X, 9, none⟩ = false := blk_frozen HX2.out 9
    have f10 : w1.frozen? ⟨X, 10, none⟩ = false := blk_frozen HX2.out 10
    have f11 : w1.frozen? ⟨X, 11, none⟩ = false := blk_frozen HX2.out 11
    have f12 : w1.frozen? ⟨X, 12, none⟩ = false := blk_frozen HX2.out 12
    go_wp2
    refine bodyPost_ret (results_ct rfl _ _ X 24 #[.int .i64 0, .int .i64 0, .int .i64 0, .int .i64 0, .int .i64 0, .int .i64 0, .int .i64 0, .int .i64 0, .int .i64 0, .int .i64 0, .int .i64 0, .int .i64 0, .int .i64 0] (0, 0) _ rfl (put13 HX2.out (.int .i64 0) (.int .i64 0) (.int .i64 0) (.int .i64 0) (.int .i64 0) (.int .i64 0) (.int .i64 0) (.int .i64 0) (.int .i64 0) (.int .i64 0) (.int .i64 0) (.int .i64 0) (.int .i64 0)) hu rfl (by kernel_rfl)) rfl ?_
    rw [HU.out.1, HU.out.2]
    exact ⟨rfl, below13 HB2.out HGE.out _ _ _ _ _ _ _ _ _ _ _ _ _⟩
  · have HNUM := Aside0.mk (fun a n (hn : n = 1 ∨ n = 2 ∨ n = 4) (h : a + n ≤ 32) W hr => rnumI_calls (A := A) (c := c) hc hl hs a n hn (by omega) W hr)
    have hb : ((l.length : Int) != 32) = false := bne_eq_false_iff_eq.2 (by omega)
    have hb2 : (l.length != 32) = false := bne_eq_false_iff_eq.2 h32
    have hb3 : (l.length == 32) = true := beq_iff_eq.2 h32
    have HUV : (uniOk l → uniVals l = [nmI l 0 1, nmI l 2 2, nmI l 4 4, nmI l 8 2, nmI l 10 2, nmI l 12 2, nmI l 14 2, nmI l 16 2, nmI l 18 2, nmI l 20 2, nmI l 22 2, nmI l 24 2, nmI l 26 2] ∧ uniErr l = 0) ∧ (¬ uniOk l → uniVals l = [0, 0, 0, 0, 0, 0, 0, 0, 0, 0, 0, 0, 0] ∧ uniErr l = 4) := by
      unfold uniVals uniErr
      refine ⟨fun h => ?_, fun h => ?_⟩
      · rw [if_pos ⟨h32, h⟩, if_pos ⟨h32, h⟩]; exact ⟨rfl, rfl⟩
      · rw [if_neg (fun q => h q.2), if_neg (fun q => h q.2)]; exact ⟨rfl, rfl⟩
    unfold uniOk at HUV
    have HUV0 := Aside0.mk HUV
    clear hr hc hl hs h32 HUV
    go_enter Tryd.func10, Tryd.ntmps10
    go_upto_region 1 with (((with_reducible refine gate_dst (N := 2) rfl ?_); refine box_event ?hg (N := 2) ?hd (cs := #[.int .i64 0, .int .i64 0, .int .i64 0, .int .i64 0, .int .i64 0, .int .i64 0, .int .i64 0, .int .i64 0, .int .i64 0, .int .i64 0, .int .i64 0, .int .i64 0, .int .i64 0]) (t := 24) ?hr ?_; (case hd => rfl); (case hg => rfl); (case hr => first | (go_simp; done) | (go_simp; rfl)); intro X hgX w1 hbox hb; have BKX := Aside0.mk hbox; have BHX := Aside0.mk hb; have GEX := Aside0.mk hgX; clear hb hbox hgX))
    have HGE : Aside0 (w.heap.size ≤ X) := ⟨by have := GEX.out; omega⟩
    have HX0 := Aside0.mk BKX.out
    have HB0 := Aside0.mk BHX.out
    have HC0 := Aside0.mk (Kd.C_below HR0.out BHX.out)
    clear BKX BHX GEX
    go_wp2_with fail
    ((refine (HNUM.out 0 1 (by decide) (by decide) w1 HC0.out).mono ?_); rintro e w2 ⟨rfl, hb⟩)
    have HX1 := Aside0.mk (blk_below HX0.out hb); have HB1 := Aside0.mk (below_then HB0.out HB0.out.size hb); have HC1 := Aside0.mk (Kd.C_below HC0.out hb)
    clear hb HX0 HB0 HC0
    go_wp2_with fail
    ((refine (HNUM.out 2 2 (by decide) (by decide) w2 HC1.out).mono ?_); rintro e w3 ⟨rfl, hb⟩)
    have HX2 := Aside0.mk (blk_below HX1.out hb); have HB2 := Aside0.mk (below_then HB1.out HB1.out.size hb); have HC2 := Aside0.mk (Kd.C_below HC1.out hb)
    clear hb HX1 HB1 HC1
    go_wp2_with fail
    ((refine (HNUM.out 4 4 (by decide) (by decide) w3 HC2.out).mono ?_); rintro e w4 ⟨rfl, hb⟩)
    have HX3 := Aside0.mk (blk_below HX2.out hb); have HB3 := Aside0.mk (below_then HB2.out HB2.out.size hb); have HC3 := Aside0.mk (Kd.C_below HC2.out hb)
    clear hb HX2 HB2 HC2
    go_wp2_with fail
    ((refine (HNUM.out 24 2 (by decide) (by decide) w4 HC3.out).mono ?_); rintro e w5 ⟨rfl, hb⟩)
    have HX4 := Aside0.mk (blk_below HX3.out hb); have HB4 := Aside0.mk (below_then HB3.out HB3.out.size hb); have HC4 := Aside0.mk (Kd.C_below HC3.out hb)
    clear hb HX3 HB3 HC3
    go_wp2_with fail
    ((refine (HNUM.out 26 2 (by decide) (by decide) w5 HC4.out).mono ?_); rintro e w6 ⟨rfl, hb⟩)
    have HX5 := Aside0.mk (blk_below HX4.out hb); have HB5 := Aside0.mk (below_then HB4.out HB4.out.size hb); have HC5 := Aside0.mk (Kd.C_below HC4.out hb)
    clear hb HX4 HB4 HC4
    go_upto_region 4 with (((with_reducible refine gate_dst (N := 4) rfl ?_); refine box_event ?hg (N := 4) ?hd (cs := #[.int .i64 0, .int .i64 0, .int .i64 0, .int .i64 0, .int .i64 0, .int .i64 0, .int .i64 0, .int .i64 0, .int .i64 0, .int .i64 0, .int .i64 0, .int .i64 0, .int .i64 0]) (t := 24) ?hr ?_; (case hd => rfl); (case hg => rfl); (case hr => first | (go_simp; done) | (go_simp; rfl)); intro H hgH w7 hbox hb; have BKH := Aside0.mk hbox; have BHH := Aside0.mk hb; have GEH := Aside0.mk hgH; clear hb hbox hgH; have y0 : w7.cell? ⟨H, 0, none⟩ = some (.int .i64 0) := (blk_cell BKH.out 0).trans rfl; have y1 : w7.cell? ⟨H, 1, none⟩ = some (.int .i64 0) := (blk_cell BKH.out 1).trans rfl; have y2 : w7.cell? ⟨H, 2, none⟩ = some (.int .i64 0) := (blk_cell BKH.out 2).trans rfl; have y3 : w7.cell? ⟨H, 3, none⟩ = some (.int .i64 0) := (blk_cell BKH.out 3).trans rfl; have y4 : w7.cell? ⟨H, 4, none⟩ = some (.int .i64 0) := (blk_cell BKH.out 4).trans rfl; have y5 : w7.cell? ⟨H, 5, none⟩ = some (.int .i64 0) := (blk_cell BKH.out 5).trans rfl; have y6 : w7.cell? ⟨H, 6, none⟩ = some (.int .i64 0) := (blk_cell BKH.out 6).trans rfl; have y7 : w7.cell? ⟨H, 7, none⟩ = some (.int .i64 0) := (blk_cell BKH.out 7).trans rfl; have y8 : w7.cell? ⟨H, 8, none⟩ = some (.int .i64 0) := (blk_cell BKH.out 8).trans rfl; have y9 : w7.cell? ⟨H, 9, none⟩ = some (.int .i64 0) := (blk_cell BKH.out 9).trans rfl; have y10 : w7.cell? ⟨H, 10, none⟩ = some (.int .i64 0) := (blk_cell BKH.out 10).trans rfl; have y11 : w7.cell? ⟨H, 11, none⟩ = some (.int .i64 0) := (blk_cell BKH.out 11).trans rfl; have y12 : w7.cell? ⟨H, 12, none⟩ = some (.int .i64 0) := (blk_cell BKH.out 12).trans rfl; have f0 : w7.frozen? ⟨H, 0, none⟩ = false := blk_frozen BKH.out 0; have f1 : w7.frozen? ⟨H, 1, none⟩ = false := blk_frozen BKH.out 1; have f2 : w7.frozen? ⟨H, 2, none⟩ = false := blk_frozen BKH.out 2; have f3 : w7.frozen? ⟨H, 3, none⟩ = false := blk_frozen BKH.out 3; have f4 : w7.frozen? ⟨H, 4, none⟩ = false := blk_frozen BKH.out 4; have f5 : w7.frozen? ⟨H, 5, none⟩ = false := blk_frozen BKH.out 5; have f6 : w7.frozen? ⟨H, 6, none⟩ = false := blk_frozen BKH.out 6; have f7 : w7.frozen? ⟨H, 7, none⟩ = false := blk_frozen BKH.out 7; have f8 : w7.frozen? ⟨H, 8, none⟩ = false := blk_frozen BKH.out 8; have f9 : w7.frozen? ⟨H, 9, none⟩ = false := blk_frozen BKH.out 9; have f10 : w7.frozen? ⟨H, 10, none⟩ = false := blk_frozen BKH.out 10; have f11 : w7.frozen? ⟨H, 11, none⟩ = false := blk_frozen BKH.out 11; have f12 : w7.frozen? ⟨H, 12, none⟩ = false := blk_frozen BKH.out 12))
    have HLT : Aside0 (X < H) := ⟨by have := blk_lt HX5.out; have := GEH.out; omega⟩
    have HX6 := Aside0.mk (far13 (g := H) (blk_below HX5.out BHH.out) (by have := HLT.out; show X ≠ H; omega) (.int .i64 (nmI l 0 1)) (.int .i64 (nmI l 2 2)) (.int .i64 (nmI l 4 4)) (.int .i64 0) (.int .i64 0) (.int .i64 0) (.int .i64 0) (.int .i64 0) (.int .i64 0) (.int .i64 0) (.int .i64 0) (.int .i64 (nmI l 24 2)) (.int .i64 (nmI l 26 2)))
    have HH6 := Aside0.mk (put13 BKH.out (.int .i64 (nmI l 0 1)) (.int .i64 (nmI l 2 2)) (.int .i64 (nmI l 4 4)) (.int .i64 0) (.int .i64 0) (.int .i64 0) (.int .i64 0) (.int .i64 0) (.int .i64 0) (.int .i64 0) (.int .i64 0) (.int .i64 (nmI l 24 2)) (.int .i64 (nmI l 26 2)))
    have HB6 := Aside0.mk (below13 (g := H) (below_then HB5.out HB5.out.size BHH.out) (by have := HLT.out; have := HGE.out; omega) (.int .i64 (nmI l 0 1)) (.int .i64 (nmI l 2 2)) (.int .i64 (nmI l 4 4)) (.int .i64 0) (.int .i64 0) (.int .i64 0) (.int .i64 0) (.int .i64 0) (.int .i64 0) (.int .i64 0) (.int .i64 0) (.int .i64 (nmI l 24 2)) (.int .i64 (nmI l 26 2)))
    have HC6 := Aside0.mk (Kd.C_below HR0.out HB6.out)
    clear BKH BHH GEH HX5 HB5 HC5 y0 y1 y2 y3 y4 y5 y6 y7 y8 y9 y10 y11 y12 f0 f1 f2 f3 f4 f5 f6 f7 f8 f9 f10 f11 f12
    go_wp2_with fail
    go_loopg [5] 8 (fun kq v5 w' => (v5 = .int .i64 0 ∧ 8 - 0 ≤ kq ∧ Aside0 (Kd.C (Kd.int .u8) w' A l.length l ∧ w'.heap[H]? = some (.cells #[.int .i64 (nmI l 0 1), .int .i64 (nmI l 2 2), .int .i64 (nmI l 4 4), .int .i64 0, .int .i64 0, .int .i64 0, .int .i64 0, .int .i64 0, .int .i64 0, .int .i64 0, .int .i64 0, .int .i64 (nmI l 24 2), .int .i64 (nmI l 26 2)] 24 (0, 0)) ∧ w'.heap[X]? = some (.cells #[.int .i64 0, .int .i64 0, .int .i64 0, .int .i64 0, .int .i64 0, .int .i64 0, .int .i64 0, .int .i64 0, .int .i64 0, .int .i64 0, .int .i64 0, .int .i64 0, .int .i64 0] 24 (0, 0)) ∧ Below w.heap.size w w')) ∨ (v5 = .int .i64 1 ∧ 8 - 1 ≤ kq ∧ Aside0 (Kd.C (Kd.int .u8) w' A l.length l ∧ w'.heap[H]? = some (.cells #[.int .i64 (nmI l 0 1), .int .i64 (nmI l 2 2), .int .i64 (nmI l 4 4), .int .i64 (nmI l 8 2), .int .i64 0, .int .i64 0, .int .i64 0, .int .i64 0, .int .i64 0, .int .i64 0, .int .i64 0, .int .i64 (nmI l 24 2), .int .i64 (nmI l 26 2)] 24 (0, 0)) ∧ w'.heap[X]? = some (.cells #[.int .i64 0, .int .i64 0, .int .i64 0, .int .i64 0, .int .i64 0, .int .i64 0, .int .i64 0, .int .i64 0, .int .i64 0, .int .i64 0, .int .i64 0, .int .i64 0, .int .i64 0] 24 (0, 0)) ∧ Below w.heap.size w w')) ∨ (v5 = .int .i64 2 ∧ 8 - 2 ≤ kq ∧ Aside0 (Kd.C (Kd.int .u8) w' A l.length l ∧ w'.heap[H]? = some (.cells #[.int .i64 (nmI l 0 1), .int .i64 (nmI l 2 2), .int .i64 (nmI l 4 4), .int .i64 (nmI l 8 2), .int .i64 (nmI l 10 2), .int .i64 0, .int .i64 0, .int .i64 0, .int .i64 0, .int .i64 0, .int .i64 0, .int .i64 (nmI l 24 2), .int .i64 (nmI l 26 2)] 24 (0, 0)) ∧ w'.heap[X]? = some (.cells #[.int .i64 0, .int .i64 0, .int .i64 0, .int .i64 0, .int .i64 0, .int .i64 0, .int .i64 0, .int .i64 0, .int .i64 0, .int .i64 0, .int .i64 0, .int .i64 0, .int .i64 0] 24 (0, 0)) ∧ Below w.heap.size w w')) ∨ (v5 = .int .i64 3 ∧ 8 - 3 ≤ kq ∧ Aside0 (Kd.C (Kd.int .u8) w' A l.length l ∧ w'.heap[H]? = some (.cells #[.int .i64 (nmI l 0 1), .int .i64 (nmI l 2 2), .int .i64 (nmI l 4 4), .int .i64 (nmI l 8 2), .int .i64 (nmI l 10 2), .int .i64 (nmI l 12 2), .int .i64 0, .int .i64 0, .int .i64 0, .int .i64 0, .int .i64 0, .int .i64 (nmI l 24 2), .int .i64 (nmI l 26 2)] 24 (0, 0)) ∧ w'.heap[X]? = some (.cells #[.int .i64 0, .int .i64 0, .int .i64 0, .int .i64 0, .int .i64 0, .int .i64 0, .int .i64 0, .int .i64 0, .int .i64 0, .int .i64 0, .int .i64 0, .int .i64 0, .int .i64 0] 24 (0, 0)) ∧ Below w.heap.size w w')) ∨ (v5 = .int .i64 4 ∧ 8 - 4 ≤ kq ∧ Aside0 (Kd.C (Kd.int .u8) w' A l.length l ∧ w'.heap[H]? = some (.cells #[.int .i64 (nmI l 0 1), .int .i64 (nmI l 2 2), .int .i64 (nmI l 4 4), .int .i64 (nmI l 8 2), .int .i64 (nmI l 10 2), .int .i64 (nmI l 12 2), .int .i64 (nmI l 14 2), .int .i64 0, .int .i64 0, .int .i64 0, .int .i64 0, .int .i64 (nmI l 24 2), .int .i64 (nmI l 26 2)] 24 (0, 0)) ∧ w'.heap[X]? = some (.cells #[.int .i64 0, .int .i64 0, .int .i64 0, .int .i64 0, .int .i64 0, .int .i64 0, .int .i64 0, .int .i64 0, .int .i64 0, .int .i64 0, .int .i64 0, .int .i64 0, .int .i64 0] 24 (0, 0)) ∧ Below w.heap.size w w')) ∨ (v5 = .int .i64 5 ∧ 8 - 5 ≤ kq ∧ Aside0 (Kd.C (Kd.int .u8) w' A l.length l ∧ w'.heap[H]? = some (.cells #[.int .i64 (nmI l 0 1), .int .i64 (nmI l 2 2), .int .i64 (nmI l 4 4), .int .i64 (nmI l 8 2), .int .i64 (nmI l 10 2), .int .i64 (nmI l 12 2), .int .i64 (nmI l 14 2), .int .i64 (nmI l 16 2), .int .i64 0, .int .i64 0, .int .i64 0, .int .i64 (nmI l 24 2), .int .i64 (nmI l 26 2)] 24 (0, 0)) ∧ w'.heap[X]? = some (.cells #[.int .i64 0, .int .i64 0, .int .i64 0, .int .i64 0, .int .i64 0, .int .i64 0, .int .i64 0, .int .i64 0, .int .i64 0, .int .i64 0, .int .i64 0, .int .i64 0, .int .i64 0] 24 (0, 0)) ∧ Below w.heap.size w w')) ∨ (v5 = .int .i64 6 ∧ 8 - 6 ≤ kq ∧ Aside0 (Kd.C (Kd.int .u8) w' A l.length l ∧ w'.heap[H]? = some (.cells #[.int .i64 (nmI l 0 1), .int .i64 (nmI l 2 2), .int .i64 (nmI l 4 4), .int .i64 (nmI l 8 2), .int .i64 (nmI l 10 2), .int .i64 (nmI l 12 2), .int .i64 (nmI l 14 2), .int .i64 (nmI l 16 2), .int .i64 (nmI l 18 2), .int .i64 0, .int .i64 0, .int .i64 (nmI l 24 2), .int .i64 (nmI l 26 2)] 24 (0, 0)) ∧ w'.heap[X]? = some (.cells #[.int .i64 0, .int .i64 0, .int .i64 0, .int .i64 0, .int .i64 0, .int .i64 0, .int .i64 0, .int .i64 0, .int .i64 0, .int .i64 0, .int .i64 0, .int .i64 0, .int .i64 0] 24 (0, 0)) ∧ Below w.heap.size w w')) ∨ (v5 = .int .i64 7 ∧ 8 - 7 ≤ kq ∧ Aside0 (Kd.C (Kd.int .u8) w' A l.length l ∧ w'.heap[H]? = some (.cells #[.int .i64 (nmI l 0 1), .int .i64 (nmI l 2 2), .int .i64 (nmI l 4 4), .int .i64 (nmI l 8 2), .int .i64 (nmI l 10 2), .int .i64 (nmI l 12 2), .int .i64 (nmI l 14 2), .int .i64 (nmI l 16 2), .int .i64 (nmI l 18 2), .int .i64 (nmI l 20 2), .int .i64 0, .int .i64 (nmI l 24 2), .int .i64 (nmI l 26 2)] 24 (0, 0)) ∧ w'.heap[X]? = some (.cells #[.int .i64 0, .int .i64 0, .int .i64 0, .int .i64 0, .int .i64 0, .int .i64 0, .int .i64 0, .int .i64 0, .int .i64 0, .int .i64 0, .int .i64 0, .int .i64 0, .int .i64 0] 24 (0, 0)) ∧ Below w.heap.size w w')) ∨ (v5 = .int .i64 8 ∧ 8 - 8 ≤ kq ∧ Aside0 (Kd.C (Kd.int .u8) w' A l.length l ∧ w'.heap[H]? = some (.cells #[.int .i64 (nmI l 0 1), .int .i64 (nmI l 2 2), .int .i64 (nmI l 4 4), .int .i64 (nmI l 8 2), .int .i64 (nmI l 10 2), .int .i64 (nmI l 12 2), .int .i64 (nmI l 14 2), .int .i64 (nmI l 16 2), .int .i64 (nmI l 18 2), .int .i64 (nmI l 20 2), .int .i64 (nmI l 22 2), .int .i64 (nmI l 24 2), .int .i64 (nmI l 26 2)] 24 (0, 0)) ∧ w'.heap[X]? = some (.cells #[.int .i64 0, .int .i64 0, .int .i64 0, .int .i64 0, .int .i64 0, .int .i64 0, .int .i64 0, .int .i64 0, .int .i64 0, .int .i64 0, .int .i64 0, .int .i64 0, .int .i64 0] 24 (0, 0)) ∧ Below w.heap.size w w')))
    case atStart => exact .inl ⟨rfl, by omega, ⟨HC6.out, HH6.out, HX6.out, HB6.out⟩⟩
    case round =>
        clear HX6 HH6 HB6 HC6
        rcases hrel with ⟨rfl, hkq, HS⟩ | ⟨rfl, hkq, HS⟩ | ⟨rfl, hkq, HS⟩ | ⟨rfl, hkq, HS⟩ | ⟨rfl, hkq, HS⟩ | ⟨rfl, hkq, HS⟩ | ⟨rfl, hkq, HS⟩ | ⟨rfl, hkq, HS⟩ | ⟨rfl, hkq, HS⟩
        · cases gk with
          | zero => omega
          | succ k1 =>
            go_wp2_with fail
            ((refine (HNUM.out 8 2 (by decide) (by decide) wr HS.out.1).mono ?_); rintro e w8 ⟨rfl, hb⟩)
            have HHb := Aside0.mk (blk_below HS.out.2.1 hb)
            have HXb := Aside0.mk (blk_below HS.out.2.2.1 hb)
            have HBb := Aside0.mk (below_then HS.out.2.2.2 HS.out.2.2.2.size hb)
            have HCb := Aside0.mk (Kd.C_below HS.out.1 hb)
            have y : w8.cell? ⟨H, 3, none⟩ = some (.int .i64 0) := (blk_cell HHb.out 3).trans rfl
            have fy := blk_frozen HHb.out 3
            have HH9 : Aside0 ((w8.setCell ⟨H, 3, none⟩ (.int .i64 (nmI l 8 2))).heap[H]? = some (.cells #[.int .i64 (nmI l 0 1), .int .i64 (nmI l 2 2), .int .i64 (nmI l 4 4), .int .i64 (nmI l 8 2), .int .i64 0, .int .i64 0, .int .i64 0, .int .i64 0, .int .i64 0, .int .i64 0, .int .i64 0, .int .i64 (nmI l 24 2), .int .i64 (nmI l 26 2)] 24 (0, 0))) := ⟨blk_put HHb.out 3 _ rfl⟩
            have HX9 : Aside0 ((w8.setCell ⟨H, 3, none⟩ (.int .i64 (nmI l 8 2))).heap[X]? = some (.cells #[.int .i64 0, .int .i64 0, .int .i64 0, .int .i64 0, .int .i64 0, .int .i64 0, .int .i64 0, .int .i64 0, .int .i64 0, .int .i64 0, .int .i64 0, .int .i64 0, .int .i64 0] 24 (0, 0))) := ⟨(Below.heap_setCell w8 ⟨H, 3, none⟩ _ X (by have := HLT.out; show X ≠ H; omega)).trans HXb.out⟩
            have HB9 : Aside0 (Below w.heap.size w (w8.setCell ⟨H, 3, none⟩ (.int .i64 (nmI l 8 2)))) := ⟨below_set HBb.out (by have := HLT.out; have := HGE.out; omega)⟩
            have HC9 : Aside0 (Kd.C (Kd.int .u8) (w8.setCell ⟨H, 3, none⟩ (.int .i64 (nmI l 8 2))) A l.length l) := ⟨Kd.C_below HR0.out HB9.out⟩
            clear hb HHb HXb HBb HCb HS
            go_wp2_with fail
            go_roundg k1
            case measure => omega
            case rel => exact .inr (.inl ⟨by go_num, by omega, ⟨HC9.out, HH9.out, HX9.out, HB9.out⟩⟩)
        · cases gk with
          | zero => omega
          | succ k1 =>
            go_wp2_with fail
            ((refine (HNUM.out 10 2 (by decide) (by decide) wr HS.out.1).mono ?_); rintro e w8 ⟨rfl, hb⟩)
            have HHb := Aside0.mk (blk_below HS.out.2.1 hb)
            have HXb := Aside0.mk (blk_below HS.out.2.2.1 hb)
            have HBb := Aside0.mk (below_then HS.out.2.2.2 HS.out.2.2.2.size hb)
            have HCb := Aside0.mk (Kd.C_below HS.out.1 hb)
            have y : w8.cell? ⟨H, 4, none⟩ = some (.int .i64 0) := (blk_cell HHb.out 4).trans rfl
            have fy := blk_frozen HHb.out 4
            have HH9 : Aside0 ((w8.setCell ⟨H, 4, none⟩ (.int .i64 (nmI l 10 2))).heap[H]? = some (.cells #[.int .i64 (nmI l 0 1), .int .i64 (nmI l 2 2), .int .i64 (nmI l 4 4), .int .i64 (nmI l 8 2), .int .i64 (nmI l 10 2), .int .i64 0, .int .i64 0, .int .i64 0, .int .i64 0, .int .i64 0, .int .i64 0, .int .i64 (nmI l 24 2), .int .i64 (nmI l 26 2)] 24 (0, 0))) := ⟨blk_put HHb.out 4 _ rfl⟩
            have HX9 : Aside0 ((w8.setCell ⟨H, 4, none⟩ (.int .i64 (nmI l 10 2))).heap[X]? = some (.cells #[.int .i64 0, .int .i64 0, .int .i64 0, .int .i64 0, .int .i64 0, .int .i64 0, .int .i64 0, .int .i64 0, .int .i64 0, .int .i64 0, .int .i64 0, .int .i64 0, .int .i64 0] 24 (0, 0))) := ⟨(Below.heap_setCell w8 ⟨H, 4, none⟩ _ X (by have := HLT.out; show X ≠ H; omega)).trans HXb.out⟩
            have HB9 : Aside0 (Below w.heap.size w (w8.setCell ⟨H, 4, none⟩ (.int .i64 (nmI l 10 2)))) := ⟨below_set HBb.out (by have := HLT.out; have := HGE.out; omega)⟩
            have HC9 : Aside0 (Kd.C (Kd.int .u8) (w8.setCell ⟨H, 4, none⟩ (.int .i64 (nmI l 10 2))) A l.length l) := ⟨Kd.C_below HR0.out HB9.out⟩
            clear hb HHb HXb HBb HCb HS
            go_wp2_with fail
            go_roundg k1
            case measure => omega
            case rel => exact .inr (.inr (.inl ⟨by go_num, by omega, ⟨HC9.out, HH9.out, HX9.out, HB9.out⟩⟩))
        · cases gk with
          | zero => omega
          | succ k1 =>
            go_wp2_with fail
            ((refine (HNUM.out 12 2 (by decide) (by decide) wr HS.out.1).mono ?_); rintro e w8 ⟨rfl, hb⟩)
            have HHb := Aside0.mk (blk_below HS.out.2.1 hb)
            have HXb := Aside0.mk (blk_below HS.out.2.2.1 hb)
            have HBb := Aside0.mk (below_then HS.out.2.2.2 HS.out.2.2.2.size hb)
            have HCb := Aside0.mk (Kd.C_below HS.out.1 hb)
            have y : w8.cell? ⟨H, 5, none⟩ = some (.int .i64 0) := (blk_cell HHb.out 5).trans rfl
            have fy := blk_frozen HHb.out 5
            have HH9 : Aside0 ((w8.setCell ⟨H, 5, none⟩ (.int .i64 (nmI l 12 2))).heap[H]? = some (.cells #[.int .i64 (nmI l 0 1), .int .i64 (nmI l 2 2), .int .i64 (nmI l 4 4), .int .i64 (nmI l 8 2), .int .i64 (nmI l 10 2), .int .i64 (nmI l 12 2), .int .i64 0, .int .i64 0, .int .i64 0, .int .i64 0, .int .i64 0, .int .i64 (nmI l 24 2), .int .i64 (nmI l 26 2)] 24 (0, 0))) := ⟨blk_put HHb.out 5 _ rfl⟩
            have HX9 : Aside0 ((w8.setCell ⟨H, 5, none⟩ (.int .i64 (nmI l 12 2))).heap[X]? = some (.cells #[.int .i64 0, .int .i64 0, .int .i64 0, .int .i64 0, .int .i64 0, .int .i64 0, .int .i64 0, .int .i64 0, .int .i64 0, .int .i64 0, .int .i64 0, .int .i64 0, .int .i64 0] 24 (0, 0))) := ⟨(Below.heap_setCell w8 ⟨H, 5, none⟩ _ X (by have := HLT.out; show X ≠ H; omega)).trans HXb.out⟩
            have HB9 : Aside0 (Below w.heap.size w (w8.setCell ⟨H, 5, none⟩ (.int .i64 (nmI l 12 2)))) := ⟨below_set HBb.out (by have := HLT.out; have := HGE.out; omega)⟩
            have HC9 : Aside0 (Kd.C (Kd.int .u8) (w8.setCell ⟨H, 5, none⟩ (.int .i64 (nmI l 12 2))) A l.length l) := ⟨Kd.C_below HR0.out HB9.out⟩
            clear hb HHb HXb HBb HCb HS
            go_wp2_with fail
            go_roundg k1
            case measure => omega
            case rel => exact .inr (.inr (.inr (.inl ⟨by go_num, by omega, ⟨HC9.out, HH9.out, HX9.out, HB9.out⟩⟩)))
        · cases gk with
          | zero => omega
          | succ k1 =>
            go_wp2_with fail
            ((refine (HNUM.out 14 2 (by decide) (by decide) wr HS.out.1).mono ?_); rintro e w8 ⟨rfl, hb⟩)
            have HHb := Aside0.mk (blk_below HS.out.2.1 hb)
            have HXb := Aside0.mk (blk_below HS.out.2.2.1 hb)
            have HBb := Aside0.mk (below_then HS.out.2.2.2 HS.out.2.2.2.size hb)
            have HCb := Aside0.mk (Kd.C_below HS.out.1 hb)
            have y : w8.cell? ⟨H, 6, none⟩ = some (.int .i64 0) := (blk_cell HHb.out 6).trans rfl
            have fy := blk_frozen HHb.out 6
            have HH9 : Aside0 ((w8.setCell ⟨H, 6, none⟩ (.int .i64 (nmI l 14 2))).heap[H]? = some (.cells #[.int .i64 (nmI l 0 1), .int .i64 (nmI l 2 2), .int .i64 (nmI l 4 4), .int .i64 (nmI l 8 2), .int .i64 (nmI l 10 2), .int .i64 (nmI l 12 2), .int .i64 (nmI l 14 2), .int .i64 0, .int .i64 0, .int .i64 0, .int .i64 0, .int .i64 (nmI l 24 2), .int .i64 (nmI l 26 2)] 24 (0, 0))) := ⟨blk_put HHb.out 6 _ rfl⟩
            have HX9 : Aside0 ((w8.setCell ⟨H, 6, none⟩ (.int .i64 (nmI l 14 2))).heap[X]? = some (.cells #[.int .i64 0, .int .i64 0, .int .i64 0, .int .i64 0, .int .i64 0, .int .i64 0, .int .i64 0, .int .i64 0, .int .i64 0, .int .i64 0, .int .i64 0, .int .i64 0, .int .i64 0] 24 (0, 0))) := ⟨(Below.heap_setCell w8 ⟨H, 6, none⟩ _ X (by have := HLT.out; show X ≠ H; omega)).trans HXb.out⟩
            have HB9 : Aside0 (Below w.heap.size w (w8.setCell ⟨H, 6, none⟩ (.int .i64 (nmI l 14 2)))) := ⟨below_set HBb.out (by have := HLT.out; have := HGE.out; omega)⟩
            have HC9 : Aside0 (Kd.C (Kd.int .u8) (w8.setCell ⟨H, 6, none⟩ (.int .i64 (nmI l 14 2))) A l.length l) := ⟨Kd.C_below HR0.out HB9.out⟩
            clear hb HHb HXb HBb HCb HS
            go_wp2_with fail
            go_roundg k1
            case measure => omega
            case rel => exact .inr (.inr (.inr (.inr (.inl ⟨by go_num, by omega, ⟨HC9.out, HH9.out, HX9.out, HB9.out⟩⟩))))
        · cases gk with
          | zero => omega
          | succ k1 =>
            go_wp2_with fail
            ((refine (HNUM.out 16 2 (by decide) (by decide) wr HS.out.1).mono ?_); rintro e w8 ⟨rfl, hb⟩)
            have HHb := Aside0.mk (blk_below HS.out.2.1 hb)
            have HXb := Aside0.mk (blk_below HS.out.2.2.1 hb)
            have HBb := Aside0.mk (below_then HS.out.2.2.2 HS.out.2.2.2.size hb)
            have HCb := Aside0.mk (Kd.C_below HS.out.1 hb)
            have y : w8.cell? ⟨H, 7, none⟩ = some (.int .i64 0) := (blk_cell HHb.out 7).trans rfl
            have fy := blk_frozen HHb.out 7
            have HH9 : Aside0 ((w8.setCell ⟨H, 7, none⟩ (.int .i64 (nmI l 16 2))).heap[H]? = some (.cells #[.int .i64 (nmI l 0 1), .int .i64 (nmI l 2 2), .int .i64 (nmI l 4 4), .int .i64 (nmI l 8 2), .int .i64 (nmI l 10 2), .int .i64 (nmI l 12 2), .int .i64 (nmI l 14 2), .int .i64 (nmI l 16 2), .int .i64 0, .int .i64 0, .int .i64 0, .int .i64 (nmI l 24 2), .int .i64 (nmI l 26 2)] 24 (0, 0))) := ⟨blk_put HHb.out 7 _ rfl⟩
            have HX9 : Aside0 ((w8.setCell ⟨H, 7, none⟩ (.int .i64 (nmI l 16 2))).heap[X]? = some (.cells #[.int .i64 0, .int .i64 0, .int .i64 0, .int .i64 0, .int .i64 0, .int .i64 0, .int .i64 0, .int .i64 0, .int .i64 0, .int .i64 0, .int .i64 0, .int .i64 0, .int .i64 0] 24 (0, 0))) := ⟨(Below.heap_setCell w8 ⟨H, 7, none⟩ _ X (by have := HLT.out; show X ≠ H; omega)).trans HXb.out⟩
            have HB9 : Aside0 (Below w.heap.size w (w8.setCell ⟨H, 7, none⟩ (.int .i64 (nmI l 16 2)))) := ⟨below_set HBb.out (by have := HLT.out; have := HGE.out; omega)⟩
            have HC9 : Aside0 (Kd.C (Kd.int .u8) (w8.setCell ⟨H, 7, none⟩ (.int .i64 (nmI l 16 2))) A l.length l) := ⟨Kd.C_below HR0.out HB9.out⟩
            clear hb HHb HXb HBb HCb HS
            go_wp2_with fail
            go_roundg k1
            case measure => omega
            case rel => exact .inr (.inr (.inr (.inr (.inr (.inl ⟨by go_num, by omega, ⟨HC9.out, HH9.out, HX9.out, HB9.out⟩⟩)))))
        · cases gk with
          | zero => omega
          | succ k1 =>
            go_wp2_with fail
            ((refine (HNUM.out 18 2 (by decide) (by decide) wr HS.out.1).mono ?_); rintro e w8 ⟨rfl, hb⟩)
            have HHb := Aside0.mk (blk_below HS.out.2.1 hb)
            have HXb := Aside0.mk (blk_below HS.out.2.2.1 hb)
            have HBb := Aside0.mk (below_then HS.out.2.2.2 HS.out.2.2.2.size hb)
            have HCb := Aside0.mk (Kd.C_below HS.out.1 hb)
            have y : w8.cell? ⟨H, 8, none⟩ = some (.int .i64 0) := (blk_cell HHb.out 8).trans rfl
            have fy := blk_frozen HHb.out 8
            have HH9 : Aside0 ((w8.setCell ⟨H, 8, none⟩ (.int .i64 (nmI l 18 2))).heap[H]? = some (.cells #[.int .i64 (nmI l 0 1), .int .i64 (nmI l 2 2), .int .i64 (nmI l 4 4), .int .i64 (nmI l 8 2), .int .i64 (nmI l 10 2), .int .i64 (nmI l 12 2), .int .i64 (nmI l 14 2), .int .i64 (nmI l 16 2), .int .i64 (nmI l 18 2), .int .i64 0, .int .i64 0, .int .i64 (nmI l 24 2), .int .i64 (nmI l 26 2)] 24 (0, 0))) := ⟨blk_put HHb.out 8 _ rfl⟩
            have HX9 : Aside0 ((w8.setCell ⟨H, 8, none⟩ (.int .i64 (nmI l 18 2))).heap[X]? = some (.cells #[.int .i64 0, .int .i64 0, .int .i64 0, .int .i64 0, .int .i64 0, .int .i64 0, .int .i64 0, .int .i64 0, .int .i64 0, .int .i64 0, .int .i64 0, .int .i64 0, .int .i64 0] 24 (0, 0))) := ⟨(Below.heap_setCell w8 ⟨H, 8, none⟩ _ X (by have := HLT.out; show X ≠ H; omega)).trans HXb.out⟩
            have HB9 : Aside0 (Below w.heap.size w (w8.setCell ⟨H, 8, none⟩ (.int .i64 (nmI l 18 2)))) := ⟨below_set HBb.out (by have := HLT.out; have := HGE.out; omega)⟩
            have HC9 : Aside0 (Kd.C (Kd.int .u8) (w8.setCell ⟨H, 8, none⟩ (.int .i64 (nmI l 18 2))) A l.length l) := ⟨Kd.C_below HR0.out HB9.out⟩
            clear hb HHb HXb HBb HCb HS
            go_wp2_with fail
            go_roundg k1
            case measure => omega
            case rel => exact .inr (.inr (.inr (.inr (.inr (.inr (.inl ⟨by go_num, by omega, ⟨HC9.out, HH9.out, HX9.out, HB9.out⟩⟩))))))
        · cases gk with
          | zero => omega
          | succ k1 =>
            go_wp2_with fail
            ((refine (HNUM.out 20 2 (by decide) (by decide) wr HS.out.1).mono ?_); rintro e w8 ⟨rfl, hb⟩)
            have HHb := Aside0.mk (blk_below HS.out.2.1 hb)
            have HXb := Aside0.mk (blk_below HS.out.2.2.1 hb)
            have HBb := Aside0.mk (below_then HS.out.2.2.2 HS.out.2.2.2.size hb)
            have HCb := Aside0.mk (Kd.C_below HS.out.1 hb)
            have y : w8.cell? ⟨H, 9, none⟩ = some (.int .i64 0) := (blk_cell HHb.out 9).trans rfl
            have fy := blk_frozen HHb.out 9
            have HH9 : Aside0 ((w8.setCell ⟨H, 9, none⟩ (.int .i64 (nmI l 20 2))).heap[H]? = some (.cells #[.int .i64 (nmI l 0 1), .int .i64 (nmI l 2 2), .int .i64 (nmI l 4 4), .int .i64 (nmI l 8 2), .int .i64 (nmI l 10 2), .int .i64 (nmI l 12 2), .int .i64 (nmI l 14 2), .int .i64 (nmI l 16 2), .int .i64 (nmI l 18 2), .int .i64 (nmI l 20 2), .int .i64 0, .int .i64 (nmI l 24 2), .int .i64 (nmI l 26 2)] 24 (0, 0))) := ⟨blk_put HHb.out 9 _ rfl⟩
            have HX9 : Aside0 ((w8.setCell ⟨H, 9, none⟩ (.int .i64 (nmI l 20 2))).heap[X]? = some (.cells #[.int .i64 0, .int .i64 0, .int .i64 0, .int .i64 0, .int .i64 0, .int .i64 0, .int .i64 0, .int .i64 0, .int .i64 0, .int .i64 0, .int .i64 0, .int .i64 0, .int .i64 0] 24 (0, 0))) := ⟨(Below.heap_setCell w8 ⟨H, 9, none⟩ _ X (by have := HLT.out; show X ≠ H; omega)).trans HXb.out⟩
            have HB9 : Aside0 (Below w.heap.size w (w8.setCell ⟨H, 9, none⟩ (.int .i64 (nmI l 20 2)))) := ⟨below_set HBb.out (by have := HLT.out; have := HGE.out; omega)⟩
            have HC9 : Aside0 (Kd.C (Kd.int .u8) (w8.setCell ⟨H, 9, none⟩ (.int .i64 (nmI l 20 2))) A l.length l) := ⟨Kd.C_below HR0.out HB9.out⟩
            clear hb HHb HXb HBb HCb HS
            go_wp2_with fail
            go_roundg k1
            case measure => omega
            case rel => exact .inr (.inr (.inr (.inr (.inr (.inr (.inr (.inl ⟨by go_num, by omega, ⟨HC9.out, HH9.out, HX9.out, HB9.out⟩⟩)))))))
        · cases gk with
          | zero => omega
          | succ k1 =>
            go_wp2_with fail
            ((refine (HNUM.out 22 2 (by decide) (by decide) wr HS.out.1).mono ?_); rintro e w8 ⟨rfl, hb⟩)
            have HHb := Aside0.mk (blk_below HS.out.2.1 hb)
            have HXb := Aside0.mk (blk_below HS.out.2.2.1 hb)
            have HBb := Aside0.mk (below_then HS.out.2.2.2 HS.out.2.2.2.size hb)
            have HCb := Aside0.mk (Kd.C_below HS.out.1 hb)
            have y : w8.cell? ⟨H, 10, none⟩ = some (.int .i64 0) := (blk_cell HHb.out 10).trans rfl
            have fy := blk_frozen HHb.out 10
            have HH9 : Aside0 ((w8.setCell ⟨H, 10, none⟩ (.int .i64 (nmI l 22 2))).heap[H]? = some (.cells #[.int .i64 (nmI l 0 1), .int .i64 (nmI l 2 2), .int .i64 (nmI l 4 4), .int .i64 (nmI l 8 2), .int .i64 (nmI l 10 2), .int .i64 (nmI l 12 2), .int .i64 (nmI l 14 2), .int .i64 (nmI l 16 2), .int .i64 (nmI l 18 2), .int .i64 (nmI l 20 2), .int .i64 (nmI l 22 2), .int .i64 (nmI l 24 2), .int .i64 (nmI l 26 2)] 24 (0, 0))) := ⟨blk_put HHb.out 10 _ rfl⟩
            have HX9 : Aside0 ((w8.setCell ⟨H, 10, none⟩ (.int .i64 (nmI l 22 2))).heap[X]? = some (.cells #[.int .i64 0, .int .i64 0, .int .i64 0, .int .i64 0, .int .i64 0, .int .i64 0, .int .i64 0, .int .i64 0, .int .i64 0, .int .i64 0, .int .i64 0, .int .i64 0, .int .i64 0] 24 (0, 0))) := ⟨(Below.heap_setCell w8 ⟨H, 10, none⟩ _ X (by have := HLT.out; show X ≠ H; omega)).trans HXb.out⟩
            have HB9 : Aside0 (Below w.heap.size w (w8.setCell ⟨H, 10, none⟩ (.int .i64 (nmI l 22 2)))) := ⟨below_set HBb.out (by have := HLT.out; have := HGE.out; omega)⟩
            have HC9 : Aside0 (Kd.C (Kd.int .u8) (w8.setCell ⟨H, 10, none⟩ (.int .i64 (nmI l 22 2))) A l.length l) := ⟨Kd.C_below HR0.out HB9.out⟩
            clear hb HHb HXb HBb HCb HS
            go_wp2_with fail
            go_roundg k1
            case measure => omega
            case rel => exact .inr (.inr (.inr (.inr (.inr (.inr (.inr (.inr (⟨by go_num, by omega, ⟨HC9.out, HH9.out, HX9.out, HB9.out⟩⟩))))))))
        · have HUV := HUV0.out
          clear HUV0
          obtain ⟨w8, hw8⟩ : ∃ w8, w8 = wr := ⟨_, rfl⟩
          subst hw8
          have HH := Aside0.mk HS.out.2.1
          have HX := Aside0.mk HS.out.2.2.1
          have HB := Aside0.mk HS.out.2.2.2
          have HCr := Aside0.mk HS.out.1
          clear HS
          obtain ⟨q0, hn0⟩ : ∃ n, nmI l 0 1 = n := ⟨_, rfl⟩
          obtain ⟨q1, hn1⟩ : ∃ n, nmI l 2 2 = n := ⟨_, rfl⟩
          obtain ⟨q2, hn2⟩ : ∃ n, nmI l 4 4 = n := ⟨_, rfl⟩
          obtain ⟨q3, hn3⟩ : ∃ n, nmI l 8 2 = n := ⟨_, rfl⟩
          obtain ⟨q4, hn4⟩ : ∃ n, nmI l 10 2 = n := ⟨_, rfl⟩
          obtain ⟨q5, hn5⟩ : ∃ n, nmI l 12 2 = n := ⟨_, rfl⟩
          obtain ⟨q6, hn6⟩ : ∃ n, nmI l 14 2 = n := ⟨_, rfl⟩
          obtain ⟨q7, hn7⟩ : ∃ n, nmI l 16 2 = n := ⟨_, rfl⟩
          obtain ⟨q8, hn8⟩ : ∃ n, nmI l 18 2 = n := ⟨_, rfl⟩
          obtain ⟨q9, hn9⟩ : ∃ n, nmI l 20 2 = n := ⟨_, rfl⟩
          obtain ⟨q10, hn10⟩ : ∃ n, nmI l 22 2 = n := ⟨_, rfl⟩
          obtain ⟨q11, hn11⟩ : ∃ n, nmI l 24 2 = n := ⟨_, rfl⟩
          obtain ⟨q12, hn12⟩ : ∃ n, nmI l 26 2 = n := ⟨_, rfl⟩
          simp only [hn0, hn1, hn2, hn3, hn4, hn5, hn6, hn7, hn8, hn9, hn10, hn11, hn12] at HH HUV
          have HHD := Aside0.mk (fun W => rinode_calls q0 q1 q2 q3 q4 q5 q6 q7 q8 q9 q10 q11 q12 W)
          obtain ⟨⟨BS, be⟩, hBS⟩ : ∃ BS, inoOut q0 q1 q2 q3 q4 q5 q6 q7 q8 q9 q10 q11 q12 = BS := ⟨_, rfl⟩
          rw [hBS] at HHD HUV
          have HUV := Aside0.mk HUV
          clear hBS hn0 hn1 hn2 hn3 hn4 hn5 hn6 hn7 hn8 hn9 hn10 hn11 hn12
          have y0 : w8.cell? ⟨H, 0, none⟩ = some (.int .i64 q0) := (blk_cell HH.out 0).trans rfl
          have y1 : w8.cell? ⟨H, 1, none⟩ = some (.int .i64 q1) := (blk_cell HH.out 1).trans rfl
          have y2 : w8.cell? ⟨H, 2, none⟩ = some (.int .i64 q2) := (blk_cell HH.out 2).trans rfl
          have y3 : w8.cell? ⟨H, 3, none⟩ = some (.int .i64 q3) := (blk_cell HH.out 3).trans rfl
          have y4 : w8.cell? ⟨H, 4, none⟩ = some (.int .i64 q4) := (blk_cell HH.out 4).trans rfl
          have y5 : w8.cell? ⟨H, 5, none⟩ = some (.int .i64 q5) := (blk_cell HH.out 5).trans rfl
          have y6 : w8.cell? ⟨H, 6, none⟩ = some (.int .i64 q6) := (blk_cell HH.out 6).trans rfl
          have y7 : w8.cell? ⟨H, 7, none⟩ = some (.int .i64 q7) := (blk_cell HH.out 7).trans rfl
          have y8 : w8.cell? ⟨H, 8, none⟩ = some (.int .i64 q8) := (blk_cell HH.out 8).trans rfl
          have y9 : w8.cell? ⟨H, 9, none⟩ = some (.int .i64 q9) := (blk_cell HH.out 9).trans rfl
          have y10 : w8.cell? ⟨H, 10, none⟩ = some (.int .i64 q10) := (blk_cell HH.out 10).trans rfl
          have y11 : w8.cell? ⟨H, 11, none⟩ = some (.int .i64 q11) := (blk_cell HH.out 11).trans rfl
          have y12 : w8.cell? ⟨H, 12, none⟩ = some (.int .i64 q12) := (blk_cell HH.out 12).trans rfl
          go_wp2_with fail
          ((with_reducible refine (HHD.out _).mono ?_); rintro e w9 ⟨v, rfl, hv, hb⟩)
          have HX9 := Aside0.mk (blk_below HX.out hb); have HH9 := Aside0.mk (blk_below HH.out hb); have HB9 := Aside0.mk (below_then HB.out HB.out.size hb); have HC9 := Aside0.mk (Kd.C_below HCr.out hb)
          obtain ⟨A2, k2, rfl, hk2, hv2⟩ := brow_reads hv
          have hcv1 := Kd.C_string (P := Tryd.prog) (c := k2) Tryd.underlying27 Tryd.underlying5 Tryd.underlying9 hv2
          have hcv2 := Kd.C_string (P := Tryd.prog) (c := c) Tryd.underlying27 Tryd.underlying5 Tryd.underlying9 HC9.out
          obtain ⟨n1, hn1⟩ : ∃ n, BS.length = n := ⟨_, rfl⟩
          obtain ⟨S1, hS1⟩ : ∃ S, strOfNums BS = S := ⟨_, rfl⟩
          obtain ⟨S2, hS2⟩ : ∃ S, strOfNums l = S := ⟨_, rfl⟩
          rw [hn1, hS1] at hcv1
          rw [hS2] at hcv2
          rw [hS1, hS2] at HUV
          rw [hn1]
          clear hb HHD HX HH HB HCr hv hv2 hk2 hn1 hS1 hS2 HC9 y0 y1 y2 y3 y4 y5 y6 y7 y8 y9 y10 y11 y12
          have y0 : w9.cell? ⟨H, 0, none⟩ = some (.int .i64 q0) := (blk_cell HH9.out 0).trans rfl
          have y1 : w9.cell? ⟨H, 1, none⟩ = some (.int .i64 q1) := (blk_cell HH9.out 1).trans rfl
          have y2 : w9.cell? ⟨H, 2, none⟩ = some (.int .i64 q2) := (blk_cell HH9.out 2).trans rfl
          have y3 : w9.cell? ⟨H, 3, none⟩ = some (.int .i64 q3) := (blk_cell HH9.out 3).trans rfl
          have y4 : w9.cell? ⟨H, 4, none⟩ = some (.int .i64 q4) := (blk_cell HH9.out 4).trans rfl
          have y5 : w9.cell? ⟨H, 5, none⟩ = some (.int .i64 q5) := (blk_cell HH9.out 5).trans rfl
          have y6 : w9.cell? ⟨H, 6, none⟩ = some (.int .i64 q6) := (blk_cell HH9.out 6).trans rfl
          have y7 : w9.cell? ⟨H, 7, none⟩ = some (.int .i64 q7) := (blk_cell HH9.out 7).trans rfl
          have y8 : w9.cell? ⟨H, 8, none⟩ = some (.int .i64 q8) := (blk_cell HH9.out 8).trans rfl
          have y9 : w9.cell? ⟨H, 9, none⟩ = some (.int .i64 q9) := (blk_cell HH9.out 9).trans rfl
          have y10 : w9.cell? ⟨H, 10, none⟩ = some (.int .i64 q10) := (blk_cell HH9.out 10).trans rfl
          have y11 : w9.cell? ⟨H, 11, none⟩ = some (.int .i64 q11) := (blk_cell HH9.out 11).trans rfl
          have y12 : w9.cell? ⟨H, 12, none⟩ = some (.int .i64 q12) := (blk_cell HH9.out 12).trans rfl
          have x0 : w9.cell? ⟨X, 0, none⟩ = some (.int .i64 0) := (blk_cell HX9.out 0).trans rfl
          have x1 : w9.cell? ⟨X, 1, none⟩ = some (.int .i64 0) := (blk_cell HX9.out 1).trans rfl
          have x2 : w9.cell? ⟨X, 2, none⟩ = some (.int .i64 0) := (blk_cell HX9.out 2).trans rfl
          have x3 : w9.cell? ⟨X, 3, none⟩ = some (.int .i64 0) := (blk_cell HX9.out 3).trans rfl
          have x4 : w9.cell? ⟨X, 4, none⟩ = some (.int .i64 0) := (blk_cell HX9.out 4).trans rfl
          have x5 : w9.cell? ⟨X, 5, none⟩ = some (.int .i64 0) := (blk_cell HX9.out 5).trans rfl
          have x6 : w9.cell? ⟨X, 6, none⟩ = some (.int .i64 0) := (blk_cell HX9.out 6).trans rfl
          have x7 : w9.cell? ⟨X, 7, none⟩ = some (.int .i64 0) := (blk_cell HX9.out 7).trans rfl
          have x8 : w9.cell? ⟨X, 8, none⟩ = some (.int .i64 0) := (blk_cell HX9.out 8).trans rfl
          have x9 : w9.cell? ⟨X, 9, none⟩ = some (.int .i64 0) := (blk_cell HX9.out 9).trans rfl
          have x10 : w9.cell? ⟨X, 10, none⟩ = some (.int .i64 0) := (blk_cell HX9.out 10).trans rfl
          have x11 : w9.cell? ⟨X, 11, none⟩ = some (.int .i64 0) := (blk_cell HX9.out 11).trans rfl
          have x12 : w9.cell? ⟨X, 12, none⟩ = some (.int .i64 0) := (blk_cell HX9.out 12).trans rfl
          have f0 : w9.frozen? ⟨X, 0, none⟩ = false := blk_frozen HX9.out 0
          have f1 : w9.frozen? ⟨X, 1, none⟩ = false := blk_frozen HX9.out 1
          have f2 : w9.frozen? ⟨X, 2, none⟩ = false := blk_frozen HX9.out 2
          have f3 : w9.frozen? ⟨X, 3, none⟩ = false := blk_frozen HX9.out 3
          have f4 : w9.frozen? ⟨X, 4, none⟩ = false := blk_frozen HX9.out 4
          have f5 : w9.frozen? ⟨X, 5, none⟩ = false := blk_frozen HX9.out 5
          have f6 : w9.frozen? ⟨X, 6, none⟩ = false := blk_frozen HX9.out 6
          have f7 : w9.frozen? ⟨X, 7, none⟩ = false := blk_frozen HX9.out 7
          have f8 : w9.frozen? ⟨X, 8, none⟩ = false := blk_frozen HX9.out 8
          have f9 : w9.frozen? ⟨X, 9, none⟩ = false := blk_frozen HX9.out 9
          have f10 : w9.frozen? ⟨X, 10, none⟩ = false := blk_frozen HX9.out 10
          have f11 : w9.frozen? ⟨X, 11, none⟩ = false := blk_frozen HX9.out 11
          have f12 : w9.frozen? ⟨X, 12, none⟩ = false := blk_frozen HX9.out 12
          by_cases hok : be = 0 ∧ S1.toList = S2.toList
          · have hu1 := HUV.out.1 hok
            obtain ⟨rfl, he⟩ := hok
            have hs1 : (S1.toList == S2.toList) = true := beq_iff_eq.2 he
            have hs2 : (S1.toList != S2.toList) = false := bne_eq_false_iff_eq.2 he
            have HU := Aside0.mk hu1
            clear he hu1 HUV
            go_wp2
            refine bodyPost_ret (results_ct rfl _ _ X 24 #[.int .i64 q0, .int .i64 q1, .int .i64 q2, .int .i64 q3, .int .i64 q4, .int .i64 q5, .int .i64 q6, .int .i64 q7, .int .i64 q8, .int .i64 q9, .int .i64 q10, .int .i64 q11, .int .i64 q12] (0, 0) _ rfl (put13 HX9.out (.int .i64 q0) (.int .i64 q1) (.int .i64 q2) (.int .i64 q3) (.int .i64 q4) (.int .i64 q5) (.int .i64 q6) (.int .i64 q7) (.int .i64 q8) (.int .i64 q9) (.int .i64 q10) (.int .i64 q11) (.int .i64 q12)) hu rfl (by kernel_rfl)) rfl ?_
            rw [HU.out.1, HU.out.2]
            exact ⟨rfl, below13 HB9.out HGE.out _ _ _ _ _ _ _ _ _ _ _ _ _⟩
          · have hu1 := HUV.out.2 hok
            have HU := Aside0.mk hu1
            by_cases h0 : be = 0
            · subst h0
              have he : ¬ S1.toList = S2.toList := fun h => hok ⟨rfl, h⟩
              have hs1 : (S1.toList == S2.toList) = false := beq_eq_false_iff_ne.2 he
              have hs2 : (S1.toList != S2.toList) = true := bne_iff_ne.2 he
              clear hok hu1 HUV
              go_wp2
              refine bodyPost_ret (results_ct rfl _ _ X 24 #[.int .i64 0, .int .i64 0, .int .i64 0, .int .i64 0, .int .i64 0, .int .i64 0, .int .i64 0, .int .i64 0, .int .i64 0, .int .i64 0, .int .i64 0, .int .i64 0, .int .i64 0] (0, 0) _ rfl (put13 HX9.out (.int .i64 0) (.int .i64 0) (.int .i64 0) (.int .i64 0) (.int .i64 0) (.int .i64 0) (.int .i64 0) (.int .i64 0) (.int .i64 0) (.int .i64 0) (.int .i64 0) (.int .i64 0) (.int .i64 0)) hu rfl (by kernel_rfl)) rfl ?_
              rw [HU.out.1, HU.out.2]
              exact ⟨rfl, below13 HB9.out HGE.out _ _ _ _ _ _ _ _ _ _ _ _ _⟩
            · have d1 : (be != 0) = true := bne_iff_ne.2 h0
              clear hok hu1 HUV h0
              go_wp2
              refine bodyPost_ret (results_ct rfl _ _ X 24 #[.int .i64 0, .int .i64 0, .int .i64 0, .int .i64 0, .int .i64 0, .int .i64 0, .int .i64 0, .int .i64 0, .int .i64 0, .int .i64 0, .int .i64 0, .int .i64 0, .int .i64 0] (0, 0) _ rfl (put13 HX9.out (.int .i64 0) (.int .i64 0) (.int .i64 0) (.int .i64 0) (.int .i64 0) (.int .i64 0) (.int .i64 0) (.int .i64 0) (.int .i64 0) (.int .i64 0) (.int .i64 0) (.int .i64 0) (.int .i64 0)) hu rfl (by kernel_rfl)) rfl ?_
              rw [HU.out.1, HU.out.2]
              exact ⟨rfl, below13 HB9.out HGE.out _ _ _ _ _ _ _ _ _ _ _ _ _⟩
end Go.Proofs.YtbplffdmggbcdaaDoor.Codec
