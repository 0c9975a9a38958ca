/- The reference reads a name in a directory: a contract. -/
import Derived.Test.YtbplffdmggbcdaaDoorKKUndir
import Derived.Test.YtbplffdmggbcdaaDoorKKRdirent
import Derived.Test.YtbplffdmggbcdaaDoorKKRunino
import Derived.Test.YtbplffdmggbcdaaDoorKKRtext
namespace Go.Proofs.YtbplffdmggbcdaaDoor.Codec
open Go.RowKit Go.Proofs.YtbplffdmggbcdaaDoor.PCodecInodes Go.Proofs.YtbplffdmggbcdaaDoor.Plain Go.Proofs.YtbplffdmggbcdaaDoor.Pure Go.Proofs.YtbplffdmggbcdaaDoorW.PrintWords Go.Proofs.YtbplffdmggbcdaaDoorW.PrintLast Go.Proofs.YtbplffdmggbcdaaDoorW.PrintMore
set_option linter.unusedVariables false
set_option linter.unusedSimpArgs false

set_option maxHeartbeats 4000000 in
set_option maxRecDepth 100000 in
theorem rundirent_calls (A : Option Addr) (c : Nat) (l : List Int) (w : World) (hr : Kd.C (Kd.int .u8) w A l.length l) (hc : l.length ≤ c) (hl : Bytes l) (hs : l.length ≤ 140737488351232) :
    Calls Tryd.prog 14 #[.slice A l.length c] w fun e w' => e = .returned (.tuple #[.agg #[.int .i64 (undOut l).1, .string (undOut l).2.1], .int .i64 (undOut l).2.2]) ∧ Below w.heap.size w w' := by
  have hu := Tryd.underlying26
  have HR0 := Aside0.mk hr
  by_cases h16 : l.length = 16
  rotate_left
  · have hb : ((l.length : Int) != 16) = true := bne_iff_ne.2 (by omega)
    have hb2 : (l.length != 16) = true := bne_iff_ne.2 h16
    have hb3 : (l.length == 16) = false := beq_eq_false_iff_ne.2 h16
    have HU : Aside0 (undOut l = (0, ⟨#[]⟩, 4)) := ⟨by unfold undOut; rw [if_neg fun h => h16 h.1]⟩
    clear hr hc hl hs h16
    go_enter Tryd.func14, Tryd.ntmps14
    go_upto_region 1 with (((with_reducible refine gate_dst (N := 2) rfl ?_); refine box_event ?hg (N := 2) ?hd (cs := #[.int .i64 0, .string ⟨#[]⟩]) (t := 26) ?hr ?_; (case hd => rfl); (case hg => rfl); (case hr => first | (go_simp; done) | (go_simp; rfl)); intro X hgX w1 hbox hb; have BKX := Aside0.mk hbox; have BHX := Aside0.mk hb; have GEX := Aside0.mk hgX; clear hb hbox hgX))
    have HGE : Aside0 (w.heap.size ≤ X) := ⟨by have := GEX.out; omega⟩
    have HX2 := Aside0.mk BKX.out
    have HB2 := Aside0.mk BHX.out
    clear BKX BHX GEX
    have x0 : w1.cell? ⟨X, 0, none⟩ = some (.int .i64 0) := (blk_cell HX2.out 0).trans rfl
    have x1 : w1.cell? ⟨X, 1, none⟩ = some (.string ⟨#[]⟩) := (blk_cell HX2.out 1).trans rfl
    have f0 : w1.frozen? ⟨X, 0, none⟩ = false := blk_frozen HX2.out 0
    have f1 : w1.frozen? ⟨X, 1, none⟩ = false := blk_frozen HX2.out 1
    go_wp2
    refine bodyPost_ret (results_ct rfl _ _ X 26 #[.int .i64 0, .string ⟨#[]⟩] (0, 0) _ rfl (put2 HX2.out (.int .i64 0) (.string ⟨#[]⟩)) hu rfl (by kernel_rfl)) rfl ?_
    rw [HU.out]
    exact ⟨rfl, below2 HB2.out HGE.out _ _⟩
  · have hb : ((l.length : Int) != 16) = false := bne_eq_false_iff_eq.2 (by omega)
    have hb2 : (l.length != 16) = false := bne_eq_false_iff_eq.2 h16
    have hb3 : (l.length == 16) = true := beq_iff_eq.2 h16
    obtain ⟨x, hx⟩ : ∃ x, nmI l 0 2 = x := ⟨_, rfl⟩
    obtain ⟨⟨s, e0⟩, ht⟩ : ∃ z, textP l = z := ⟨_, rfl⟩
    obtain ⟨⟨BS, be⟩, hd⟩ : ∃ z, dirAll x s = z := ⟨_, rfl⟩
    have hUV := undOut_cases l h16 x hx s e0 ht BS be hd
    have hte := textP_cases l
    rw [ht] at hte
    have hin : field_part.Inside l 2 13 := ⟨by omega, by omega, by omega, by omega⟩
    have HTX0 : Aside0 (∀ W, Kd.C (Kd.int .u8) W A l.length l → Calls Tryd.prog 43 #[.slice A l.length c, .int .i64 2, .int .i64 13] W (fun e w' => e = .returned (.tuple #[.string s, .int .i64 e0]) ∧ Below W.heap.size W w')) := ⟨fun W hC => by
      refine (skerryref01_Text.calls 40 A c l 2 13 s e0 W hC hc ?_).mono ?_
      · rw [rtext_is hl h16]
        exact congrArg some ht
      · rintro e w' ⟨rfl, hd⟩
        exact ⟨rfl, hd.below⟩⟩
    have HDC : Aside0 (∀ W, Calls Tryd.prog 12 #[.agg #[.int .i64 x, .string s]] W (fun e w' => ∃ v, e = .returned (.tuple #[v, .int .i64 be]) ∧ Kd.R (Kd.int .u8) 5 w' W.heap.size (fun _ => True) v BS ∧ Below W.heap.size W w')) := ⟨fun W => by have h := rdirent_calls x s W; rw [hd] at h; exact h⟩
    have HNUM : Aside0 (∀ W, Kd.C (Kd.int .u8) W A l.length l → Calls Tryd.prog 39 #[.slice A l.length c, .int .i64 0, .int .i64 2] W (fun e w' => e = .returned (.int .i64 x) ∧ Below W.heap.size W w')) := ⟨fun W hC => by have h := rnumI_calls (A := A) (c := c) hc hl hs 0 2 (by decide) (by omega) W hC; rw [hx] at h; exact h⟩
    clear hr hc hl hs h16 hx ht hd hin
    go_enter Tryd.func14, Tryd.ntmps14
    go_upto_region 1 with (((with_reducible refine gate_dst (N := 2) rfl ?_); refine box_event ?hg (N := 2) ?hd (cs := #[.int .i64 0, .string ⟨#[]⟩]) (t := 26) ?hr ?_; (case hd => rfl); (case hg => rfl); (case hr => first | (go_simp; done) | (go_simp; rfl)); intro X hgX w1 hbox hb; have BKX := Aside0.mk hbox; have BHX := Aside0.mk hb; have GEX := Aside0.mk hgX; clear hb hbox hgX))
    have HGE : Aside0 (w.heap.size ≤ X) := ⟨by have := GEX.out; omega⟩
    have HX1 := Aside0.mk BKX.out
    have HB1 := Aside0.mk BHX.out
    have HC1 := Aside0.mk (Kd.C_below HR0.out BHX.out)
    clear BKX BHX GEX
    have HTX := Aside0.mk (HTX0.out w1 HC1.out)
    go_wp2_with fail
    refine HTX.out.mono ?_
    rintro e w2 ⟨rfl, hbt⟩
    have HX2 := Aside0.mk (blk_below HX1.out hbt)
    have HB2 := Aside0.mk (below_then HB1.out HB1.out.size hbt)
    have HC2 := Aside0.mk (Kd.C_below HC1.out hbt)
    clear hbt HTX HTX0 HX1 HB1 HC1
    rcases hte with rfl | rfl
    rotate_left
    · have HU := Aside0.mk (hUV.2 (fun q => by cases q.1))
      clear hUV
      have x0 : w2.cell? ⟨X, 0, none⟩ = some (.int .i64 0) := (blk_cell HX2.out 0).trans rfl
      have x1 : w2.cell? ⟨X, 1, none⟩ = some (.string ⟨#[]⟩) := (blk_cell HX2.out 1).trans rfl
      have f0 : w2.frozen? ⟨X, 0, none⟩ = false := blk_frozen HX2.out 0
      have f1 : w2.frozen? ⟨X, 1, none⟩ = false := blk_frozen HX2.out 1
      go_wp2
      refine bodyPost_ret (results_ct rfl _ _ X 26 #[.int .i64 0, .string ⟨#[]⟩] (0, 0) _ rfl (put2 HX2.out (.int .i64 0) (.string ⟨#[]⟩)) hu rfl (by kernel_rfl)) rfl ?_
      rw [HU.out]
      exact ⟨rfl, below2 HB2.out HGE.out _ _⟩
    · have HUV := Aside0.mk hUV
      clear hUV
      go_wp2_with fail
      ((refine (HNUM.out w2 HC2.out).mono ?_); rintro e w4 ⟨rfl, hb⟩)
      have HX4 := Aside0.mk (blk_below HX2.out hb); have HB4 := Aside0.mk (below_then HB2.out HB2.out.size hb); have HC4 := Aside0.mk (Kd.C_below HC2.out hb)
      clear hb HNUM HX2 HB2 HC2
      go_upto_region 7 with (((with_reducible refine gate_dst (N := 6) rfl ?_); refine box_event ?hg (N := 6) ?hd (cs := #[.int .i64 0, .string ⟨#[]⟩]) (t := 26) ?hr ?_; (case hd => rfl); (case hg => rfl); (case hr => first | (go_simp; done) | (go_simp; rfl)); intro H hgH w5 hbox hb; have BKH := Aside0.mk hbox; have BHH := Aside0.mk hb; have GEH := Aside0.mk hgH; clear hb hbox hgH; have y0 : w5.cell? ⟨H, 0, none⟩ = some (.int .i64 0) := (blk_cell BKH.out 0).trans rfl; have y1 : w5.cell? ⟨H, 1, none⟩ = some (.string ⟨#[]⟩) := (blk_cell BKH.out 1).trans rfl; have f0 : w5.frozen? ⟨H, 0, none⟩ = false := blk_frozen BKH.out 0; have f1 : w5.frozen? ⟨H, 1, none⟩ = false := blk_frozen BKH.out 1))
      have HLT : Aside0 (X < H) := ⟨by have := blk_lt HX4.out; have := GEH.out; omega⟩
      have HX6 := Aside0.mk (far2 (g := H) (blk_below HX4.out BHH.out) (by have := HLT.out; show X ≠ H; omega) (.int .i64 x) (.string s))
      have HH6 := Aside0.mk (put2 BKH.out (.int .i64 x) (.string s))
      have HB6 := Aside0.mk (below2 (g := H) (below_then HB4.out HB4.out.size BHH.out) (by have := HLT.out; have := HGE.out; omega) (.int .i64 x) (.string s))
      have HC6 := Aside0.mk (Kd.C_below HR0.out HB6.out)
      obtain ⟨w6, hw6⟩ : ∃ w6, ((w5.setCell ⟨H, 0, none⟩ (.int .i64 x)).setCell ⟨H, 1, none⟩ (.string s)) = w6 := ⟨_, rfl⟩
      rw [hw6] at HX6 HH6 HB6 HC6
      clear y0 y1 f0 f1
      have y0 : w6.cell? ⟨H, 0, none⟩ = some (.int .i64 x) := (blk_cell HH6.out 0).trans rfl
      have y1 : w6.cell? ⟨H, 1, none⟩ = some (.string s) := (blk_cell HH6.out 1).trans rfl
      go_wp2_with fail
      clear BKH BHH GEH HX4 HB4 HC4 y0 y1 hw6
      ((with_reducible refine (HDC.out _).mono ?_); rintro e w9 ⟨v, rfl, hv, hb⟩)
      have HX9 := Aside0.mk (blk_below HX6.out hb); have HH9 := Aside0.mk (blk_below HH6.out hb); have HB9 := Aside0.mk (below_then HB6.out HB6.out.size hb); have HC9 := Aside0.mk (Kd.C_below HC6.out hb)
      obtain ⟨A2, k2, rfl, hk2, hv2⟩ := brow_reads hv
      clear hb HDC HX6 HH6 HB6 HC6 hv
      have hcv1 := Kd.C_string (P := Tryd.prog) (c := k2) Tryd.underlying27 Tryd.underlying5 Tryd.underlying9 hv2
      have hcv2 := Kd.C_string (P := Tryd.prog) (c := c) Tryd.underlying27 Tryd.underlying5 Tryd.underlying9 HC9.out
      obtain ⟨n1, hn1⟩ : ∃ n, BS.length = n := ⟨_, rfl⟩
      obtain ⟨S1, hS1⟩ : ∃ S, strOfNums BS = S := ⟨_, rfl⟩
      obtain ⟨S2, hS2⟩ : ∃ S, strOfNums l = S := ⟨_, rfl⟩
      have HUV := HUV.out
      rw [hn1, hS1] at hcv1
      rw [hS2] at hcv2
      rw [hS1, hS2] at HUV
      rw [hn1]
      clear hv2 hk2 hn1 hS1 hS2 HC9
      have y0 : w9.cell? ⟨H, 0, none⟩ = some (.int .i64 x) := (blk_cell HH9.out 0).trans rfl
      have y1 : w9.cell? ⟨H, 1, none⟩ = some (.string s) := (blk_cell HH9.out 1).trans rfl
      have x0 : w9.cell? ⟨X, 0, none⟩ = some (.int .i64 0) := (blk_cell HX9.out 0).trans rfl
      have x1 : w9.cell? ⟨X, 1, none⟩ = some (.string ⟨#[]⟩) := (blk_cell HX9.out 1).trans rfl
      have f0 : w9.frozen? ⟨X, 0, none⟩ = false := blk_frozen HX9.out 0
      have f1 : w9.frozen? ⟨X, 1, none⟩ = false := blk_frozen HX9.out 1
      by_cases hok : be = 0 ∧ S1.toList = S2.toList
      · have HU := Aside0.mk (HUV.1 (by simp) hok.1 hok.2)
        obtain ⟨rfl, he⟩ := hok
        have hs1 : (S1.toList == S2.toList) = true := beq_iff_eq.2 he
        have hs2 : (S1.toList != S2.toList) = false := bne_eq_false_iff_eq.2 he
        clear he HUV
        go_wp2
        refine bodyPost_ret (results_ct rfl _ _ X 26 #[.int .i64 x, .string s] (0, 0) _ rfl (put2 HX9.out (.int .i64 x) (.string s)) hu rfl (by kernel_rfl)) rfl ?_
        rw [HU.out]
        exact ⟨rfl, below2 HB9.out HGE.out _ _⟩
      · have HU := Aside0.mk (HUV.2 fun q => hok ⟨q.2.1, q.2.2⟩)
        clear HUV
        by_cases h0 : be = 0
        · subst h0
          have he : ¬ S1.toList = S2.toList := fun h => hok ⟨rfl, h⟩
          have hs1 : (S1.toList == S2.toList) = false := beq_eq_false_iff_ne.2 he
          have hs2 : (S1.toList != S2.toList) = true := bne_iff_ne.2 he
          clear hok he
          go_wp2
          refine bodyPost_ret (results_ct rfl _ _ X 26 #[.int .i64 0, .string ⟨#[]⟩] (0, 0) _ rfl (put2 HX9.out (.int .i64 0) (.string ⟨#[]⟩)) hu rfl (by kernel_rfl)) rfl ?_
          rw [HU.out]
          exact ⟨rfl, below2 HB9.out HGE.out _ _⟩
        · have d1 : (be != 0) = true := bne_iff_ne.2 h0
          clear hok h0
          go_wp2
          refine bodyPost_ret (results_ct rfl _ _ X 26 #[.int .i64 0, .string ⟨#[]⟩] (0, 0) _ rfl (put2 HX9.out (.int .i64 0) (.string ⟨#[]⟩)) hu rfl (by kernel_rfl)) rfl ?_
          rw [HU.out]
          exact ⟨rfl, below2 HB9.out HGE.out _ _⟩
end Go.Proofs.YtbplffdmggbcdaaDoor.Codec
