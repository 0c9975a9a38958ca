/- A name in a directory is read: a contract. -/
import Derived.Test.YtbplffdmggbcdaaDoorKKDirent2
import Derived.Test.YtbplffdmggbcdaaDoorKKUninode
import Derived.Test.YtbplffdmggbcdaaDoorKFText
namespace Go.Proofs.YtbplffdmggbcdaaDoor.Codec
open Go.RowKit Go.Proofs.YtbplffdmggbcdaaDoor.PCodecKeeps Go.Proofs.YtbplffdmggbcdaaDoor.Plain Go.Proofs.YtbplffdmggbcdaaDoor.Pure Go.Proofs.YtbplffdmggbcdaaDoorW.PrintWords Go.Proofs.YtbplffdmggbcdaaDoorW.PrintLast Go.Proofs.YtbplffdmggbcdaaDoorW.PrintMore
set_option linter.unusedVariables false
set_option linter.unusedSimpArgs false

theorem put2 {w : World} {g : Nat} {t : TypeId} {a0 a1 : Value} (h : w.heap[g]? = some (.cells #[a0, a1] t (0, 0))) (v0 v1 : Value) : ((w.setCell ⟨g, 0, none⟩ v0).setCell ⟨g, 1, none⟩ v1).heap[g]? = some (.cells #[v0, v1] t (0, 0)) := by
  have h := blk_put (cs' := #[v0, a1]) h 0 v0 rfl
  have h := blk_put (cs' := #[v0, v1]) h 1 v1 rfl
  exact h
theorem below2 {w w0 : World} {g : Nat} (h : Below w0.heap.size w0 w) (hg : w0.heap.size ≤ g) (v0 v1 : Value) : Below w0.heap.size w0 ((w.setCell ⟨g, 0, none⟩ v0).setCell ⟨g, 1, none⟩ v1) := (below_set (below_set h hg) hg)
theorem far2 {w : World} {g k : Nat} {o : Obj} (h : w.heap[k]? = some o) (hk : k ≠ g) (v0 v1 : Value) : ((w.setCell ⟨g, 0, none⟩ v0).setCell ⟨g, 1, none⟩ v1).heap[k]? = some o := ((Below.heap_setCell _ ⟨g, 1, none⟩ v1 k hk).trans ((Below.heap_setCell _ ⟨g, 0, none⟩ v0 k hk).trans h))
/-- The text that stands in a name's bytes. -/
def textP (l : List Int) : ByteArray × Int := Field.textOut (field_part.seg l 2 13)
def undOk (l : List Int) : Prop := (textP l).2 = 0 ∧ (dirAll (nmI l 0 2) (textP l).1).2 = 0 ∧ (strOfNums (dirAll (nmI l 0 2) (textP l).1).1).toList = (strOfNums l).toList
instance (l : List Int) : Decidable (undOk l) := by unfold undOk; infer_instance
/-- What is answered of bytes: a name in a directory, if it would be written so. -/
def undOut (l : List Int) : Int × ByteArray × Int := if l.length = 16 ∧ undOk l then (nmI l 0 2, (textP l).1, 0) else (0, ⟨#[]⟩, 4)
theorem textP_cases (l : List Int) : (textP l).2 = 0 ∨ (textP l).2 = 4 := by
  unfold textP Field.textOut
  split
  · exact .inl rfl
  · exact .inr rfl
theorem dirAll_err (x : Int) (t : ByteArray) : (dirAll x t).2 ≠ 0 → (dirAll x t).1 = [] := by
  unfold dirAll dirOut
  intro h
  split at h
  · rename_i c; rw [if_pos c]
  · rename_i c
    rw [if_neg c]
    split at h
    · rename_i c2; rw [if_pos c2]
    · rename_i c2
      rw [if_neg c2]
      split at h
      · exact absurd rfl h
      · rename_i c3; rw [if_neg c3]
theorem undOut_cases (l : List Int) (h16 : l.length = 16) (x : Int) (hx : nmI l 0 2 = x) (s : ByteArray) (e : Int) (ht : textP l = (s, e)) (BS : List Int) (be : Int) (hd : dirAll x s = (BS, be)) :
    (e = 0 → be = 0 → (strOfNums BS).toList = (strOfNums l).toList → undOut l = (x, s, 0)) ∧ (¬ (e = 0 ∧ be = 0 ∧ (strOfNums BS).toList = (strOfNums l).toList) → undOut l = (0, ⟨#[]⟩, 4)) := by
  have key : undOk l ↔ (e = 0 ∧ be = 0 ∧ (strOfNums BS).toList = (strOfNums l).toList) := by
    unfold undOk
    rw [ht, hx]
    simp only [hd]
  refine ⟨fun h1 h2 h3 => ?_, fun h => ?_⟩
  · unfold undOut
    rw [if_pos ⟨h16, key.2 ⟨h1, h2, h3⟩⟩, ht, hx]
  · unfold undOut
    rw [if_neg fun q => h (key.1 q.2)]
set_option maxHeartbeats 4000000 in
set_option maxRecDepth 100000 in
theorem undirent_calls (A : Option Addr) (c : Nat) (l : List Int) (w : World) (hr : Kd.C (Kd.int .u8) w A l.length l) (hc : l.length ≤ c) (hl : Bytes l) (hs : l.length ≤ 140737488351232) :
    Calls Tryd.prog 13 #[.slice A l.length c] w fun e w' => e = .returned (.tuple #[.agg #[.int .i64 (undOut l).1, .string (undOut l).2.1], .int .i64 (undOut l).2.2]) ∧ Below w.heap.size w w' := by
  have hu := Tryd.underlying26
  have hu3 := Tryd.underlying80
  have HR0 := Aside0.mk hr
  have HLS := Aside0.mk (And.intro hl (And.intro hs hc))
  by_cases h16 : l.length = 16
  rotate_left
  · have hb : ((l.length : Int) != 16) = true := bne_iff_ne.2 (by omega)
    have hb2 : (l.length != 16) = true := bne_iff_ne.2 h16
    have hb3 : (l.length == 16) = false := beq_eq_false_iff_ne.2 h16
    have HU : Aside0 (undOut l = (0, ⟨#[]⟩, 4)) := ⟨by unfold undOut; rw [if_neg fun h => h16 h.1]⟩
    clear hr hc hl hs h16
    go_enter Tryd.func13, Tryd.ntmps13
    go_upto_region 1 with (((with_reducible refine gate_dst (N := 2) rfl ?_); refine box_event ?hg (N := 2) ?hd (cs := #[.int .i64 0, .string ⟨#[]⟩]) (t := 26) ?hr ?_; (case hd => rfl); (case hg => rfl); (case hr => first | (go_simp; done) | (go_simp; rfl)); intro X hgX w1 hbox hb; have BKX := Aside0.mk hbox; have BHX := Aside0.mk hb; have GEX := Aside0.mk hgX; clear hb hbox hgX))
    have HGE : Aside0 (w.heap.size ≤ X) := ⟨by have := GEX.out; omega⟩
    have HX2 := Aside0.mk BKX.out
    have HB2 := Aside0.mk BHX.out
    clear BKX BHX GEX
    obtain ⟨x0, x1⟩ := cl2 HX2
    obtain ⟨f0, f1⟩ := fz2 HX2
    go_wp2
    refine bodyPost_ret (results_ct rfl _ _ X 26 #[.int .i64 0, .string ⟨#[]⟩] (0, 0) _ rfl (put2 HX2.out (.int .i64 0) (.string ⟨#[]⟩)) hu rfl (by kernel_rfl)) rfl ?_
    rw [HU.out]
    exact ⟨rfl, below2 HB2.out HGE.out _ _⟩
  · have hb : ((l.length : Int) != 16) = false := bne_eq_false_iff_eq.2 (by omega)
    have hb2 : (l.length != 16) = false := bne_eq_false_iff_eq.2 h16
    have hb3 : (l.length == 16) = true := beq_iff_eq.2 h16
    obtain ⟨x, hx⟩ : ∃ x, nmI l 0 2 = x := ⟨_, rfl⟩
    obtain ⟨⟨s, e0⟩, ht⟩ : ∃ z, textP l = z := ⟨_, rfl⟩
    obtain ⟨⟨BS, be⟩, hd⟩ : ∃ z, dirAll x s = z := ⟨_, rfl⟩
    have hUV := undOut_cases l h16 x hx s e0 ht BS be hd
    have hte := textP_cases l
    rw [ht] at hte
    have hin : field_part.Inside l 2 13 := ⟨by omega, by omega, by omega, by omega⟩
    have HTX0 : Aside0 (∀ W, Kd.C (Kd.int .u8) W A l.length l → Calls Tryd.prog 41 #[.slice A l.length c, .int .i64 2, .int .i64 13] W (fun e w' => e = .returned (.tuple #[.string s, .int .i64 e0]) ∧ Below W.heap.size W w')) := ⟨fun W hC => by
      refine (Field.text_ok A c l 2 13 W hC hc hs hin).mono ?_
      rintro e w' ⟨rfl, nd, rfl⟩
      have e1 : Field.textOut (field_part.seg l 2 13) = (s, e0) := ht
      rw [e1]
      exact ⟨rfl, pw_below_drewN (Below.refl _ _) nd⟩⟩
    have HDC : Aside0 (∀ W, Calls Tryd.prog 11 #[.agg #[.int .i64 x, .string s]] W (fun e w' => ∃ v, e = .returned (.tuple #[v, .int .i64 be]) ∧ Kd.R (Kd.int .u8) 5 w' W.heap.size (fun _ => True) v BS ∧ Below W.heap.size W w')) := ⟨fun W => by have h := dirent_calls x s W; rw [hd] at h; exact h⟩
    have hbe := dirAll_err x s
    rw [hd] at hbe
    have HBE := Aside0.mk hbe
    have H16 := Aside0.mk h16
    have HXV := Aside0.mk hx
    clear hr hc hl hs h16 hx ht hd hin hbe
    go_enter Tryd.func13, Tryd.ntmps13
    go_upto_region 1 with (((with_reducible refine gate_dst (N := 2) rfl ?_); refine box_event ?hg (N := 2) ?hd (cs := #[.int .i64 0, .string ⟨#[]⟩]) (t := 26) ?hr ?_; (case hd => rfl); (case hg => rfl); (case hr => first | (go_simp; done) | (go_simp; rfl)); intro X hgX w1 hbox hb; have BKX := Aside0.mk hbox; have BHX := Aside0.mk hb; have GEX := Aside0.mk hgX; clear hb hbox hgX))
    have HGE : Aside0 (w.heap.size ≤ X) := ⟨by have := GEX.out; omega⟩
    have HX1 := Aside0.mk BKX.out
    have HB1 := Aside0.mk BHX.out
    have HC1 := Aside0.mk (Kd.C_below HR0.out BHX.out)
    clear BKX BHX GEX
    have HTX := Aside0.mk (HTX0.out w1 HC1.out)
    go_wp2_with fail
    refine HTX.out.mono ?_
    rintro e w2 ⟨rfl, hbt⟩
    have HX2 := Aside0.mk (blk_below HX1.out hbt)
    have HB2 := Aside0.mk (below_then HB1.out HB1.out.size hbt)
    have HC2 := Aside0.mk (Kd.C_below HC1.out hbt)
    clear hbt HTX HTX0 HX1 HB1 HC1
    rcases hte with rfl | rfl
    rotate_left
    · have HU := Aside0.mk (hUV.2 (fun q => by cases q.1))
      clear hUV
      obtain ⟨x0, x1⟩ := cl2 HX2
      obtain ⟨f0, f1⟩ := fz2 HX2
      go_wp2
      refine bodyPost_ret (results_ct rfl _ _ X 26 #[.int .i64 0, .string ⟨#[]⟩] (0, 0) _ rfl (put2 HX2.out (.int .i64 0) (.string ⟨#[]⟩)) hu rfl (by kernel_rfl)) rfl ?_
      rw [HU.out]
      exact ⟨rfl, below2 HB2.out HGE.out _ _⟩
    · have HUV := Aside0.mk hUV
      clear hUV
      go_upto_region 7 with (((with_reducible refine gate_dst (N := 23) rfl ?_); refine box_event ?hg (N := 23) ?hd (cs := #[.slice A l.length c, .int .i64 0]) (t := 80) ?hr ?_; (case hd => rfl); (case hg => rfl); (case hr => first | (go_simp; done) | (go_simp; rfl)); intro RP hgRP w3 hbox hb; have BKRP := Aside0.mk hbox; have BHRP := Aside0.mk hb; have GERP := Aside0.mk hgRP; clear hb hbox hgRP))
      have HX3 := Aside0.mk (blk_below HX2.out BHRP.out)
      have HB3 := Aside0.mk (below_then HB2.out HB2.out.size BHRP.out)
      have HC3 := Aside0.mk (Kd.C_below HC2.out BHRP.out)
      have HLR : Aside0 (X < RP) := ⟨by have := blk_lt HX2.out; have := GERP.out; omega⟩
      have HAL := Aside0.mk (arg_lt HR0.out)
      have HRD := Aside0.mk (show Reader w3 RP A c l 0 from ⟨BKRP.out, HC3.out, HLS.out.2.2, fun ad e h => by have := HAL.out ad e h; have := HLR.out; have := HGE.out; omega⟩)
      clear BKRP BHRP GERP HX2 HB2 HC2
      have HRN : Aside0 (Calls Tryd.prog 37 #[.pointer (some ⟨RP, 0, none⟩), .int .i64 2] w3 (fun e w' => e = .returned (.int .i64 (le (field_part.seg l (0 : Nat) (2 : Nat)))) ∧ Reader w' RP A c l 2 ∧ Wrote w3 w' RP nilV nilV)) := ⟨rnum_calls 2 (by decide) HRD.out HLS.out.1 HLS.out.2.1 (by have := H16.out; omega)⟩
      go_wp2_with fail
      ((with_reducible refine HRN.out.mono ?_); rintro e w4 ⟨rfl, hrd, hq⟩)
      rw [rnumI, HXV.out]
      have HX4 := Aside0.mk ((hq.block X (blk_lt HX3.out) (by have := HLR.out; omega) (by simp [nilV, Value.ownBlock])).trans HX3.out)
      have HB4 := Aside0.mk (hq.below (base := w.heap.size) (by have := HLR.out; have := HGE.out; omega) (fun k e => by simp [nilV, Value.ownBlock] at e) HB3.out HB3.out.size)
      have HC4 := Aside0.mk (Kd.C_below HR0.out HB4.out)
      clear hrd hq HRN HRD HX3 HB3 HC3
      go_upto_region 8 with (((with_reducible refine gate_dst (N := 7) rfl ?_); refine box_event ?hg (N := 7) ?hd (cs := #[.int .i64 0, .string ⟨#[]⟩]) (t := 26) ?hr ?_; (case hd => rfl); (case hg => rfl); (case hr => first | (go_simp; done) | (go_simp; rfl)); intro H hgH w5 hbox hb; have BKH := Aside0.mk hbox; have BHH := Aside0.mk hb; have GEH := Aside0.mk hgH; clear hb hbox hgH; obtain ⟨y0, y1⟩ := cl2 BKH; obtain ⟨f0, f1⟩ := fz2 BKH))
      have x0 : True := trivial
      have x1 : True := trivial
      have HLT : Aside0 (X < H) := ⟨by have := blk_lt HX4.out; have := GEH.out; omega⟩
      have HX6 := Aside0.mk (far2 (g := H) (blk_below HX4.out BHH.out) (by have := HLT.out; show X ≠ H; omega) (.int .i64 x) (.string s))
      have HH6 := Aside0.mk (put2 BKH.out (.int .i64 x) (.string s))
      have HB6 := Aside0.mk (below2 (g := H) (below_then HB4.out HB4.out.size BHH.out) (by have := HLT.out; have := HGE.out; omega) (.int .i64 x) (.string s))
      have HC6 := Aside0.mk (Kd.C_below HR0.out HB6.out)
      obtain ⟨w6, hw6⟩ : ∃ w6, ((w5.setCell ⟨H, 0, none⟩ (.int .i64 x)).setCell ⟨H, 1, none⟩ (.string s)) = w6 := ⟨_, rfl⟩
      rw [hw6] at HX6 HH6 HB6 HC6
      clear y0 y1 f0 f1
      obtain ⟨y0, y1⟩ := cl2 HH6
      go_wp2_with fail
      clear BKH BHH GEH HX4 HB4 HC4 y0 y1 hw6
      ((with_reducible refine (HDC.out _).mono ?_); rintro e w9 ⟨v, rfl, hv, hb⟩)
      have HX9 := Aside0.mk (blk_below HX6.out hb); have HH9 := Aside0.mk (blk_below HH6.out hb); have HB9 := Aside0.mk (below_then HB6.out HB6.out.size hb); have HC9 := Aside0.mk (Kd.C_below HC6.out hb)
      obtain ⟨A2, k2, rfl, hk2, hv2⟩ := brow_reads hv
      clear hb HDC HX6 HH6 HB6 HC6 hv
      have hap : ∃ m0 m1 m2, undOut l = (m0, m1, m2) ∧ api_Dirent.f x s l BS be = some (m0, m1, m2) := by
        unfold api_Dirent.f bytes_Equal.f
        by_cases h0 : be = 0
        · rw [if_pos h0]
          by_cases hq : (strOfNums BS).toList = (strOfNums l).toList
          · exact ⟨_, _, _, HUV.out.1 (by simp) h0 hq, by rw [hq]; simp⟩
          · have c2 : ((strOfNums l).toList == (strOfNums BS).toList) = false := beq_eq_false_iff_ne.2 fun q => hq q.symm
            exact ⟨_, _, _, HUV.out.2 (fun q => hq q.2.2), by rw [c2]; rfl⟩
        · rw [if_neg h0]
          exact ⟨_, _, _, HUV.out.2 (fun q => h0 q.2.1), rfl⟩
      obtain ⟨m0, m1, m2, huo, hap⟩ := hap
      have HUO := Aside0.mk huo
      have HAP := Aside0.mk hap
      clear huo hap HUV
      obtain ⟨y0, y1⟩ := cl2 HH9
      have HSA := Aside0.mk (api_Dirent.calls x s A c l A2 k2 BS be m0 m1 m2 w9 HC9.out HLS.out.2.2 hv2 hk2 HAP.out)
      clear hv2 hk2 HAP
      go_wp2_with fail
      ((with_reducible refine HSA.out.mono ?_); rintro e w10 ⟨rfl, hb⟩)
      have HX10 := Aside0.mk (blk_below HX9.out hb); have HB10 := Aside0.mk (below_then HB9.out HB9.out.size hb)
      clear hb HSA HX9 HH9 HB9 HC9 y0 y1
      obtain ⟨x0, x1⟩ := cl2 HX10
      obtain ⟨f0, f1⟩ := fz2 HX10
      go_wp2
      refine bodyPost_ret (results_ct rfl _ _ X 26 #[.int .i64 m0, .string m1] (0, 0) _ rfl (put2 HX10.out (.int .i64 m0) (.string m1)) hu rfl (by kernel_rfl)) rfl ?_
      rw [HUO.out]
      exact ⟨rfl, below2 HB10.out HGE.out _ _⟩
end Go.Proofs.YtbplffdmggbcdaaDoor.Codec
