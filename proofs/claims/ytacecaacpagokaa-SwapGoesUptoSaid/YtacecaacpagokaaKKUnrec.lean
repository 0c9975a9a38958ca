/- A record is read: a contract. -/
import Derived.Test.YtacecaacpagokaaKKReader
namespace Go.Proofs.Ytacecaacpagokaa.Codec
open Go.RowKit Go.Proofs.Ytacecaacpagokaa.PSwapGoes Go.Proofs.Ytacecaacpagokaa.Plain Go.Proofs.Ytacecaacpagokaa.Pure Go.Proofs.YtacecaacpagokaaW.PrintWords Go.Proofs.YtacecaacpagokaaW.PrintLast Go.Proofs.YtacecaacpagokaaW.PrintMore
set_option linter.unusedVariables false
set_option linter.unusedSimpArgs false

theorem put9 {w : World} {g : Nat} {t : TypeId} {a0 a1 a2 a3 a4 a5 a6 a7 a8 : Value} (h : w.heap[g]? = some (.cells #[a0, a1, a2, a3, a4, a5, a6, a7, a8] t (0, 0))) (v0 v1 v2 v3 v4 v5 v6 v7 v8 : Value) : (((((((((w.setCell ⟨g, 0, none⟩ v0).setCell ⟨g, 1, none⟩ v1).setCell ⟨g, 2, none⟩ v2).setCell ⟨g, 3, none⟩ v3).setCell ⟨g, 4, none⟩ v4).setCell ⟨g, 5, none⟩ v5).setCell ⟨g, 6, none⟩ v6).setCell ⟨g, 7, none⟩ v7).setCell ⟨g, 8, none⟩ v8).heap[g]? = some (.cells #[v0, v1, v2, v3, v4, v5, v6, v7, v8] t (0, 0)) := by
  have h := blk_put (cs' := #[v0, a1, a2, a3, a4, a5, a6, a7, a8]) h 0 v0 rfl
  have h := blk_put (cs' := #[v0, v1, a2, a3, a4, a5, a6, a7, a8]) h 1 v1 rfl
  have h := blk_put (cs' := #[v0, v1, v2, a3, a4, a5, a6, a7, a8]) h 2 v2 rfl
  have h := blk_put (cs' := #[v0, v1, v2, v3, a4, a5, a6, a7, a8]) h 3 v3 rfl
  have h := blk_put (cs' := #[v0, v1, v2, v3, v4, a5, a6, a7, a8]) h 4 v4 rfl
  have h := blk_put (cs' := #[v0, v1, v2, v3, v4, v5, a6, a7, a8]) h 5 v5 rfl
  have h := blk_put (cs' := #[v0, v1, v2, v3, v4, v5, v6, a7, a8]) h 6 v6 rfl
  have h := blk_put (cs' := #[v0, v1, v2, v3, v4, v5, v6, v7, a8]) h 7 v7 rfl
  have h := blk_put (cs' := #[v0, v1, v2, v3, v4, v5, v6, v7, v8]) h 8 v8 rfl
  exact h
theorem below9 {w w0 : World} {g : Nat} (h : Below w0.heap.size w0 w) (hg : w0.heap.size ≤ g) (v0 v1 v2 v3 v4 v5 v6 v7 v8 : Value) : Below w0.heap.size w0 (((((((((w.setCell ⟨g, 0, none⟩ v0).setCell ⟨g, 1, none⟩ v1).setCell ⟨g, 2, none⟩ v2).setCell ⟨g, 3, none⟩ v3).setCell ⟨g, 4, none⟩ v4).setCell ⟨g, 5, none⟩ v5).setCell ⟨g, 6, none⟩ v6).setCell ⟨g, 7, none⟩ v7).setCell ⟨g, 8, none⟩ v8) := (below_set (below_set (below_set (below_set (below_set (below_set (below_set (below_set (below_set h hg) hg) hg) hg) hg) hg) hg) hg) hg)
/-- What is read from a record's text. -/
def recVals (p : List Int) : Array Value := #[.int .i64 (le (field_part.seg p 0 4)), .int .i64 (le (field_part.seg p 4 4)), .int .i64 (le (field_part.seg p 16 2)), .int .i64 (le (field_part.seg p 18 2)), .int .i64 (le (field_part.seg p 20 2)), .int .i64 (le (field_part.seg p 22 2)), .int .i64 (le (field_part.seg p 8 4)), .int .i64 (le (field_part.seg p 12 4)), .string (strOfNums (p.drop 24))]
def recZero : Array Value := #[.int .i64 0, .int .i64 0, .int .i64 0, .int .i64 0, .int .i64 0, .int .i64 0, .int .i64 0, .int .i64 0, .string ⟨#[]⟩]
/-- What the reader of a record answers, the frame's own answer given. -/
def recRes (u : List Int × Int × Int) : Value := if u.2.2 = 0 then (if u.1.length < 24 then .tuple #[.agg recZero, .int .i64 0, .int .i64 4] else .tuple #[.agg (recVals u.1), .int .i64 u.2.1, .int .i64 0]) else .tuple #[.agg recZero, .int .i64 0, .int .i64 u.2.2]
theorem unf_bytes {l : List Int} (h : Bytes l) (a : Int) : Bytes (unf l a).1 ∧ (unf l a).1.length ≤ l.length := by
  unfold unf
  split
  · exact ⟨Bytes.nil, by simp⟩
  · split
    · exact ⟨Bytes.nil, by simp⟩
    · split
      · exact ⟨((h.drop _).take _).drop _, by simp only [List.length_drop, List.length_take]; omega⟩
      · exact ⟨Bytes.nil, by simp⟩
/-- Where a record's four numbers go. -/
def PX (X : Nat) (i : Nat) : Nat × Nat := (X, [0, 1, 6, 7].getD i 0)
theorem upd4 (X : Nat) (Z : Nat → Int) : upd (PX X) Z X #[.int .i64 0, .int .i64 0, .int .i64 0, .int .i64 0, .int .i64 0, .int .i64 0, .int .i64 0, .int .i64 0, .string ⟨#[]⟩] 4 = #[.int .i64 (Z 0), .int .i64 (Z 1), .int .i64 0, .int .i64 0, .int .i64 0, .int .i64 0, .int .i64 (Z 2), .int .i64 (Z 3), .string ⟨#[]⟩] := by simp [upd, PX]
set_option maxHeartbeats 4000000 in
set_option maxRecDepth 100000 in
theorem unrecord_calls (A : Option Addr) (c : Nat) (l : List Int) (a : Int) (w : World) (hr : Kd.C (Kd.int .u8) w A l.length l) (hc : l.length ≤ c) (hl : Bytes l) (hs : l.length ≤ 140737488351232) (ha : -9223372036854775808 ≤ a ∧ a ≤ 9223372036854775807) :
    Calls Try.prog 19 #[.slice A l.length c, .int .i64 a] w fun e w' => e = .returned (recRes (unf l a)) ∧ Below w.heap.size w w' := by
  have hu := Try.underlying58
  have hu2 := Try.underlying46
  have hu3 := Try.underlying80
  have hpb := unf_bytes hl a
  have hF0 := unframe_is hl hs ha 0
  obtain ⟨⟨p, nx, er⟩, hun⟩ : ∃ u, unf l a = u := ⟨_, rfl⟩
  rw [hun] at hpb hF0 ⊢
  have HPB := Aside0.mk hpb
  have HLS := Aside0.mk hs
  have HU := Aside0.mk (fun (W : World) (hC : Kd.C (Kd.int .u8) W A l.length l) => crc_Unframe.calls 2 A c l a p nx er W hC hc hF0)
  have HR0 := Aside0.mk hr
  clear hr hc hl hs ha hpb hF0 hun
  obtain ⟨rs, hrs⟩ : ∃ rs, recRes (p, nx, er) = rs := ⟨_, rfl⟩
  rw [hrs]
  have HRS := Aside0.mk hrs
  clear hrs
  go_enter Try.func19, Try.ntmps19
  go_upto_region 1 with (((with_reducible refine gate_dst (N := 4) rfl ?_); refine box_event ?hg (N := 4) ?hd (cs := #[.int .i64 0, .int .i64 0, .int .i64 0, .int .i64 0, .int .i64 0, .int .i64 0, .int .i64 0, .int .i64 0, .string ⟨#[]⟩]) (t := 58) ?hr ?_; (case hd => rfl); (case hg => rfl); (case hr => first | (go_simp; done) | (go_simp; rfl)); intro X hgX w1 hbox hb; have BKX := Aside0.mk hbox; have BHX := Aside0.mk hb; have GEX := Aside0.mk hgX; clear hb hbox hgX))
  have HR1 := Aside0.mk (Kd.C_below HR0.out BHX.out)
  go_wp2_with fail
  ((with_reducible refine (HU.out _ HR1.out).mono ?_); rintro e w2 ⟨v, rfl, hv, hb⟩)
  have HB2 := Aside0.mk (below_then BHX.out BHX.out.size hb)
  have HX2 := Aside0.mk (blk_below BKX.out hb)
  have HXL : Aside0 (X < w1.heap.size) := ⟨blk_lt BKX.out⟩
  have HGE : Aside0 (w.heap.size ≤ X) := ⟨by have := GEX.out; omega⟩
  obtain ⟨A2, c2, rfl, hc2, hC2⟩ := brow_reads hv
  have HCC := Aside0.mk (And.intro hc2 hC2)
  have HLV : Aside0 (∀ k, (Value.slice A2 p.length c2).ownBlock = some k → w1.heap.size ≤ k ∧ k < w2.heap.size) := ⟨brow_lt hv⟩
  clear hb hv hc2 hC2 HU HR0 HR1 BKX BHX GEX
  have x0 : w2.cell? ⟨X, 0, none⟩ = some (.int .i64 0) := (blk_cell HX2.out 0).trans rfl; have x1 : w2.cell? ⟨X, 1, none⟩ = some (.int .i64 0) := (blk_cell HX2.out 1).trans rfl; have x2 : w2.cell? ⟨X, 2, none⟩ = some (.int .i64 0) := (blk_cell HX2.out 2).trans rfl; have x3 : w2.cell? ⟨X, 3, none⟩ = some (.int .i64 0) := (blk_cell HX2.out 3).trans rfl; have x4 : w2.cell? ⟨X, 4, none⟩ = some (.int .i64 0) := (blk_cell HX2.out 4).trans rfl; have x5 : w2.cell? ⟨X, 5, none⟩ = some (.int .i64 0) := (blk_cell HX2.out 5).trans rfl; have x6 : w2.cell? ⟨X, 6, none⟩ = some (.int .i64 0) := (blk_cell HX2.out 6).trans rfl; have x7 : w2.cell? ⟨X, 7, none⟩ = some (.int .i64 0) := (blk_cell HX2.out 7).trans rfl; have x8 : w2.cell? ⟨X, 8, none⟩ = some (.string ⟨#[]⟩) := (blk_cell HX2.out 8).trans rfl
  have f0 : w2.frozen? ⟨X, 0, none⟩ = false := blk_frozen HX2.out 0; have f1 : w2.frozen? ⟨X, 1, none⟩ = false := blk_frozen HX2.out 1; have f2 : w2.frozen? ⟨X, 2, none⟩ = false := blk_frozen HX2.out 2; have f3 : w2.frozen? ⟨X, 3, none⟩ = false := blk_frozen HX2.out 3; have f4 : w2.frozen? ⟨X, 4, none⟩ = false := blk_frozen HX2.out 4; have f5 : w2.frozen? ⟨X, 5, none⟩ = false := blk_frozen HX2.out 5; have f6 : w2.frozen? ⟨X, 6, none⟩ = false := blk_frozen HX2.out 6; have f7 : w2.frozen? ⟨X, 7, none⟩ = false := blk_frozen HX2.out 7; have f8 : w2.frozen? ⟨X, 8, none⟩ = false := blk_frozen HX2.out 8
  by_cases he : er = 0
  rotate_left
  · have d1 : (er != 0) = true := bne_iff_ne.2 he
    have hrs : rs = .tuple #[.agg recZero, .int .i64 0, .int .i64 er] := by rw [← HRS.out]; unfold recRes; rw [if_neg he]
    have HRS2 := Aside0.mk hrs
    clear hrs he
    go_wp2
    refine bodyPost_ret (results_ctt rfl _ _ X 58 #[.int .i64 0, .int .i64 0, .int .i64 0, .int .i64 0, .int .i64 0, .int .i64 0, .int .i64 0, .int .i64 0, .string ⟨#[]⟩] (0, 0) _ rfl (put9 HX2.out (.int .i64 0) (.int .i64 0) (.int .i64 0) (.int .i64 0) (.int .i64 0) (.int .i64 0) (.int .i64 0) (.int .i64 0) (.string ⟨#[]⟩)) hu rfl (by kernel_rfl)) rfl ?_
    rw [HRS2.out]
    exact ⟨rfl, below9 HB2.out HGE.out _ _ _ _ _ _ _ _ _⟩
  · subst he
    by_cases hlen : p.length < 24
    · have d2 : decide ((p.length : Int) < 24) = true := decide_eq_true (by omega)
      have d2n : decide (p.length < 24) = true := decide_eq_true hlen
      have hrs : rs = .tuple #[.agg recZero, .int .i64 0, .int .i64 4] := by rw [← HRS.out]; unfold recRes; rw [if_pos rfl, if_pos hlen]
      have HRS2 := Aside0.mk hrs
      clear hrs hlen
      go_wp2
      refine bodyPost_ret (results_ctt rfl _ _ X 58 #[.int .i64 0, .int .i64 0, .int .i64 0, .int .i64 0, .int .i64 0, .int .i64 0, .int .i64 0, .int .i64 0, .string ⟨#[]⟩] (0, 0) _ rfl (put9 HX2.out (.int .i64 0) (.int .i64 0) (.int .i64 0) (.int .i64 0) (.int .i64 0) (.int .i64 0) (.int .i64 0) (.int .i64 0) (.string ⟨#[]⟩)) hu rfl (by kernel_rfl)) rfl ?_
      rw [HRS2.out]
      exact ⟨rfl, below9 HB2.out HGE.out _ _ _ _ _ _ _ _ _⟩
    · have d2 : decide ((p.length : Int) < 24) = false := decide_eq_false (by omega)
      have d2n : decide (p.length < 24) = false := decide_eq_false hlen
      have hrs : rs = .tuple #[.agg (recVals p), .int .i64 nx, .int .i64 0] := by rw [← HRS.out]; unfold recRes; rw [if_pos rfl, if_neg hlen]
      have HRS2 := Aside0.mk hrs
      have HLN : Aside0 (24 ≤ p.length) := ⟨by omega⟩
      clear hrs hlen x0 f0 x1 f1 x2 f2 x3 f3 x4 f4 x5 f5 x6 f6 x7 f7 x8 f8
      go_upto_region 7 with (((with_reducible refine gate_dst (N := 29) rfl ?_); refine box_event ?hg (N := 29) ?hd (cs := #[.slice A2 p.length c2, .int .i64 0]) (t := 80) ?hr ?_; (case hd => rfl); (case hg => rfl); (case hr => first | (go_simp; done) | (go_simp; rfl)); intro RP hgRP w3 hbox hb; have BKRP := Aside0.mk hbox; have BHRP := Aside0.mk hb; have GERP := Aside0.mk hgRP; clear hb hbox hgRP))
      have hRP := GERP.out
      have HB3 := Aside0.mk (below_then HB2.out HB2.out.size BHRP.out)
      have HX3 := Aside0.mk (blk_below HX2.out BHRP.out)
      have HLT : Aside0 (X < RP) := ⟨by have := blk_lt HX2.out; omega⟩
      have HLT3 : Aside0 (RP < w3.heap.size) := ⟨blk_lt BKRP.out⟩
      have hap : ∀ ad, A2 = some ad → 0 < p.length → ad.block ≠ RP ∧ ad.block ≠ X := by
        intro ad e _
        subst e
        have h1 := HLV.out ad.block rfl
        have h2 := HXL.out
        omega
      have HAP := Aside0.mk hap
      have HRD := Aside0.mk (show Reader w3 RP A2 c2 p 0 from ⟨BKRP.out, Kd.C_below HCC.out.2 BHRP.out, HCC.out.1, fun ad e h => (hap ad e h).1⟩)
      clear hRP hap BKRP BHRP GERP HB2 HX2
      go_wp2_with fail
      have HG := Aside0.mk (blk_new w3 (.cells #[.pointer (some ⟨X, 0, none⟩), .pointer (some ⟨X, 1, none⟩), .pointer (some ⟨X, 6, none⟩), .pointer (some ⟨X, 7, none⟩)] 82))
      have HRD4 := Aside0.mk (HRD.out.later (below_alloc (Below.refl w3.heap.size w3) (.cells #[.pointer (some ⟨X, 0, none⟩), .pointer (some ⟨X, 1, none⟩), .pointer (some ⟨X, 6, none⟩), .pointer (some ⟨X, 7, none⟩)] 82)))
      have HX4 := Aside0.mk (blk_alloc HX3.out (.cells #[.pointer (some ⟨X, 0, none⟩), .pointer (some ⟨X, 1, none⟩), .pointer (some ⟨X, 6, none⟩), .pointer (some ⟨X, 7, none⟩)] 82))
      have HB4 := Aside0.mk (HB3.out.alloc HB3.out.size (.cells #[.pointer (some ⟨X, 0, none⟩), .pointer (some ⟨X, 1, none⟩), .pointer (some ⟨X, 6, none⟩), .pointer (some ⟨X, 7, none⟩)] 82))
      have hC : Calls Try.prog 30 #[.pointer (some ⟨RP, 0, none⟩), .int .i64 4, .slice (some ⟨w3.heap.size, 0, none⟩) 4 4] (w3.alloc (.cells #[.pointer (some ⟨X, 0, none⟩), .pointer (some ⟨X, 1, none⟩), .pointer (some ⟨X, 6, none⟩), .pointer (some ⟨X, 7, none⟩)] 82)) (fun e w' => e = .returned (.tuple #[]) ∧ Reader w' RP A2 c2 p 16 ∧ Stored (w3.alloc (.cells #[.pointer (some ⟨X, 0, none⟩), .pointer (some ⟨X, 1, none⟩), .pointer (some ⟨X, 6, none⟩), .pointer (some ⟨X, 7, none⟩)] 82)) w' RP (PX X) (nth p 0 4) 4) := rnums_calls 4 (by decide) HRD4.out HPB.out.1 (by have := HPB.out.2; have := HLS.out; omega) 4 (by have := HLN.out; omega) (by decide) w3.heap.size (PX X) #[.pointer (some ⟨X, 0, none⟩), .pointer (some ⟨X, 1, none⟩), .pointer (some ⟨X, 6, none⟩), .pointer (some ⟨X, 7, none⟩)] 82 HG.out (by
          intro i hi
          obtain rfl | rfl | rfl | rfl : i = 0 ∨ i = 1 ∨ i = 2 ∨ i = 3 := (by omega)
          all_goals rfl) (by
          intro i hi
          refine ⟨(by have := HLT.out; show X ≠ RP; omega), (by have := HLT.out; have := HLT3.out; show X ≠ w3.heap.size; omega), fun ad e h => (HAP.out ad e h).2, _, _, HX4.out, 0, ?_⟩
          obtain rfl | rfl | rfl | rfl : i = 0 ∨ i = 1 ∨ i = 2 ∨ i = 3 := (by omega)
          all_goals rfl) (by have := HLT3.out; omega)
      have HC := Aside0.mk hC
      clear hC
      ((with_reducible refine HC.out.mono ?_); rintro e w5 ⟨rfl, hr5, hq5⟩)
      have hX5 := hq5.cells X _ _ HX4.out (by have := HLT.out; omega)
      rw [upd4] at hX5
      have HX5 := Aside0.mk hX5
      have HB5 := Aside0.mk (hq5.below (base := w.heap.size) (by have := HLT.out; have := HGE.out; omega) (fun i _ => HGE.out) HB4.out HB4.out.size)
      have HRD5 := Aside0.mk hr5
      clear hr5 hq5 hX5 HC HG HRD4 HX4 HB4 HRD HX3 HB3 HLT3 HXL HLV HCC
      have hv : recVals p = #[.int .i64 (nth p 0 4 0), .int .i64 (nth p 0 4 1), .int .i64 (nth p 16 2 0), .int .i64 (nth p 16 2 1), .int .i64 (nth p 16 2 2), .int .i64 (nth p 16 2 3), .int .i64 (nth p 0 4 2), .int .i64 (nth p 0 4 3), .string (strOfNums (p.drop 24))] := rfl
      rw [hv] at HRS2
      obtain ⟨Z, hZ⟩ : ∃ Z, nth p 0 4 = Z := ⟨_, rfl⟩
      obtain ⟨S, hS⟩ : ∃ S, nth p 16 2 = S := ⟨_, rfl⟩
      rw [hZ] at HRS2 HX5
      rw [hS] at HRS2
      have HS2 := Aside0.mk hS
      clear hv hZ hS
      go_wp2_with fail
      go_loopg [39] 4 (fun kq v39 w' => (v39 = .int .i64 0 ∧ 4 - 0 ≤ kq ∧ Aside0 (Reader w' RP A2 c2 p 16 ∧ w'.heap[X]? = some (.cells #[.int .i64 (Z 0), .int .i64 (Z 1), .int .i64 0, .int .i64 0, .int .i64 0, .int .i64 0, .int .i64 (Z 2), .int .i64 (Z 3), .string ⟨#[]⟩] 58 (0, 0)) ∧ Below w.heap.size w w')) ∨ (v39 = .int .i64 1 ∧ 4 - 1 ≤ kq ∧ Aside0 (Reader w' RP A2 c2 p 18 ∧ w'.heap[X]? = some (.cells #[.int .i64 (Z 0), .int .i64 (Z 1), .int .i64 (S 0), .int .i64 0, .int .i64 0, .int .i64 0, .int .i64 (Z 2), .int .i64 (Z 3), .string ⟨#[]⟩] 58 (0, 0)) ∧ Below w.heap.size w w')) ∨ (v39 = .int .i64 2 ∧ 4 - 2 ≤ kq ∧ Aside0 (Reader w' RP A2 c2 p 20 ∧ w'.heap[X]? = some (.cells #[.int .i64 (Z 0), .int .i64 (Z 1), .int .i64 (S 0), .int .i64 (S 1), .int .i64 0, .int .i64 0, .int .i64 (Z 2), .int .i64 (Z 3), .string ⟨#[]⟩] 58 (0, 0)) ∧ Below w.heap.size w w')) ∨ (v39 = .int .i64 3 ∧ 4 - 3 ≤ kq ∧ Aside0 (Reader w' RP A2 c2 p 22 ∧ w'.heap[X]? = some (.cells #[.int .i64 (Z 0), .int .i64 (Z 1), .int .i64 (S 0), .int .i64 (S 1), .int .i64 (S 2), .int .i64 0, .int .i64 (Z 2), .int .i64 (Z 3), .string ⟨#[]⟩] 58 (0, 0)) ∧ Below w.heap.size w w')) ∨ (v39 = .int .i64 4 ∧ 4 - 4 ≤ kq ∧ Aside0 (Reader w' RP A2 c2 p 24 ∧ w'.heap[X]? = some (.cells #[.int .i64 (Z 0), .int .i64 (Z 1), .int .i64 (S 0), .int .i64 (S 1), .int .i64 (S 2), .int .i64 (S 3), .int .i64 (Z 2), .int .i64 (Z 3), .string ⟨#[]⟩] 58 (0, 0)) ∧ Below w.heap.size w w')))
      case atStart => exact .inl ⟨rfl, by omega, ⟨HRD5.out, HX5.out, HB5.out⟩⟩
      case round =>
        rcases hrel with ⟨rfl, hkq, HS⟩ | ⟨rfl, hkq, HS⟩ | ⟨rfl, hkq, HS⟩ | ⟨rfl, hkq, HS⟩ | ⟨rfl, hkq, HS⟩
        · cases gk with
          | zero => omega
          | succ k1 =>
            have hC : Calls Try.prog 31 #[.pointer (some ⟨RP, 0, none⟩), .int .i64 2] wr (fun e w' => e = .returned (.int .i64 (S 0)) ∧ Reader w' RP A2 c2 p 18 ∧ Wrote wr w' RP nilV nilV) := by rw [← HS2.out]; exact rnum_calls 2 (by decide) HS.out.1 HPB.out.1 (by have := HPB.out.2; have := HLS.out; omega) (by have := HLN.out; omega)
            have HC := Aside0.mk hC
            clear hC
            go_wp2_with fail
            ((with_reducible refine HC.out.mono ?_); rintro e w7 ⟨rfl, hr7, hq7⟩)
            have HR7 := Aside0.mk hr7
            have HX7 := Aside0.mk ((hq7.block X (blk_lt HS.out.2.1) (by have := HLT.out; omega) (by simp [nilV, Value.ownBlock])).trans HS.out.2.1)
            have HB7 := Aside0.mk (hq7.below (by have := HLT.out; have := HGE.out; omega) (fun k e => by simp [nilV, Value.ownBlock] at e) HS.out.2.2 HS.out.2.2.size)
            have xc : w7.cell? ⟨X, 2, none⟩ = some (.int .i64 0) := (blk_cell HX7.out 2).trans rfl
            have fc := blk_frozen HX7.out 2
            clear hr7 hq7 HC HS
            go_wp2_with fail
            go_roundg k1
            case measure => omega
            case rel =>
              exact .inr (.inl ⟨by go_num, by omega, ⟨HR7.out.far (by have := HLT.out; omega) (fun ad e h => (HAP.out ad e h).2) 2 _, blk_put (cs := #[.int .i64 (Z 0), .int .i64 (Z 1), .int .i64 0, .int .i64 0, .int .i64 0, .int .i64 0, .int .i64 (Z 2), .int .i64 (Z 3), .string ⟨#[]⟩]) HX7.out 2 _ rfl, below_set HB7.out HGE.out⟩⟩)
        · cases gk with
          | zero => omega
          | succ k1 =>
            have hC : Calls Try.prog 31 #[.pointer (some ⟨RP, 0, none⟩), .int .i64 2] wr (fun e w' => e = .returned (.int .i64 (S 1)) ∧ Reader w' RP A2 c2 p 20 ∧ Wrote wr w' RP nilV nilV) := by rw [← HS2.out]; exact rnum_calls 2 (by decide) HS.out.1 HPB.out.1 (by have := HPB.out.2; have := HLS.out; omega) (by have := HLN.out; omega)
            have HC := Aside0.mk hC
            clear hC
            go_wp2_with fail
            ((with_reducible refine HC.out.mono ?_); rintro e w7 ⟨rfl, hr7, hq7⟩)
            have HR7 := Aside0.mk hr7
            have HX7 := Aside0.mk ((hq7.block X (blk_lt HS.out.2.1) (by have := HLT.out; omega) (by simp [nilV, Value.ownBlock])).trans HS.out.2.1)
            have HB7 := Aside0.mk (hq7.below (by have := HLT.out; have := HGE.out; omega) (fun k e => by simp [nilV, Value.ownBlock] at e) HS.out.2.2 HS.out.2.2.size)
            have xc : w7.cell? ⟨X, 3, none⟩ = some (.int .i64 0) := (blk_cell HX7.out 3).trans rfl
            have fc := blk_frozen HX7.out 3
            clear hr7 hq7 HC HS
            go_wp2_with fail
            go_roundg k1
            case measure => omega
            case rel =>
              exact .inr (.inr (.inl ⟨by go_num, by omega, ⟨HR7.out.far (by have := HLT.out; omega) (fun ad e h => (HAP.out ad e h).2) 3 _, blk_put (cs := #[.int .i64 (Z 0), .int .i64 (Z 1), .int .i64 (S 0), .int .i64 0, .int .i64 0, .int .i64 0, .int .i64 (Z 2), .int .i64 (Z 3), .string ⟨#[]⟩]) HX7.out 3 _ rfl, below_set HB7.out HGE.out⟩⟩))
        · cases gk with
          | zero => omega
          | succ k1 =>
            have hC : Calls Try.prog 31 #[.pointer (some ⟨RP, 0, none⟩), .int .i64 2] wr (fun e w' => e = .returned (.int .i64 (S 2)) ∧ Reader w' RP A2 c2 p 22 ∧ Wrote wr w' RP nilV nilV) := by rw [← HS2.out]; exact rnum_calls 2 (by decide) HS.out.1 HPB.out.1 (by have := HPB.out.2; have := HLS.out; omega) (by have := HLN.out; omega)
            have HC := Aside0.mk hC
            clear hC
            go_wp2_with fail
            ((with_reducible refine HC.out.mono ?_); rintro e w7 ⟨rfl, hr7, hq7⟩)
            have HR7 := Aside0.mk hr7
            have HX7 := Aside0.mk ((hq7.block X (blk_lt HS.out.2.1) (by have := HLT.out; omega) (by simp [nilV, Value.ownBlock])).trans HS.out.2.1)
            have HB7 := Aside0.mk (hq7.below (by have := HLT.out; have := HGE.out; omega) (fun k e => by simp [nilV, Value.ownBlock] at e) HS.out.2.2 HS.out.2.2.size)
            have xc : w7.cell? ⟨X, 4, none⟩ = some (.int .i64 0) := (blk_cell HX7.out 4).trans rfl
            have fc := blk_frozen HX7.out 4
            clear hr7 hq7 HC HS
            go_wp2_with fail
            go_roundg k1
            case measure => omega
            case rel =>
              exact .inr (.inr (.inr (.inl ⟨by go_num, by omega, ⟨HR7.out.far (by have := HLT.out; omega) (fun ad e h => (HAP.out ad e h).2) 4 _, blk_put (cs := #[.int .i64 (Z 0), .int .i64 (Z 1), .int .i64 (S 0), .int .i64 (S 1), .int .i64 0, .int .i64 0, .int .i64 (Z 2), .int .i64 (Z 3), .string ⟨#[]⟩]) HX7.out 4 _ rfl, below_set HB7.out HGE.out⟩⟩)))
        · cases gk with
          | zero => omega
          | succ k1 =>
            have hC : Calls Try.prog 31 #[.pointer (some ⟨RP, 0, none⟩), .int .i64 2] wr (fun e w' => e = .returned (.int .i64 (S 3)) ∧ Reader w' RP A2 c2 p 24 ∧ Wrote wr w' RP nilV nilV) := by rw [← HS2.out]; exact rnum_calls 2 (by decide) HS.out.1 HPB.out.1 (by have := HPB.out.2; have := HLS.out; omega) (by have := HLN.out; omega)
            have HC := Aside0.mk hC
            clear hC
            go_wp2_with fail
            ((with_reducible refine HC.out.mono ?_); rintro e w7 ⟨rfl, hr7, hq7⟩)
            have HR7 := Aside0.mk hr7
            have HX7 := Aside0.mk ((hq7.block X (blk_lt HS.out.2.1) (by have := HLT.out; omega) (by simp [nilV, Value.ownBlock])).trans HS.out.2.1)
            have HB7 := Aside0.mk (hq7.below (by have := HLT.out; have := HGE.out; omega) (fun k e => by simp [nilV, Value.ownBlock] at e) HS.out.2.2 HS.out.2.2.size)
            have xc : w7.cell? ⟨X, 5, none⟩ = some (.int .i64 0) := (blk_cell HX7.out 5).trans rfl
            have fc := blk_frozen HX7.out 5
            clear hr7 hq7 HC HS
            go_wp2_with fail
            go_roundg k1
            case measure => omega
            case rel =>
              exact .inr (.inr (.inr (.inr (⟨by go_num, by omega, ⟨HR7.out.far (by have := HLT.out; omega) (fun ad e h => (HAP.out ad e h).2) 5 _, blk_put (cs := #[.int .i64 (Z 0), .int .i64 (Z 1), .int .i64 (S 0), .int .i64 (S 1), .int .i64 (S 2), .int .i64 0, .int .i64 (Z 2), .int .i64 (Z 3), .string ⟨#[]⟩]) HX7.out 5 _ rfl, below_set HB7.out HGE.out⟩⟩))))
        · obtain ⟨i0, hi0, _, hsz0, _⟩ := info_parts info5
          obtain ⟨A10, hcut, hA10, _⟩ := print_drop_of (P := Try.prog) (Value.int .u8) 0 22 5 .i64 Try.underlying22 hi0 hsz0 A2 c2 p 24 (by decide) (by have := HLN.out; omega) HS.out.1.cap
          have hC10 : Kd.C (Kd.int .u8) wr A10 (p.drop (24 : Int).toNat).length (p.drop (24 : Int).toNat) := Kd.C_of_reads (h1 := fun _ => rfl) (hA10 _ (Kd.reads_of_C HS.out.1.rd))
          have hcv := Kd.C_string (P := Try.prog) (A := A10) (c := c2 - (24 : Int).toNat) Try.underlying22 Try.underlying5 Try.underlying9 hC10
          rw [show (24 : Int).toNat = 24 from rfl] at hcut hcv
          obtain ⟨T, hT⟩ : ∃ T, strOfNums (p.drop 24) = T := ⟨_, rfl⟩
          rw [hT] at hcv HRS2
          obtain ⟨n10, hn10⟩ : ∃ n, (p.drop 24).length = n := ⟨_, rfl⟩
          obtain ⟨c10, hc10⟩ : ∃ c, c2 - 24 = c := ⟨_, rfl⟩
          rw [hn10, hc10] at hcut hcv
          have xt : wr.cell? ⟨X, 8, none⟩ = some (.string ⟨#[]⟩) := (blk_cell HS.out.2.1 8).trans rfl
          have ft := blk_frozen HS.out.2.1 8
          clear hT hA10 hi0 hsz0 hC10 hn10 hc10
          go_upto_region 14 with (fail)
          have HX8 := Aside0.mk (blk_put (cs' := #[.int .i64 (Z 0), .int .i64 (Z 1), .int .i64 (S 0), .int .i64 (S 1), .int .i64 (S 2), .int .i64 (S 3), .int .i64 (Z 2), .int .i64 (Z 3), .string T]) HS.out.2.1 8 (.string T) rfl)
          have HB8 := Aside0.mk (below_set (j := 8) (v := .string T) HS.out.2.2 HGE.out)
          clear xt ft HS hcut hcv
          generalize wr.setCell ⟨X, 8, none⟩ (.string T) = w8 at HX8 HB8 ⊢
          have x0 : w8.cell? ⟨X, 0, none⟩ = some (.int .i64 (Z 0)) := (blk_cell HX8.out 0).trans rfl; have x1 : w8.cell? ⟨X, 1, none⟩ = some (.int .i64 (Z 1)) := (blk_cell HX8.out 1).trans rfl; have x2 : w8.cell? ⟨X, 2, none⟩ = some (.int .i64 (S 0)) := (blk_cell HX8.out 2).trans rfl; have x3 : w8.cell? ⟨X, 3, none⟩ = some (.int .i64 (S 1)) := (blk_cell HX8.out 3).trans rfl; have x4 : w8.cell? ⟨X, 4, none⟩ = some (.int .i64 (S 2)) := (blk_cell HX8.out 4).trans rfl; have x5 : w8.cell? ⟨X, 5, none⟩ = some (.int .i64 (S 3)) := (blk_cell HX8.out 5).trans rfl; have x6 : w8.cell? ⟨X, 6, none⟩ = some (.int .i64 (Z 2)) := (blk_cell HX8.out 6).trans rfl; have x7 : w8.cell? ⟨X, 7, none⟩ = some (.int .i64 (Z 3)) := (blk_cell HX8.out 7).trans rfl; have x8 : w8.cell? ⟨X, 8, none⟩ = some (.string T) := (blk_cell HX8.out 8).trans rfl
          have f0 : w8.frozen? ⟨X, 0, none⟩ = false := blk_frozen HX8.out 0; have f1 : w8.frozen? ⟨X, 1, none⟩ = false := blk_frozen HX8.out 1; have f2 : w8.frozen? ⟨X, 2, none⟩ = false := blk_frozen HX8.out 2; have f3 : w8.frozen? ⟨X, 3, none⟩ = false := blk_frozen HX8.out 3; have f4 : w8.frozen? ⟨X, 4, none⟩ = false := blk_frozen HX8.out 4; have f5 : w8.frozen? ⟨X, 5, none⟩ = false := blk_frozen HX8.out 5; have f6 : w8.frozen? ⟨X, 6, none⟩ = false := blk_frozen HX8.out 6; have f7 : w8.frozen? ⟨X, 7, none⟩ = false := blk_frozen HX8.out 7; have f8 : w8.frozen? ⟨X, 8, none⟩ = false := blk_frozen HX8.out 8
          go_wp2
          refine bodyPost_ret (results_ctt rfl _ _ X 58 #[.int .i64 (Z 0), .int .i64 (Z 1), .int .i64 (S 0), .int .i64 (S 1), .int .i64 (S 2), .int .i64 (S 3), .int .i64 (Z 2), .int .i64 (Z 3), .string T] (0, 0) _ rfl (put9 HX8.out (.int .i64 (Z 0)) (.int .i64 (Z 1)) (.int .i64 (S 0)) (.int .i64 (S 1)) (.int .i64 (S 2)) (.int .i64 (S 3)) (.int .i64 (Z 2)) (.int .i64 (Z 3)) (.string T)) hu rfl (by kernel_rfl)) rfl ?_
          rw [HRS2.out]
          exact ⟨rfl, below9 HB8.out HGE.out _ _ _ _ _ _ _ _ _⟩
end Go.Proofs.Ytacecaacpagokaa.Codec
