/- A log's header is read: a contract. -/
import Derived.Test.YtbplffdmggbcdaaKKUnheads
namespace Go.Proofs.Ytbplffdmggbcdaa.Codec
open Go.RowKit Go.Proofs.Ytbplffdmggbcdaa.PCodecHeads Go.Proofs.Ytbplffdmggbcdaa.Plain Go.Proofs.Ytbplffdmggbcdaa.Pure Go.Proofs.YtbplffdmggbcdaaW.PrintWords Go.Proofs.YtbplffdmggbcdaaW.PrintLast Go.Proofs.YtbplffdmggbcdaaW.PrintMore
set_option linter.unusedVariables false
set_option linter.unusedSimpArgs false

def PH (h o : Nat) (i : Nat) : Nat × Nat := (h, o + i)
theorem headOut_err (s t u b : Int) : (headOut s t u b).2 ≠ 0 → (headOut s t u b).1 = [] := by
  unfold headOut
  intro h
  split at h
  · split at h
    · exact absurd rfl h
    · rename_i hp hf
      rw [if_pos hp, if_neg hf]
  · rename_i hp
    rw [if_neg hp]
set_option maxHeartbeats 4000000 in
set_option maxRecDepth 100000 in
theorem unheader_calls (A : Option Addr) (c : Nat) (l : List Int) (w : World) (hr : Kd.C (Kd.int .u8) w A l.length l) (hc : l.length ≤ c) (hl : Bytes l) (hs : l.length ≤ 140737488351232) (m0 m1 m2 m3 : Int) (hU : unheadOut l = (m0, m1, m2, m3)) :
    Calls Try.prog 17 #[.slice A l.length c] w fun e w' => e = .returned (.tuple #[.agg #[.int .i64 m0, .int .i64 m1, .int .i64 m2], .int .i64 m3]) ∧ Below w.heap.size w w' := by
  have hu := Try.underlying39
  have hu3 := Try.underlying62
  have HR0 := Aside0.mk hr
  have HLS := Aside0.mk (And.intro hl (And.intro hs hc))
  have HU := Aside0.mk hU
  clear hr hU
  by_cases hp : pw (l.length : Int) = true
  rotate_left
  · have HSZ := Aside0.mk (bsz_calls (l.length : Int) false (Bool.eq_false_iff.2 hp))
    have HZ : Aside0 ((m0, m1, m2, m3) = ((0, 0, 0, 4) : Int × Int × Int × Int)) := ⟨by rw [← HU.out]; unfold unheadOut; rw [if_neg hp]⟩
    simp only [Prod.mk.injEq] at HZ
    clear hp HU hl hs hc
    go_enter Try.func17, Try.ntmps17
    go_upto_region 1 with (((with_reducible refine gate_dst (N := 2) rfl ?_); refine box_event ?hg (N := 2) ?hd (cs := #[.int .i64 0, .int .i64 0, .int .i64 0]) (t := 39) ?hr ?_; (case hd => rfl); (case hg => rfl); (case hr => first | (go_simp; done) | (go_simp; rfl)); intro X hgX w1 hbox hb; have BKX := Aside0.mk hbox; have BHX := Aside0.mk hb; have GEX := Aside0.mk hgX; clear hb hbox hgX))
    go_wp2_with fail
    ((with_reducible refine (HSZ.out _).mono ?_); rintro e w2 ⟨rfl, hb⟩)
    have HX2 := Aside0.mk (blk_below BKX.out hb)
    have HB2 := Aside0.mk (below_then BHX.out BHX.out.size hb)
    have HGE : Aside0 (w.heap.size ≤ X) := ⟨by have := GEX.out; omega⟩
    clear hb BKX BHX GEX HSZ
    have x0 : w2.cell? ⟨X, 0, none⟩ = some (.int .i64 0) := (blk_cell HX2.out 0).trans rfl; have x1 : w2.cell? ⟨X, 1, none⟩ = some (.int .i64 0) := (blk_cell HX2.out 1).trans rfl; have x2 : w2.cell? ⟨X, 2, none⟩ = some (.int .i64 0) := (blk_cell HX2.out 2).trans rfl
    have f0 : w2.frozen? ⟨X, 0, none⟩ = false := blk_frozen HX2.out 0; have f1 : w2.frozen? ⟨X, 1, none⟩ = false := blk_frozen HX2.out 1; have f2 : w2.frozen? ⟨X, 2, none⟩ = false := blk_frozen HX2.out 2
    go_wp2
    refine bodyPost_ret (results_ct rfl _ _ X 39 #[.int .i64 0, .int .i64 0, .int .i64 0] (0, 0) _ rfl (put3 HX2.out (.int .i64 0) (.int .i64 0) (.int .i64 0)) hu rfl (by kernel_rfl)) rfl ?_
    obtain ⟨rfl, rfl, rfl, rfl⟩ := HZ.out
    exact ⟨rfl, below3 HB2.out HGE.out _ _ _⟩
  · have HSZ := Aside0.mk (bsz_calls (l.length : Int) true hp)
    have h64 : 64 ≤ l.length := by have := (pw_iff _).1 hp; omega
    have H64 := Aside0.mk h64
    have HP := Aside0.mk hp
    clear hp hl hs hc h64
    go_enter Try.func17, Try.ntmps17
    go_upto_region 1 with (((with_reducible refine gate_dst (N := 2) rfl ?_); refine box_event ?hg (N := 2) ?hd (cs := #[.int .i64 0, .int .i64 0, .int .i64 0]) (t := 39) ?hr ?_; (case hd => rfl); (case hg => rfl); (case hr => first | (go_simp; done) | (go_simp; rfl)); intro X hgX w1 hbox hb; have BKX := Aside0.mk hbox; have BHX := Aside0.mk hb; have GEX := Aside0.mk hgX; clear hb hbox hgX))
    go_wp2_with fail
    ((with_reducible refine (HSZ.out _).mono ?_); rintro e w2 ⟨rfl, hb⟩)
    have HX2 := Aside0.mk (blk_below BKX.out hb)
    have HB2 := Aside0.mk (below_then BHX.out BHX.out.size hb)
    have HC2 := Aside0.mk (Kd.C_below HR0.out HB2.out)
    have HGE : Aside0 (w.heap.size ≤ X) := ⟨by have := GEX.out; omega⟩
    clear hb BKX BHX GEX HSZ
    go_upto_region 5 with (first | ((with_reducible refine gate_dst (N := 4) rfl ?_); refine box_event ?hg (N := 4) ?hd (cs := #[.int .i64 0, .int .i64 0, .int .i64 0]) (t := 39) ?hr ?_; (case hd => rfl); (case hg => rfl); (case hr => first | (go_simp; done) | (go_simp; rfl)); intro H hgH w3 hbox hb; have BKH := Aside0.mk hbox; have BHH := Aside0.mk hb; have GEH := Aside0.mk hgH; clear hb hbox hgH) | ((with_reducible refine gate_dst (N := 15) rfl ?_); refine box_event ?hg (N := 15) ?hd (cs := #[.slice A l.length c, .int .i64 4]) (t := 62) ?hr ?_; (case hd => rfl); (case hg => rfl); (case hr => first | (go_simp; done) | (go_simp; rfl)); intro RP hgRP w4 hbox hb; have BKRP := Aside0.mk hbox; have BHRP := Aside0.mk hb; have GERP := Aside0.mk hgRP; clear hb hbox hgRP))
    have HLT : Aside0 (X < H ∧ H < RP) := ⟨by have := blk_lt HX2.out; have := GEH.out; have := blk_lt BKH.out; have := GERP.out; omega⟩
    have HB24 := Aside0.mk (below_then BHH.out BHH.out.size BHRP.out)
    have HH := Aside0.mk (blk_below BKH.out BHRP.out)
    have HX := Aside0.mk (blk_below HX2.out HB24.out)
    have HB := Aside0.mk (below_then HB2.out HB2.out.size HB24.out)
    have HAL := Aside0.mk (arg_lt HR0.out)
    have HRD := Aside0.mk (show Reader w4 RP A c l 4 from ⟨BKRP.out, Kd.C_below HC2.out HB24.out, HLS.out.2.2, fun ad e h => by have := HAL.out ad e h; have := HLT.out; have := HGE.out; omega⟩)
    clear BKH BHH GEH BKRP BHRP GERP HB24 HX2 HB2 HC2
    go_wp2_with fail
    have HPC := Aside0.mk (blk_new w4 (.cells #[.pointer (some ⟨H, 0, none⟩)] 64))
    have HC : Aside0 (Calls Try.prog 26 #[.pointer (some ⟨RP, 0, none⟩), .int .i64 4, .slice (some ⟨w4.heap.size, 0, none⟩) 1 1] (w4.alloc (.cells #[.pointer (some ⟨H, 0, none⟩)] 64)) (fun e w' => e = .returned (.tuple #[]) ∧ Reader w' RP A c l 8 ∧ Stored (w4.alloc (.cells #[.pointer (some ⟨H, 0, none⟩)] 64)) w' RP (PH H 0) (nth l 4 4) 1)) := ⟨rnums_calls 4 (by decide) (HRD.out.later (below_alloc (Below.refl _ _) _)) HLS.out.1 HLS.out.2.1 1 (by have := H64.out; omega) (by decide) w4.heap.size (PH H 0) #[.pointer (some ⟨H, 0, none⟩)] 64 HPC.out (by
        intro i hi
        obtain rfl : i = 0 := (by omega)
        all_goals rfl) (by
        intro i hi
        have h1 := HLT.out
        have h2 := HGE.out
        refine ⟨by show H ≠ RP; omega, by show H ≠ w4.heap.size; have := blk_lt HH.out; omega, fun ad e h => by have := HAL.out ad e h; show ad.block ≠ H; omega, _, _, blk_alloc HH.out _, 0, ?_⟩
        obtain rfl : i = 0 := (by omega)
        all_goals rfl) (by have := blk_lt HRD.out.blk; omega)⟩
    ((with_reducible refine HC.out.mono ?_); rintro e w5 ⟨rfl, hrd, hq⟩)
    have hh := hq.cells H _ _ (blk_alloc HH.out _) (by have := HLT.out; omega)
    have hh : w5.heap[H]? = some (.cells #[.int .i64 (nth l 4 4 0), .int .i64 0, .int .i64 0] 39 (0, 0)) := by
      have e : upd (PH H 0) (nth l 4 4) H #[.int .i64 0, .int .i64 0, .int .i64 0] 1 = #[.int .i64 (nth l 4 4 0), .int .i64 0, .int .i64 0] := by simp [upd, PH]
      rw [e] at hh
      exact hh
    have HH5 := Aside0.mk hh
    have HX5 := Aside0.mk (hq.block X _ (blk_alloc HX.out _) (by have := HLT.out; omega) (fun i hi => by have := HLT.out; show H ≠ X; omega))
    have HB5 := Aside0.mk (hq.below (base := w.heap.size) (by have := HLT.out; have := HGE.out; omega) (fun i hi => by have := HLT.out; have := HGE.out; show w.heap.size ≤ H; omega) (HB.out.alloc HB.out.size _) (HB.out.alloc HB.out.size _).size)
    have HRD5 := Aside0.mk hrd
    clear hh hrd hq HC HPC HH HX HB HRD
    have HH := HH5; have HX := HX5; have HB := HB5; have HRD := HRD5
    clear HH5 HX5 HB5 HRD5
    go_wp2_with fail
    have HPC := Aside0.mk (blk_new w5 (.cells #[.pointer (some ⟨H, 1, none⟩), .pointer (some ⟨H, 2, none⟩)] 64))
    have HC : Aside0 (Calls Try.prog 26 #[.pointer (some ⟨RP, 0, none⟩), .int .i64 2, .slice (some ⟨w5.heap.size, 0, none⟩) 2 2] (w5.alloc (.cells #[.pointer (some ⟨H, 1, none⟩), .pointer (some ⟨H, 2, none⟩)] 64)) (fun e w' => e = .returned (.tuple #[]) ∧ Reader w' RP A c l 12 ∧ Stored (w5.alloc (.cells #[.pointer (some ⟨H, 1, none⟩), .pointer (some ⟨H, 2, none⟩)] 64)) w' RP (PH H 1) (nth l 8 2) 2)) := ⟨rnums_calls 2 (by decide) (HRD.out.later (below_alloc (Below.refl _ _) _)) HLS.out.1 HLS.out.2.1 2 (by have := H64.out; omega) (by decide) w5.heap.size (PH H 1) #[.pointer (some ⟨H, 1, none⟩), .pointer (some ⟨H, 2, none⟩)] 64 HPC.out (by
        intro i hi
        obtain rfl | rfl : i = 0 ∨ i = 1 := (by omega)
        all_goals rfl) (by
        intro i hi
        have h1 := HLT.out
        have h2 := HGE.out
        refine ⟨by show H ≠ RP; omega, by show H ≠ w5.heap.size; have := blk_lt HH.out; omega, fun ad e h => by have := HAL.out ad e h; show ad.block ≠ H; omega, _, _, blk_alloc HH.out _, 0, ?_⟩
        obtain rfl | rfl : i = 0 ∨ i = 1 := (by omega)
        all_goals rfl) (by have := blk_lt HRD.out.blk; omega)⟩
    ((with_reducible refine HC.out.mono ?_); rintro e w6 ⟨rfl, hrd, hq⟩)
    have hh := hq.cells H _ _ (blk_alloc HH.out _) (by have := HLT.out; omega)
    have hh : w6.heap[H]? = some (.cells #[.int .i64 (nth l 4 4 0), .int .i64 (nth l 8 2 0), .int .i64 (nth l 8 2 1)] 39 (0, 0)) := by
      have e : upd (PH H 1) (nth l 8 2) H #[.int .i64 (nth l 4 4 0), .int .i64 0, .int .i64 0] 2 = #[.int .i64 (nth l 4 4 0), .int .i64 (nth l 8 2 0), .int .i64 (nth l 8 2 1)] := by simp [upd, PH]
      rw [e] at hh
      exact hh
    have HH6 := Aside0.mk hh
    have HX6 := Aside0.mk (hq.block X _ (blk_alloc HX.out _) (by have := HLT.out; omega) (fun i hi => by have := HLT.out; show H ≠ X; omega))
    have HB6 := Aside0.mk (hq.below (base := w.heap.size) (by have := HLT.out; have := HGE.out; omega) (fun i hi => by have := HLT.out; have := HGE.out; show w.heap.size ≤ H; omega) (HB.out.alloc HB.out.size _) (HB.out.alloc HB.out.size _).size)
    have HRD6 := Aside0.mk hrd
    clear hh hrd hq HC HPC HH HX HB HRD
    have HH := HH6; have HX := HX6; have HB := HB6; have HRD := HRD6
    clear HH6 HX6 HB6 HRD6
    have HCr := Aside0.mk HRD.out.rd
    clear HRD
    have HUV := HU.out
    unfold unheadOut at HUV
    rw [if_pos HP.out] at HUV
    have hnn : (#[.int .i64 (nth l 4 4 0), .int .i64 (nth l 8 2 0), .int .i64 (nth l 8 2 1)] : Array Value) = #[.int .i64 (nm l 4 4), .int .i64 (nm l 8 2), .int .i64 (nm l 10 2)] := rfl
    rw [hnn] at HH
    clear hnn
    obtain ⟨n0, hn0⟩ : ∃ n, nm l 4 4 = n := ⟨_, rfl⟩
    obtain ⟨n1, hn1⟩ : ∃ n, nm l 8 2 = n := ⟨_, rfl⟩
    obtain ⟨n2, hn2⟩ : ∃ n, nm l 10 2 = n := ⟨_, rfl⟩
    rw [hn0, hn1, hn2] at HUV HH
    clear hn0 hn1 hn2
    have hap : api_Header.f n0 n1 n2 l (headOut n0 n1 n2 (l.length : Int)).1 (headOut n0 n1 n2 (l.length : Int)).2 = some (m0, m1, m2, m3) := by
      unfold api_Header.f bytes_Equal.f
      rw [← HUV]
      by_cases he : (headOut n0 n1 n2 (l.length : Int)).2 = 0
      · rw [if_pos he]
        by_cases c : (strOfNums (headOut n0 n1 n2 (l.length : Int)).1).toList = (strOfNums l).toList
        · rw [if_pos c, c]; simp
        · rw [if_neg c]
          have c2 : ((strOfNums l).toList == (strOfNums (headOut n0 n1 n2 (l.length : Int)).1).toList) = false := beq_eq_false_iff_ne.2 fun q => c q.symm
          rw [c2]
          rfl
      · rw [if_neg he, headOut_err _ _ _ _ he, if_neg (str_ne (by have := H64.out; omega))]
    have HAP := Aside0.mk hap
    have HHD := Aside0.mk (fun W => header_calls n0 n1 n2 (l.length : Int) W)
    obtain ⟨⟨BS, be⟩, hBS⟩ : ∃ BS, headOut n0 n1 n2 (l.length : Int) = BS := ⟨_, rfl⟩
    rw [hBS] at HAP HHD
    clear hap HUV HU hBS
    have y0 : w6.cell? ⟨H, 0, none⟩ = some (.int .i64 n0) := (blk_cell HH.out 0).trans rfl; have y1 : w6.cell? ⟨H, 1, none⟩ = some (.int .i64 n1) := (blk_cell HH.out 1).trans rfl; have y2 : w6.cell? ⟨H, 2, none⟩ = some (.int .i64 n2) := (blk_cell HH.out 2).trans rfl
    go_wp2_with fail
    ((with_reducible refine (HHD.out _).mono ?_); rintro e w7 ⟨v, rfl, hv, hb⟩)
    have HX7 := Aside0.mk (blk_below HX.out hb); have HH7 := Aside0.mk (blk_below HH.out hb); have HB7 := Aside0.mk (below_then HB.out HB.out.size hb); have HC7 := Aside0.mk (Kd.C_below HCr.out hb)
    obtain ⟨A2, k2, rfl, hk2, hv2⟩ := brow_reads hv
    have HSA := Aside0.mk (api_Header.calls n0 n1 n2 A c l A2 k2 BS be m0 m1 m2 m3 w7 HC7.out HLS.out.2.2 hv2 hk2 HAP.out)
    clear hb HHD HX HH HB HCr hv hv2 hk2 y0 y1 y2
    have y0 : w7.cell? ⟨H, 0, none⟩ = some (.int .i64 n0) := (blk_cell HH7.out 0).trans rfl; have y1 : w7.cell? ⟨H, 1, none⟩ = some (.int .i64 n1) := (blk_cell HH7.out 1).trans rfl; have y2 : w7.cell? ⟨H, 2, none⟩ = some (.int .i64 n2) := (blk_cell HH7.out 2).trans rfl
    go_wp2_with fail
    ((with_reducible refine HSA.out.mono ?_); rintro e w8 ⟨rfl, hb⟩)
    have HX8 := Aside0.mk (blk_below HX7.out hb); have HB8 := Aside0.mk (below_then HB7.out HB7.out.size hb)
    clear hb HSA HX7 HH7 HB7 HC7 y0 y1 y2
    have x0 : w8.cell? ⟨X, 0, none⟩ = some (.int .i64 0) := (blk_cell HX8.out 0).trans rfl; have x1 : w8.cell? ⟨X, 1, none⟩ = some (.int .i64 0) := (blk_cell HX8.out 1).trans rfl; have x2 : w8.cell? ⟨X, 2, none⟩ = some (.int .i64 0) := (blk_cell HX8.out 2).trans rfl
    have f0 : w8.frozen? ⟨X, 0, none⟩ = false := blk_frozen HX8.out 0; have f1 : w8.frozen? ⟨X, 1, none⟩ = false := blk_frozen HX8.out 1; have f2 : w8.frozen? ⟨X, 2, none⟩ = false := blk_frozen HX8.out 2
    go_wp2
    refine bodyPost_ret (results_ct rfl _ _ X 39 #[.int .i64 m0, .int .i64 m1, .int .i64 m2] (0, 0) _ rfl (put3 HX8.out (.int .i64 m0) (.int .i64 m1) (.int .i64 m2)) hu rfl (by kernel_rfl)) rfl ?_
    exact ⟨rfl, below3 HB8.out HGE.out _ _ _⟩
end Go.Proofs.Ytbplffdmggbcdaa.Codec
