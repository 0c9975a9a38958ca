/- The reference reads a record: a contract. -/
import Derived.Test.YtbplffdmggbcdaaKKRrec
namespace Go.Proofs.Ytbplffdmggbcdaa.Codec
open Go.RowKit Go.Proofs.Ytbplffdmggbcdaa.PCodecRecords Go.Proofs.Ytbplffdmggbcdaa.Plain Go.Proofs.Ytbplffdmggbcdaa.Pure Go.Proofs.YtbplffdmggbcdaaW.PrintWords Go.Proofs.YtbplffdmggbcdaaW.PrintLast Go.Proofs.YtbplffdmggbcdaaW.PrintMore
set_option linter.unusedVariables false
set_option linter.unusedSimpArgs false

theorem C_far {w : World} {X : Nat} {A : Option Addr} {l : List Int} (h : Kd.C (Kd.int .u8) w A l.length l) (hA : ∀ ad, A = some ad → 0 < l.length → ad.block ≠ X) (i : Nat) (u : Value) : Kd.C (Kd.int .u8) (w.setCell ⟨X, i, none⟩ u) A l.length l := by
  have hrd := brow_C h
  refine brow_ofC ⟨hrd.1, hrd.2.1, fun hn => ?_⟩
  obtain ⟨ad, e, hc⟩ := hrd.2.2 hn
  refine ⟨ad, e, fun j hj => ?_⟩
  have hj := hc j hj
  have hbk : (ad.add j).block = ad.block := by unfold Addr.add; split <;> rfl
  rw [← hj]
  unfold World.cell?
  rw [Below.heap_setCell w ⟨X, i, none⟩ _ (ad.add j).block (by rw [hbk]; exact hA ad e hn)]
theorem far9 {w : World} {g k : Nat} {o : Obj} (h : w.heap[k]? = some o) (hk : k ≠ g) (v0 v1 v2 v3 v4 v5 v6 v7 v8 : Value) : (((((((((w.setCell ⟨g, 0, none⟩ v0).setCell ⟨g, 1, none⟩ v1).setCell ⟨g, 2, none⟩ v2).setCell ⟨g, 3, none⟩ v3).setCell ⟨g, 4, none⟩ v4).setCell ⟨g, 5, none⟩ v5).setCell ⟨g, 6, none⟩ v6).setCell ⟨g, 7, none⟩ v7).setCell ⟨g, 8, none⟩ v8).heap[k]? = some o := ((Below.heap_setCell _ ⟨g, 8, none⟩ v8 k hk).trans ((Below.heap_setCell _ ⟨g, 7, none⟩ v7 k hk).trans ((Below.heap_setCell _ ⟨g, 6, none⟩ v6 k hk).trans ((Below.heap_setCell _ ⟨g, 5, none⟩ v5 k hk).trans ((Below.heap_setCell _ ⟨g, 4, none⟩ v4 k hk).trans ((Below.heap_setCell _ ⟨g, 3, none⟩ v3 k hk).trans ((Below.heap_setCell _ ⟨g, 2, none⟩ v2 k hk).trans ((Below.heap_setCell _ ⟨g, 1, none⟩ v1 k hk).trans ((Below.heap_setCell _ ⟨g, 0, none⟩ v0 k hk).trans h)))))))))
theorem C_far9 {w : World} {g : Nat} {A : Option Addr} {l : List Int} (h : Kd.C (Kd.int .u8) w A l.length l) (hA : ∀ ad, A = some ad → 0 < l.length → ad.block ≠ g) (v0 v1 v2 v3 v4 v5 v6 v7 v8 : Value) : Kd.C (Kd.int .u8) (((((((((w.setCell ⟨g, 0, none⟩ v0).setCell ⟨g, 1, none⟩ v1).setCell ⟨g, 2, none⟩ v2).setCell ⟨g, 3, none⟩ v3).setCell ⟨g, 4, none⟩ v4).setCell ⟨g, 5, none⟩ v5).setCell ⟨g, 6, none⟩ v6).setCell ⟨g, 7, none⟩ v7).setCell ⟨g, 8, none⟩ v8) A l.length l := (C_far (C_far (C_far (C_far (C_far (C_far (C_far (C_far (C_far h hA 0 v0) hA 1 v1) hA 2 v2) hA 3 v3) hA 4 v4) hA 5 v5) hA 6 v6) hA 7 v7) hA 8 v8)
theorem box_step {P : Program} {ops : Array Oper} {Q : Exit → Act → World → Prop} {oi : Oper} {N : Option Tmp} {a : Act} {W : World} {K : Act → World → Prop} {cs : Array Value} {t : TypeId} (hw : Region.wanted oi (yielded ops a.tmps) = true) (hN : oi.dst = N)
    (hrun : (execOp a.eval oi).run P W = .ok (.value (.pointer (some ⟨W.heap.size, 0, none⟩))) (W.alloc (.cells cs t (0, 0))))
    (h : ∀ g, g = W.heap.size → ∀ w1, w1.heap[g]? = some (.cells cs t (0, 0)) → Below W.heap.size W w1 → K (a.put N (.pointer (some ⟨g, 0, none⟩))) w1) : if Region.wanted oi (yielded ops a.tmps) = true then Oper.wp P oi a W K Q else K (a.put N undef) W := by
  rw [if_pos hw]
  subst hN
  unfold Oper.wp
  rw [hrun]
  exact h _ rfl _ (blk_new W _) (below_alloc (Below.refl _ _) _)
theorem num_calls {A : Option Addr} {c : Nat} {l : List Int} (hl : Bytes l) (hs : l.length ≤ 140737488351232) (hc : l.length ≤ c) (a n : Int) (hn : n = 1 ∨ n = 2 ∨ n = 4) (h : field_part.Inside l a n) (W : World) (hC : Kd.C (Kd.int .u8) W A l.length l) :
    Calls Try.prog 29 #[.slice A l.length c, .int .i64 a, .int .i64 n] W fun e w' => e = .returned (.int .i64 (le (field_part.seg l a n))) ∧ Below W.heap.size W w' := by
  have hf : skerryref06_num.f 8 l a n = some (le (field_part.seg l a n)) := by
    unfold skerryref06_num.f
    have h2 := rget_yes hl hs hn h 0
    rw [show 0 + 8 = 8 from rfl] at h2
    rw [h2]
    rfl
  refine (skerryref06_num.calls 8 A c l a n _ W hC hc hf).mono ?_
  rintro e w' ⟨rfl, hd⟩
  exact ⟨rfl, hd.below⟩
def runrec.T6 : Bool × List (List Nat × List Nat) := (true, [([], []), ([0], [0]), ([], []), ([2, 1], [2]), ([], []), ([4, 3], [4]), ([], []), ([6, 5], [6]), ([], []), ([8], [8]), ([9], [9]), ([5, 7, 10], [5, 7, 10]), ([1, 3, 11], [1, 3, 11]), ([], []), ([13, 12, 7, 0, 1, 2, 3, 4, 5, 6, 7, 8, 9, 10, 11, 12, 13], [12, 13])])
def runrec.B6 : List Nat := [0, 1, 0, 7, 0, 31, 0, 127, 0, 256, 768, 2047, 4095, 0, 16383]
theorem runrec.tab6 : rtab .any (opsOf Try.f9 6) = runrec.T6 := by kernel_rfl
theorem runrec.bits6 : waitsOk runrec.T6.2 runrec.B6 = true := by kernel_rfl

set_option maxHeartbeats 4000000 in
set_option maxRecDepth 100000 in
theorem runrecord_calls (A : Option Addr) (c : Nat) (l : List Int) (a : Int) (w : World) (hr : Kd.C (Kd.int .u8) w A l.length l) (hc : l.length ≤ c) (hl : Bytes l) (hs : l.length ≤ 140737488351232) :
    Calls Try.prog 9 #[.slice A l.length c, .int .i64 a] w fun e w' => e = .returned (recRes (unf l a)) ∧ Below w.heap.size w w' := by
  have hu := Try.underlying26
  have hu2 := Try.underlying24
  have hpb := unf_bytes hl a
  have hF0 := runframe_is hl hs (a := a) (k := l.length + 21) (by omega)
  obtain ⟨⟨p, nx, er⟩, hun⟩ : ∃ u, unf l a = u := ⟨_, rfl⟩
  rw [hun] at hpb hF0 ⊢
  have HPB := Aside0.mk hpb
  have HLS := Aside0.mk hs
  have HU := Aside0.mk (fun (W : World) (hC : Kd.C (Kd.int .u8) W A l.length l) => skerryref02_Unframe.calls (l.length + 21) A c l a p nx er W hC hc hF0)
  have HR0 := Aside0.mk hr
  clear hr hc hl hs hpb hF0 hun
  obtain ⟨rs, hrs⟩ : ∃ rs, recRes (p, nx, er) = rs := ⟨_, rfl⟩
  rw [hrs]
  have HRS := Aside0.mk hrs
  clear hrs
  go_enter Try.func9, Try.ntmps9
  go_upto_region 1 with (((with_reducible refine gate_dst (N := 4) rfl ?_); refine box_event ?hg (N := 4) ?hd (cs := #[.int .i64 0, .int .i64 0, .int .i64 0, .int .i64 0, .int .i64 0, .int .i64 0, .int .i64 0, .int .i64 0, .string ⟨#[]⟩]) (t := 26) ?hr ?_; (case hd => rfl); (case hg => rfl); (case hr => first | (go_simp; done) | (go_simp; rfl)); intro X hgX w1 hbox hb; have BKX := Aside0.mk hbox; have BHX := Aside0.mk hb; have GEX := Aside0.mk hgX; clear hb hbox hgX))
  have HR1 := Aside0.mk (Kd.C_below HR0.out BHX.out)
  go_wp2_with fail
  ((with_reducible refine (HU.out _ HR1.out).mono ?_); rintro e w2 ⟨v, rfl, hv, hb⟩)
  have HB2 := Aside0.mk (below_then BHX.out BHX.out.size hb)
  have HX2 : Aside0 (w2.heap[X]? = some (.cells recZero 26 (0, 0))) := ⟨blk_below BKX.out hb⟩
  have HGE : Aside0 (w.heap.size ≤ X) := ⟨by have := GEX.out; omega⟩
  obtain ⟨A2, c2, rfl, hc2, hC2⟩ := brow_reads hv
  have HCC := Aside0.mk (And.intro hc2 hC2)
  have HC2 := Aside0.mk hC2
  have HLV : Aside0 (∀ k, (Value.slice A2 p.length c2).ownBlock = some k → w1.heap.size ≤ k ∧ k < w2.heap.size) := ⟨brow_lt hv⟩
  clear hb hv hc2 hC2 HU HR0 HR1 BKX BHX GEX
  have x0 : w2.cell? ⟨X, 0, none⟩ = some (.int .i64 0) := (blk_cell HX2.out 0).trans rfl; have x1 : w2.cell? ⟨X, 1, none⟩ = some (.int .i64 0) := (blk_cell HX2.out 1).trans rfl; have x2 : w2.cell? ⟨X, 2, none⟩ = some (.int .i64 0) := (blk_cell HX2.out 2).trans rfl; have x3 : w2.cell? ⟨X, 3, none⟩ = some (.int .i64 0) := (blk_cell HX2.out 3).trans rfl; have x4 : w2.cell? ⟨X, 4, none⟩ = some (.int .i64 0) := (blk_cell HX2.out 4).trans rfl; have x5 : w2.cell? ⟨X, 5, none⟩ = some (.int .i64 0) := (blk_cell HX2.out 5).trans rfl; have x6 : w2.cell? ⟨X, 6, none⟩ = some (.int .i64 0) := (blk_cell HX2.out 6).trans rfl; have x7 : w2.cell? ⟨X, 7, none⟩ = some (.int .i64 0) := (blk_cell HX2.out 7).trans rfl; have x8 : w2.cell? ⟨X, 8, none⟩ = some (.string ⟨#[]⟩) := (blk_cell HX2.out 8).trans rfl
  have f0 : w2.frozen? ⟨X, 0, none⟩ = false := blk_frozen HX2.out 0; have f1 : w2.frozen? ⟨X, 1, none⟩ = false := blk_frozen HX2.out 1; have f2 : w2.frozen? ⟨X, 2, none⟩ = false := blk_frozen HX2.out 2; have f3 : w2.frozen? ⟨X, 3, none⟩ = false := blk_frozen HX2.out 3; have f4 : w2.frozen? ⟨X, 4, none⟩ = false := blk_frozen HX2.out 4; have f5 : w2.frozen? ⟨X, 5, none⟩ = false := blk_frozen HX2.out 5; have f6 : w2.frozen? ⟨X, 6, none⟩ = false := blk_frozen HX2.out 6; have f7 : w2.frozen? ⟨X, 7, none⟩ = false := blk_frozen HX2.out 7; have f8 : w2.frozen? ⟨X, 8, none⟩ = false := blk_frozen HX2.out 8
  by_cases he : er = 0
  rotate_left
  · have d1 : (er != 0) = true := bne_iff_ne.2 he
    have hrs : rs = .tuple #[.agg recZero, .int .i64 0, .int .i64 er] := by rw [← HRS.out]; unfold recRes; rw [if_neg he]
    have HRS2 := Aside0.mk hrs
    clear hrs he
    go_wp2
    refine bodyPost_ret (results_ctt rfl _ _ X 26 #[.int .i64 0, .int .i64 0, .int .i64 0, .int .i64 0, .int .i64 0, .int .i64 0, .int .i64 0, .int .i64 0, .string ⟨#[]⟩] (0, 0) _ rfl (put9 HX2.out (.int .i64 0) (.int .i64 0) (.int .i64 0) (.int .i64 0) (.int .i64 0) (.int .i64 0) (.int .i64 0) (.int .i64 0) (.string ⟨#[]⟩)) hu rfl (by kernel_rfl)) rfl ?_
    rw [HRS2.out]
    exact ⟨rfl, below9 HB2.out HGE.out _ _ _ _ _ _ _ _ _⟩
  · subst he
    by_cases hlen : p.length < 24
    · have d2 : decide ((p.length : Int) < 24) = true := decide_eq_true (by omega)
      have d2n : decide (p.length < 24) = true := decide_eq_true hlen
      have hrs : rs = .tuple #[.agg recZero, .int .i64 0, .int .i64 4] := by rw [← HRS.out]; unfold recRes; rw [if_pos rfl, if_pos hlen]
      have HRS2 := Aside0.mk hrs
      clear hrs hlen
      go_wp2
      refine bodyPost_ret (results_ctt rfl _ _ X 26 #[.int .i64 0, .int .i64 0, .int .i64 0, .int .i64 0, .int .i64 0, .int .i64 0, .int .i64 0, .int .i64 0, .string ⟨#[]⟩] (0, 0) _ rfl (put9 HX2.out (.int .i64 0) (.int .i64 0) (.int .i64 0) (.int .i64 0) (.int .i64 0) (.int .i64 0) (.int .i64 0) (.int .i64 0) (.string ⟨#[]⟩)) hu rfl (by kernel_rfl)) rfl ?_
      rw [HRS2.out]
      exact ⟨rfl, below9 HB2.out HGE.out _ _ _ _ _ _ _ _ _⟩
    · have d2 : decide ((p.length : Int) < 24) = false := decide_eq_false (by omega)
      have d2n : decide (p.length < 24) = false := decide_eq_false hlen
      have hrs : rs = .tuple #[.agg (recVals p), .int .i64 nx, .int .i64 0] := by rw [← HRS.out]; unfold recRes; rw [if_pos rfl, if_neg hlen]
      have hv : recVals p = #[.int .i64 (nth p 0 4 0), .int .i64 (nth p 0 4 1), .int .i64 (nth p 16 2 0), .int .i64 (nth p 16 2 1), .int .i64 (nth p 16 2 2), .int .i64 (nth p 16 2 3), .int .i64 (nth p 0 4 2), .int .i64 (nth p 0 4 3), .string (strOfNums (p.drop 24))] := rfl
      rw [hv] at hrs
      have HLN : Aside0 (24 ≤ p.length) := ⟨by omega⟩
      clear hlen hv x0 f0 x1 f1 x2 f2 x3 f3 x4 f4 x5 f5 x6 f6 x7 f7 x8 f8
      obtain ⟨i0, hi0, _, hsz0, _⟩ := info_parts info5
      obtain ⟨A10, hcut, hA10, _⟩ := print_drop_of (P := Try.prog) (Value.int .u8) 0 27 5 .i64 Try.underlying27 hi0 hsz0 A2 c2 p 24 (by decide) (by have := HLN.out; omega) HCC.out.1
      have hcv : ∀ W : World, Kd.C (Kd.int .u8) W A2 p.length p → (Go.convert 27 9 (.slice A10 (p.drop (24 : Int).toNat).length (c2 - (24 : Int).toNat))).run Try.prog W = .ok (.string (strOfNums (p.drop (24 : Int).toNat))) W := by
        intro W hC
        have hC10 : Kd.C (Kd.int .u8) W A10 (p.drop (24 : Int).toNat).length (p.drop (24 : Int).toNat) := Kd.C_of_reads (h1 := fun _ => rfl) (hA10 _ (Kd.reads_of_C hC))
        exact Kd.C_string (P := Try.prog) (A := A10) (c := c2 - (24 : Int).toNat) Try.underlying27 Try.underlying5 Try.underlying9 hC10
      rw [show (24 : Int).toNat = 24 from rfl] at hcut hcv
      obtain ⟨T, hT⟩ : ∃ T, strOfNums (p.drop 24) = T := ⟨_, rfl⟩
      obtain ⟨n10, hn10⟩ : ∃ n, (p.drop 24).length = n := ⟨_, rfl⟩
      obtain ⟨c10, hc10⟩ : ∃ c, c2 - 24 = c := ⟨_, rfl⟩
      rw [hn10, hc10] at hcut hcv
      rw [hT] at hcv hrs
      have HCV := Aside0.mk hcv
      obtain ⟨Z, hZ⟩ : ∃ Z, nth p 0 4 = Z := ⟨_, rfl⟩
      obtain ⟨S, hS⟩ : ∃ S, nth p 16 2 = S := ⟨_, rfl⟩
      rw [hZ, hS] at hrs
      have HN0 : Aside0 (∀ W, Kd.C (Kd.int .u8) W A2 p.length p → Calls Try.prog 29 #[.slice A2 p.length c2, .int .i64 0, .int .i64 4] W (fun e w' => e = .returned (.int .i64 (Z 0)) ∧ Below W.heap.size W w')) := ⟨fun W hC => by rw [← hZ]; exact num_calls HPB.out.1 (by have := HPB.out.2; have := HLS.out; omega) HCC.out.1 0 4 (by decide) (by unfold field_part.Inside; have := HLN.out; omega) W hC⟩
      have HN1 : Aside0 (∀ W, Kd.C (Kd.int .u8) W A2 p.length p → Calls Try.prog 29 #[.slice A2 p.length c2, .int .i64 4, .int .i64 4] W (fun e w' => e = .returned (.int .i64 (Z 1)) ∧ Below W.heap.size W w')) := ⟨fun W hC => by rw [← hZ]; exact num_calls HPB.out.1 (by have := HPB.out.2; have := HLS.out; omega) HCC.out.1 4 4 (by decide) (by unfold field_part.Inside; have := HLN.out; omega) W hC⟩
      have HN2 : Aside0 (∀ W, Kd.C (Kd.int .u8) W A2 p.length p → Calls Try.prog 29 #[.slice A2 p.length c2, .int .i64 8, .int .i64 4] W (fun e w' => e = .returned (.int .i64 (Z 2)) ∧ Below W.heap.size W w')) := ⟨fun W hC => by rw [← hZ]; exact num_calls HPB.out.1 (by have := HPB.out.2; have := HLS.out; omega) HCC.out.1 8 4 (by decide) (by unfold field_part.Inside; have := HLN.out; omega) W hC⟩
      have HN3 : Aside0 (∀ W, Kd.C (Kd.int .u8) W A2 p.length p → Calls Try.prog 29 #[.slice A2 p.length c2, .int .i64 12, .int .i64 4] W (fun e w' => e = .returned (.int .i64 (Z 3)) ∧ Below W.heap.size W w')) := ⟨fun W hC => by rw [← hZ]; exact num_calls HPB.out.1 (by have := HPB.out.2; have := HLS.out; omega) HCC.out.1 12 4 (by decide) (by unfold field_part.Inside; have := HLN.out; omega) W hC⟩
      have HS0 : Aside0 (∀ W, Kd.C (Kd.int .u8) W A2 p.length p → Calls Try.prog 29 #[.slice A2 p.length c2, .int .i64 16, .int .i64 2] W (fun e w' => e = .returned (.int .i64 (S 0)) ∧ Below W.heap.size W w')) := ⟨fun W hC => by rw [← hS]; exact num_calls HPB.out.1 (by have := HPB.out.2; have := HLS.out; omega) HCC.out.1 16 2 (by decide) (by unfold field_part.Inside; have := HLN.out; omega) W hC⟩
      have HS1 : Aside0 (∀ W, Kd.C (Kd.int .u8) W A2 p.length p → Calls Try.prog 29 #[.slice A2 p.length c2, .int .i64 18, .int .i64 2] W (fun e w' => e = .returned (.int .i64 (S 1)) ∧ Below W.heap.size W w')) := ⟨fun W hC => by rw [← hS]; exact num_calls HPB.out.1 (by have := HPB.out.2; have := HLS.out; omega) HCC.out.1 18 2 (by decide) (by unfold field_part.Inside; have := HLN.out; omega) W hC⟩
      have HS2 : Aside0 (∀ W, Kd.C (Kd.int .u8) W A2 p.length p → Calls Try.prog 29 #[.slice A2 p.length c2, .int .i64 20, .int .i64 2] W (fun e w' => e = .returned (.int .i64 (S 2)) ∧ Below W.heap.size W w')) := ⟨fun W hC => by rw [← hS]; exact num_calls HPB.out.1 (by have := HPB.out.2; have := HLS.out; omega) HCC.out.1 20 2 (by decide) (by unfold field_part.Inside; have := HLN.out; omega) W hC⟩
      have HS3 : Aside0 (∀ W, Kd.C (Kd.int .u8) W A2 p.length p → Calls Try.prog 29 #[.slice A2 p.length c2, .int .i64 22, .int .i64 2] W (fun e w' => e = .returned (.int .i64 (S 3)) ∧ Below W.heap.size W w')) := ⟨fun W hC => by rw [← hS]; exact num_calls HPB.out.1 (by have := HPB.out.2; have := HLS.out; omega) HCC.out.1 22 2 (by decide) (by unfold field_part.Inside; have := HLN.out; omega) W hC⟩
      have HRS2 := Aside0.mk hrs
      clear hT hA10 hi0 hsz0 hn10 hc10 hcv hZ hS hrs
      go_upto_region 6 with (fail)
      refine start_ (n := 15) (S := (fun w' => Kd.C (Kd.int .u8) w' A2 p.length p)) (ds := [14]) #[false, false, false, false, false, false, false, false, false, false, false, false, false, false, false] (by kernel_rfl) rfl rfl HC2.out (fun hHeld => ?_); refine with_tabW runrec.tab6 runrec.bits6 (fun HT_ HW_ => ?_)
      have Hw100 := Aside0.mk (And.intro (blk_drew HX2.out) (And.intro hHeld (below_drew (Below.refl w2.heap.size w2))))
      generalize w2.drew = w100 at Hw100 hHeld ⊢
      refine pure_ (i := 0) (N := (some 27)) (v := ?_) (a' := ?_) #[true, false, false, false, false, false, false, false, false, false, false, false, false, false, false] rfl rfl (any_of HT_.out (by kernel_rfl)) (fun _ _ _ h => h) (Or.inl ⟨by rfl, ?_⟩) ?_ ?_
      rotate_left
      · intro w'
        go_simp
        with_reducible rfl
      rotate_left
      · simp only [Act.put, List.setIfInBounds_toArray, List.set_cons_zero, List.set_cons_succ, i64_w, i32_w]
        rfl
      refine pure_ (i := 2) (N := (some 29)) (v := ?_) (a' := ?_) #[true, false, true, false, false, false, false, false, false, false, false, false, false, false, false] rfl rfl (any_of HT_.out (by kernel_rfl)) (fun _ _ _ h => h) (Or.inl ⟨by rfl, ?_⟩) ?_ ?_
      rotate_left
      · intro w'
        go_simp
        with_reducible rfl
      rotate_left
      · simp only [Act.put, List.setIfInBounds_toArray, List.set_cons_zero, List.set_cons_succ, i64_w, i32_w]
        rfl
      refine pure_ (i := 4) (N := (some 31)) (v := ?_) (a' := ?_) #[true, false, true, false, true, false, false, false, false, false, false, false, false, false, false] rfl rfl (any_of HT_.out (by kernel_rfl)) (fun _ _ _ h => h) (Or.inl ⟨by rfl, ?_⟩) ?_ ?_
      rotate_left
      · intro w'
        go_simp
        with_reducible rfl
      rotate_left
      · simp only [Act.put, List.setIfInBounds_toArray, List.set_cons_zero, List.set_cons_succ, i64_w, i32_w]
        rfl
      refine pure_ (i := 6) (N := (some 33)) (v := ?_) (a' := ?_) #[true, false, true, false, true, false, true, false, false, false, false, false, false, false, false] rfl rfl (any_of HT_.out (by kernel_rfl)) (fun _ _ _ h => h) (Or.inl ⟨by rfl, ?_⟩) ?_ ?_
      rotate_left
      · intro w'
        go_simp
        with_reducible rfl
      rotate_left
      · simp only [Act.put, List.setIfInBounds_toArray, List.set_cons_zero, List.set_cons_succ, i64_w, i32_w]
        rfl
      refine pure_ (i := 8) (N := (some 35)) (v := ?_) (a' := ?_) #[true, false, true, false, true, false, true, false, true, false, false, false, false, false, false] rfl rfl (any_of HT_.out (by kernel_rfl)) (fun _ _ _ h => h) (Or.inl ⟨by rfl, ?_⟩) ?_ ?_
      rotate_left
      · intro w'
        go_simp
        with_reducible rfl
      rotate_left
      · simp only [Act.put, List.setIfInBounds_toArray, List.set_cons_zero, List.set_cons_succ, i64_w, i32_w]
        rfl
      refine pure_ (i := 9) (N := (some 36)) (v := ?_) (a' := ?_) #[true, false, true, false, true, false, true, false, true, true, false, false, false, false, false] rfl rfl (any_of HT_.out (by kernel_rfl)) (fun _ _ _ h => h) (Or.inl ⟨by rfl, ?_⟩) ?_ ?_
      rotate_left
      · intro w'
        go_simp
        with_reducible rfl
      rotate_left
      · simp only [Act.put, List.setIfInBounds_toArray, List.set_cons_zero, List.set_cons_succ, i64_w, i32_w]
        rfl
      refine take_ (i := 10) (N := (some 37)) (v := ?_) (a' := ?_) #[true, false, true, false, true, false, true, false, true, true, true, false, false, false, false] rfl rfl (take_ofW HT_.out HW_.out (by kernel_rfl)) (fun _ _ _ h => h) (Or.inl ⟨by rfl, ?_⟩) hHeld ?_ ?_
      rotate_left
      · intro w' z0
        have hcv := HCV.out w' z0
        go_simp
        with_reducible rfl
      rotate_left
      · simp only [Act.put, List.setIfInBounds_toArray, List.set_cons_zero, List.set_cons_succ, i64_w, i32_w]
        rfl
      refine join_ (σ := Nat) 1 #[true, true, true, true, true, true, true, true, true, true, true, true, true, true, false] (fun Y => [(28, .int .i64 (Z 0)), (30, .int .i64 (Z 1)), (32, .int .i64 (Z 2)), (34, .int .i64 (Z 3)), (38, .agg #[.int .i64 (Z 2), .int .i64 (Z 3), .string T]), (39, .agg #[.int .i64 (Z 0), .int .i64 (Z 1), .int .i64 0, .int .i64 0, .int .i64 0, .int .i64 0, .int .i64 (Z 2), .int .i64 (Z 3), .string T]), (10, .pointer (some ⟨Y, 0, none⟩))]) (fun Y w' => w'.heap[Y]? = some (.cells recZero 26 (0, 0)) ∧ w'.heap[X]? = some (.cells recZero 26 (0, 0)) ∧ Kd.C (Kd.int .u8) w' A2 p.length p ∧ Below w2.heap.size w2 w' ∧ w2.heap.size ≤ Y) ?_ ?_
      rotate_left
      · intro hCont
        refine two_ (i := 1) (j := 13) (Ni := some 28) (Nj := some 10) #[true, true, true, false, true, false, true, false, true, true, true, false, false, false, false] #[true, false, true, false, true, false, true, false, true, true, true, false, false, true, false] rfl rfl rfl rfl (two_of HT_.out (by kernel_rfl)) (by decide) (by decide) (fun K hK => ?_) (fun K hK => ?_)
        · skip
          refine goes_ Try.func29 (by kernel_rfl) rfl #[.slice A2 p.length c2, .int .i64 0, .int .i64 4] (by rfl) rfl rfl (by simp [Act.eval]) ?_
          ((with_reducible refine (HN0.out w100 Hw100.out.2.1).mono ?_); rintro e w101 ⟨rfl, hb⟩)
          refine ⟨_, rfl, ?_⟩
          have Hw101 := Aside0.mk (And.intro (blk_below Hw100.out.1 hb) (And.intro (Kd.C_below Hw100.out.2.1 hb) (below_then Hw100.out.2.2 Hw100.out.2.2.size hb)))
          clear hb
          refine hK.out _ _ Hw101.out.2.1 (fun hHeld => ?_)
          clear hK K
          refine norm_ (a' := ?_) ?_ ?_
          rotate_left
          · show Act.put _ (some 28) _ = _
            simp only [Act.put, List.setIfInBounds_toArray, List.set_cons_zero, List.set_cons_succ, i64_w, i32_w]
            rfl
          refine two_ (i := 3) (j := 13) (Ni := some 30) (Nj := some 10) #[true, true, true, true, true, false, true, false, true, true, true, false, false, false, false] #[true, true, true, false, true, false, true, false, true, true, true, false, false, true, false] rfl rfl rfl rfl (two_of HT_.out (by kernel_rfl)) (by decide) (by decide) (fun K hK => ?_) (fun K hK => ?_)
          · skip
            refine goes_ Try.func29 (by kernel_rfl) rfl #[.slice A2 p.length c2, .int .i64 4, .int .i64 4] (by rfl) rfl rfl (by simp [Act.eval]) ?_
            ((with_reducible refine (HN1.out w101 Hw101.out.2.1).mono ?_); rintro e w102 ⟨rfl, hb⟩)
            refine ⟨_, rfl, ?_⟩
            have Hw102 := Aside0.mk (And.intro (blk_below Hw101.out.1 hb) (And.intro (Kd.C_below Hw101.out.2.1 hb) (below_then Hw101.out.2.2 Hw101.out.2.2.size hb)))
            clear hb
            refine hK.out _ _ Hw102.out.2.1 (fun hHeld => ?_)
            clear hK K
            refine norm_ (a' := ?_) ?_ ?_
            rotate_left
            · show Act.put _ (some 30) _ = _
              simp only [Act.put, List.setIfInBounds_toArray, List.set_cons_zero, List.set_cons_succ, i64_w, i32_w]
              rfl
            refine two_ (i := 5) (j := 13) (Ni := some 32) (Nj := some 10) #[true, true, true, true, true, true, true, false, true, true, true, false, false, false, false] #[true, true, true, true, true, false, true, false, true, true, true, false, false, true, false] rfl rfl rfl rfl (two_of HT_.out (by kernel_rfl)) (by decide) (by decide) (fun K hK => ?_) (fun K hK => ?_)
            · skip
              refine goes_ Try.func29 (by kernel_rfl) rfl #[.slice A2 p.length c2, .int .i64 8, .int .i64 4] (by rfl) rfl rfl (by simp [Act.eval]) ?_
              ((with_reducible refine (HN2.out w102 Hw102.out.2.1).mono ?_); rintro e w103 ⟨rfl, hb⟩)
              refine ⟨_, rfl, ?_⟩
              have Hw103 := Aside0.mk (And.intro (blk_below Hw102.out.1 hb) (And.intro (Kd.C_below Hw102.out.2.1 hb) (below_then Hw102.out.2.2 Hw102.out.2.2.size hb)))
              clear hb
              refine hK.out _ _ Hw103.out.2.1 (fun hHeld => ?_)
              clear hK K
              refine norm_ (a' := ?_) ?_ ?_
              rotate_left
              · show Act.put _ (some 32) _ = _
                simp only [Act.put, List.setIfInBounds_toArray, List.set_cons_zero, List.set_cons_succ, i64_w, i32_w]
                rfl
              refine two_ (i := 7) (j := 13) (Ni := some 34) (Nj := some 10) #[true, true, true, true, true, true, true, true, true, true, true, false, false, false, false] #[true, true, true, true, true, true, true, false, true, true, true, false, false, true, false] rfl rfl rfl rfl (two_of HT_.out (by kernel_rfl)) (by decide) (by decide) (fun K hK => ?_) (fun K hK => ?_)
              · skip
                refine goes_ Try.func29 (by kernel_rfl) rfl #[.slice A2 p.length c2, .int .i64 12, .int .i64 4] (by rfl) rfl rfl (by simp [Act.eval]) ?_
                ((with_reducible refine (HN3.out w103 Hw103.out.2.1).mono ?_); rintro e w104 ⟨rfl, hb⟩)
                refine ⟨_, rfl, ?_⟩
                have Hw104 := Aside0.mk (And.intro (blk_below Hw103.out.1 hb) (And.intro (Kd.C_below Hw103.out.2.1 hb) (below_then Hw103.out.2.2 Hw103.out.2.2.size hb)))
                clear hb
                refine hK.out _ _ Hw104.out.2.1 (fun hHeld => ?_)
                clear hK K
                refine norm_ (a' := ?_) ?_ ?_
                rotate_left
                · show Act.put _ (some 34) _ = _
                  simp only [Act.put, List.setIfInBounds_toArray, List.set_cons_zero, List.set_cons_succ, i64_w, i32_w]
                  rfl
                refine pure_ (i := 11) (N := some 38) (v := ?_) (a' := ?_) #[true, true, true, true, true, true, true, true, true, true, true, true, false, false, false] rfl rfl (any_of HT_.out (by kernel_rfl)) (fun _ _ _ h => h) (Or.inl ⟨by rfl, ?_⟩) ?_ ?_
                rotate_left
                · intro w'
                  go_simp
                  with_reducible rfl
                rotate_left
                · simp only [Act.put, List.setIfInBounds_toArray, List.set_cons_zero, List.set_cons_succ, i64_w, i32_w]
                  rfl
                refine pure_ (i := 12) (N := some 39) (v := ?_) (a' := ?_) #[true, true, true, true, true, true, true, true, true, true, true, true, true, false, false] rfl rfl (any_of HT_.out (by kernel_rfl)) (fun _ _ _ h => h) (Or.inl ⟨by rfl, ?_⟩) ?_ ?_
                rotate_left
                · intro w'
                  go_simp
                  with_reducible rfl
                rotate_left
                · simp only [Act.put, List.setIfInBounds_toArray, List.set_cons_zero, List.set_cons_succ, i64_w, i32_w]
                  rfl
                refine one_ (i := 13) (N := some 10) #[true, true, true, true, true, true, true, true, true, true, true, true, true, true, false] rfl rfl (one_of HT_.out (by kernel_rfl)) (by decide) (fun K hK => ?_)
                refine box_step (cs := recZero) (t := 26) (by rfl) rfl (by first | (go_simp; done) | (go_simp; rfl)) ?_
                intro Y hY w105 hbox hb
                have Hw105 := Aside0.mk (And.intro (blk_below Hw104.out.1 hb) (And.intro (Kd.C_below Hw104.out.2.1 hb) (below_then Hw104.out.2.2 Hw104.out.2.2.size hb)))
                have HYw105 := Aside0.mk hbox; have HYX : Aside0 (w2.heap.size ≤ Y) := ⟨by have := Hw104.out.2.2.size; omega⟩
                clear hb hbox hY
                refine hK.out _ _ Hw105.out.2.1 (fun hHeld => ?_)
                clear hK K
                refine norm_ (a' := ?_) ?_ ?_
                rotate_left
                · show Act.put _ (some 10) _ = _
                  simp only [Act.put, List.setIfInBounds_toArray, List.set_cons_zero, List.set_cons_succ, i64_w, i32_w]
                  rfl
                exact norm_ (by simp only [putAll, Act.put, List.setIfInBounds_toArray, List.set_cons_zero, List.set_cons_succ]) (hCont Y _ ⟨HYw105.out, Hw105.out.1, Hw105.out.2.1, Hw105.out.2.2, HYX.out⟩)
              · skip
                refine box_step (cs := recZero) (t := 26) (by rfl) rfl (by first | (go_simp; done) | (go_simp; rfl)) ?_
                intro Y hY w106 hbox hb
                have Hw106 := Aside0.mk (And.intro (blk_below Hw103.out.1 hb) (And.intro (Kd.C_below Hw103.out.2.1 hb) (below_then Hw103.out.2.2 Hw103.out.2.2.size hb)))
                have HYw106 := Aside0.mk hbox; have HYX : Aside0 (w2.heap.size ≤ Y) := ⟨by have := Hw103.out.2.2.size; omega⟩
                clear hb hbox hY
                refine hK.out _ _ Hw106.out.2.1 (fun hHeld => ?_)
                clear hK K
                refine norm_ (a' := ?_) ?_ ?_
                rotate_left
                · show Act.put _ (some 10) _ = _
                  simp only [Act.put, List.setIfInBounds_toArray, List.set_cons_zero, List.set_cons_succ, i64_w, i32_w]
                  rfl
                refine one_ (i := 7) (N := some 34) #[true, true, true, true, true, true, true, true, true, true, true, false, false, true, false] rfl rfl (one_of HT_.out (by kernel_rfl)) (by decide) (fun K hK => ?_)
                refine goes_ Try.func29 (by kernel_rfl) rfl #[.slice A2 p.length c2, .int .i64 12, .int .i64 4] (by rfl) rfl rfl (by simp [Act.eval]) ?_
                ((with_reducible refine (HN3.out w106 Hw106.out.2.1).mono ?_); rintro e w107 ⟨rfl, hb⟩)
                refine ⟨_, rfl, ?_⟩
                have Hw107 := Aside0.mk (And.intro (blk_below Hw106.out.1 hb) (And.intro (Kd.C_below Hw106.out.2.1 hb) (below_then Hw106.out.2.2 Hw106.out.2.2.size hb)))
                have HYw107 := Aside0.mk (blk_below HYw106.out hb)
                clear hb
                refine hK.out _ _ Hw107.out.2.1 (fun hHeld => ?_)
                clear hK K
                refine norm_ (a' := ?_) ?_ ?_
                rotate_left
                · show Act.put _ (some 34) _ = _
                  simp only [Act.put, List.setIfInBounds_toArray, List.set_cons_zero, List.set_cons_succ, i64_w, i32_w]
                  rfl
                refine pure_ (i := 11) (N := some 38) (v := ?_) (a' := ?_) #[true, true, true, true, true, true, true, true, true, true, true, true, false, true, false] rfl rfl (any_of HT_.out (by kernel_rfl)) (fun _ _ _ h => h) (Or.inl ⟨by rfl, ?_⟩) ?_ ?_
                rotate_left
                · intro w'
                  go_simp
                  with_reducible rfl
                rotate_left
                · simp only [Act.put, List.setIfInBounds_toArray, List.set_cons_zero, List.set_cons_succ, i64_w, i32_w]
                  rfl
                refine pure_ (i := 12) (N := some 39) (v := ?_) (a' := ?_) #[true, true, true, true, true, true, true, true, true, true, true, true, true, true, false] rfl rfl (any_of HT_.out (by kernel_rfl)) (fun _ _ _ h => h) (Or.inl ⟨by rfl, ?_⟩) ?_ ?_
                rotate_left
                · intro w'
                  go_simp
                  with_reducible rfl
                rotate_left
                · simp only [Act.put, List.setIfInBounds_toArray, List.set_cons_zero, List.set_cons_succ, i64_w, i32_w]
                  rfl
                exact norm_ (by simp only [putAll, Act.put, List.setIfInBounds_toArray, List.set_cons_zero, List.set_cons_succ]) (hCont Y _ ⟨HYw107.out, Hw107.out.1, Hw107.out.2.1, Hw107.out.2.2, HYX.out⟩)
            · skip
              refine box_step (cs := recZero) (t := 26) (by rfl) rfl (by first | (go_simp; done) | (go_simp; rfl)) ?_
              intro Y hY w108 hbox hb
              have Hw108 := Aside0.mk (And.intro (blk_below Hw102.out.1 hb) (And.intro (Kd.C_below Hw102.out.2.1 hb) (below_then Hw102.out.2.2 Hw102.out.2.2.size hb)))
              have HYw108 := Aside0.mk hbox; have HYX : Aside0 (w2.heap.size ≤ Y) := ⟨by have := Hw102.out.2.2.size; omega⟩
              clear hb hbox hY
              refine hK.out _ _ Hw108.out.2.1 (fun hHeld => ?_)
              clear hK K
              refine norm_ (a' := ?_) ?_ ?_
              rotate_left
              · show Act.put _ (some 10) _ = _
                simp only [Act.put, List.setIfInBounds_toArray, List.set_cons_zero, List.set_cons_succ, i64_w, i32_w]
                rfl
              refine one_ (i := 5) (N := some 32) #[true, true, true, true, true, true, true, false, true, true, true, false, false, true, false] rfl rfl (one_of HT_.out (by kernel_rfl)) (by decide) (fun K hK => ?_)
              refine goes_ Try.func29 (by kernel_rfl) rfl #[.slice A2 p.length c2, .int .i64 8, .int .i64 4] (by rfl) rfl rfl (by simp [Act.eval]) ?_
              ((with_reducible refine (HN2.out w108 Hw108.out.2.1).mono ?_); rintro e w109 ⟨rfl, hb⟩)
              refine ⟨_, rfl, ?_⟩
              have Hw109 := Aside0.mk (And.intro (blk_below Hw108.out.1 hb) (And.intro (Kd.C_below Hw108.out.2.1 hb) (below_then Hw108.out.2.2 Hw108.out.2.2.size hb)))
              have HYw109 := Aside0.mk (blk_below HYw108.out hb)
              clear hb
              refine hK.out _ _ Hw109.out.2.1 (fun hHeld => ?_)
              clear hK K
              refine norm_ (a' := ?_) ?_ ?_
              rotate_left
              · show Act.put _ (some 32) _ = _
                simp only [Act.put, List.setIfInBounds_toArray, List.set_cons_zero, List.set_cons_succ, i64_w, i32_w]
                rfl
              refine one_ (i := 7) (N := some 34) #[true, true, true, true, true, true, true, true, true, true, true, false, false, true, false] rfl rfl (one_of HT_.out (by kernel_rfl)) (by decide) (fun K hK => ?_)
              refine goes_ Try.func29 (by kernel_rfl) rfl #[.slice A2 p.length c2, .int .i64 12, .int .i64 4] (by rfl) rfl rfl (by simp [Act.eval]) ?_
              ((with_reducible refine (HN3.out w109 Hw109.out.2.1).mono ?_); rintro e w110 ⟨rfl, hb⟩)
              refine ⟨_, rfl, ?_⟩
              have Hw110 := Aside0.mk (And.intro (blk_below Hw109.out.1 hb) (And.intro (Kd.C_below Hw109.out.2.1 hb) (below_then Hw109.out.2.2 Hw109.out.2.2.size hb)))
              have HYw110 := Aside0.mk (blk_below HYw109.out hb)
              clear hb
              refine hK.out _ _ Hw110.out.2.1 (fun hHeld => ?_)
              clear hK K
              refine norm_ (a' := ?_) ?_ ?_
              rotate_left
              · show Act.put _ (some 34) _ = _
                simp only [Act.put, List.setIfInBounds_toArray, List.set_cons_zero, List.set_cons_succ, i64_w, i32_w]
                rfl
              refine pure_ (i := 11) (N := some 38) (v := ?_) (a' := ?_) #[true, true, true, true, true, true, true, true, true, true, true, true, false, true, false] rfl rfl (any_of HT_.out (by kernel_rfl)) (fun _ _ _ h => h) (Or.inl ⟨by rfl, ?_⟩) ?_ ?_
              rotate_left
              · intro w'
                go_simp
                with_reducible rfl
              rotate_left
              · simp only [Act.put, List.setIfInBounds_toArray, List.set_cons_zero, List.set_cons_succ, i64_w, i32_w]
                rfl
              refine pure_ (i := 12) (N := some 39) (v := ?_) (a' := ?_) #[true, true, true, true, true, true, true, true, true, true, true, true, true, true, false] rfl rfl (any_of HT_.out (by kernel_rfl)) (fun _ _ _ h => h) (Or.inl ⟨by rfl, ?_⟩) ?_ ?_
              rotate_left
              · intro w'
                go_simp
                with_reducible rfl
              rotate_left
              · simp only [Act.put, List.setIfInBounds_toArray, List.set_cons_zero, List.set_cons_succ, i64_w, i32_w]
                rfl
              exact norm_ (by simp only [putAll, Act.put, List.setIfInBounds_toArray, List.set_cons_zero, List.set_cons_succ]) (hCont Y _ ⟨HYw110.out, Hw110.out.1, Hw110.out.2.1, Hw110.out.2.2, HYX.out⟩)
          · skip
            refine box_step (cs := recZero) (t := 26) (by rfl) rfl (by first | (go_simp; done) | (go_simp; rfl)) ?_
            intro Y hY w111 hbox hb
            have Hw111 := Aside0.mk (And.intro (blk_below Hw101.out.1 hb) (And.intro (Kd.C_below Hw101.out.2.1 hb) (below_then Hw101.out.2.2 Hw101.out.2.2.size hb)))
            have HYw111 := Aside0.mk hbox; have HYX : Aside0 (w2.heap.size ≤ Y) := ⟨by have := Hw101.out.2.2.size; omega⟩
            clear hb hbox hY
            refine hK.out _ _ Hw111.out.2.1 (fun hHeld => ?_)
            clear hK K
            refine norm_ (a' := ?_) ?_ ?_
            rotate_left
            · show Act.put _ (some 10) _ = _
              simp only [Act.put, List.setIfInBounds_toArray, List.set_cons_zero, List.set_cons_succ, i64_w, i32_w]
              rfl
            refine one_ (i := 3) (N := some 30) #[true, true, true, true, true, false, true, false, true, true, true, false, false, true, false] rfl rfl (one_of HT_.out (by kernel_rfl)) (by decide) (fun K hK => ?_)
            refine goes_ Try.func29 (by kernel_rfl) rfl #[.slice A2 p.length c2, .int .i64 4, .int .i64 4] (by rfl) rfl rfl (by simp [Act.eval]) ?_
            ((with_reducible refine (HN1.out w111 Hw111.out.2.1).mono ?_); rintro e w112 ⟨rfl, hb⟩)
            refine ⟨_, rfl, ?_⟩
            have Hw112 := Aside0.mk (And.intro (blk_below Hw111.out.1 hb) (And.intro (Kd.C_below Hw111.out.2.1 hb) (below_then Hw111.out.2.2 Hw111.out.2.2.size hb)))
            have HYw112 := Aside0.mk (blk_below HYw111.out hb)
            clear hb
            refine hK.out _ _ Hw112.out.2.1 (fun hHeld => ?_)
            clear hK K
            refine norm_ (a' := ?_) ?_ ?_
            rotate_left
            · show Act.put _ (some 30) _ = _
              simp only [Act.put, List.setIfInBounds_toArray, List.set_cons_zero, List.set_cons_succ, i64_w, i32_w]
              rfl
            refine one_ (i := 5) (N := some 32) #[true, true, true, true, true, true, true, false, true, true, true, false, false, true, false] rfl rfl (one_of HT_.out (by kernel_rfl)) (by decide) (fun K hK => ?_)
            refine goes_ Try.func29 (by kernel_rfl) rfl #[.slice A2 p.length c2, .int .i64 8, .int .i64 4] (by rfl) rfl rfl (by simp [Act.eval]) ?_
            ((with_reducible refine (HN2.out w112 Hw112.out.2.1).mono ?_); rintro e w113 ⟨rfl, hb⟩)
            refine ⟨_, rfl, ?_⟩
            have Hw113 := Aside0.mk (And.intro (blk_below Hw112.out.1 hb) (And.intro (Kd.C_below Hw112.out.2.1 hb) (below_then Hw112.out.2.2 Hw112.out.2.2.size hb)))
            have HYw113 := Aside0.mk (blk_below HYw112.out hb)
            clear hb
            refine hK.out _ _ Hw113.out.2.1 (fun hHeld => ?_)
            clear hK K
            refine norm_ (a' := ?_) ?_ ?_
            rotate_left
            · show Act.put _ (some 32) _ = _
              simp only [Act.put, List.setIfInBounds_toArray, List.set_cons_zero, List.set_cons_succ, i64_w, i32_w]
              rfl
            refine one_ (i := 7) (N := some 34) #[true, true, true, true, true, true, true, true, true, true, true, false, false, true, false] rfl rfl (one_of HT_.out (by kernel_rfl)) (by decide) (fun K hK => ?_)
            refine goes_ Try.func29 (by kernel_rfl) rfl #[.slice A2 p.length c2, .int .i64 12, .int .i64 4] (by rfl) rfl rfl (by simp [Act.eval]) ?_
            ((with_reducible refine (HN3.out w113 Hw113.out.2.1).mono ?_); rintro e w114 ⟨rfl, hb⟩)
            refine ⟨_, rfl, ?_⟩
            have Hw114 := Aside0.mk (And.intro (blk_below Hw113.out.1 hb) (And.intro (Kd.C_below Hw113.out.2.1 hb) (below_then Hw113.out.2.2 Hw113.out.2.2.size hb)))
            have HYw114 := Aside0.mk (blk_below HYw113.out hb)
            clear hb
            refine hK.out _ _ Hw114.out.2.1 (fun hHeld => ?_)
            clear hK K
            refine norm_ (a' := ?_) ?_ ?_
            rotate_left
            · show Act.put _ (some 34) _ = _
              simp only [Act.put, List.setIfInBounds_toArray, List.set_cons_zero, List.set_cons_succ, i64_w, i32_w]
              rfl
            refine pure_ (i := 11) (N := some 38) (v := ?_) (a' := ?_) #[true, true, true, true, true, true, true, true, true, true, true, true, false, true, false] rfl rfl (any_of HT_.out (by kernel_rfl)) (fun _ _ _ h => h) (Or.inl ⟨by rfl, ?_⟩) ?_ ?_
            rotate_left
            · intro w'
              go_simp
              with_reducible rfl
            rotate_left
            · simp only [Act.put, List.setIfInBounds_toArray, List.set_cons_zero, List.set_cons_succ, i64_w, i32_w]
              rfl
            refine pure_ (i := 12) (N := some 39) (v := ?_) (a' := ?_) #[true, true, true, true, true, true, true, true, true, true, true, true, true, true, false] rfl rfl (any_of HT_.out (by kernel_rfl)) (fun _ _ _ h => h) (Or.inl ⟨by rfl, ?_⟩) ?_ ?_
            rotate_left
            · intro w'
              go_simp
              with_reducible rfl
            rotate_left
            · simp only [Act.put, List.setIfInBounds_toArray, List.set_cons_zero, List.set_cons_succ, i64_w, i32_w]
              rfl
            exact norm_ (by simp only [putAll, Act.put, List.setIfInBounds_toArray, List.set_cons_zero, List.set_cons_succ]) (hCont Y _ ⟨HYw114.out, Hw114.out.1, Hw114.out.2.1, Hw114.out.2.2, HYX.out⟩)
        · skip
          refine box_step (cs := recZero) (t := 26) (by rfl) rfl (by first | (go_simp; done) | (go_simp; rfl)) ?_
          intro Y hY w115 hbox hb
          have Hw115 := Aside0.mk (And.intro (blk_below Hw100.out.1 hb) (And.intro (Kd.C_below Hw100.out.2.1 hb) (below_then Hw100.out.2.2 Hw100.out.2.2.size hb)))
          have HYw115 := Aside0.mk hbox; have HYX : Aside0 (w2.heap.size ≤ Y) := ⟨by have := Hw100.out.2.2.size; omega⟩
          clear hb hbox hY
          refine hK.out _ _ Hw115.out.2.1 (fun hHeld => ?_)
          clear hK K
          refine norm_ (a' := ?_) ?_ ?_
          rotate_left
          · show Act.put _ (some 10) _ = _
            simp only [Act.put, List.setIfInBounds_toArray, List.set_cons_zero, List.set_cons_succ, i64_w, i32_w]
            rfl
          refine one_ (i := 1) (N := some 28) #[true, true, true, false, true, false, true, false, true, true, true, false, false, true, false] rfl rfl (one_of HT_.out (by kernel_rfl)) (by decide) (fun K hK => ?_)
          refine goes_ Try.func29 (by kernel_rfl) rfl #[.slice A2 p.length c2, .int .i64 0, .int .i64 4] (by rfl) rfl rfl (by simp [Act.eval]) ?_
          ((with_reducible refine (HN0.out w115 Hw115.out.2.1).mono ?_); rintro e w116 ⟨rfl, hb⟩)
          refine ⟨_, rfl, ?_⟩
          have Hw116 := Aside0.mk (And.intro (blk_below Hw115.out.1 hb) (And.intro (Kd.C_below Hw115.out.2.1 hb) (below_then Hw115.out.2.2 Hw115.out.2.2.size hb)))
          have HYw116 := Aside0.mk (blk_below HYw115.out hb)
          clear hb
          refine hK.out _ _ Hw116.out.2.1 (fun hHeld => ?_)
          clear hK K
          refine norm_ (a' := ?_) ?_ ?_
          rotate_left
          · show Act.put _ (some 28) _ = _
            simp only [Act.put, List.setIfInBounds_toArray, List.set_cons_zero, List.set_cons_succ, i64_w, i32_w]
            rfl
          refine one_ (i := 3) (N := some 30) #[true, true, true, true, true, false, true, false, true, true, true, false, false, true, false] rfl rfl (one_of HT_.out (by kernel_rfl)) (by decide) (fun K hK => ?_)
          refine goes_ Try.func29 (by kernel_rfl) rfl #[.slice A2 p.length c2, .int .i64 4, .int .i64 4] (by rfl) rfl rfl (by simp [Act.eval]) ?_
          ((with_reducible refine (HN1.out w116 Hw116.out.2.1).mono ?_); rintro e w117 ⟨rfl, hb⟩)
          refine ⟨_, rfl, ?_⟩
          have Hw117 := Aside0.mk (And.intro (blk_below Hw116.out.1 hb) (And.intro (Kd.C_below Hw116.out.2.1 hb) (below_then Hw116.out.2.2 Hw116.out.2.2.size hb)))
          have HYw117 := Aside0.mk (blk_below HYw116.out hb)
          clear hb
          refine hK.out _ _ Hw117.out.2.1 (fun hHeld => ?_)
          clear hK K
          refine norm_ (a' := ?_) ?_ ?_
          rotate_left
          · show Act.put _ (some 30) _ = _
            simp only [Act.put, List.setIfInBounds_toArray, List.set_cons_zero, List.set_cons_succ, i64_w, i32_w]
            rfl
          refine one_ (i := 5) (N := some 32) #[true, true, true, true, true, true, true, false, true, true, true, false, false, true, false] rfl rfl (one_of HT_.out (by kernel_rfl)) (by decide) (fun K hK => ?_)
          refine goes_ Try.func29 (by kernel_rfl) rfl #[.slice A2 p.length c2, .int .i64 8, .int .i64 4] (by rfl) rfl rfl (by simp [Act.eval]) ?_
          ((with_reducible refine (HN2.out w117 Hw117.out.2.1).mono ?_); rintro e w118 ⟨rfl, hb⟩)
          refine ⟨_, rfl, ?_⟩
          have Hw118 := Aside0.mk (And.intro (blk_below Hw117.out.1 hb) (And.intro (Kd.C_below Hw117.out.2.1 hb) (below_then Hw117.out.2.2 Hw117.out.2.2.size hb)))
          have HYw118 := Aside0.mk (blk_below HYw117.out hb)
          clear hb
          refine hK.out _ _ Hw118.out.2.1 (fun hHeld => ?_)
          clear hK K
          refine norm_ (a' := ?_) ?_ ?_
          rotate_left
          · show Act.put _ (some 32) _ = _
            simp only [Act.put, List.setIfInBounds_toArray, List.set_cons_zero, List.set_cons_succ, i64_w, i32_w]
            rfl
          refine one_ (i := 7) (N := some 34) #[true, true, true, true, true, true, true, true, true, true, true, false, false, true, false] rfl rfl (one_of HT_.out (by kernel_rfl)) (by decide) (fun K hK => ?_)
          refine goes_ Try.func29 (by kernel_rfl) rfl #[.slice A2 p.length c2, .int .i64 12, .int .i64 4] (by rfl) rfl rfl (by simp [Act.eval]) ?_
          ((with_reducible refine (HN3.out w118 Hw118.out.2.1).mono ?_); rintro e w119 ⟨rfl, hb⟩)
          refine ⟨_, rfl, ?_⟩
          have Hw119 := Aside0.mk (And.intro (blk_below Hw118.out.1 hb) (And.intro (Kd.C_below Hw118.out.2.1 hb) (below_then Hw118.out.2.2 Hw118.out.2.2.size hb)))
          have HYw119 := Aside0.mk (blk_below HYw118.out hb)
          clear hb
          refine hK.out _ _ Hw119.out.2.1 (fun hHeld => ?_)
          clear hK K
          refine norm_ (a' := ?_) ?_ ?_
          rotate_left
          · show Act.put _ (some 34) _ = _
            simp only [Act.put, List.setIfInBounds_toArray, List.set_cons_zero, List.set_cons_succ, i64_w, i32_w]
            rfl
          refine pure_ (i := 11) (N := some 38) (v := ?_) (a' := ?_) #[true, true, true, true, true, true, true, true, true, true, true, true, false, true, false] rfl rfl (any_of HT_.out (by kernel_rfl)) (fun _ _ _ h => h) (Or.inl ⟨by rfl, ?_⟩) ?_ ?_
          rotate_left
          · intro w'
            go_simp
            with_reducible rfl
          rotate_left
          · simp only [Act.put, List.setIfInBounds_toArray, List.set_cons_zero, List.set_cons_succ, i64_w, i32_w]
            rfl
          refine pure_ (i := 12) (N := some 39) (v := ?_) (a' := ?_) #[true, true, true, true, true, true, true, true, true, true, true, true, true, true, false] rfl rfl (any_of HT_.out (by kernel_rfl)) (fun _ _ _ h => h) (Or.inl ⟨by rfl, ?_⟩) ?_ ?_
          rotate_left
          · intro w'
            go_simp
            with_reducible rfl
          rotate_left
          · simp only [Act.put, List.setIfInBounds_toArray, List.set_cons_zero, List.set_cons_succ, i64_w, i32_w]
            rfl
          exact norm_ (by simp only [putAll, Act.put, List.setIfInBounds_toArray, List.set_cons_zero, List.set_cons_succ]) (hCont Y _ ⟨HYw119.out, Hw119.out.1, Hw119.out.2.1, Hw119.out.2.2, HYX.out⟩)
      clear Hw100
      rintro Y w3 ⟨hY, hX, hC, hB, hlt⟩
      have HY3 := Aside0.mk hY; have HX3 := Aside0.mk hX; have HC3 := Aside0.mk hC; have HB3 := Aside0.mk hB; have HYX := Aside0.mk hlt
      clear hY hX hC hB hlt hHeld HC2 hcut HCV HN0 HN1 HN2 HN3
      refine norm_ (a' := ?_) ?_ ?_
      rotate_left
      · simp only [putAll, Act.put, List.setIfInBounds_toArray, List.set_cons_zero, List.set_cons_succ]
        rfl
      have y0 : w3.cell? ⟨Y, 0, none⟩ = some (.int .i64 0) := (blk_cell HY3.out 0).trans rfl; have y1 : w3.cell? ⟨Y, 1, none⟩ = some (.int .i64 0) := (blk_cell HY3.out 1).trans rfl; have y2 : w3.cell? ⟨Y, 2, none⟩ = some (.int .i64 0) := (blk_cell HY3.out 2).trans rfl; have y3 : w3.cell? ⟨Y, 3, none⟩ = some (.int .i64 0) := (blk_cell HY3.out 3).trans rfl; have y4 : w3.cell? ⟨Y, 4, none⟩ = some (.int .i64 0) := (blk_cell HY3.out 4).trans rfl; have y5 : w3.cell? ⟨Y, 5, none⟩ = some (.int .i64 0) := (blk_cell HY3.out 5).trans rfl; have y6 : w3.cell? ⟨Y, 6, none⟩ = some (.int .i64 0) := (blk_cell HY3.out 6).trans rfl; have y7 : w3.cell? ⟨Y, 7, none⟩ = some (.int .i64 0) := (blk_cell HY3.out 7).trans rfl; have y8 : w3.cell? ⟨Y, 8, none⟩ = some (.string ⟨#[]⟩) := (blk_cell HY3.out 8).trans rfl
      have f0 : w3.frozen? ⟨Y, 0, none⟩ = false := blk_frozen HY3.out 0; have f1 : w3.frozen? ⟨Y, 1, none⟩ = false := blk_frozen HY3.out 1; have f2 : w3.frozen? ⟨Y, 2, none⟩ = false := blk_frozen HY3.out 2; have f3 : w3.frozen? ⟨Y, 3, none⟩ = false := blk_frozen HY3.out 3; have f4 : w3.frozen? ⟨Y, 4, none⟩ = false := blk_frozen HY3.out 4; have f5 : w3.frozen? ⟨Y, 5, none⟩ = false := blk_frozen HY3.out 5; have f6 : w3.frozen? ⟨Y, 6, none⟩ = false := blk_frozen HY3.out 6; have f7 : w3.frozen? ⟨Y, 7, none⟩ = false := blk_frozen HY3.out 7; have f8 : w3.frozen? ⟨Y, 8, none⟩ = false := blk_frozen HY3.out 8
      refine last_ (i := 14) (N := none) #[true, true, true, true, true, true, true, true, true, true, true, true, true, true, true] rfl rfl (one_of HT_.out (by kernel_rfl)) (by decide) (fun K hK => ?_)
      refine skip_ (w1 := ?_) (by rfl) rfl ?_ ?_
      rotate_left
      · go_simp
        rfl
      refine hK.out _ _ ?_
      clear hK K
      refine done_ (done_of HT_.out (by kernel_rfl)) ?_
      clear y0 f0; clear y1 f1; clear y2 f2; clear y3 f3; clear y4 f4; clear y5 f5; clear y6 f6; clear y7 f7; clear y8 f8
      have HAY : Aside0 (∀ ad, A2 = some ad → 0 < p.length → ad.block ≠ Y) := ⟨by
        intro ad e _
        subst e
        have h1 := HLV.out ad.block rfl
        have h2 := HYX.out
        omega⟩
      have HXY : Aside0 (X ≠ Y) := ⟨by have := blk_lt HX2.out; have := HYX.out; omega⟩
      have HY4 := Aside0.mk (put9 HY3.out (.int .i64 (Z 0)) (.int .i64 (Z 1)) (.int .i64 0) (.int .i64 0) (.int .i64 0) (.int .i64 0) (.int .i64 (Z 2)) (.int .i64 (Z 3)) (.string T))
      have HX4 := Aside0.mk (far9 HX3.out HXY.out (.int .i64 (Z 0)) (.int .i64 (Z 1)) (.int .i64 0) (.int .i64 0) (.int .i64 0) (.int .i64 0) (.int .i64 (Z 2)) (.int .i64 (Z 3)) (.string T))
      have HC4 := Aside0.mk (C_far9 HC3.out HAY.out (.int .i64 (Z 0)) (.int .i64 (Z 1)) (.int .i64 0) (.int .i64 0) (.int .i64 0) (.int .i64 0) (.int .i64 (Z 2)) (.int .i64 (Z 3)) (.string T))
      have HB4 := Aside0.mk (below9 HB3.out HYX.out (.int .i64 (Z 0)) (.int .i64 (Z 1)) (.int .i64 0) (.int .i64 0) (.int .i64 0) (.int .i64 0) (.int .i64 (Z 2)) (.int .i64 (Z 3)) (.string T))
      clear HY3 HX3 HC3 HB3
      generalize (((((((((w3.setCell ⟨Y, 0, none⟩ (.int .i64 (Z 0))).setCell ⟨Y, 1, none⟩ (.int .i64 (Z 1))).setCell ⟨Y, 2, none⟩ (.int .i64 0)).setCell ⟨Y, 3, none⟩ (.int .i64 0)).setCell ⟨Y, 4, none⟩ (.int .i64 0)).setCell ⟨Y, 5, none⟩ (.int .i64 0)).setCell ⟨Y, 6, none⟩ (.int .i64 (Z 2))).setCell ⟨Y, 7, none⟩ (.int .i64 (Z 3))).setCell ⟨Y, 8, none⟩ (.string T)) = w4 at HY4 HX4 HC4 HB4 ⊢
      go_wp2_with fail
      go_loopg [11] 4 (fun kq v11 w' => (v11 = .int .i64 0 ∧ 4 - 0 ≤ kq ∧ Aside0 (Kd.C (Kd.int .u8) w' A2 p.length p ∧ w'.heap[Y]? = some (.cells #[.int .i64 (Z 0), .int .i64 (Z 1), .int .i64 0, .int .i64 0, .int .i64 0, .int .i64 0, .int .i64 (Z 2), .int .i64 (Z 3), .string T] 26 (0, 0)) ∧ w'.heap[X]? = some (.cells recZero 26 (0, 0)) ∧ Below w2.heap.size w2 w')) ∨ (v11 = .int .i64 1 ∧ 4 - 1 ≤ kq ∧ Aside0 (Kd.C (Kd.int .u8) w' A2 p.length p ∧ w'.heap[Y]? = some (.cells #[.int .i64 (Z 0), .int .i64 (Z 1), .int .i64 (S 0), .int .i64 0, .int .i64 0, .int .i64 0, .int .i64 (Z 2), .int .i64 (Z 3), .string T] 26 (0, 0)) ∧ w'.heap[X]? = some (.cells recZero 26 (0, 0)) ∧ Below w2.heap.size w2 w')) ∨ (v11 = .int .i64 2 ∧ 4 - 2 ≤ kq ∧ Aside0 (Kd.C (Kd.int .u8) w' A2 p.length p ∧ w'.heap[Y]? = some (.cells #[.int .i64 (Z 0), .int .i64 (Z 1), .int .i64 (S 0), .int .i64 (S 1), .int .i64 0, .int .i64 0, .int .i64 (Z 2), .int .i64 (Z 3), .string T] 26 (0, 0)) ∧ w'.heap[X]? = some (.cells recZero 26 (0, 0)) ∧ Below w2.heap.size w2 w')) ∨ (v11 = .int .i64 3 ∧ 4 - 3 ≤ kq ∧ Aside0 (Kd.C (Kd.int .u8) w' A2 p.length p ∧ w'.heap[Y]? = some (.cells #[.int .i64 (Z 0), .int .i64 (Z 1), .int .i64 (S 0), .int .i64 (S 1), .int .i64 (S 2), .int .i64 0, .int .i64 (Z 2), .int .i64 (Z 3), .string T] 26 (0, 0)) ∧ w'.heap[X]? = some (.cells recZero 26 (0, 0)) ∧ Below w2.heap.size w2 w')) ∨ (v11 = .int .i64 4 ∧ 4 - 4 ≤ kq ∧ Aside0 (Kd.C (Kd.int .u8) w' A2 p.length p ∧ w'.heap[Y]? = some (.cells #[.int .i64 (Z 0), .int .i64 (Z 1), .int .i64 (S 0), .int .i64 (S 1), .int .i64 (S 2), .int .i64 (S 3), .int .i64 (Z 2), .int .i64 (Z 3), .string T] 26 (0, 0)) ∧ w'.heap[X]? = some (.cells recZero 26 (0, 0)) ∧ Below w2.heap.size w2 w')))
      case atStart => exact .inl ⟨rfl, by omega, ⟨HC4.out, HY4.out, HX4.out, HB4.out⟩⟩
      case round =>
        rcases hrel with ⟨rfl, hkq, HS⟩ | ⟨rfl, hkq, HS⟩ | ⟨rfl, hkq, HS⟩ | ⟨rfl, hkq, HS⟩ | ⟨rfl, hkq, HS⟩
        · cases gk with
          | zero => omega
          | succ k1 =>
            go_wp2_with fail
            ((with_reducible refine (HS0.out wr HS.out.1).mono ?_); rintro e w7 ⟨rfl, hb⟩)
            have HC7 := Aside0.mk (Kd.C_below HS.out.1 hb)
            have HY7 := Aside0.mk (blk_below HS.out.2.1 hb)
            have HX7 := Aside0.mk (blk_below HS.out.2.2.1 hb)
            have HB7 := Aside0.mk (below_then HS.out.2.2.2 HS.out.2.2.2.size hb)
            have xc : w7.cell? ⟨Y, 2, none⟩ = some (.int .i64 0) := (blk_cell HY7.out 2).trans rfl
            have fc := blk_frozen HY7.out 2
            clear hb HS
            go_wp2_with fail
            go_roundg k1
            case measure => omega
            case rel => exact .inr (.inl ⟨by go_num, by omega, ⟨C_far HC7.out HAY.out 2 _, blk_put (cs := #[.int .i64 (Z 0), .int .i64 (Z 1), .int .i64 0, .int .i64 0, .int .i64 0, .int .i64 0, .int .i64 (Z 2), .int .i64 (Z 3), .string T]) HY7.out 2 _ rfl, (Below.heap_setCell _ _ _ X HXY.out).trans HX7.out, below_set HB7.out HYX.out⟩⟩)
        · cases gk with
          | zero => omega
          | succ k1 =>
            go_wp2_with fail
            ((with_reducible refine (HS1.out wr HS.out.1).mono ?_); rintro e w7 ⟨rfl, hb⟩)
            have HC7 := Aside0.mk (Kd.C_below HS.out.1 hb)
            have HY7 := Aside0.mk (blk_below HS.out.2.1 hb)
            have HX7 := Aside0.mk (blk_below HS.out.2.2.1 hb)
            have HB7 := Aside0.mk (below_then HS.out.2.2.2 HS.out.2.2.2.size hb)
            have xc : w7.cell? ⟨Y, 3, none⟩ = some (.int .i64 0) := (blk_cell HY7.out 3).trans rfl
            have fc := blk_frozen HY7.out 3
            clear hb HS
            go_wp2_with fail
            go_roundg k1
            case measure => omega
            case rel => exact .inr (.inr (.inl ⟨by go_num, by omega, ⟨C_far HC7.out HAY.out 3 _, blk_put (cs := #[.int .i64 (Z 0), .int .i64 (Z 1), .int .i64 (S 0), .int .i64 0, .int .i64 0, .int .i64 0, .int .i64 (Z 2), .int .i64 (Z 3), .string T]) HY7.out 3 _ rfl, (Below.heap_setCell _ _ _ X HXY.out).trans HX7.out, below_set HB7.out HYX.out⟩⟩))
        · cases gk with
          | zero => omega
          | succ k1 =>
            go_wp2_with fail
            ((with_reducible refine (HS2.out wr HS.out.1).mono ?_); rintro e w7 ⟨rfl, hb⟩)
            have HC7 := Aside0.mk (Kd.C_below HS.out.1 hb)
            have HY7 := Aside0.mk (blk_below HS.out.2.1 hb)
            have HX7 := Aside0.mk (blk_below HS.out.2.2.1 hb)
            have HB7 := Aside0.mk (below_then HS.out.2.2.2 HS.out.2.2.2.size hb)
            have xc : w7.cell? ⟨Y, 4, none⟩ = some (.int .i64 0) := (blk_cell HY7.out 4).trans rfl
            have fc := blk_frozen HY7.out 4
            clear hb HS
            go_wp2_with fail
            go_roundg k1
            case measure => omega
            case rel => exact .inr (.inr (.inr (.inl ⟨by go_num, by omega, ⟨C_far HC7.out HAY.out 4 _, blk_put (cs := #[.int .i64 (Z 0), .int .i64 (Z 1), .int .i64 (S 0), .int .i64 (S 1), .int .i64 0, .int .i64 0, .int .i64 (Z 2), .int .i64 (Z 3), .string T]) HY7.out 4 _ rfl, (Below.heap_setCell _ _ _ X HXY.out).trans HX7.out, below_set HB7.out HYX.out⟩⟩)))
        · cases gk with
          | zero => omega
          | succ k1 =>
            go_wp2_with fail
            ((with_reducible refine (HS3.out wr HS.out.1).mono ?_); rintro e w7 ⟨rfl, hb⟩)
            have HC7 := Aside0.mk (Kd.C_below HS.out.1 hb)
            have HY7 := Aside0.mk (blk_below HS.out.2.1 hb)
            have HX7 := Aside0.mk (blk_below HS.out.2.2.1 hb)
            have HB7 := Aside0.mk (below_then HS.out.2.2.2 HS.out.2.2.2.size hb)
            have xc : w7.cell? ⟨Y, 5, none⟩ = some (.int .i64 0) := (blk_cell HY7.out 5).trans rfl
            have fc := blk_frozen HY7.out 5
            clear hb HS
            go_wp2_with fail
            go_roundg k1
            case measure => omega
            case rel => exact .inr (.inr (.inr (.inr (⟨by go_num, by omega, ⟨C_far HC7.out HAY.out 5 _, blk_put (cs := #[.int .i64 (Z 0), .int .i64 (Z 1), .int .i64 (S 0), .int .i64 (S 1), .int .i64 (S 2), .int .i64 0, .int .i64 (Z 2), .int .i64 (Z 3), .string T]) HY7.out 5 _ rfl, (Below.heap_setCell _ _ _ X HXY.out).trans HX7.out, below_set HB7.out HYX.out⟩⟩))))
        · have HY8 := Aside0.mk HS.out.2.1
          have HX8 := Aside0.mk HS.out.2.2.1
          have HB8 := Aside0.mk (below_then HB2.out HB2.out.size HS.out.2.2.2)
          clear HS
          have y0 : wr.cell? ⟨Y, 0, none⟩ = some (.int .i64 (Z 0)) := (blk_cell HY8.out 0).trans rfl; have y1 : wr.cell? ⟨Y, 1, none⟩ = some (.int .i64 (Z 1)) := (blk_cell HY8.out 1).trans rfl; have y2 : wr.cell? ⟨Y, 2, none⟩ = some (.int .i64 (S 0)) := (blk_cell HY8.out 2).trans rfl; have y3 : wr.cell? ⟨Y, 3, none⟩ = some (.int .i64 (S 1)) := (blk_cell HY8.out 3).trans rfl; have y4 : wr.cell? ⟨Y, 4, none⟩ = some (.int .i64 (S 2)) := (blk_cell HY8.out 4).trans rfl; have y5 : wr.cell? ⟨Y, 5, none⟩ = some (.int .i64 (S 3)) := (blk_cell HY8.out 5).trans rfl; have y6 : wr.cell? ⟨Y, 6, none⟩ = some (.int .i64 (Z 2)) := (blk_cell HY8.out 6).trans rfl; have y7 : wr.cell? ⟨Y, 7, none⟩ = some (.int .i64 (Z 3)) := (blk_cell HY8.out 7).trans rfl; have y8 : wr.cell? ⟨Y, 8, none⟩ = some (.string T) := (blk_cell HY8.out 8).trans rfl
          have x0 : wr.cell? ⟨X, 0, none⟩ = some (.int .i64 0) := (blk_cell HX8.out 0).trans rfl; have x1 : wr.cell? ⟨X, 1, none⟩ = some (.int .i64 0) := (blk_cell HX8.out 1).trans rfl; have x2 : wr.cell? ⟨X, 2, none⟩ = some (.int .i64 0) := (blk_cell HX8.out 2).trans rfl; have x3 : wr.cell? ⟨X, 3, none⟩ = some (.int .i64 0) := (blk_cell HX8.out 3).trans rfl; have x4 : wr.cell? ⟨X, 4, none⟩ = some (.int .i64 0) := (blk_cell HX8.out 4).trans rfl; have x5 : wr.cell? ⟨X, 5, none⟩ = some (.int .i64 0) := (blk_cell HX8.out 5).trans rfl; have x6 : wr.cell? ⟨X, 6, none⟩ = some (.int .i64 0) := (blk_cell HX8.out 6).trans rfl; have x7 : wr.cell? ⟨X, 7, none⟩ = some (.int .i64 0) := (blk_cell HX8.out 7).trans rfl; have x8 : wr.cell? ⟨X, 8, none⟩ = some (.string ⟨#[]⟩) := (blk_cell HX8.out 8).trans rfl
          have f0 : wr.frozen? ⟨X, 0, none⟩ = false := blk_frozen HX8.out 0; have f1 : wr.frozen? ⟨X, 1, none⟩ = false := blk_frozen HX8.out 1; have f2 : wr.frozen? ⟨X, 2, none⟩ = false := blk_frozen HX8.out 2; have f3 : wr.frozen? ⟨X, 3, none⟩ = false := blk_frozen HX8.out 3; have f4 : wr.frozen? ⟨X, 4, none⟩ = false := blk_frozen HX8.out 4; have f5 : wr.frozen? ⟨X, 5, none⟩ = false := blk_frozen HX8.out 5; have f6 : wr.frozen? ⟨X, 6, none⟩ = false := blk_frozen HX8.out 6; have f7 : wr.frozen? ⟨X, 7, none⟩ = false := blk_frozen HX8.out 7; have f8 : wr.frozen? ⟨X, 8, none⟩ = false := blk_frozen HX8.out 8
          go_wp2
          refine bodyPost_ret (results_ctt rfl _ _ X 26 #[.int .i64 (Z 0), .int .i64 (Z 1), .int .i64 (S 0), .int .i64 (S 1), .int .i64 (S 2), .int .i64 (S 3), .int .i64 (Z 2), .int .i64 (Z 3), .string T] (0, 0) _ rfl (put9 HX8.out (.int .i64 (Z 0)) (.int .i64 (Z 1)) (.int .i64 (S 0)) (.int .i64 (S 1)) (.int .i64 (S 2)) (.int .i64 (S 3)) (.int .i64 (Z 2)) (.int .i64 (Z 3)) (.string T)) hu rfl (by kernel_rfl)) rfl ?_
          rw [HRS2.out]
          exact ⟨rfl, below9 HB8.out HGE.out _ _ _ _ _ _ _ _ _⟩
end Go.Proofs.Ytbplffdmggbcdaa.Codec
