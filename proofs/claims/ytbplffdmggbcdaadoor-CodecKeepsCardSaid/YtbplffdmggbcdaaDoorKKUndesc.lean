/- A descriptor of the log is read: any result. -/
import Derived.Test.YtbplffdmggbcdaaDoorKKDesc
import Derived.Test.YtbplffdmggbcdaaDoorKKReader
import Derived.OwnWalk
namespace Go.Proofs.YtbplffdmggbcdaaDoor.Codec
open Go.RowKit Go.Proofs.YtbplffdmggbcdaaDoor.PCodecKeeps Go.Proofs.YtbplffdmggbcdaaDoor.Plain Go.Proofs.YtbplffdmggbcdaaDoor.Pure Go.Proofs.YtbplffdmggbcdaaDoorW.PrintWords Go.Proofs.YtbplffdmggbcdaaDoorW.PrintLast Go.Proofs.YtbplffdmggbcdaaDoorW.PrintMore
set_option linter.unusedVariables false
set_option linter.unusedSimpArgs false

theorem putD {w : World} {g : Nat} {t : TypeId} {a0 a1 : Value} (h : w.heap[g]? = some (.cells #[a0, a1] t (0, 0))) (v0 v1 : Value) : ((w.setCell ⟨g, 0, none⟩ v0).setCell ⟨g, 1, none⟩ v1).heap[g]? = some (.cells #[v0, v1] t (0, 0)) := by
  have h := blk_put (cs' := #[v0, a1]) h 0 v0 rfl
  have h := blk_put (cs' := #[v0, v1]) h 1 v1 rfl
  exact h
theorem belowD {w w0 : World} {g : Nat} (h : Below w0.heap.size w0 w) (hg : w0.heap.size ≤ g) (v0 v1 : Value) : Below w0.heap.size w0 ((w.setCell ⟨g, 0, none⟩ v0).setCell ⟨g, 1, none⟩ v1) := (below_set (below_set h hg) hg)
theorem info3i : (Tryd.prog.info? 3).map (fun i => (i.zero, i.size, i.bytes)) = some (some (.int .i64 0), 1, 8) := by kernel_rfl
theorem irow_reads {e base : Nat} {ok : Nat → Prop} {w : World} {v : Value} {xs : List Int} (h : (Kd.int .i64).R e w base ok v xs) : ∃ A c, v = .slice A xs.length c ∧ xs.length ≤ c ∧ (Kd.int .i64).C w A xs.length xs := Kd.R_reads h
theorem iC_reads {w : World} {A : Option Addr} {xs : List Int} (h : (Kd.int .i64).C w A xs.length xs) : ReadsInt w .i64 A xs.length xs := readsInt_of.2 (Kd.reads_of_C (d := (0 : Int)) (h1 := fun _ => rfl) h)
theorem ireads_C {w : World} {A : Option Addr} {xs : List Int} (h : ReadsInt w .i64 A xs.length xs) : (Kd.int .i64).C w A xs.length xs := Kd.C_of_reads (d := (0 : Int)) (h1 := fun _ => rfl) (readsInt_of.1 h)
theorem irow_own {base : Nat} {ok : Nat → Prop} {w : World} {v : Value} {xs : List Int} (h : (Kd.int .i64).R 3 w base ok v xs) : w.ownsRow base 3 1 v xs.length (nums .i64 xs) := Kd.own_of_R (enc := Value.int .i64) (h1 := fun _ => rfl) h
theorem irow_nil (w : World) (base : Nat) : Kd.R (Kd.int .i64) 3 w base (fun _ => True) (.slice none 0 0) [] := Kd.R_of_own (enc := Value.int .i64) (h1 := fun _ => rfl) (World.ownsRow_nil _ _ _ _) (fun _ _ => trivial)
theorem irow_any {base : Nat} {ok : Nat → Prop} {w : World} {v : Value} {xs : List Int} (h : (Kd.int .i64).R 3 w base ok v xs) : (Kd.int .i64).R 3 w base (fun _ => True) v xs := Kd.R_of_own (enc := Value.int .i64) (h1 := fun _ => rfl) (irow_own h) (fun _ _ => trivial)
theorem irow_its {base : Nat} {ok : Nat → Prop} {w : World} {v : Value} {xs : List Int} (h : (Kd.int .i64).R 3 w base ok v xs) : (Kd.int .i64).R 3 w base (fun k => v.ownBlock = some k) v xs := Kd.R_of_own (enc := Value.int .i64) (h1 := fun _ => rfl) (irow_own h) (fun _ hk => hk)
theorem irow_keep {base : Nat} {w W : World} {v : Value} {xs : List Int} (h : (Kd.int .i64).R 3 w base (fun _ => True) v xs) (hk : ∀ g, v.ownBlock = some g → W.heap[g]? = w.heap[g]?) : (Kd.int .i64).R 3 W base (fun _ => True) v xs := by
  have h2 := irow_own h
  refine Kd.R_of_own (enc := Value.int .i64) (h1 := fun _ => rfl) ⟨h2.1, ?_⟩ (fun _ _ => trivial)
  rcases h2.2 with hn | ⟨g, cap, cur, rfl, hb, hgg, rest⟩
  · exact .inl hn
  · exact .inr ⟨g, cap, cur, rfl, hb, (hk g rfl).trans hgg, rest⟩
theorem brow_itsD {base : Nat} {ok : Nat → Prop} {w : World} {v : Value} {xs : List Int} (h : (Kd.int .u8).R 5 w base ok v xs) : (Kd.int .u8).R 5 w base (fun k => v.ownBlock = some k) v xs := Kd.R_of_own (enc := Value.int .u8) (h1 := fun _ => rfl) (Kd.own_of_R (enc := Value.int .u8) (h1 := fun _ => rfl) h) (fun _ hk => hk)
theorem irow_lt {base : Nat} {ok : Nat → Prop} {w : World} {v : Value} {xs : List Int} (h : (Kd.int .i64).R 3 w base ok v xs) : ∀ k, v.ownBlock = some k → base ≤ k ∧ k < w.heap.size := (irow_own h).lt
theorem one_readsD (W : World) (n : Int) : ReadsInt (W.alloc (.cells #[.int .i64 n] 3)) .i64 (some ⟨W.heap.size, 0, none⟩) [n].length [n] := by
  refine ⟨rfl, by simp, fun _ => ⟨_, rfl, fun j hj => ?_⟩⟩
  obtain rfl : j = 0 := by simp at hj; omega
  rw [add_plain, blk_cell (blk_new W (.cells #[.int .i64 n] 3))]
  rfl
theorem iarg_lt {w : World} {A : Option Addr} {l : List Int} (h : Kd.C (Kd.int .i64) w A l.length l) : ∀ ad, A = some ad → 0 < l.length → ad.block < w.heap.size := by
  intro ad e hn
  obtain ⟨ad', e', hc⟩ := (iC_reads h).2.2 hn
  obtain rfl : ad = ad' := by rw [e] at e'; exact Option.some.inj e'
  exact World.block_lt_of_cell? w _ (hc 0 hn)
/-- What the loop keeps: the descriptor's block, its list. -/
structure DescIn (w0 w : World) (D RP : Nat) (s0 : Int) (v : Value) (L : List Int) : Prop where
  blk : w.heap[D]? = some (.cells #[.int .i64 s0, v] 103 (0, 0))
  row : Kd.R (Kd.int .i64) 3 w w0.heap.size (fun _ => True) v L
  apart : ∀ k, v.ownBlock = some k → k ≠ D ∧ k ≠ RP
theorem DescIn.wrote {w0 w W : World} {D RP : Nat} {s0 : Int} {v : Value} {L : List Int} (H : DescIn w0 w D RP s0 v L) (hne : D ≠ RP) (hq : Wrote w W RP nilV nilV) : DescIn w0 W D RP s0 v L :=
  ⟨(hq.block D (blk_lt H.blk) hne (by simp [nilV, Value.ownBlock])).trans H.blk, irow_keep H.row fun g hg => hq.block g (irow_lt H.row g hg).2 (H.apart g hg).2 (by simp [nilV, Value.ownBlock]), H.apart⟩
theorem DescIn.below {w0 w W : World} {D RP : Nat} {s0 : Int} {v : Value} {L : List Int} (H : DescIn w0 w D RP s0 v L) (hb : Below w.heap.size w W) : DescIn w0 W D RP s0 v L :=
  ⟨blk_below H.blk hb, irow_keep H.row fun g hg => hb.block g (irow_lt H.row g hg).2, H.apart⟩
def undesc.T10 : Bool × List (List Nat × List Nat) := (true, [([], []), ([0], [0]), ([], []), ([2], [2]), ([3], [3]), ([1, 4, 3], [1, 4]), ([0, 1, 2, 3, 4, 5], []), ([6, 5, 5, 0, 1, 2, 3, 4, 5], [5, 6])])
def undesc.B10 : List Nat := [0, 1, 0, 4, 12, 31, 63, 127]
theorem undesc.tab10 : rtab .any (opsOf Tryd.f26 10) = undesc.T10 := by kernel_rfl
theorem undesc.bits10 : waitsOk undesc.T10.2 undesc.B10 = true := by kernel_rfl

set_option maxHeartbeats 4000000 in
set_option maxRecDepth 100000 in
theorem undesc_any (A : Option Addr) (c : Nat) (l : List Int) (w : World) (hr : Kd.C (Kd.int .u8) w A l.length l) (hc : l.length ≤ c) (hl : Bytes l) (hs : l.length ≤ 140737488351232) :
    Calls Tryd.prog 26 #[.slice A l.length c] w fun e w' => ∃ s v L er, e = .returned (.tuple #[.int .i64 s, v, .int .i64 er]) ∧ Kd.R (Kd.int .i64) 3 w' w.heap.size (fun _ => True) v L ∧ L.length ≤ 4096 ∧ Below w.heap.size w w' := by
  have hu := Tryd.underlying103
  have hu3 := Tryd.underlying80
  have HC0 := Aside0.mk hr
  have HL := Aside0.mk (And.intro hl hs)
  have HCP := Aside0.mk hc
  clear hr hl hs hc
  by_cases hp : pw (l.length : Int) = true
  rotate_left
  · have HSZ := Aside0.mk (bsz_calls (l.length : Int) false (Bool.eq_false_iff.2 hp))
    clear hp
    go_enter Tryd.func26, Tryd.ntmps26
    go_wp2_with fail
    ((with_reducible refine (HSZ.out _).mono ?_); rintro e w1 ⟨rfl, hb⟩)
    have HB := Aside0.mk hb
    clear hb HSZ
    go_wp2
    go_ret3
    exact ⟨_, _, [], _, rfl, irow_nil _ _, by simp, HB.out⟩
  have HSZ := Aside0.mk (bsz_calls (l.length : Int) true hp)
  have H64 : Aside0 (64 ≤ l.length ∧ l.length ≤ 4096) := ⟨by have := (pw_iff _).1 hp; omega⟩
  clear hp
  go_enter Tryd.func26, Tryd.ntmps26
  go_wp2_with fail
  ((with_reducible refine (HSZ.out _).mono ?_); rintro e w1 ⟨rfl, hb⟩)
  have HB1 := Aside0.mk hb
  clear hb HSZ
  go_upto_region 4 with (((with_reducible refine gate_dst (N := 15) rfl ?_); refine box_event ?hg (N := 15) ?hd (cs := #[.slice A l.length c, .int .i64 4]) (t := 80) ?hr ?_; (case hd => rfl); (case hg => rfl); (case hr => first | (go_simp; done) | (go_simp; rfl)); intro RP hgRP w2 hbox hb; have BKRP := Aside0.mk hbox; have BHRP := Aside0.mk hb; have GERP := Aside0.mk hgRP; clear hb hbox hgRP))
  have HB2 := Aside0.mk (below_then HB1.out HB1.out.size BHRP.out)
  have HGE : Aside0 (w.heap.size ≤ RP) := ⟨by have := GERP.out; have := HB1.out.size; omega⟩
  have HAL := Aside0.mk (arg_ltD HC0.out)
  have HRD := Aside0.mk (show Reader w2 RP A c l 4 from ⟨BKRP.out, Kd.C_below HC0.out HB2.out, HCP.out, fun ad e h => by have := HAL.out ad e h; have := HGE.out; omega⟩)
  clear BKRP BHRP GERP HB1
  have HC : Aside0 (Calls Tryd.prog 37 #[.pointer (some ⟨RP, 0, none⟩), .int .i64 4] w2 (fun e w' => e = .returned (.int .i64 (le (field_part.seg l ((4 : Nat) : Int) ((4 : Nat) : Int)))) ∧ Reader w' RP A c l 8 ∧ Wrote w2 w' RP nilV nilV)) := ⟨rnum_calls 4 (by decide) HRD.out HL.out.1 HL.out.2 (by have := H64.out; omega)⟩
  go_wp2_with fail
  ((with_reducible refine HC.out.mono ?_); rintro e w3 ⟨rfl, hr, hq⟩)
  have HB3 := Aside0.mk (hq.below (base := w.heap.size) HGE.out (fun k e => by simp [nilV, Value.ownBlock] at e) HB2.out HB2.out.size)
  have HRD3 := Aside0.mk hr
  obtain ⟨s0, hs0⟩ : ∃ z, le (field_part.seg l ((4 : Nat) : Int) ((4 : Nat) : Int)) = z := ⟨_, rfl⟩
  rw [hs0]
  clear hr hq HC HB2 HRD hs0
  go_upto_region 5 with (((with_reducible refine gate_dst (N := 6) rfl ?_); refine box_event ?hg (N := 6) ?hd (cs := #[.int .i64 0, .slice none 0 0]) (t := 103) ?hr ?_; (case hd => rfl); (case hg => rfl); (case hr => first | (go_simp; done) | (go_simp; rfl)); intro D hgD w4 hbox hb; have BKD := Aside0.mk hbox; have BHD := Aside0.mk hb; have GED := Aside0.mk hgD; clear hb hbox hgD; have y0 : w4.cell? ⟨D, 0, none⟩ = some (.int .i64 0) := (blk_cell BKD.out 0).trans rfl; have y1 : w4.cell? ⟨D, 1, none⟩ = some (.slice none 0 0) := (blk_cell BKD.out 1).trans rfl; have f0 : w4.frozen? ⟨D, 0, none⟩ = false := blk_frozen BKD.out 0; have f1 : w4.frozen? ⟨D, 1, none⟩ = false := blk_frozen BKD.out 1))
  have HDA : Aside0 (w3.heap.size ≤ D) := ⟨Nat.le_of_eq GED.out.symm⟩
  have HNE : Aside0 (D ≠ RP) := ⟨by have := blk_lt HRD3.out.blk; have := GED.out; omega⟩
  have HGD : Aside0 (w.heap.size ≤ D) := ⟨by have := GED.out; have := HB3.out.size; omega⟩
  have HB5 := Aside0.mk (belowD (g := D) (below_then HB3.out HB3.out.size BHD.out) HGD.out (.int .i64 s0) (.slice none 0 0))
  have HX5 := Aside0.mk (belowD (w0 := w3) (g := D) BHD.out HDA.out (.int .i64 s0) (.slice none 0 0))
  have HRD5 := Aside0.mk (HRD3.out.later HX5.out)
  have HD5 : Aside0 (DescIn w _ D RP s0 (.slice none 0 0) []) := ⟨⟨putD BKD.out (.int .i64 s0) (.slice none 0 0), irow_nil _ _, fun k e => by simp [Value.ownBlock] at e⟩⟩
  clear BKD BHD GED HX5 y0 y1 f0 f1 HDA HB3 HRD3
  generalize ((w4.setCell ⟨D, 0, none⟩ (.int .i64 s0)).setCell ⟨D, 1, none⟩ (.slice none 0 0)) = w5 at HB5 HRD5 HD5 ⊢
  have HC : Aside0 (Calls Tryd.prog 37 #[.pointer (some ⟨RP, 0, none⟩), .int .i64 2] w5 (fun e w' => e = .returned (.int .i64 (le (field_part.seg l ((8 : Nat) : Int) ((2 : Nat) : Int)))) ∧ Reader w' RP A c l 10 ∧ Wrote w5 w' RP nilV nilV)) := ⟨rnum_calls 2 (by decide) HRD5.out HL.out.1 HL.out.2 (by have := H64.out; omega)⟩
  have hzr := le2_range HL.out.1 (a := 8) (show field_part.Inside l 8 2 from ⟨by omega, by omega, by have := H64.out; omega, by have := H64.out; omega⟩)
  have e8 : le (field_part.seg l ((8 : Nat) : Int) ((2 : Nat) : Int)) = le (field_part.seg l 8 2) := rfl
  rw [e8] at HC
  clear e8
  obtain ⟨zn, hzn⟩ : ∃ z, le (field_part.seg l 8 2) = z := ⟨_, rfl⟩
  rw [hzn] at HC hzr
  obtain ⟨N, rfl⟩ := Int.eq_ofNat_of_zero_le hzr.1
  have HN : Aside0 (N < 65536) := ⟨by have := hzr.2; omega⟩
  clear hzn hzr
  go_wp2_with fail
  ((with_reducible refine HC.out.mono ?_); rintro e w6 ⟨rfl, hr, hq⟩)
  have HB6 := Aside0.mk (hq.below (base := w.heap.size) HGE.out (fun k e => by simp [nilV, Value.ownBlock] at e) HB5.out HB5.out.size)
  have HD6 := Aside0.mk (HD5.out.wrote HNE.out hq)
  have HRD6 := Aside0.mk hr
  clear hr hq HC HB5 HD5 HRD5
  have hlen0 : (0 : Int) ≤ (l.length : Int) := by omega
  have hlenm : (l.length : Int) ≤ 4096 := by have := H64.out; omega
  go_wp2_with fail
  · go_ret3
    exact ⟨_, _, [], _, rfl, irow_nil _ _, by simp, HB6.out⟩
  have hbig : (N : Int) ≤ ((l.length : Int) - 10).tdiv 2 := by first | assumption | omega
  rw [Int.tdiv_eq_ediv_of_nonneg (by have := H64.out; omega)] at hbig
  have HBG : Aside0 (10 + 2 * N ≤ l.length) := ⟨by have := H64.out; omega⟩
  clear hbig
  go_wp2_with fail
  go_loopg [28] N (fun kq v28 w' => ∃ i : Nat, v28 = .int .i64 (i : Int) ∧ i ≤ N ∧ N - i ≤ kq ∧ ∃ v LL, Aside0 (LL.length = i) ∧ Aside0 (Reader w' RP A c l (10 + 2 * i) ∧ DescIn w w' D RP s0 v LL ∧ Below w.heap.size w w'))
  case atStart => exact ⟨0, rfl, by omega, by omega, _, [], ⟨rfl⟩, ⟨HRD6.out, HD6.out, HB6.out⟩⟩
  case round =>
    obtain ⟨i, rfl, hi, hkq, v, LL, HLN, HS⟩ := hrel
    by_cases hlt : i < N
    · cases gk with
      | zero => omega
      | succ k1 =>
        have HI : Aside0 (10 + 2 * i + 2 ≤ l.length) := ⟨by have := HBG.out; omega⟩
        have HLL : Aside0 (LL.length ≤ 4096) := ⟨by have := HLN.out; have := H64.out; have := HBG.out; omega⟩
        have hN2 : N < 65536 := HN.out
        have d0 : decide ((i : Int) < (N : Int)) = true := decide_eq_true (by omega)
        have d0n : decide (i < N) = true := decide_eq_true (by omega)
        go_wp2_with fail
        go_upto_region 10 with (fail)
        obtain ⟨wo, rfl⟩ : ∃ wo : World, wo = wr := ⟨_, rfl⟩
        refine start_ (n := 8) (S := (fun w' => w'.heap[D]? = some (.cells #[.int .i64 s0, v] 103 (0, 0)))) (ds := [7]) #[false, false, false, false, false, false, false, false] (by kernel_rfl) rfl rfl (blk_drew HS.out.2.1.blk) (fun hHeld => ?_); refine with_tabW undesc.tab10 undesc.bits10 (fun HT_ HW_ => ?_)
        have HRd := Aside0.mk (HS.out.1.later (below_drew (Below.refl wo.heap.size wo)))
        have HDd := Aside0.mk (HS.out.2.1.below (below_drew (Below.refl wo.heap.size wo)))
        have HBd := Aside0.mk (below_drew HS.out.2.2)
        generalize wo.drew = wd at HRd HDd HBd hHeld ⊢
        refine pure_ (i := 0) (N := (some 30)) (v := ?_) (a' := ?_) #[true, false, false, false, false, false, false, false] rfl rfl (any_of HT_.out (by kernel_rfl)) (fun _ _ _ h => h) (Or.inl ⟨by rfl, ?_⟩) ?_ ?_
        rotate_left
        · intro w'
          go_simp
          with_reducible rfl
        rotate_left
        · simp only [Act.put, List.setIfInBounds_toArray, List.set_cons_zero, List.set_cons_succ, i64_w, i32_w]
          rfl
        refine take_ (i := 1) (N := (some 31)) (v := ?_) (a' := ?_) #[true, true, false, false, false, false, false, false] rfl rfl (take_ofW HT_.out HW_.out (by kernel_rfl)) (fun _ _ _ h => h) (Or.inl ⟨by rfl, ?_⟩) hHeld ?_ ?_
        rotate_left
        · rintro w' b1
          have y1 : w'.cell? ⟨D, 1, none⟩ = some v := (blk_cell b1 1).trans rfl
          clear b1
          go_simp
          with_reducible rfl
        rotate_left
        · simp only [Act.put, List.setIfInBounds_toArray, List.set_cons_zero, List.set_cons_succ, i64_w, i32_w]
          rfl
        refine pure_ (i := 2) (N := (some 32)) (v := ?_) (a' := ?_) #[true, true, true, false, false, false, false, false] rfl rfl (any_of HT_.out (by kernel_rfl)) (fun _ _ _ h => h) (Or.inl ⟨by rfl, ?_⟩) ?_ ?_
        rotate_left
        · intro w'
          go_simp
          with_reducible rfl
        rotate_left
        · simp only [Act.put, List.setIfInBounds_toArray, List.set_cons_zero, List.set_cons_succ, i64_w, i32_w]
          rfl
        refine one_ (i := 3) (N := (some 33)) #[true, true, true, true, false, false, false, false] rfl rfl (one_of HT_.out (by kernel_rfl)) (by decide) (fun K hK => ?_)
        refine goes_ Tryd.func37 (by kernel_rfl) rfl #[.pointer (some ⟨RP, 0, none⟩), .int .i64 2] (by rfl) rfl rfl (by simp [Act.eval]) ?_
        ((refine (rnum_calls 2 (by decide) HRd.out HL.out.1 HL.out.2 (by have := HI.out; omega)).mono ?_); rintro e w1 ⟨rfl, hr1, hq1⟩)
        refine ⟨_, rfl, ?_⟩
        have HR1 := Aside0.mk hr1
        have HD1 := Aside0.mk (HDd.out.wrote HNE.out hq1)
        have HB1 := Aside0.mk (hq1.below (base := w.heap.size) HGE.out (fun k e => by simp [nilV, Value.ownBlock] at e) HBd.out HBd.out.size)
        obtain ⟨z, hz⟩ : ∃ z, le (field_part.seg l ((10 + 2 * i : Nat) : Int) ((2 : Nat) : Int)) = z := ⟨_, rfl⟩
        rw [hz]
        clear hr1 hq1 hz hHeld
        refine hK.out _ _ HD1.out.blk (fun hHeld => ?_)
        clear hK K
        refine norm_ (a' := ?_) ?_ ?_
        rotate_left
        · show Act.put _ (some 33) _ = _
          simp only [Act.put, List.setIfInBounds_toArray, List.set_cons_zero, List.set_cons_succ, i64_w, i32_w]
          rfl
        refine one_ (i := 4) (N := (some 34)) #[true, true, true, true, true, false, false, false] rfl rfl (one_of HT_.out (by kernel_rfl)) (by decide) (fun K hK => ?_)
        refine value_ (w1 := w1.alloc (.cells #[.int .i64 z] 3)) (v := .slice (some ⟨w1.heap.size, 0, none⟩) 1 1) (by rfl) rfl (by go_simp) ?_
        have HN2 := Aside0.mk (one_readsD w1 z)
        have HR2 := Aside0.mk (HR1.out.later (below_alloc (Below.refl w1.heap.size w1) (.cells #[.int .i64 z] 3)))
        have HD2 := Aside0.mk (HD1.out.below (below_alloc (Below.refl w1.heap.size w1) (.cells #[.int .i64 z] 3)))
        have HB2 := Aside0.mk (HB1.out.alloc HB1.out.size (.cells #[.int .i64 z] 3))
        generalize hg2 : (some ⟨w1.heap.size, 0, none⟩ : Option Addr) = G at HN2 ⊢
        clear hg2
        generalize w1.alloc (.cells #[.int .i64 z] 3) = w2 at HN2 HR2 HD2 HB2 ⊢
        clear hHeld HR1 HD1 HB1
        refine hK.out _ _ HD2.out.blk (fun hHeld => ?_)
        clear hK K
        refine norm_ (a' := ?_) ?_ ?_
        rotate_left
        · show Act.put _ (some 34) _ = _
          simp only [Act.put, List.setIfInBounds_toArray, List.set_cons_zero, List.set_cons_succ, i64_w, i32_w]
          rfl
        refine one_ (i := 5) (N := (some 35)) #[true, true, true, true, true, true, false, false] rfl rfl (one_of HT_.out (by kernel_rfl)) (by decide) (fun K hK => ?_)
        refine Kd.R_append_rows_step (Kd.int .i64) (w0 := w) w.heap.size (by rfl) (.tmp 31) (.tmp 34) 59 3 (.int .i64 0) 8 rfl Tryd.underlying59 info3i rfl (by decide) (by omega) _ LL [z] _ _ _ (fun _ => True) (fun _ => False) (by rfl) (by rfl) HD2.out.row (ireads_C HN2.out) (fun _ _ h => h) (fun _ h => h.elim) (fun _ _ => trivial) HB2.out HB2.out.size (by have := HLL.out; simp; omega) ?_
        intro v3 w3 ho hb hg hat
        obtain ⟨A3, c3, rfl, _, _⟩ := irow_reads ho
        have HV3 := Aside0.mk ho
        have HB3 := Aside0.mk hb
        have hle : LL.length ≤ 17592186044416 := by have := HLL.out; omega
        have HA3 : Aside0 (∀ k, (Value.slice A3 (LL ++ [z]).length c3).ownBlock = some k → k ≠ D ∧ k ≠ RP) := ⟨by
          intro k hk
          rcases hat with e | ⟨b, e, hge⟩
          · exact HD2.out.apart k (e ▸ hk)
          · rw [e] at hk
            obtain rfl := Option.some.inj hk
            have h1 := blk_lt HD2.out.blk
            have h2 := blk_lt HR2.out.blk
            exact ⟨by omega, by omega⟩⟩
        have hbD : w3.heap[D]? = w2.heap[D]? := hg.block D (blk_lt HD2.out.blk) (fun e => (HD2.out.apart D e.symm).1 rfl)
        have hbR : w3.heap[RP]? = w2.heap[RP]? := hg.block RP (blk_lt HR2.out.blk) (fun e => (HD2.out.apart RP e.symm).2 rfl)
        have HD3 := Aside0.mk (hbD.trans HD2.out.blk)
        have HR3 : Aside0 (Reader w3 RP A c l (10 + 2 * i + 2)) := ⟨⟨hbR.trans HR2.out.blk, Kd.C_below HC0.out hb, HR2.out.cap, HR2.out.apart⟩⟩
        clear ho hb hg hat hbD hbR hHeld HB2 HD2 HR2 HN2
        refine hK.out _ _ HD3.out (fun hHeld => ?_)
        clear hK K
        refine norm_ (a' := ?_) ?_ ?_
        rotate_left
        · show Act.put _ (some 35) _ = _
          simp only [Act.put, List.setIfInBounds_toArray, List.set_cons_zero, List.set_cons_succ, i64_w, i32_w]
          rfl
        refine pure_ (i := 6) (N := (some 36)) (v := ?_) (a' := ?_) #[true, true, true, true, true, true, true, false] rfl rfl (any_of HT_.out (by kernel_rfl)) (fun _ _ _ h => h) (Or.inl ⟨by rfl, ?_⟩) ?_ ?_
        rotate_left
        · intro w'
          go_simp
          with_reducible rfl
        rotate_left
        · simp only [Act.put, List.setIfInBounds_toArray, List.set_cons_zero, List.set_cons_succ, i64_w, i32_w]
          rfl
        refine last_ (i := 7) (N := none) #[true, true, true, true, true, true, true, true] rfl rfl (one_of HT_.out (by kernel_rfl)) (by decide) (fun K hK => ?_)
        have y1 : w3.cell? ⟨D, 1, none⟩ = some v := (blk_cell HD3.out 1).trans rfl
        have f1 : w3.frozen? ⟨D, 1, none⟩ = false := blk_frozen HD3.out 1
        have HW4 : Aside0 ((w3.setCell ⟨D, 1, none⟩ (.slice A3 (LL ++ [z]).length c3)).heap[D]? = some (.cells #[.int .i64 s0, (.slice A3 (LL ++ [z]).length c3)] 103 (0, 0))) := ⟨blk_put HD3.out 1 (.slice A3 (LL ++ [z]).length c3) rfl⟩
        have HB4 := Aside0.mk (show Below w.heap.size w (w3.setCell ⟨D, 1, none⟩ (.slice A3 (LL ++ [z]).length c3)) from below_set HB3.out HGD.out)
        have HV4 : Aside0 (Kd.R (Kd.int .i64) 3 (w3.setCell ⟨D, 1, none⟩ (.slice A3 (LL ++ [z]).length c3)) w.heap.size (fun _ => True) (.slice A3 (LL ++ [z]).length c3) (LL ++ [z])) := ⟨irow_keep HV3.out fun g hg => Below.heap_setCell w3 ⟨D, 1, none⟩ (.slice A3 (LL ++ [z]).length c3) g (HA3.out g hg).1⟩
        have HR4 : Aside0 (Reader (w3.setCell ⟨D, 1, none⟩ (.slice A3 (LL ++ [z]).length c3)) RP A c l (10 + 2 * i + 2)) := ⟨⟨(Below.heap_setCell w3 ⟨D, 1, none⟩ (.slice A3 (LL ++ [z]).length c3) RP (fun e => HNE.out e.symm)).trans HR3.out.blk, Kd.C_below HC0.out HB4.out, HR3.out.cap, HR3.out.apart⟩⟩
        refine skip_ (w1 := w3.setCell ⟨D, 1, none⟩ (.slice A3 (LL ++ [z]).length c3)) (by rfl) rfl (by go_simp) ?_
        generalize w3.setCell ⟨D, 1, none⟩ (.slice A3 (LL ++ [z]).length c3) = w4 at HW4 HB4 HV4 HR4 ⊢
        clear hHeld y1 f1 HD3 HB3 HV3 HR3
        refine hK.out _ _ ?_
        clear hK K
        refine done_ (done_of HT_.out (by kernel_rfl)) ?_
        go_wp2_with fail
        go_roundg k1
        case measure => omega
        case rel =>
          refine ⟨i + 1, by go_num, by omega, by omega, (.slice A3 (LL ++ [z]).length c3), LL ++ [z], ⟨by rw [List.length_append, HLN.out]; rfl⟩, ⟨?_, ⟨HW4.out, HV4.out, HA3.out⟩, HB4.out⟩⟩
          have e : 10 + 2 * (i + 1) = 10 + 2 * i + 2 := by omega
          rw [e]
          exact HR4.out
    · obtain rfl : i = N := by omega
      have d0 : decide ((i : Int) < (i : Int)) = false := decide_eq_false (by omega)
      obtain ⟨wl, rfl⟩ : ∃ wl : World, wl = wr := ⟨_, rfl⟩
      have HLL : Aside0 (LL.length ≤ 4096) := ⟨by have := HLN.out; have := H64.out; have := HBG.out; omega⟩
      obtain ⟨A9, c9, rfl, hc9, hv9⟩ := irow_reads HS.out.2.1.row
      have HV9 := Aside0.mk hv9
      have y0 : wl.cell? ⟨D, 0, none⟩ = some (.int .i64 s0) := (blk_cell HS.out.2.1.blk 0).trans rfl
      have y1 : wl.cell? ⟨D, 1, none⟩ = some (.slice A9 LL.length c9) := (blk_cell HS.out.2.1.blk 1).trans rfl
      have HDC := Aside0.mk (desc_any s0 A9 c9 LL (l.length : Int) wl (iC_reads HV9.out) (by have := HLL.out; omega) (iarg_lt HV9.out))
      clear hv9 hc9
      go_wp2_with fail
      ((refine HDC.out.mono ?_); rintro e wa ⟨va, La, ea, rfl, hra, hla, hba⟩)
      have HDa := Aside0.mk (HS.out.2.1.below hba)
      have HBa := Aside0.mk (below_then HS.out.2.2 HS.out.2.2.size hba)
      obtain ⟨Aa, ka, rfl, hka, hva⟩ := brow_reads hra
      have HRa := Aside0.mk hra
      have HVa := Aside0.mk hva
      have HKa := Aside0.mk hka
      clear hra hva hka hla hba y0 y1 HDC
      have y0 : wa.cell? ⟨D, 0, none⟩ = some (.int .i64 s0) := (blk_cell HDa.out.blk 0).trans rfl
      have y1 : wa.cell? ⟨D, 1, none⟩ = some (.slice A9 LL.length c9) := (blk_cell HDa.out.blk 1).trans rfl
      have f0 : wa.frozen? ⟨D, 0, none⟩ = false := blk_frozen HDa.out.blk 0
      have f1 : wa.frozen? ⟨D, 1, none⟩ = false := blk_frozen HDa.out.blk 1
      obtain ⟨t1, t2, t3, hf, ht⟩ : ∃ r1 r2 r3, codec_desc.f s0 LL l La ea = some (r1, r2, r3) ∧ r2.length ≤ 4096 := by
        unfold codec_desc.f bytes_Equal.f
        split
        · simp only [Option.bind_some]
          split
          · exact ⟨_, _, _, rfl, HLL.out⟩
          · exact ⟨_, _, _, rfl, by simp⟩
        · exact ⟨_, _, _, rfl, by simp⟩
      have HT := Aside0.mk ht
      have HSM := Aside0.mk (codec_desc.calls s0 (fun k => (Value.slice A9 LL.length c9).ownBlock = some k) (.slice A9 LL.length c9) LL A c l Aa ka La ea t1 t2 t3 w wa HBa.out (irow_its HDa.out.row)
        (Kd.C_kept_came (Kd.heap_int .u8) HC0.out HBa.out (fun k hk => (irow_lt HDa.out.row k hk).1)) HCP.out
        (Kd.C_kept_own (brow_itsD HRa.out) (fun k hk e => by have h1 := (brow_lt HRa.out k hk).1; have h2 := (irow_lt HS.out.2.1.row k e).2; omega)) HKa.out hf)
      clear hf ht
      go_wp2_with fail
      ((refine HSM.out.mono ?_); rintro e wb ⟨vb, rfl, hrb, hbb, hkb⟩)
      have hwn : ∀ k, vb.ownBlock = some k → k ≠ D := by
        intro k hk
        rcases hrb.1 k hk with e | e
        · exact (HDa.out.apart k e).1
        · have := blk_lt HDa.out.blk
          omega
      have HDb : Aside0 (wb.heap[D]? = some (.cells #[.int .i64 s0, .slice A9 LL.length c9] 103 (0, 0))) := ⟨blk_kept HDa.out.blk hkb (fun e => (HDa.out.apart D e).1 rfl)⟩
      obtain ⟨Ab, kb, rfl, _, _⟩ := irow_reads hrb
      have HRb := Aside0.mk (irow_any hrb)
      have HWN := Aside0.mk hwn
      have HBb := Aside0.mk hbb
      clear hrb hwn hbb hkb y0 y1 f0 f1 HSM HRa HVa HKa HBa HS
      have y0 : wb.cell? ⟨D, 0, none⟩ = some (.int .i64 s0) := (blk_cell HDb.out 0).trans rfl
      have y1 : wb.cell? ⟨D, 1, none⟩ = some (.slice A9 LL.length c9) := (blk_cell HDb.out 1).trans rfl
      have f0 : wb.frozen? ⟨D, 0, none⟩ = false := blk_frozen HDb.out 0
      have f1 : wb.frozen? ⟨D, 1, none⟩ = false := blk_frozen HDb.out 1
      go_upto_region 14 with fail
      have HDc := Aside0.mk (putD HDb.out (.int .i64 t1) (.slice Ab t2.length kb))
      have HBc := Aside0.mk (belowD (g := D) HBb.out HGD.out (.int .i64 t1) (.slice Ab t2.length kb))
      have HRc : Aside0 (Kd.R (Kd.int .i64) 3 ((wb.setCell ⟨D, 0, none⟩ (.int .i64 t1)).setCell ⟨D, 1, none⟩ (.slice Ab t2.length kb)) w.heap.size (fun _ => True) (.slice Ab t2.length kb) t2) := ⟨irow_keep HRb.out fun g hg => (Below.heap_setCell _ ⟨D, 1, none⟩ _ g (HWN.out g hg)).trans (Below.heap_setCell _ ⟨D, 0, none⟩ _ g (HWN.out g hg))⟩
      clear y0 y1 f0 f1 HDb HBb HRb HWN
      generalize ((wb.setCell ⟨D, 0, none⟩ (.int .i64 t1)).setCell ⟨D, 1, none⟩ (.slice Ab t2.length kb)) = wc at HDc HBc HRc ⊢
      have y0 : wc.cell? ⟨D, 0, none⟩ = some (.int .i64 t1) := (blk_cell HDc.out 0).trans rfl
      have y1 : wc.cell? ⟨D, 1, none⟩ = some (.slice Ab t2.length kb) := (blk_cell HDc.out 1).trans rfl
      go_quiet (fail)
      go_wp2
      go_ret3
      exact ⟨_, _, t2, _, rfl, HRc.out, HT.out, below_drewN HBc.out nq⟩
end Go.Proofs.YtbplffdmggbcdaaDoor.Codec
