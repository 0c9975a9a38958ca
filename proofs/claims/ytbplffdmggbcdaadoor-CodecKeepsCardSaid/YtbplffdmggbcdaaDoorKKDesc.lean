/- A descriptor of the log is written: any result. -/
import Derived.Test.YtbplffdmggbcdaaDoorKKHeads
import Derived.Deep.DeepCutAuto
import Derived.Deep.Cut
namespace Go.Proofs.YtbplffdmggbcdaaDoor.Codec
open Go.RowKit Go.Proofs.YtbplffdmggbcdaaDoor.PCodecKeeps Go.Proofs.YtbplffdmggbcdaaDoor.Plain Go.Proofs.YtbplffdmggbcdaaDoor.Pure Go.Proofs.YtbplffdmggbcdaaDoorW.PrintWords Go.Proofs.YtbplffdmggbcdaaDoorW.PrintLast Go.Proofs.YtbplffdmggbcdaaDoorW.PrintMore
set_option linter.unusedVariables false
set_option linter.unusedSimpArgs false

theorem arg_ltD {w : World} {A : Option Addr} {l : List Int} (h : Kd.C (Kd.int .u8) w A l.length l) : ∀ ad, A = some ad → 0 < l.length → ad.block < w.heap.size := by
  intro ad e hn
  obtain ⟨ad', e', hc⟩ := (brow_C h).2.2 hn
  obtain rfl : ad = ad' := by rw [e] at e'; exact Option.some.inj e'
  exact World.block_lt_of_cell? w _ (hc 0 hn)
theorem two_rows {w : World} {A B : Option Addr} {a b : List Int} {ca cb : Nat} (ha : Kd.C (Kd.int .u8) w A a.length a) (hca : a.length ≤ ca) (hb : Kd.C (Kd.int .u8) w B b.length b) (hcb : b.length ≤ cb) :
    Kd.C (Kd.slice 5 (Kd.int .u8)) (w.alloc (.cells #[.slice A a.length ca, .slice B b.length cb] 27)) (some ⟨w.heap.size, 0, none⟩) 2 [a, b] := by
  have h1 := Kd.C_below ha (below_alloc (Below.refl w.heap.size w) (.cells #[.slice A a.length ca, .slice B b.length cb] 27))
  have h2 := Kd.C_below hb (below_alloc (Below.refl w.heap.size w) (.cells #[.slice A a.length ca, .slice B b.length cb] 27))
  have hn := blk_new w (.cells #[.slice A a.length ca, .slice B b.length cb] 27)
  refine ⟨rfl, by decide, fun _ => ⟨_, rfl, fun j p hj => ?_⟩⟩
  match j, hj with
  | 0, hj =>
    obtain rfl : a = p := by simpa using hj
    refine ⟨[.slice A a.length ca], rfl, ⟨A, ca, rfl, hca, h1⟩, fun i u hu => ?_⟩
    match i, hu with
    | 0, hu => exact (blk_cell hn 0).trans (by simpa using hu)
  | 1, hj =>
    obtain rfl : b = p := by simpa using hj
    refine ⟨[.slice B b.length cb], rfl, ⟨B, cb, rfl, hcb, h2⟩, fun i u hu => ?_⟩
    match i, hu with
    | 0, hu => exact (blk_cell hn 1).trans (by simpa using hu)

set_option maxHeartbeats 4000000 in
set_option maxRecDepth 100000 in
theorem desc_any (sq : Int) (A : Option Addr) (c : Nat) (l : List Int) (b : Int) (w : World) (hr : ReadsInt w .i64 A l.length l) (hl : l.length ≤ 17592186044416) (hA : ∀ ad, A = some ad → 0 < l.length → ad.block < w.heap.size) :
    Calls Tryd.prog 25 #[.int .i64 sq, .slice A l.length c, .int .i64 b] w fun e w' => ∃ v L er, e = .returned (.tuple #[v, .int .i64 er]) ∧ Kd.R (Kd.int .u8) 5 w' w.heap.size (fun _ => True) v L ∧ L.length ≤ 4096 ∧ Below w.heap.size w w' := by
  have hu3 := Tryd.underlying72
  have HR0 := Aside0.mk hr; have HL0 := Aside0.mk hl; have HA0 := Aside0.mk hA
  clear hr hl hA
  by_cases hp : pw b = true
  rotate_left
  · have HSZ := Aside0.mk (bsz_calls b false (Bool.eq_false_iff.2 hp))
    clear hp
    go_enter Tryd.func25, Tryd.ntmps25
    go_wp2_with fail
    ((with_reducible refine (HSZ.out _).mono ?_); rintro e w1 ⟨rfl, hb⟩)
    have HB := Aside0.mk hb
    clear hb HSZ
    go_wp2
    go_ret2
    exact ⟨_, [], _, rfl, brow_nil _ _, by simp, HB.out⟩
  have HSZ := Aside0.mk (bsz_calls b true hp)
  have HBK : Aside0 (64 ≤ b ∧ b ≤ 4096) := ⟨by have := (pw_iff b).1 hp; omega⟩
  clear hp
  go_enter Tryd.func25, Tryd.ntmps25
  go_wp2_with fail
  ((with_reducible refine (HSZ.out _).mono ?_); rintro e w1 ⟨rfl, hb⟩)
  have HB1 := Aside0.mk hb
  clear hb HSZ
  go_upto_region 4 with (((with_reducible refine gate_dst (N := 16) rfl ?_); refine box_event ?hg (N := 16) ?hd (cs := #[.slice none 0 0, .int .i64 0]) (t := 72) ?hr ?_; (case hd => rfl); (case hg => rfl); (case hr => first | (go_simp; done) | (go_simp; rfl)); intro WP hgWP w2 hbox hb; have BKWP := Aside0.mk hbox; have BHWP := Aside0.mk hb; have GEWP := Aside0.mk hgWP; clear hb hbox hgWP))
  have HB2 := Aside0.mk (below_then HB1.out HB1.out.size BHWP.out)
  have HGE : Aside0 (w.heap.size ≤ WP) := ⟨by have := GEWP.out; have := HB1.out.size; omega⟩
  have HWR := Aside0.mk (Writer.new BKWP.out)
  clear BKWP BHWP GEWP HB1
  have HC : Aside0 (Calls Tryd.prog 32 #[.pointer (some ⟨WP, 0, none⟩), .int .i64 4, .int .i64 sq] w2 (fun e w' => e = .returned (.tuple #[]) ∧ ∃ v', Writer w' WP WP v' (wnum 4 ([], 0) sq) ∧ Wrote w2 w' WP (.slice none 0 0) v')) := ⟨number_calls 4 (by decide) sq HWR.out (Nat.le_of_lt (blk_lt HWR.out.blk)) (by simp)⟩
  go_wp2_with fail
  ((with_reducible refine HC.out.mono ?_); rintro e w3 ⟨rfl, v3, hw, hq⟩)
  have HB3 := Aside0.mk (hq.below (base := w.heap.size) HGE.out (fun k e => by simp [Value.ownBlock] at e) HB2.out HB2.out.size)
  have hl3 : (wnum 4 ([], 0) sq).1.length ≤ 4 := wnum_length 4 ([], 0) sq
  obtain ⟨S3, hS3⟩ : ∃ S, wnum 4 ([], 0) sq = S := ⟨_, rfl⟩
  have hy3 : Bytes S3.1 := by rw [← hS3]; exact wnum_bytes Bytes.nil sq
  have HY3 := Aside0.mk hy3
  rw [hS3] at hw hl3
  clear hy3
  have HW3 := Aside0.mk hw; have HL3 := Aside0.mk hl3
  clear hw hq HC HB2 HWR hS3 hl3
  have HC : Aside0 (∀ x : Int, Calls Tryd.prog 32 #[.pointer (some ⟨WP, 0, none⟩), .int .i64 2, .int .i64 x] w3 (fun e w' => e = .returned (.tuple #[]) ∧ ∃ v', Writer w' WP WP v' (wnum 2 S3 x) ∧ Wrote w3 w' WP v3 v')) := ⟨fun x => number_calls 2 (by decide) x HW3.out (Nat.le_of_lt (blk_lt HW3.out.blk)) (by have := HL3.out; omega)⟩
  go_upto_region 5 with fail
  go_cut [] (fun wx => ∃ v S, Writer wx WP WP v S ∧ S.1.length ≤ 6 ∧ Bytes S.1 ∧ Below w.heap.size w wx)
  case first =>
    go_wp2_with fail
    all_goals ((refine (HC.out _).mono ?_); rintro e w4 ⟨rfl, v4, hw, hq⟩; have HB4 := Aside0.mk (hq.below (base := w.heap.size) HGE.out (fun k e => Nat.le_trans HGE.out (brow_lt HW3.out.row k e).1) HB3.out HB3.out.size); have HW4 := Aside0.mk hw; clear hw hq; go_wp2; go_meet; case rel => exact ⟨_, _, HW4.out, Nat.le_trans (wnum_length 2 S3 _) (by have := HL3.out; omega), wnum_bytes HY3.out _, HB4.out⟩)
  obtain ⟨v4, S4, hw, hl4, hy4, hb4⟩ := hcut
  have HY4 := Aside0.mk hy4
  have HL4 := Aside0.mk hl4
  have HW4 := Aside0.mk hw
  have HB4 := Aside0.mk hb4
  clear hw HC HB3 HW3 hl4 hb4 hy4
  have HR4 := Aside0.mk (HR0.out.below HB4.out)
  have HC : Aside0 (Calls Tryd.prog 31 #[.pointer (some ⟨WP, 0, none⟩), .int .i64 2, .slice A l.length c] wc (fun e w' => e = .returned (.tuple #[]) ∧ ∃ v', Writer w' WP WP v' (wnums 2 S4 l) ∧ Wrote wc w' WP v4 v')) := ⟨numbers_calls 2 (by decide) A c l HW4.out (Nat.le_of_lt (blk_lt HW4.out.blk)) (by have := HL4.out; have := HL0.out; omega) HR4.out (fun ad e h => by
    have h1 := HA0.out ad e h
    have h2 := HGE.out
    refine ⟨by omega, fun q => ?_⟩
    have h3 := (brow_lt HW4.out.row _ q).1
    omega)⟩
  go_wp2_with fail
  ((with_reducible refine HC.out.mono ?_); rintro e w5 ⟨rfl, v5, hw, hq⟩)
  have HB5 := Aside0.mk (hq.below (base := w.heap.size) HGE.out (fun k e => Nat.le_trans HGE.out (brow_lt HW4.out.row k e).1) HB4.out HB4.out.size)
  obtain ⟨S5, hS5⟩ : ∃ S, wnums 2 S4 l = S := ⟨_, rfl⟩
  have hl5 := wnums_length 2 l S4
  have HY5 : Aside0 (Bytes S5.1) := ⟨by rw [← hS5]; exact wnums_bytes _ HY4.out⟩
  rw [hS5] at hw hl5
  have HL5 : Aside0 (S5.1.length ≤ 6 + 2 * l.length) := ⟨by have := HL4.out; omega⟩
  have HW5 := Aside0.mk hw
  clear hw hq HC HB4 HW4 hS5 hl5 HR4
  have xe : w5.cell? ⟨WP, 1, none⟩ = some (.int .i64 S5.2) := (blk_cell HW5.out.blk 1).trans rfl
  obtain ⟨er, her⟩ : ∃ z, S5.2 = z := ⟨_, rfl⟩
  rw [her] at xe
  have HER := Aside0.mk her
  clear her
  by_cases he : er = 0
  rotate_left
  · have d1 : (er != 0) = true := bne_iff_ne.2 he
    clear he
    go_wp2
    go_quiet (fail)
    go_wp2
    go_ret2
    exact ⟨_, [], _, rfl, brow_nil _ _, by simp, below_drewN HB5.out nq⟩
  have d1 : (er != 0) = false := bne_eq_false_iff_eq.2 he
  have hse : S5.2 = 0 := HER.out.trans he
  have HSE := Aside0.mk hse
  clear hse he
  go_wp2_with fail
  · go_ret2
    exact ⟨_, [], _, rfl, brow_nil _ _, by simp, HB5.out⟩
  · have hbig : (l.length : Int) ≤ wrap64 ((wrap64 (b - 10)).tdiv 2) := by first | assumption | omega
    have h10 : wrap64 (b - 10) = b - 10 := w64 (by have := HBK.out; omega) (by have := HBK.out; omega)
    have h4 : wrap64 (b - 4) = b - 4 := w64 (by have := HBK.out; omega) (by have := HBK.out; omega)
    have h2 : wrap64 ((b - 10).tdiv 2) = (b - 10) / 2 := by
      rw [Int.tdiv_eq_ediv_of_nonneg (by have := HBK.out; omega)]
      exact w64 (by have := HBK.out; omega) (by have := HBK.out; omega)
    rw [h10, h2] at hbig
    rw [h4]
    have hfit : S5.1.length ≤ (b - 4).toNat := by have := HL5.out; have := HBK.out; omega
    have hWH := whole_calls (b - 4).toNat HW5.out HSE.out (Nat.le_of_lt (blk_lt HW5.out.blk)) hfit (by have := HBK.out; omega)
    rw [Int.toNat_of_nonneg (by have := HBK.out; omega)] at hWH
    obtain ⟨L6, hL6⟩ : ∃ L, S5.1 ++ List.replicate ((b - 4).toNat - S5.1.length) 0 = L := ⟨_, rfl⟩
    rw [hL6] at hWH
    have hlen6 : L6.length ≤ 4092 := by rw [← hL6, List.length_append, List.length_replicate]; have := HBK.out; omega
    have hy6 : Bytes L6 := by
      rw [← hL6]
      refine HY5.out.append ?_
      intro y hy
      rw [(List.mem_replicate.1 hy).2]
      omega
    have HLN6 := Aside0.mk hlen6; have HY6 := Aside0.mk hy6; have HWH := Aside0.mk hWH
    clear hWH hL6 hfit hlen6 hy6 hbig h10 h4 h2
    ((with_reducible refine HWH.out.mono ?_); rintro e w6 ⟨v6, rfl, hr, hq⟩)
    have HB6 := Aside0.mk (hq.below (base := w.heap.size) HGE.out (fun k e => Nat.le_trans HGE.out (brow_lt HW5.out.row k e).1) HB5.out HB5.out.size)
    have HR6 := Aside0.mk hr
    clear hr hq HWH xe d1
    go_upto_region 13 with (((with_reducible refine gate_dst (N := 53) rfl ?_); refine box_event ?hg (N := 53) ?hd (cs := #[.slice none 0 0, .int .i64 0]) (t := 72) ?hr ?_; (case hd => rfl); (case hg => rfl); (case hr => first | (go_simp; done) | (go_simp; rfl)); intro WQ hgWQ w7 hbox hb; have BKWQ := Aside0.mk hbox; have BHWQ := Aside0.mk hb; have GEWQ := Aside0.mk hgWQ; clear hb hbox hgWQ))
    have HB7 := Aside0.mk (below_then HB6.out HB6.out.size BHWQ.out)
    have HWQ := Aside0.mk (Writer.new BKWQ.out)
    have HGQ : Aside0 (w6.heap.size ≤ WQ) := ⟨by have := GEWQ.out; omega⟩
    obtain ⟨A6, k6, rfl, hk6, hv6⟩ := brow_reads HR6.out
    have HA6 := Aside0.mk (arg_ltD hv6)
    have HV7 := Aside0.mk (Kd.C_below hv6 BHWQ.out)
    have HSUM := Aside0.mk (crc_Sum.calls A6 k6 L6 (crc 0 L6) w7 HV7.out hk6 (sum_is HY6.out))
    have HK6 := Aside0.mk hk6
    clear BKWQ BHWQ GEWQ hv6 hk6
    go_wp2_with fail
    ((with_reducible refine HSUM.out.mono ?_); rintro e w8 ⟨rfl, hb⟩)
    have HWQ8 := Aside0.mk (HWQ.out.later hb); have HB8 := Aside0.mk (below_then HB7.out HB7.out.size hb); have HV8 := Aside0.mk (Kd.C_below HV7.out hb)
    clear hb HSUM HWQ HB7 HV7
    obtain ⟨cr, hcr⟩ : ∃ x, crc 0 L6 = x := ⟨_, rfl⟩
    rw [hcr]
    have HC : Aside0 (Calls Tryd.prog 32 #[.pointer (some ⟨WQ, 0, none⟩), .int .i64 4, .int .i64 cr] w8 (fun e w' => e = .returned (.tuple #[]) ∧ ∃ v', Writer w' WQ WQ v' (wnum 4 ([], 0) cr) ∧ Wrote w8 w' WQ (.slice none 0 0) v')) := ⟨number_calls 4 (by decide) cr HWQ8.out (Nat.le_of_lt (blk_lt HWQ8.out.blk)) (by simp)⟩
    go_wp2_with fail
    ((with_reducible refine HC.out.mono ?_); rintro e w9 ⟨rfl, v9, hw, hq⟩)
    have HB9 := Aside0.mk (hq.below (base := w.heap.size) (by have := HGQ.out; have := HB6.out.size; omega) (fun k e => by simp [Value.ownBlock] at e) HB8.out HB8.out.size)
    have HV9 := Aside0.mk (reads_wrote (brow_C HV8.out) hq (by
      intro ad e h
      exact ⟨fun q => by have h1 := HA6.out ad e h; have h2 := HGQ.out; omega, fun q => by simp [Value.ownBlock] at q⟩))
    obtain ⟨A9, k9, rfl, hk9, hv9⟩ := brow_reads hw.row
    have xq : w9.cell? ⟨WQ, 0, none⟩ = some (.slice A9 (wnum 4 ([], 0) cr).1.length k9) := (blk_cell hw.blk 0).trans rfl
    obtain ⟨L9, hL9⟩ : ∃ L, (wnum 4 ([], 0) cr).1 = L := ⟨_, rfl⟩
    rw [hL9] at xq hv9 hk9
    have HV9b := Aside0.mk hv9; have HK9 := Aside0.mk hk9
    clear hw hq hv9 hk9 HC
    go_wp2_with fail
    have HL9 : Aside0 (L9.length ≤ 4) := ⟨by rw [← hL9]; exact wnum_length 4 ([], 0) cr⟩
    have HCC := Aside0.mk (slices_Concat_byte_byte.calls (some ⟨w9.heap.size, 0, none⟩) 2 [L9, L6] (L9 ++ L6) _ (two_rows HV9b.out HK9.out (brow_ofC HV9.out) HK6.out) (Nat.le_refl _) (cat2 (by have := HL9.out; have := HLN6.out; omega)))
    have hLL : (L9 ++ L6).length ≤ 4096 := by rw [List.length_append]; have := HL9.out; have := HLN6.out; omega
    generalize L9 ++ L6 = LL at HCC hLL
    have HLL := Aside0.mk hLL
    clear hLL
    ((refine HCC.out.mono ?_); rintro e w10 ⟨v10, rfl, hr, hb⟩)
    have HB10 := Aside0.mk (below_then (HB9.out.alloc HB9.out.size _) (HB9.out.alloc HB9.out.size _).size hb)
    have HR10 := Aside0.mk (brow_less hr (HB9.out.alloc HB9.out.size _).size)
    clear hr hb HCC
    obtain ⟨A10, k10, rfl, _, _⟩ := brow_reads HR10.out
    go_wp2
    go_ret2
    exact ⟨_, LL, _, rfl, HR10.out, HLL.out, HB10.out⟩
end Go.Proofs.YtbplffdmggbcdaaDoor.Codec
