/- Sums come back from their spectrum; the first number is their sum, the second and the fourth mirror each other, and shifting four times is no shift: the walk of the law, for at most 4194304 bytes. -/
import Derived.Test.YtmjgmompcaanlaaTBackPlain
namespace Go.Proofs.Ytmjgmompcaanlaa.Turn
open Go.RowKit Go.Proofs.Ytmjgmompcaanlaa.PlainFloat Go.Proofs.YtmjgmompcaanlaaW.PrintWords
set_option linter.unusedVariables false
set_option linter.unusedSimpArgs false
attribute [local go_sem] run_store_complex
set_option maxHeartbeats 8000000 in
set_option maxRecDepth 100000 in
theorem back_walk (A : Option Addr) (c : Nat) (b : List Int) (w : World) (hr : ReadsInt w .u8 A b.length b) (hb : ByteList b) (hl : b.length ≤ 4194304) :
    Calls Try.prog 5 #[.slice A b.length c] w fun e w' => e = .returned (.bool true) ∧ Below w.heap.size w w' := by
  have HR := Aside0.mk hr
  have HY := Aside0.mk hb
  clear hr hb
  have hu := Try.underlying26
  have hu2 := Try.underlying33
  go_enter Try.func5, Try.ntmps5
  go_wp2_with fail
  refine (wakes _).mono ?_
  rintro e w1 ⟨rfl, hb1⟩
  have HB1 := Aside0.mk hb1
  clear hb1
  go_wp2_with fail
  refine (of4_calls A c b _ (HR.out.below HB1.out) HY.out hl).mono ?_
  rintro e w2 ⟨v, rfl, hv, hb2⟩
  have HB2 := Aside0.mk (below_then HB1.out HB1.out.size hb2)
  have HG2 := Aside0.mk HB2.out.size
  clear hb2
  obtain ⟨a0, b0, a1, b1, a2, b2, a3, b3, rfl⟩ := hv.agg
  have HV := Aside0.mk hv
  clear hv
  obtain ⟨l, hl4⟩ : ∃ l, four b = l := ⟨_, rfl⟩
  rw [hl4] at HV
  have HL4 := Aside0.mk hl4
  clear hl4
  obtain ⟨s0, s1, s2, s3, hls⟩ := list4 HV.out.1.1
  have HLS := Aside0.mk hls
  clear hls
  go_wp2_with fail
  refine (sums_calls l s0 s1 s2 s3 HLS.out _ _ HV.out.1 HV.out.2).mono ?_
  rintro e w3 ⟨rfl, hb3⟩
  have F3 := Aside0.mk (blk_below (blk_new w2 (.cells #[.complex .f64 a0 b0, .complex .f64 a1 b1, .complex .f64 a2 b2, .complex .f64 a3 b3] 26)) hb3)
  have HB3 := Aside0.mk (below_then (HB2.out.alloc HG2.out _) (by have := HG2.out; simp; omega) hb3)
  have G3 := Aside0.mk (blk_lt F3.out)
  clear hb3
  have g3 := G3.out
  have k0 : w3.cell? ⟨w2.heap.size, 0, none⟩ = some (.complex .f64 a0 b0) := (blk_cell F3.out 0).trans rfl
  have k1 : w3.cell? ⟨w2.heap.size, 1, none⟩ = some (.complex .f64 a1 b1) := (blk_cell F3.out 1).trans rfl
  have k2 : w3.cell? ⟨w2.heap.size, 2, none⟩ = some (.complex .f64 a2 b2) := (blk_cell F3.out 2).trans rfl
  have k3 : w3.cell? ⟨w2.heap.size, 3, none⟩ = some (.complex .f64 a3 b3) := (blk_cell F3.out 3).trans rfl
  go_wp2_with fail
  refine (check_calls _ l HV.out _).mono ?_
  rintro e w4 ⟨rfl, hb4⟩
  have F4 := Aside0.mk (blk_below (blk_alloc F3.out _) hb4)
  have S4 := Aside0.mk (blk_below (blk_new w3 (.cells #[.int .i64 s0, .int .i64 s1, .int .i64 s2, .int .i64 s3] 33)) hb4)
  have HB4 := Aside0.mk (below_then (HB3.out.alloc HB3.out.size _) (by have := HB3.out.size; simp; omega) hb4)
  clear hb4 k0 k1 k2 k3 g3
  have k0 : w4.cell? ⟨w3.heap.size, 0, none⟩ = some (.int .i64 s0) := (blk_cell S4.out 0).trans rfl
  have k1 : w4.cell? ⟨w3.heap.size, 1, none⟩ = some (.int .i64 s1) := (blk_cell S4.out 1).trans rfl
  have k2 : w4.cell? ⟨w3.heap.size, 2, none⟩ = some (.int .i64 s2) := (blk_cell S4.out 2).trans rfl
  have k3 : w4.cell? ⟨w3.heap.size, 3, none⟩ = some (.int .i64 s3) := (blk_cell S4.out 3).trans rfl
  go_wp2_with fail
  refine (from_calls l s0 s1 s2 s3 HLS.out _ HV.out.1).mono ?_
  rintro e w5 ⟨z, rfl, hz, hb5⟩
  have hne := fun W => (spec_neq hz HV.out.2 W).trans (by rw [alike_same (fun q _ => ⟨rfl, rfl⟩)])
  have hgn := fun p q W => spec_guard_neq hz HV.out.2 p q W
  obtain ⟨c0, d0, c1, d1, c2, d2, c3, d3, rfl, _⟩ := hz
  have F5 := Aside0.mk (blk_below F4.out hb5)
  have S5 := Aside0.mk (blk_below S4.out hb5)
  have HB5 := Aside0.mk (below_then HB4.out HB4.out.size hb5)
  clear hb5 k0 k1 k2 k3
  have g5 := blk_lt F5.out
  have g6 := blk_lt S5.out
  have k0 : w5.cell? ⟨w2.heap.size, 0, none⟩ = some (.complex .f64 a0 b0) := (blk_cell F5.out 0).trans rfl
  have k1 : w5.cell? ⟨w2.heap.size, 1, none⟩ = some (.complex .f64 a1 b1) := (blk_cell F5.out 1).trans rfl
  have k2 : w5.cell? ⟨w2.heap.size, 2, none⟩ = some (.complex .f64 a2 b2) := (blk_cell F5.out 2).trans rfl
  have k3 : w5.cell? ⟨w2.heap.size, 3, none⟩ = some (.complex .f64 a3 b3) := (blk_cell F5.out 3).trans rfl
  obtain ⟨o1, o2, o3, o4⟩ := mirror HV.out
  have hng : ∀ W, (Op.unary .neg (.float .f64 b3)).run Try.prog W = .ok (.float .f64 (Op.negFloat .f64 b3)) W := fun W => rfl
  go_wp2
  clear o1 o2 o3 o4 hng hne hgn k0 k1 k2 k3
  go_loopw [7, 8] (fun s i wr => ∃ j : Nat, j ≤ b.length ∧ i = .int .i64 j ∧ s = .int .i64 (tot b j) ∧ Aside0 (wr.heap[w2.heap.size]? = some (.cells #[.complex .f64 a0 b0, .complex .f64 a1 b1, .complex .f64 a2 b2, .complex .f64 a3 b3] 26 (0, 0))) ∧ Aside0 (wr.heap[w3.heap.size]? = some (.cells #[.int .i64 s0, .int .i64 s1, .int .i64 s2, .int .i64 s3] 33 (0, 0))) ∧ Aside0 (Below w.heap.size w wr)) (fun _ i _ => b.length - (intOf i).toNat)
  case atStart =>
    exact ⟨0, Nat.zero_le _, rfl, rfl, ⟨blk_alloc F5.out _⟩, ⟨blk_alloc S5.out _⟩, ⟨HB5.out.alloc HB5.out.size _⟩⟩
  case round =>
    obtain ⟨j, hj, rfl, rfl, FW, SW, HB⟩ := hrel
    by_cases hlt : j < b.length
    · obtain ⟨ad, e, hc⟩ := HR.out.2.2 (by omega)
      have hcell := pw_cell_below HB.out (hc j hlt)
      obtain ⟨x, hxe⟩ : ∃ x, b.getD j 0 = x := ⟨_, rfl⟩
      rw [hxe] at hcell
      have hx : 0 ≤ x ∧ x ≤ 255 := by have := HY.out j; rw [show rd b (j : Int) = x from hxe] at this; exact this
      have hyr := tot_range HY.out j
      obtain ⟨y, hy⟩ : ∃ y, tot b j = y := ⟨_, rfl⟩
      rw [hy] at hyr ⊢
      have HX := Aside0.mk hxe
      have HYY := Aside0.mk hy
      clear hxe hc hy
      subst e
      go_wp2
      go_roundw
      case rel =>
        refine ⟨j + 1, by omega, by go_num, ?_, FW, SW, HB⟩
        show _ = Value.int .i64 (tot b j + rd b (j : Int))
        rw [HYY.out, show rd b (j : Int) = x from HX.out]
      case measure => simp [intOf]; omega
    · obtain rfl : j = b.length := by omega
      clear hj hlt
      obtain ⟨wo, hwo⟩ : ∃ wo : World, wo = wr := ⟨_, rfl⟩
      subst hwo
      have hyr := tot_range HY.out b.length
      obtain ⟨y, hy⟩ : ∃ y, tot b b.length = y := ⟨_, rfl⟩
      rw [hy] at hyr ⊢
      have HYY := Aside0.mk hy
      clear hy
      have gF := blk_lt FW.out
      have gS := blk_lt SW.out
      have k0 : wo.cell? ⟨w2.heap.size, 0, none⟩ = some (.complex .f64 a0 b0) := (blk_cell FW.out 0).trans rfl
      have k1 : wo.cell? ⟨w2.heap.size, 1, none⟩ = some (.complex .f64 a1 b1) := (blk_cell FW.out 1).trans rfl
      have k2 : wo.cell? ⟨w2.heap.size, 2, none⟩ = some (.complex .f64 a2 b2) := (blk_cell FW.out 2).trans rfl
      have k3 : wo.cell? ⟨w2.heap.size, 3, none⟩ = some (.complex .f64 a3 b3) := (blk_cell FW.out 3).trans rfl
      go_wp2
      clear k0 k1 k2 k3
      go_loopw [10] (fun i wr => ∃ (k p0 q0 p1 q1 p2 q2 p3 q3 : Nat), k ≤ 4 ∧ i = .int .i64 k ∧ Aside0 (wr.heap[wo.heap.size]? = some (.cells #[.complex .f64 p0 q0, .complex .f64 p1 q1, .complex .f64 p2 q2, .complex .f64 p3 q3] 26 (0, 0))) ∧ Aside0 (Of4 (.agg #[.complex .f64 p0 q0, .complex .f64 p1 q1, .complex .f64 p2 q2, .complex .f64 p3 q3]) (rotk l k)) ∧ Aside0 (wr.heap[w2.heap.size]? = some (.cells #[.complex .f64 a0 b0, .complex .f64 a1 b1, .complex .f64 a2 b2, .complex .f64 a3 b3] 26 (0, 0))) ∧ Aside0 (wr.heap[w3.heap.size]? = some (.cells #[.int .i64 s0, .int .i64 s1, .int .i64 s2, .int .i64 s3] 33 (0, 0))) ∧ Aside0 (Below w.heap.size w wr)) (fun i _ => 4 - (intOf i).toNat)
      case atStart =>
        exact ⟨0, a0, b0, a1, b1, a2, b2, a3, b3, Nat.zero_le _, rfl, ⟨blk_new wo _⟩, HV, ⟨blk_alloc FW.out _⟩, ⟨blk_alloc SW.out _⟩, ⟨HB.out.alloc HB.out.size _⟩⟩
      case round =>
        obtain ⟨k, p0, q0, p1, q1, p2, q2, p3, q3, hk, rfl, HH, HO, FW, SW, HB⟩ := hrel
        by_cases hkl : k < 4
        · have hki : (k : Int) < 4 := by omega
          have k0 : wr.cell? ⟨wo.heap.size, 0, none⟩ = some (.complex .f64 p0 q0) := (blk_cell HH.out 0).trans rfl
          have k1 : wr.cell? ⟨wo.heap.size, 1, none⟩ = some (.complex .f64 p1 q1) := (blk_cell HH.out 1).trans rfl
          have k2 : wr.cell? ⟨wo.heap.size, 2, none⟩ = some (.complex .f64 p2 q2) := (blk_cell HH.out 2).trans rfl
          have k3 : wr.cell? ⟨wo.heap.size, 3, none⟩ = some (.complex .f64 p3 q3) := (blk_cell HH.out 3).trans rfl
          go_wp2_with fail
          refine (shift_calls _ (rotk l k) HO.out 1 (by decide) _).mono ?_
          rintro e w6 ⟨u, rfl, hs, hb6⟩
          have H6 := Aside0.mk (blk_below HH.out hb6)
          have F6 := Aside0.mk (blk_below FW.out hb6)
          have S6 := Aside0.mk (blk_below SW.out hb6)
          have HB6 := Aside0.mk (below_then HB.out HB.out.size hb6)
          have gH := blk_lt H6.out
          obtain ⟨c0, d0, c1, d1, c2, d2, c3, d3, rfl⟩ := hs.agg
          have HS := Aside0.mk hs
          clear hs hb6 k0 k1 k2 k3
          have k0 : w6.cell? ⟨wo.heap.size, 0, none⟩ = some (.complex .f64 p0 q0) := (blk_cell H6.out 0).trans rfl
          have kz0 := blk_frozen H6.out 0
          have k1 : w6.cell? ⟨wo.heap.size, 1, none⟩ = some (.complex .f64 p1 q1) := (blk_cell H6.out 1).trans rfl
          have kz1 := blk_frozen H6.out 1
          have k2 : w6.cell? ⟨wo.heap.size, 2, none⟩ = some (.complex .f64 p2 q2) := (blk_cell H6.out 2).trans rfl
          have kz2 := blk_frozen H6.out 2
          have k3 : w6.cell? ⟨wo.heap.size, 3, none⟩ = some (.complex .f64 p3 q3) := (blk_cell H6.out 3).trans rfl
          have kz3 := blk_frozen H6.out 3
          go_wp2
          go_roundw
          case rel =>
            refine ⟨k + 1, c0, d0, c1, d1, c2, d2, c3, d3, by omega, by go_num, ⟨?_⟩, HS, ⟨?_⟩, ⟨?_⟩, ⟨?_⟩⟩
            · refine blk_put (cs := #[.complex .f64 c0 d0, .complex .f64 c1 d1, .complex .f64 c2 d2, .complex .f64 p3 q3]) ?_ 3 _ rfl
              refine blk_put (cs := #[.complex .f64 c0 d0, .complex .f64 c1 d1, .complex .f64 p2 q2, .complex .f64 p3 q3]) ?_ 2 _ rfl
              refine blk_put (cs := #[.complex .f64 c0 d0, .complex .f64 p1 q1, .complex .f64 p2 q2, .complex .f64 p3 q3]) ?_ 1 _ rfl
              refine blk_put (cs := #[.complex .f64 p0 q0, .complex .f64 p1 q1, .complex .f64 p2 q2, .complex .f64 p3 q3]) ?_ 0 _ rfl
              exact H6.out
            · exact blk_far (blk_far (blk_far (blk_far F6.out (Nat.ne_of_lt gF) _) (Nat.ne_of_lt gF) _) (Nat.ne_of_lt gF) _) (Nat.ne_of_lt gF) _
            · exact blk_far (blk_far (blk_far (blk_far S6.out (Nat.ne_of_lt gS) _) (Nat.ne_of_lt gS) _) (Nat.ne_of_lt gS) _) (Nat.ne_of_lt gS) _
            · have hgo : w.heap.size ≤ wo.heap.size := by have := HG2.out; omega
              exact below_set' (below_set' (below_set' (below_set' HB6.out hgo _) hgo _) hgo _) hgo _
          case measure => simp [intOf]; omega
        · obtain rfl : k = 4 := by omega
          have ho4 := HO.out
          rw [show rotk l 4 = l from (rot4 HV.out.1).1] at ho4
          have heq1 := fun W => (spec_eq ho4.2 HV.out.2 W).trans (by rw [alike_same (fun q _ => ⟨rfl, rfl⟩)])
          have hg1 := fun x y W => spec_guard ho4.2 HV.out.2 x y W
          clear ho4 hk hkl
          have k0 : wr.cell? ⟨w2.heap.size, 0, none⟩ = some (.complex .f64 a0 b0) := (blk_cell FW.out 0).trans rfl
          have k1 : wr.cell? ⟨w2.heap.size, 1, none⟩ = some (.complex .f64 a1 b1) := (blk_cell FW.out 1).trans rfl
          have k2 : wr.cell? ⟨w2.heap.size, 2, none⟩ = some (.complex .f64 a2 b2) := (blk_cell FW.out 2).trans rfl
          have k3 : wr.cell? ⟨w2.heap.size, 3, none⟩ = some (.complex .f64 a3 b3) := (blk_cell FW.out 3).trans rfl
          go_wp2_with fail
          refine (shift_calls _ l HV.out 4 (by decide) _).mono ?_
          rintro e w7 ⟨u, rfl, hs, hb7⟩
          rw [(rot4 HV.out.1).2] at hs
          have heq2 := fun W => (spec_eq hs.2 HV.out.2 W).trans (by rw [alike_same (fun q _ => ⟨rfl, rfl⟩)])
          have hg2 := fun x y W => spec_guard hs.2 HV.out.2 x y W
          obtain ⟨c0, d0, c1, d1, c2, d2, c3, d3, rfl⟩ := hs.agg
          have H7 := Aside0.mk (blk_below HH.out hb7)
          have F7 := Aside0.mk (blk_below FW.out hb7)
          have S7 := Aside0.mk (blk_below SW.out hb7)
          have HB7 := Aside0.mk (below_then HB.out HB.out.size hb7)
          have L1 := blk_lt H7.out
          have L2 := blk_lt F7.out
          have L3 := blk_lt S7.out
          clear hs hb7 k0 k1 k2 k3
          have k0 : w7.cell? ⟨wo.heap.size, 0, none⟩ = some (.complex .f64 p0 q0) := (blk_cell H7.out 0).trans rfl
          have k1 : w7.cell? ⟨wo.heap.size, 1, none⟩ = some (.complex .f64 p1 q1) := (blk_cell H7.out 1).trans rfl
          have k2 : w7.cell? ⟨wo.heap.size, 2, none⟩ = some (.complex .f64 p2 q2) := (blk_cell H7.out 2).trans rfl
          have k3 : w7.cell? ⟨wo.heap.size, 3, none⟩ = some (.complex .f64 p3 q3) := (blk_cell H7.out 3).trans rfl
          have m0 : w7.cell? ⟨w2.heap.size, 0, none⟩ = some (.complex .f64 a0 b0) := (blk_cell F7.out 0).trans rfl
          have m1 : w7.cell? ⟨w2.heap.size, 1, none⟩ = some (.complex .f64 a1 b1) := (blk_cell F7.out 1).trans rfl
          have m2 : w7.cell? ⟨w2.heap.size, 2, none⟩ = some (.complex .f64 a2 b2) := (blk_cell F7.out 2).trans rfl
          have m3 : w7.cell? ⟨w2.heap.size, 3, none⟩ = some (.complex .f64 a3 b3) := (blk_cell F7.out 3).trans rfl
          have n0 : w7.cell? ⟨w3.heap.size, 0, none⟩ = some (.int .i64 s0) := (blk_cell S7.out 0).trans rfl
          have n1 : w7.cell? ⟨w3.heap.size, 1, none⟩ = some (.int .i64 s1) := (blk_cell S7.out 1).trans rfl
          have n2 : w7.cell? ⟨w3.heap.size, 2, none⟩ = some (.int .i64 s2) := (blk_cell S7.out 2).trans rfl
          have n3 : w7.cell? ⟨w3.heap.size, 3, none⟩ = some (.int .i64 s3) := (blk_cell S7.out 3).trans rfl
          have hsums : s0 + s1 + s2 + s3 = y := by
            have e := HLS.out
            rw [← HL4.out] at e
            unfold four at e
            simp only [List.cons.injEq, and_true] at e
            obtain ⟨e0, e1, e2, e3⟩ := e
            rw [← HYY.out, tot_is, e0, e1, e2, e3]
          have hp := sums4_parts (HLS.out ▸ HV.out.1)
          obtain ⟨⟨x0, y0⟩, ⟨x1, y1⟩, ⟨x2, y2⟩, ⟨x3, y3⟩⟩ := hp
          have r0 := HV.out.2.reps.1
          have o5 : FloatKind.f64.format.order a0 (floatOfInt .f64 y) = some .eq := by
            refine same_ord (x := y) ?_ (of_int (by omega))
            have := r0.1
            rw [HLS.out, (fr4 s0 s1 s2 s3).1.1, hsums] at this
            exact this
          have o6 : FloatKind.f64.format.order b0 0 = some .eq := by
            refine same_ord (x := 0) ?_ rep_zero
            have := r0.2
            rw [HLS.out, (fr4 s0 s1 s2 s3).1.2] at this
            exact this
          have hse : s0 + s1 + s2 + s3 = y := hsums
          clear r0 hsums
          go_wp2
          go_ret
          exact ⟨rfl, HB7.out.alloc HB7.out.size _⟩
theorem back_row (A : Option Addr) (c : Nat) (l : List Int) (w : World) (hr : ReadsInt w .u8 A l.length l) (_ : l.length ≤ c) (hw : ∀ x ∈ l, (Lit.int .u8 x).wf = true) (hl : l.length ≤ 1048576) :
    Calls Try.prog 5 #[.slice A l.length c] w fun e w' => e = .returned (.bool true) ∧ Below w.heap.size w w' := back_walk A c l w hr (bytes_list2 hw) (by omega)
end Go.Proofs.Ytmjgmompcaanlaa.Turn
