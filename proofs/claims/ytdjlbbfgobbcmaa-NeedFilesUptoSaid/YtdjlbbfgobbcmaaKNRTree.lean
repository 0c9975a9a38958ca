/- What the reference answers of trees: a contract. -/
import Derived.Test.YtdjlbbfgobbcmaaKNRef
namespace Go.Proofs.Ytdjlbbfgobbcmaa.Need
open Go.RowKit Go.Proofs.Ytdjlbbfgobbcmaa.PNeedFiles Go.Proofs.Ytdjlbbfgobbcmaa.PlainFloat Go.Proofs.Ytdjlbbfgobbcmaa.Turn Go.Proofs.YtdjlbbfgobbcmaaW.PrintWords Go.Proofs.YtdjlbbfgobbcmaaW.PrintLast Go.Proofs.YtdjlbbfgobbcmaaW.PrintMore
set_option linter.unusedVariables false
set_option linter.unusedSimpArgs false

def rx (p0 n : Int) : Value := .complex .f64 (floatOfInt .f64 (Pure.blocks p0 n)) (floatOfInt .f64 1)
theorem snoc_rx (p0 : Int) (l : List Int) (i : Nat) (hi : i < l.length) : (l.take i).map (rx p0) ++ [rx p0 (l.getD i 0)] = (l.take (i + 1)).map (rx p0) := by
  rw [List.take_succ_eq_append_getElem hi, List.map_append]
  simp [List.getD, List.getElem?_eq_getElem hi]
theorem snoc_drx (p0 : Int) (xs : List Value) (l : List Int) (i : Nat) (hi : i < l.length) : xs ++ (l.take i).map (fun n => rx p0 (dsize p0 n)) ++ [rx p0 (dsize p0 (l.getD i 0))] = xs ++ (l.take (i + 1)).map (fun n => rx p0 (dsize p0 n)) := by
  rw [List.take_succ_eq_append_getElem hi, List.map_append, List.append_assoc]
  simp [List.getD, List.getElem?_eq_getElem hi]
/-- The row that is summed. -/
theorem rsum_row {p0 p1 p2 p3 p4 p5 p6 p7 p8 p9 p10 p11 s : Int} {l m : List Int} {w wr : World} {B gb : Nat} {cs : Array Value} {v : Value} (F : Fine p0 p1 p2 p3 p4 p5 p6 p7 p8 p9 p10 p11 s) (h1 : FilesOk s l) (h2 : DirsOk s m) (hlen : l.length + m.length ≤ 2097300)
    (H : Seen w wr B gb cs v (l.length + m.length) ((sizes p0 l m).map (rx p0))) :
    ∃ A cap, v = .slice A (l.length + m.length) cap ∧ Calls Try.prog 26 #[.slice A (l.length + m.length) cap] wr (Ends (SumOut (all p0 (sizes p0 l m)) ((l.length + m.length : Nat) : Int)) wr) := by
  have hsz : (sizes p0 l m).length = l.length + m.length := by unfold sizes; rw [List.length_append, List.length_map]
  have hpart : ∀ k, k < l.length + m.length → 0 ≤ (sizes p0 l m).getD k 0 ∧ (sizes p0 l m).getD k 0 ≤ s := by
    intro k hk
    unfold sizes
    by_cases c : k < l.length
    · rw [List.getD_eq_getElem?_getD, List.getElem?_append_left c, ← List.getD_eq_getElem?_getD]; exact h1 k c
    · rw [List.getD_eq_getElem?_getD, List.getElem?_append_right (by omega)]
      have hk2 : k - l.length < m.length := by omega
      have := h2 (k - l.length) hk2
      rw [List.getElem?_map, List.getElem?_eq_getElem hk2]
      rw [List.getD_eq_getElem?_getD, List.getElem?_eq_getElem hk2] at this
      exact dsize_ok F.size F.two this.1 this.2
  have key : ∀ A g cap, (l.length + m.length = 0 ∨ A = some ⟨g, 0, none⟩) → (∀ k, k < l.length + m.length → wr.cell? ⟨g, k, none⟩ = some (.complex .f64 (floatOfInt .f64 (Pure.blocks p0 ((sizes p0 l m).getD k 0))) (floatOfInt .f64 1))) →
      Calls Try.prog 26 #[.slice A (l.length + m.length) cap] wr (Ends (SumOut (all p0 (sizes p0 l m)) ((l.length + m.length : Nat) : Int)) wr) := by
    intro A g cap hA hc
    have h := rsum_calls wr (fun k => floatOfInt .f64 (Pure.blocks p0 ((sizes p0 l m).getD k 0))) (fun _ => (floatOfInt .f64 1)) (fun k => Pure.blocks p0 ((sizes p0 l m).getD k 0)) (fun _ => 1) A g (l.length + m.length) cap (by omega) (fun k hk => ?_) hc ?_ hA
    · unfold all
      rw [hsz]
      rw [tot_one] at h
      exact h
    · have hp := hpart k hk
      have hb := Pure.blocks_part F.two hp.1 (Int.le_trans hp.2 F.high)
      exact ⟨of_int (by omega), of_int (by decide), hb, ⟨by decide, by decide⟩⟩
    · rw [tot_one]
      exact ⟨by omega, by omega⟩
  rcases Joins.ownsRow_forms H.row with ⟨rfl, h0⟩ | ⟨g, cap, rfl⟩
  · have := key none 0 0 (.inl h0) (fun k hk => by omega)
    exact ⟨none, 0, by rw [h0], this⟩
  · refine ⟨_, cap, rfl, key _ g cap (.inr rfl) fun k hk => ?_⟩
    rw [H.row.cellAt k (by omega), List.getElem?_map, List.getElem?_eq_getElem (by rw [hsz]; exact hk)]
    show some (rx p0 _) = some (rx p0 _)
    rw [List.getD_eq_getElem?_getD, List.getElem?_eq_getElem (by rw [hsz]; exact hk)]
    rfl
set_option maxHeartbeats 4000000 in
set_option maxRecDepth 100000 in
theorem rtree_foul {k : Nat} (p0 : Int) (p1 : Int) (p2 : Int) (p3 : Int) (p4 : Int) (p5 : Int) (p6 : Int) (p7 : Int) (p8 : Int) (p9 : Int) (p10 : Int) (p11 : Int) (R : RFoul k p0 p1 p2 p3 p4 p5 p6 p7 p8 p9 p10 p11) (v1 v2 : Value) (w : World) :
    Calls Try.prog 16 #[.agg #[.int .i64 p0, .int .i64 p1, .int .i64 p2, .int .i64 p3, .int .i64 p4, .int .i64 p5, .int .i64 p6, .int .i64 p7, .int .i64 p8, .int .i64 p9, .int .i64 p10, .int .i64 p11], v1, v2] w (Ends (Err 4) w) := by
  have hu := Try.underlying23
  have H := Aside0.mk R.chk
  clear R
  go_enter Try.func16, Try.ntmps16
  go_wp2_with ((with_reducible refine gate_dst (N := 3) rfl ?_); refine box_event ?hg (N := 3) ?hd (cs := #[.int .i64 p0, .int .i64 p1, .int .i64 p2, .int .i64 p3, .int .i64 p4, .int .i64 p5, .int .i64 p6, .int .i64 p7, .int .i64 p8, .int .i64 p9, .int .i64 p10, .int .i64 p11]) (t := 23) ?hr ?_; (case hd => rfl); (case hg => rfl); (case hr => first | (go_simp; done) | (go_simp; rfl)); intro gb hg w1 hbox hb; have HB := Aside0.mk (below_step (Below.refl w.heap.size w) hb); have BK := Aside0.mk hbox; clear hb hbox hg; have c0 : w1.cell? ⟨gb, 0, none⟩ = some (.int .i64 p0) := (blk_cell BK.out 0).trans rfl; have c1 : w1.cell? ⟨gb, 1, none⟩ = some (.int .i64 p1) := (blk_cell BK.out 1).trans rfl; have c2 : w1.cell? ⟨gb, 2, none⟩ = some (.int .i64 p2) := (blk_cell BK.out 2).trans rfl; have c3 : w1.cell? ⟨gb, 3, none⟩ = some (.int .i64 p3) := (blk_cell BK.out 3).trans rfl; have c4 : w1.cell? ⟨gb, 4, none⟩ = some (.int .i64 p4) := (blk_cell BK.out 4).trans rfl; have c5 : w1.cell? ⟨gb, 5, none⟩ = some (.int .i64 p5) := (blk_cell BK.out 5).trans rfl; have c6 : w1.cell? ⟨gb, 6, none⟩ = some (.int .i64 p6) := (blk_cell BK.out 6).trans rfl; have c7 : w1.cell? ⟨gb, 7, none⟩ = some (.int .i64 p7) := (blk_cell BK.out 7).trans rfl; have c8 : w1.cell? ⟨gb, 8, none⟩ = some (.int .i64 p8) := (blk_cell BK.out 8).trans rfl; have c9 : w1.cell? ⟨gb, 9, none⟩ = some (.int .i64 p9) := (blk_cell BK.out 9).trans rfl; have c10 : w1.cell? ⟨gb, 10, none⟩ = some (.int .i64 p10) := (blk_cell BK.out 10).trans rfl; have c11 : w1.cell? ⟨gb, 11, none⟩ = some (.int .i64 p11) := (blk_cell BK.out 11).trans rfl)
  ((with_reducible refine (skerryref05_Check.calls k p0 p1 p2 p3 p4 p5 p6 p7 p8 p9 p10 p11 4 _ H.out).mono ?_); rintro e w2 ⟨rfl, hb⟩)
  have BK2 := Aside0.mk (blk_below BK.out hb)
  have HB2 := Aside0.mk (below_then HB.out HB.out.size hb)
  clear c0 c1 c2 c3 c4 c5 c6 c7 c8 c9 c10 c11
  clear hb BK HB
  have BK := BK2
  have HB := HB2
  clear BK2 HB2
  have c0 : w2.cell? ⟨gb, 0, none⟩ = some (.int .i64 p0) := (blk_cell BK.out 0).trans rfl; have c1 : w2.cell? ⟨gb, 1, none⟩ = some (.int .i64 p1) := (blk_cell BK.out 1).trans rfl; have c2 : w2.cell? ⟨gb, 2, none⟩ = some (.int .i64 p2) := (blk_cell BK.out 2).trans rfl; have c3 : w2.cell? ⟨gb, 3, none⟩ = some (.int .i64 p3) := (blk_cell BK.out 3).trans rfl; have c4 : w2.cell? ⟨gb, 4, none⟩ = some (.int .i64 p4) := (blk_cell BK.out 4).trans rfl; have c5 : w2.cell? ⟨gb, 5, none⟩ = some (.int .i64 p5) := (blk_cell BK.out 5).trans rfl; have c6 : w2.cell? ⟨gb, 6, none⟩ = some (.int .i64 p6) := (blk_cell BK.out 6).trans rfl; have c7 : w2.cell? ⟨gb, 7, none⟩ = some (.int .i64 p7) := (blk_cell BK.out 7).trans rfl; have c8 : w2.cell? ⟨gb, 8, none⟩ = some (.int .i64 p8) := (blk_cell BK.out 8).trans rfl; have c9 : w2.cell? ⟨gb, 9, none⟩ = some (.int .i64 p9) := (blk_cell BK.out 9).trans rfl; have c10 : w2.cell? ⟨gb, 10, none⟩ = some (.int .i64 p10) := (blk_cell BK.out 10).trans rfl; have c11 : w2.cell? ⟨gb, 11, none⟩ = some (.int .i64 p11) := (blk_cell BK.out 11).trans rfl
  go_wp2
  go_ret2
  exact ⟨_, _, _, rfl, ⟨rfl, rfl, rfl⟩, HB.out⟩
def rtree.T7 : Bool × List (List Nat × List Nat) := (true, [([], []), ([], []), ([], []), ([1, 2], [1, 2]), ([3], [3]), ([0, 4], [0, 4]), ([5], [5]), ([6], [6]), ([6], [6]), ([7, 5, 0, 1, 2, 3, 4, 5, 6, 7], [7]), ([8, 9, 0, 1, 2, 3, 4, 5, 6, 7, 8, 9], [8])])
def rtree.B7 : List Nat := [0, 0, 0, 6, 14, 31, 63, 127, 127, 255, 1023]
theorem rtree.tab7 : rtab .any (opsOf Try.f16 7) = rtree.T7 := by kernel_rfl
theorem rtree.bits7 : waitsOk rtree.T7.2 rtree.B7 = true := by kernel_rfl

def rtree.T14 : Bool × List (List Nat × List Nat) := (true, [([], []), ([], []), ([], []), ([1, 2], [1, 2]), ([3], [3]), ([0, 4], [0, 4]), ([5], [5]), ([6], [6]), ([6], [6]), ([7, 5, 0, 1, 2, 3, 4, 5, 6, 7], [7]), ([8, 9, 0, 1, 2, 3, 4, 5, 6, 7, 8, 9], [8])])
def rtree.B14 : List Nat := [0, 0, 0, 6, 14, 31, 63, 127, 127, 255, 1023]
theorem rtree.tab14 : rtab .any (opsOf Try.f16 14) = rtree.T14 := by kernel_rfl
theorem rtree.bits14 : waitsOk rtree.T14.2 rtree.B14 = true := by kernel_rfl

theorem Seen.drew {w wr : World} {B gb : Nat} {cs : Array Value} {v : Value} {n : Nat} {xs : List Value} (H : Seen w wr B gb cs v n xs) : Seen w wr.drew B gb cs v n xs :=
  ⟨below_drew H.below, blk_drew H.box, H.row, H.size, H.low, H.lt⟩
set_option maxHeartbeats 4000000 in
set_option maxRecDepth 100000 in
theorem rtree_fine (p0 : Int) (p1 : Int) (p2 : Int) (p3 : Int) (p4 : Int) (p5 : Int) (p6 : Int) (p7 : Int) (p8 : Int) (p9 : Int) (p10 : Int) (p11 : Int) (s : Int) (F0 : Fine p0 p1 p2 p3 p4 p5 p6 p7 p8 p9 p10 p11 s) {k : Nat} (RF0 : RFine k p0 p1 p2 p3 p4 p5 p6 p7 p8 p9 p10 p11 s) (A1 A2 : Option Addr) (c1 c2 : Nat) (l m : List Int) (w : World) (hr1 : ReadsInt w .i64 A1 l.length l) (hr2 : ReadsInt w .i64 A2 m.length m) (hlen : l.length + m.length ≤ 2097300) :
    Calls Try.prog 16 #[.agg #[.int .i64 p0, .int .i64 p1, .int .i64 p2, .int .i64 p3, .int .i64 p4, .int .i64 p5, .int .i64 p6, .int .i64 p7, .int .i64 p8, .int .i64 p9, .int .i64 p10, .int .i64 p11], .slice A1 l.length c1, .slice A2 m.length c2] w (Ends (TreeOut p0 s l m) w) := by
  have hu := Try.underlying23
  have H := Aside0.mk RF0.chk
  have F := Aside0.mk F0
  have RF := Aside0.mk RF0
  have R1 := Aside0.mk hr1
  have R2 := Aside0.mk hr2
  clear F0 RF0 hr1 hr2
  go_enter Try.func16, Try.ntmps16
  go_wp2_with ((with_reducible refine gate_dst (N := 3) rfl ?_); refine box_event ?hg (N := 3) ?hd (cs := #[.int .i64 p0, .int .i64 p1, .int .i64 p2, .int .i64 p3, .int .i64 p4, .int .i64 p5, .int .i64 p6, .int .i64 p7, .int .i64 p8, .int .i64 p9, .int .i64 p10, .int .i64 p11]) (t := 23) ?hr ?_; (case hd => rfl); (case hg => rfl); (case hr => first | (go_simp; done) | (go_simp; rfl)); intro gb hg w1 hbox hb; have HB := Aside0.mk (below_step (Below.refl w.heap.size w) hb); have BK := Aside0.mk hbox; clear hb hbox hg; have c0 : w1.cell? ⟨gb, 0, none⟩ = some (.int .i64 p0) := (blk_cell BK.out 0).trans rfl; have c1 : w1.cell? ⟨gb, 1, none⟩ = some (.int .i64 p1) := (blk_cell BK.out 1).trans rfl; have c2 : w1.cell? ⟨gb, 2, none⟩ = some (.int .i64 p2) := (blk_cell BK.out 2).trans rfl; have c3 : w1.cell? ⟨gb, 3, none⟩ = some (.int .i64 p3) := (blk_cell BK.out 3).trans rfl; have c4 : w1.cell? ⟨gb, 4, none⟩ = some (.int .i64 p4) := (blk_cell BK.out 4).trans rfl; have c5 : w1.cell? ⟨gb, 5, none⟩ = some (.int .i64 p5) := (blk_cell BK.out 5).trans rfl; have c6 : w1.cell? ⟨gb, 6, none⟩ = some (.int .i64 p6) := (blk_cell BK.out 6).trans rfl; have c7 : w1.cell? ⟨gb, 7, none⟩ = some (.int .i64 p7) := (blk_cell BK.out 7).trans rfl; have c8 : w1.cell? ⟨gb, 8, none⟩ = some (.int .i64 p8) := (blk_cell BK.out 8).trans rfl; have c9 : w1.cell? ⟨gb, 9, none⟩ = some (.int .i64 p9) := (blk_cell BK.out 9).trans rfl; have c10 : w1.cell? ⟨gb, 10, none⟩ = some (.int .i64 p10) := (blk_cell BK.out 10).trans rfl; have c11 : w1.cell? ⟨gb, 11, none⟩ = some (.int .i64 p11) := (blk_cell BK.out 11).trans rfl)
  ((with_reducible refine (skerryref05_Check.calls k p0 p1 p2 p3 p4 p5 p6 p7 p8 p9 p10 p11 0 _ H.out).mono ?_); rintro e w2 ⟨rfl, hb⟩)
  have BK2 := Aside0.mk (blk_below BK.out hb)
  have HB2 := Aside0.mk (below_then HB.out HB.out.size hb)
  clear hb BK HB c0 c1 c2 c3 c4 c5 c6 c7 c8 c9 c10 c11
  have HS0 : Aside0 (Seen w w2 w2.heap.size gb #[.int .i64 p0, .int .i64 p1, .int .i64 p2, .int .i64 p3, .int .i64 p4, .int .i64 p5, .int .i64 p6, .int .i64 p7, .int .i64 p8, .int .i64 p9, .int .i64 p10, .int .i64 p11] (.slice none 0 0) 0 []) := ⟨⟨HB2.out, BK2.out, World.ownsRow_nil _ _ _ _, Nat.le_refl _, HB2.out.size, blk_lt BK2.out⟩⟩
  clear BK2 HB2
  obtain ⟨B, hB⟩ : ∃ B, w2.heap.size = B := ⟨_, rfl⟩
  rw [hB] at HS0
  clear hB
  go_wp2_with fail
  go_loopg [8, 9] l.length (fun kq v9 v25 w' => ∃ i : Nat, v25 = .int .i64 (i : Int) ∧ i ≤ l.length ∧ l.length - i ≤ kq ∧ Aside0 (∀ k, k < i → 0 ≤ l.getD k 0 ∧ l.getD k 0 ≤ s) ∧ Aside0 (Seen w w' B gb #[.int .i64 p0, .int .i64 p1, .int .i64 p2, .int .i64 p3, .int .i64 p4, .int .i64 p5, .int .i64 p6, .int .i64 p7, .int .i64 p8, .int .i64 p9, .int .i64 p10, .int .i64 p11] v9 i ((l.take i).map (rx p0))))
  case atStart => exact ⟨0, rfl, by omega, by omega, ⟨fun k hk => by omega⟩, HS0⟩
  case round =>
    obtain ⟨i, rfl, hi, hk, HO, HS⟩ := hrel
    clear HS0
    by_cases hlt : i < l.length
    · cases gk with
      | zero => omega
      | succ k1 =>
        obtain ⟨ad, rfl, hcell⟩ := load_int (R1.out.below HS.out.below) i hlt
        obtain ⟨z, hz⟩ : ∃ z, l.getD i 0 = z := ⟨_, rfl⟩
        rw [hz] at hcell
        have HZ := Aside0.mk hz
        clear hz
        have d0 : decide ((i : Int) < (l.length : Int)) = true := decide_eq_true (by omega)
        have p0' : (0 : Int) ≤ (i : Int) := by omega
        have p1' : (i : Int) < (l.length : Int) := by omega
        have c0 : wr.cell? ⟨gb, 0, none⟩ = some (.int .i64 p0) := (blk_cell HS.out.box 0).trans rfl; have c1 : wr.cell? ⟨gb, 1, none⟩ = some (.int .i64 p1) := (blk_cell HS.out.box 1).trans rfl; have c2 : wr.cell? ⟨gb, 2, none⟩ = some (.int .i64 p2) := (blk_cell HS.out.box 2).trans rfl; have c3 : wr.cell? ⟨gb, 3, none⟩ = some (.int .i64 p3) := (blk_cell HS.out.box 3).trans rfl; have c4 : wr.cell? ⟨gb, 4, none⟩ = some (.int .i64 p4) := (blk_cell HS.out.box 4).trans rfl; have c5 : wr.cell? ⟨gb, 5, none⟩ = some (.int .i64 p5) := (blk_cell HS.out.box 5).trans rfl; have c6 : wr.cell? ⟨gb, 6, none⟩ = some (.int .i64 p6) := (blk_cell HS.out.box 6).trans rfl; have c7 : wr.cell? ⟨gb, 7, none⟩ = some (.int .i64 p7) := (blk_cell HS.out.box 7).trans rfl; have c8 : wr.cell? ⟨gb, 8, none⟩ = some (.int .i64 p8) := (blk_cell HS.out.box 8).trans rfl; have c9 : wr.cell? ⟨gb, 9, none⟩ = some (.int .i64 p9) := (blk_cell HS.out.box 9).trans rfl; have c10 : wr.cell? ⟨gb, 10, none⟩ = some (.int .i64 p10) := (blk_cell HS.out.box 10).trans rfl; have c11 : wr.cell? ⟨gb, 11, none⟩ = some (.int .i64 p11) := (blk_cell HS.out.box 11).trans rfl
        go_wp2_with fail
        refine start_ (n := 11) (S := (fun w' => w'.cell? ⟨gb, 0, none⟩ = some (.int .i64 p0) ∧ w'.cell? ⟨gb, 1, none⟩ = some (.int .i64 p1) ∧ w'.cell? ⟨gb, 2, none⟩ = some (.int .i64 p2) ∧ w'.cell? ⟨gb, 3, none⟩ = some (.int .i64 p3) ∧ w'.cell? ⟨gb, 4, none⟩ = some (.int .i64 p4) ∧ w'.cell? ⟨gb, 5, none⟩ = some (.int .i64 p5) ∧ w'.cell? ⟨gb, 6, none⟩ = some (.int .i64 p6) ∧ w'.cell? ⟨gb, 7, none⟩ = some (.int .i64 p7) ∧ w'.cell? ⟨gb, 8, none⟩ = some (.int .i64 p8) ∧ w'.cell? ⟨gb, 9, none⟩ = some (.int .i64 p9) ∧ w'.cell? ⟨gb, 10, none⟩ = some (.int .i64 p10) ∧ w'.cell? ⟨gb, 11, none⟩ = some (.int .i64 p11) ∧ w'.cell? (ad.add i) = some (.int .i64 z))) (ds := [5]) #[false, false, false, false, false, false, false, false, false, false, false] (by kernel_rfl) rfl rfl ⟨c0, c1, c2, c3, c4, c5, c6, c7, c8, c9, c10, c11, hcell⟩ (fun hHeld => ?_); refine with_tabW rtree.tab7 rtree.bits7 (fun HT_ HW_ => ?_)
        refine take_ (i := 0) (N := (some 25)) (v := ?_) (a' := ?_) #[true, false, false, false, false, false, false, false, false, false, false] rfl rfl (take_ofW HT_.out HW_.out (by kernel_rfl)) (fun _ _ _ h => h) (Or.inl ⟨by rfl, ?_⟩) hHeld ?_ ?_
        rotate_left
        · rintro w' ⟨s0, s1, s2, s3, s4, s5, s6, s7, s8, s9, s10, s11, s12⟩
          go_simp
          with_reducible rfl
        rotate_left
        · simp only [Act.put, List.setIfInBounds_toArray, List.set_cons_zero, List.set_cons_succ, i64_w, i32_w]
          rfl
        refine pure_ (i := 1) (N := (some 26)) (v := ?_) (a' := ?_) #[true, true, false, false, false, false, false, false, false, false, false] rfl rfl (any_of HT_.out (by kernel_rfl)) (fun _ _ _ h => h) (Or.inl ⟨by rfl, ?_⟩) ?_ ?_
        rotate_left
        · intro w'
          go_simp
          with_reducible rfl
        rotate_left
        · simp only [Act.put, List.setIfInBounds_toArray, List.set_cons_zero, List.set_cons_succ, i64_w, i32_w]
          rfl
        refine pure_ (i := 2) (N := (some 27)) (v := ?_) (a' := ?_) #[true, true, true, false, false, false, false, false, false, false, false] rfl rfl (any_of HT_.out (by kernel_rfl)) (fun _ _ _ h => h) (Or.inl ⟨by rfl, ?_⟩) ?_ ?_
        rotate_left
        · intro w'
          go_simp
          with_reducible rfl
        rotate_left
        · simp only [Act.put, List.setIfInBounds_toArray, List.set_cons_zero, List.set_cons_succ, i64_w, i32_w]
          rfl
        refine pure_ (i := 3) (N := (some 28)) (v := ?_) (a' := ?_) #[true, true, true, true, false, false, false, false, false, false, false] rfl rfl (any_of HT_.out (by kernel_rfl)) (fun _ _ _ h => h) (Or.inl ⟨by rfl, ?_⟩) ?_ ?_
        rotate_left
        · intro w'
          go_simp
          with_reducible rfl
        rotate_left
        · simp only [Act.put, List.setIfInBounds_toArray, List.set_cons_zero, List.set_cons_succ, i64_w, i32_w]
          rfl
        refine take_ (i := 4) (N := (some 29)) (v := ?_) (a' := ?_) #[true, true, true, true, true, false, false, false, false, false, false] rfl rfl (take_ofW HT_.out HW_.out (by kernel_rfl)) (fun _ _ _ h => h) (Or.inl ⟨by rfl, ?_⟩) hHeld ?_ ?_
        rotate_left
        · rintro w' ⟨s0, s1, s2, s3, s4, s5, s6, s7, s8, s9, s10, s11, s12⟩
          go_simp
          with_reducible rfl
        rotate_left
        · simp only [Act.put, List.setIfInBounds_toArray, List.set_cons_zero, List.set_cons_succ, i64_w, i32_w]
          rfl
        refine last_ (i := 5) (N := (some 30)) #[true, true, true, true, true, true, false, false, false, false, false] rfl rfl (one_of HT_.out (by kernel_rfl)) (by decide) (fun K hK => ?_)
        refine goes_ Try.func12 (by kernel_rfl) rfl #[.agg #[.int .i64 p0, .int .i64 p1, .int .i64 p2, .int .i64 p3, .int .i64 p4, .int .i64 p5, .int .i64 p6, .int .i64 p7, .int .i64 p8, .int .i64 p9, .int .i64 p10, .int .i64 p11], .int .i64 z] (by rfl) rfl rfl (by simp [Act.eval]) ?_
        ((with_reducible refine (rfile_fine F.out RF.out z wr.drew).mono ?_); rintro e w2 ⟨x, y, r, rfl, hq, hb⟩)
        refine ⟨_, rfl, ?_⟩
        have HS2 := Aside0.mk (HS.out.drew.later hb)
        have HQ := Aside0.mk hq
        clear HS hb hq hcell hHeld c0 c1 c2 c3 c4 c5 c6 c7 c8 c9 c10 c11
        have HS := HS2
        clear HS2
        refine hK.out _ _ ?_
        clear hK K
        refine norm_ (a' := ?_) ?_ ?_
        rotate_left
        · show Act.put _ (some 30) _ = _
          simp only [Act.put, List.setIfInBounds_toArray, List.set_cons_zero, List.set_cons_succ, i64_w, i32_w]
          rfl
        refine pure_ (i := 6) (N := (some 24)) (v := ?_) (a' := ?_) #[true, true, true, true, true, true, true, false, false, false, false] rfl rfl (any_of HT_.out (by kernel_rfl)) (fun _ _ _ h => h) (Or.inl ⟨by rfl, ?_⟩) ?_ ?_
        rotate_left
        · intro w'
          go_simp
          with_reducible rfl
        rotate_left
        · simp only [Act.put, List.setIfInBounds_toArray, List.set_cons_zero, List.set_cons_succ, i64_w, i32_w]
          rfl
        refine pure_ (i := 7) (N := (some 31)) (v := ?_) (a' := ?_) #[true, true, true, true, true, true, true, true, false, false, false] rfl rfl (any_of HT_.out (by kernel_rfl)) (fun _ _ _ h => h) (Or.inl ⟨by rfl, ?_⟩) ?_ ?_
        rotate_left
        · intro w'
          go_simp
          with_reducible rfl
        rotate_left
        · simp only [Act.put, List.setIfInBounds_toArray, List.set_cons_zero, List.set_cons_succ, i64_w, i32_w]
          rfl
        refine pure_ (i := 8) (N := (some 32)) (v := ?_) (a' := ?_) #[true, true, true, true, true, true, true, true, true, false, false] rfl rfl (any_of HT_.out (by kernel_rfl)) (fun _ _ _ h => h) (Or.inl ⟨by rfl, ?_⟩) ?_ ?_
        rotate_left
        · intro w'
          go_simp
          with_reducible rfl
        rotate_left
        · simp only [Act.put, List.setIfInBounds_toArray, List.set_cons_zero, List.set_cons_succ, i64_w, i32_w]
          rfl
        refine pure_ (i := 9) (N := (some 10)) (v := ?_) (a' := ?_) #[true, true, true, true, true, true, true, true, true, true, false] rfl rfl (any_of HT_.out (by kernel_rfl)) (fun _ _ _ h => h) (Or.inl ⟨by rfl, ?_⟩) ?_ ?_
        rotate_left
        · intro w'
          go_simp
          with_reducible rfl
        rotate_left
        · simp only [Act.put, List.setIfInBounds_toArray, List.set_cons_zero, List.set_cons_succ, i64_w, i32_w]
          rfl
        refine pure_ (i := 10) (N := (some 11)) (v := ?_) (a' := ?_) #[true, true, true, true, true, true, true, true, true, true, true] rfl rfl (any_of HT_.out (by kernel_rfl)) (fun _ _ _ h => h) (Or.inl ⟨by rfl, ?_⟩) ?_ ?_
        rotate_left
        · intro w'
          go_simp
          with_reducible rfl
        rotate_left
        · simp only [Act.put, List.setIfInBounds_toArray, List.set_cons_zero, List.set_cons_succ, i64_w, i32_w]
          rfl
        refine done_ (done_of HT_.out (by kernel_rfl)) ?_
        rcases HQ.out with ⟨hq, rfl, rfl, rfl⟩ | hq
        · clear HQ
          have HQ := Aside0.mk hq
          clear hq
          obtain ⟨i25, hi25⟩ := Option.map_eq_some_iff.1 infoCx
          simp only [Prod.mk.injEq] at hi25
          obtain ⟨hi25, hz25, hs25, hb25⟩ := hi25
          go_wp2_with (at_builtin; refine wpList_append_own _ (by rfl) (.tmp 36) (.tmp 38) 36 (by rfl) B 25 i25 (.complex .f64 0 0) 1 16 Try.underlying36 hi25 hz25 hs25 hb25 rfl (by decide) u8 (i) _ (by rfl) (HS.out.row.alloc _) ⟨w2.heap.size, 0, none⟩ 1 1 [(.complex .f64 (floatOfInt .f64 (Pure.blocks p0 (z))) (floatOfInt .f64 1))] (by rfl) rfl (news_one w2 _ _) (by simp [Value.oneCell']) (by unfold maxLen; omega) (by omega) (by have := HS.out.size; simp; omega) ?_; intro v' w' hown hgr _; have HR := Aside0.mk hown; have HGr := Aside0.mk hgr; clear hown hgr)
          clear hi25 hz25 hs25 hb25
          go_roundg k1
          case measure => omega
          case rel =>
            have hown := HR.out
            rw [← HZ.out] at hown
            have hgr := HGr.out
            refine ⟨i + 1, by go_num, by omega, by omega, ⟨?_⟩, ⟨?_⟩⟩
            · intro k hk
              by_cases e : k = i
              · subst e; rw [HZ.out]; exact HQ.out
              · exact HO.out k (by omega)
            · exact (HS.out.more hgr (by rw [← snoc_rx p0 l i hlt]; exact hown))
        · obtain ⟨rfl, rfl, rfl⟩ := hq.2
          clear HQ
          have HQ := Aside0.mk hq.1
          clear hq
          go_wp2
          go_ret2
          exact ⟨_, _, _, rfl, .inl ⟨fun h => HQ.out (by rw [← HZ.out]; exact h.1 i hlt), rfl, rfl, rfl⟩, HS.out.below⟩
    · obtain rfl : i = l.length := by omega
      have d0 : decide ((l.length : Int) < (l.length : Int)) = false := decide_eq_false (by omega)
      have HSl : Aside0 (Seen w wr B gb #[.int .i64 p0, .int .i64 p1, .int .i64 p2, .int .i64 p3, .int .i64 p4, .int .i64 p5, .int .i64 p6, .int .i64 p7, .int .i64 p8, .int .i64 p9, .int .i64 p10, .int .i64 p11] u8 l.length (l.map (rx p0))) := ⟨by have := HS.out; rwa [List.take_length] at this⟩
      clear hlt hk hi HS
      have OK1 := HO
      clear HO
      obtain ⟨wo, rfl⟩ : ∃ wo : World, wo = wr := ⟨_, rfl⟩
      obtain ⟨uo, rfl⟩ : ∃ uo : Value, uo = u8 := ⟨_, rfl⟩
      go_wp2_with fail
      go_loopg [8, 12] m.length (fun kq v9 v45 w' => ∃ i : Nat, v45 = .int .i64 (i : Int) ∧ i ≤ m.length ∧ m.length - i ≤ kq ∧ Aside0 (∀ k, k < i → 0 ≤ m.getD k 0 ∧ m.getD k 0 ≤ s / 16) ∧ Aside0 (Seen w w' B gb #[.int .i64 p0, .int .i64 p1, .int .i64 p2, .int .i64 p3, .int .i64 p4, .int .i64 p5, .int .i64 p6, .int .i64 p7, .int .i64 p8, .int .i64 p9, .int .i64 p10, .int .i64 p11] v9 (l.length + i) (l.map (rx p0) ++ (m.take i).map (fun n => rx p0 (dsize p0 n)))))
      case atStart => exact ⟨0, rfl, by omega, by omega, ⟨fun k hk => by omega⟩, ⟨by have := HSl.out; simpa using this⟩⟩
      case round =>
        obtain ⟨i, rfl, hi, hk, HO, HS⟩ := hrel
        clear HSl
        by_cases hlt : i < m.length
        · cases gk with
          | zero => omega
          | succ k1 =>
            obtain ⟨ad, rfl, hcell⟩ := load_int (R2.out.below HS.out.below) i hlt
            obtain ⟨z, hz⟩ : ∃ z, m.getD i 0 = z := ⟨_, rfl⟩
            rw [hz] at hcell
            have HZ := Aside0.mk hz
            clear hz
            have d0 : decide ((i : Int) < (m.length : Int)) = true := decide_eq_true (by omega)
            have p0' : (0 : Int) ≤ (i : Int) := by omega
            have p1' : (i : Int) < (m.length : Int) := by omega
            have c0 : wr.cell? ⟨gb, 0, none⟩ = some (.int .i64 p0) := (blk_cell HS.out.box 0).trans rfl; have c1 : wr.cell? ⟨gb, 1, none⟩ = some (.int .i64 p1) := (blk_cell HS.out.box 1).trans rfl; have c2 : wr.cell? ⟨gb, 2, none⟩ = some (.int .i64 p2) := (blk_cell HS.out.box 2).trans rfl; have c3 : wr.cell? ⟨gb, 3, none⟩ = some (.int .i64 p3) := (blk_cell HS.out.box 3).trans rfl; have c4 : wr.cell? ⟨gb, 4, none⟩ = some (.int .i64 p4) := (blk_cell HS.out.box 4).trans rfl; have c5 : wr.cell? ⟨gb, 5, none⟩ = some (.int .i64 p5) := (blk_cell HS.out.box 5).trans rfl; have c6 : wr.cell? ⟨gb, 6, none⟩ = some (.int .i64 p6) := (blk_cell HS.out.box 6).trans rfl; have c7 : wr.cell? ⟨gb, 7, none⟩ = some (.int .i64 p7) := (blk_cell HS.out.box 7).trans rfl; have c8 : wr.cell? ⟨gb, 8, none⟩ = some (.int .i64 p8) := (blk_cell HS.out.box 8).trans rfl; have c9 : wr.cell? ⟨gb, 9, none⟩ = some (.int .i64 p9) := (blk_cell HS.out.box 9).trans rfl; have c10 : wr.cell? ⟨gb, 10, none⟩ = some (.int .i64 p10) := (blk_cell HS.out.box 10).trans rfl; have c11 : wr.cell? ⟨gb, 11, none⟩ = some (.int .i64 p11) := (blk_cell HS.out.box 11).trans rfl
            go_wp2_with fail
            refine start_ (n := 11) (S := (fun w' => w'.cell? ⟨gb, 0, none⟩ = some (.int .i64 p0) ∧ w'.cell? ⟨gb, 1, none⟩ = some (.int .i64 p1) ∧ w'.cell? ⟨gb, 2, none⟩ = some (.int .i64 p2) ∧ w'.cell? ⟨gb, 3, none⟩ = some (.int .i64 p3) ∧ w'.cell? ⟨gb, 4, none⟩ = some (.int .i64 p4) ∧ w'.cell? ⟨gb, 5, none⟩ = some (.int .i64 p5) ∧ w'.cell? ⟨gb, 6, none⟩ = some (.int .i64 p6) ∧ w'.cell? ⟨gb, 7, none⟩ = some (.int .i64 p7) ∧ w'.cell? ⟨gb, 8, none⟩ = some (.int .i64 p8) ∧ w'.cell? ⟨gb, 9, none⟩ = some (.int .i64 p9) ∧ w'.cell? ⟨gb, 10, none⟩ = some (.int .i64 p10) ∧ w'.cell? ⟨gb, 11, none⟩ = some (.int .i64 p11) ∧ w'.cell? (ad.add i) = some (.int .i64 z))) (ds := [5]) #[false, false, false, false, false, false, false, false, false, false, false] (by kernel_rfl) rfl rfl ⟨c0, c1, c2, c3, c4, c5, c6, c7, c8, c9, c10, c11, hcell⟩ (fun hHeld => ?_); refine with_tabW rtree.tab14 rtree.bits14 (fun HT_ HW_ => ?_)
            refine take_ (i := 0) (N := (some 47)) (v := ?_) (a' := ?_) #[true, false, false, false, false, false, false, false, false, false, false] rfl rfl (take_ofW HT_.out HW_.out (by kernel_rfl)) (fun _ _ _ h => h) (Or.inl ⟨by rfl, ?_⟩) hHeld ?_ ?_
            rotate_left
            · rintro w' ⟨s0, s1, s2, s3, s4, s5, s6, s7, s8, s9, s10, s11, s12⟩
              go_simp
              with_reducible rfl
            rotate_left
            · simp only [Act.put, List.setIfInBounds_toArray, List.set_cons_zero, List.set_cons_succ, i64_w, i32_w]
              rfl
            refine pure_ (i := 1) (N := (some 48)) (v := ?_) (a' := ?_) #[true, true, false, false, false, false, false, false, false, false, false] rfl rfl (any_of HT_.out (by kernel_rfl)) (fun _ _ _ h => h) (Or.inl ⟨by rfl, ?_⟩) ?_ ?_
            rotate_left
            · intro w'
              go_simp
              with_reducible rfl
            rotate_left
            · simp only [Act.put, List.setIfInBounds_toArray, List.set_cons_zero, List.set_cons_succ, i64_w, i32_w]
              rfl
            refine pure_ (i := 2) (N := (some 49)) (v := ?_) (a' := ?_) #[true, true, true, false, false, false, false, false, false, false, false] rfl rfl (any_of HT_.out (by kernel_rfl)) (fun _ _ _ h => h) (Or.inl ⟨by rfl, ?_⟩) ?_ ?_
            rotate_left
            · intro w'
              go_simp
              with_reducible rfl
            rotate_left
            · simp only [Act.put, List.setIfInBounds_toArray, List.set_cons_zero, List.set_cons_succ, i64_w, i32_w]
              rfl
            refine pure_ (i := 3) (N := (some 50)) (v := ?_) (a' := ?_) #[true, true, true, true, false, false, false, false, false, false, false] rfl rfl (any_of HT_.out (by kernel_rfl)) (fun _ _ _ h => h) (Or.inl ⟨by rfl, ?_⟩) ?_ ?_
            rotate_left
            · intro w'
              go_simp
              with_reducible rfl
            rotate_left
            · simp only [Act.put, List.setIfInBounds_toArray, List.set_cons_zero, List.set_cons_succ, i64_w, i32_w]
              rfl
            refine take_ (i := 4) (N := (some 51)) (v := ?_) (a' := ?_) #[true, true, true, true, true, false, false, false, false, false, false] rfl rfl (take_ofW HT_.out HW_.out (by kernel_rfl)) (fun _ _ _ h => h) (Or.inl ⟨by rfl, ?_⟩) hHeld ?_ ?_
            rotate_left
            · rintro w' ⟨s0, s1, s2, s3, s4, s5, s6, s7, s8, s9, s10, s11, s12⟩
              go_simp
              with_reducible rfl
            rotate_left
            · simp only [Act.put, List.setIfInBounds_toArray, List.set_cons_zero, List.set_cons_succ, i64_w, i32_w]
              rfl
            refine last_ (i := 5) (N := (some 52)) #[true, true, true, true, true, true, false, false, false, false, false] rfl rfl (one_of HT_.out (by kernel_rfl)) (by decide) (fun K hK => ?_)
            refine goes_ Try.func13 (by kernel_rfl) rfl #[.agg #[.int .i64 p0, .int .i64 p1, .int .i64 p2, .int .i64 p3, .int .i64 p4, .int .i64 p5, .int .i64 p6, .int .i64 p7, .int .i64 p8, .int .i64 p9, .int .i64 p10, .int .i64 p11], .int .i64 z] (by rfl) rfl rfl (by simp [Act.eval]) ?_
            ((with_reducible refine (rdir_fine p0 p1 p2 p3 p4 p5 p6 p7 p8 p9 p10 p11 s F.out RF.out z wr.drew).mono ?_); rintro e w2 ⟨x, y, r, rfl, hq, hb⟩)
            refine ⟨_, rfl, ?_⟩
            have HS2 := Aside0.mk (HS.out.drew.later hb)
            have HQ := Aside0.mk hq
            clear HS hb hq hcell hHeld c0 c1 c2 c3 c4 c5 c6 c7 c8 c9 c10 c11
            have HS := HS2
            clear HS2
            refine hK.out _ _ ?_
            clear hK K
            refine norm_ (a' := ?_) ?_ ?_
            rotate_left
            · show Act.put _ (some 52) _ = _
              simp only [Act.put, List.setIfInBounds_toArray, List.set_cons_zero, List.set_cons_succ, i64_w, i32_w]
              rfl
            refine pure_ (i := 6) (N := (some 46)) (v := ?_) (a' := ?_) #[true, true, true, true, true, true, true, false, false, false, false] rfl rfl (any_of HT_.out (by kernel_rfl)) (fun _ _ _ h => h) (Or.inl ⟨by rfl, ?_⟩) ?_ ?_
            rotate_left
            · intro w'
              go_simp
              with_reducible rfl
            rotate_left
            · simp only [Act.put, List.setIfInBounds_toArray, List.set_cons_zero, List.set_cons_succ, i64_w, i32_w]
              rfl
            refine pure_ (i := 7) (N := (some 53)) (v := ?_) (a' := ?_) #[true, true, true, true, true, true, true, true, false, false, false] rfl rfl (any_of HT_.out (by kernel_rfl)) (fun _ _ _ h => h) (Or.inl ⟨by rfl, ?_⟩) ?_ ?_
            rotate_left
            · intro w'
              go_simp
              with_reducible rfl
            rotate_left
            · simp only [Act.put, List.setIfInBounds_toArray, List.set_cons_zero, List.set_cons_succ, i64_w, i32_w]
              rfl
            refine pure_ (i := 8) (N := (some 54)) (v := ?_) (a' := ?_) #[true, true, true, true, true, true, true, true, true, false, false] rfl rfl (any_of HT_.out (by kernel_rfl)) (fun _ _ _ h => h) (Or.inl ⟨by rfl, ?_⟩) ?_ ?_
            rotate_left
            · intro w'
              go_simp
              with_reducible rfl
            rotate_left
            · simp only [Act.put, List.setIfInBounds_toArray, List.set_cons_zero, List.set_cons_succ, i64_w, i32_w]
              rfl
            refine pure_ (i := 9) (N := (some 13)) (v := ?_) (a' := ?_) #[true, true, true, true, true, true, true, true, true, true, false] rfl rfl (any_of HT_.out (by kernel_rfl)) (fun _ _ _ h => h) (Or.inl ⟨by rfl, ?_⟩) ?_ ?_
            rotate_left
            · intro w'
              go_simp
              with_reducible rfl
            rotate_left
            · simp only [Act.put, List.setIfInBounds_toArray, List.set_cons_zero, List.set_cons_succ, i64_w, i32_w]
              rfl
            refine pure_ (i := 10) (N := (some 14)) (v := ?_) (a' := ?_) #[true, true, true, true, true, true, true, true, true, true, true] rfl rfl (any_of HT_.out (by kernel_rfl)) (fun _ _ _ h => h) (Or.inl ⟨by rfl, ?_⟩) ?_ ?_
            rotate_left
            · intro w'
              go_simp
              with_reducible rfl
            rotate_left
            · simp only [Act.put, List.setIfInBounds_toArray, List.set_cons_zero, List.set_cons_succ, i64_w, i32_w]
              rfl
            refine done_ (done_of HT_.out (by kernel_rfl)) ?_
            rcases HQ.out with ⟨hq, rfl, rfl, rfl⟩ | hq
            · clear HQ
              have HQ := Aside0.mk hq
              clear hq
              obtain ⟨i25, hi25⟩ := Option.map_eq_some_iff.1 infoCx
              simp only [Prod.mk.injEq] at hi25
              obtain ⟨hi25, hz25, hs25, hb25⟩ := hi25
              go_wp2_with (at_builtin; refine wpList_append_own _ (by rfl) (.tmp 58) (.tmp 60) 36 (by rfl) B 25 i25 (.complex .f64 0 0) 1 16 Try.underlying36 hi25 hz25 hs25 hb25 rfl (by decide) u8 (l.length + i) _ (by rfl) (HS.out.row.alloc _) ⟨w2.heap.size, 0, none⟩ 1 1 [(.complex .f64 (floatOfInt .f64 (Pure.blocks p0 (dsize p0 z))) (floatOfInt .f64 1))] (by rfl) rfl (news_one w2 _ _) (by simp [Value.oneCell']) (by unfold maxLen; omega) (by omega) (by have := HS.out.size; simp; omega) ?_; intro v' w' hown hgr _; have HR := Aside0.mk hown; have HGr := Aside0.mk hgr; clear hown hgr)
              clear hi25 hz25 hs25 hb25
              go_roundg k1
              case measure => omega
              case rel =>
                have hown := HR.out
                rw [← HZ.out] at hown
                have hgr := HGr.out
                refine ⟨i + 1, by go_num, by omega, by omega, ⟨?_⟩, ⟨?_⟩⟩
                · intro k hk
                  by_cases e : k = i
                  · subst e; rw [HZ.out]; exact HQ.out
                  · exact HO.out k (by omega)
                · exact (HS.out.more hgr (by rw [← snoc_drx p0 _ m i hlt, ← Nat.add_assoc]; exact hown))
            · obtain ⟨rfl, rfl, rfl⟩ := hq.2
              clear HQ
              have HQ := Aside0.mk hq.1
              clear hq
              go_wp2
              go_ret2
              exact ⟨_, _, _, rfl, .inl ⟨fun h => HQ.out (by rw [← HZ.out]; exact h.2 i hlt), rfl, rfl, rfl⟩, HS.out.below⟩
        · obtain rfl : i = m.length := by omega
          have d0 : decide ((m.length : Int) < (m.length : Int)) = false := decide_eq_false (by omega)
          have HSm : Aside0 (Seen w wr B gb #[.int .i64 p0, .int .i64 p1, .int .i64 p2, .int .i64 p3, .int .i64 p4, .int .i64 p5, .int .i64 p6, .int .i64 p7, .int .i64 p8, .int .i64 p9, .int .i64 p10, .int .i64 p11] u8 (l.length + m.length) ((sizes p0 l m).map (rx p0))) := ⟨by have := HS.out; rw [List.take_length] at this; unfold sizes; rw [List.map_append, List.map_map]; exact this⟩
          clear hlt hk hi HS
          have HK := Aside0.mk (rsum_row F.out OK1.out HO.out hlen HSm.out)
          obtain ⟨A, cap, rfl, HKs⟩ := HK.out
          clear HK
          have HK := Aside0.mk HKs
          clear HKs
          go_wp2_with fail
          ((with_reducible refine HK.out.mono ?_); rintro e w2 ⟨x, y, r, rfl, hq, hb⟩)
          have HQ := Aside0.mk hq
          have HSn := Aside0.mk (HSm.out.later hb)
          clear hq HK hb
          go_wp2
          go_ret2
          exact ⟨_, _, _, rfl, .inr ⟨⟨OK1.out, HO.out⟩, HQ.out⟩, HSn.out.below⟩
end Go.Proofs.Ytdjlbbfgobbcmaa.Need
