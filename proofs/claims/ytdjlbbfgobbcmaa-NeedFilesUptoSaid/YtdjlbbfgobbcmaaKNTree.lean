/- What a tree needs: a contract. -/
import Derived.Test.YtdjlbbfgobbcmaaKNDir
import Derived.Deep.AppendLies
import Derived.Lib.SmallJoins
import Derived.OwnWalk
import Derived.LoopTactic
namespace Go.Proofs.Ytdjlbbfgobbcmaa.Need
open Go.RowKit Go.Proofs.Ytdjlbbfgobbcmaa.PNeedFiles Go.Proofs.Ytdjlbbfgobbcmaa.PlainFloat Go.Proofs.Ytdjlbbfgobbcmaa.Turn Go.Proofs.YtdjlbbfgobbcmaaW.PrintWords Go.Proofs.YtdjlbbfgobbcmaaW.PrintLast Go.Proofs.YtdjlbbfgobbcmaaW.PrintMore
set_option linter.unusedVariables false
set_option linter.unusedSimpArgs false

/-- One amount. -/
def cx (p0 n : Int) : Value := .complex .f64 (floatOfInt .f64 (Pure.blocks p0 n)) 4607182418800017408
def FilesOk (s : Int) (l : List Int) : Prop := ∀ k, k < l.length → 0 ≤ l.getD k 0 ∧ l.getD k 0 ≤ s
def DirsOk (s : Int) (l : List Int) : Prop := ∀ k, k < l.length → 0 ≤ l.getD k 0 ∧ l.getD k 0 ≤ s / 16
/-- How many bytes each thing of a tree has. -/
def sizes (p0 : Int) (l m : List Int) : List Int := l ++ m.map (dsize p0)
/-- Their blocks together. -/
def all (p0 : Int) (l : List Int) : Int := tot (fun k => Pure.blocks p0 (l.getD k 0)) l.length
/-- What is answered for a tree. -/
def TreeOut (p0 s : Int) (l m : List Int) (x y : Nat) (r : Int) : Prop := (¬ (FilesOk s l ∧ DirsOk s m) ∧ r = 2 ∧ x = 0 ∧ y = 0) ∨ ((FilesOk s l ∧ DirsOk s m) ∧ SumOut (all p0 (sizes p0 l m)) ((l.length + m.length : Nat) : Int) x y r)
theorem cx_cell (p0 : Int) (n : Int) : (cx p0 n).oneCell' = true := rfl
theorem tot_one (n : Nat) : tot (fun _ => 1) n = (n : Int) := by
  induction n with
  | zero => rfl
  | succ n ih => show tot (fun _ => 1) n + 1 = _; rw [ih]; omega
theorem news_one (w : World) (v : Value) (t : TypeId) : ∀ j u, [v][j]? = some u → (w.alloc (.cells #[v] t)).cell? ((⟨w.heap.size, 0, none⟩ : Addr).add j) = some u := by
  intro j u h
  cases j with
  | zero => rw [add_plain, blk_cell (blk_new w (.cells #[v] t))]; simpa using h
  | succ j => simp at h
theorem infoCx : (Try.prog.info? 25).map (fun i => (i.zero, i.size, i.bytes)) = some (some (.complex .f64 0 0), 1, 16) := by kernel_rfl
theorem load_int {w : World} {A : Option Addr} {l : List Int} (h : ReadsInt w .i64 A l.length l) (i : Nat) (hi : i < l.length) : ∃ ad, A = some ad ∧ w.cell? (ad.add i) = some (.int .i64 (l.getD i 0)) := by
  obtain ⟨ad, e, hc⟩ := h.at_ (i : Int) (by omega) (by omega)
  refine ⟨ad, e, ?_⟩
  simpa [rd] using hc
theorem snoc_cx (p0 : Int) (l : List Int) (i : Nat) (hi : i < l.length) : (l.take i).map (cx p0) ++ [cx p0 (l.getD i 0)] = (l.take (i + 1)).map (cx p0) := by
  rw [List.take_succ_eq_append_getElem hi, List.map_append]
  simp [List.getD, List.getElem?_eq_getElem hi]
theorem snoc_dx (p0 : Int) (xs : List Value) (l : List Int) (i : Nat) (hi : i < l.length) : xs ++ (l.take i).map (fun n => cx p0 (dsize p0 n)) ++ [cx p0 (dsize p0 (l.getD i 0))] = xs ++ (l.take (i + 1)).map (fun n => cx p0 (dsize p0 n)) := by
  rw [List.take_succ_eq_append_getElem hi, List.map_append, List.append_assoc]
  simp [List.getD, List.getElem?_eq_getElem hi]
/-- What is seen of the world in a loop of Tree. -/
structure Seen (w wr : World) (B gb : Nat) (cs : Array Value) (v : Value) (n : Nat) (xs : List Value) : Prop where
  below : Below w.heap.size w wr
  box : wr.heap[gb]? = some (.cells cs 23 (0, 0))
  row : wr.ownsRow B 25 1 v n xs
  size : B ≤ wr.heap.size
  low : w.heap.size ≤ B
  lt : gb < B
theorem Seen.later {w wr w2 : World} {B gb : Nat} {cs : Array Value} {v : Value} {n : Nat} {xs : List Value} (H : Seen w wr B gb cs v n xs) (hb : Below wr.heap.size wr w2) : Seen w w2 B gb cs v n xs := by
  refine ⟨below_then H.below H.below.size hb, blk_below H.box hb, ?_, Nat.le_trans H.size hb.size, H.low, H.lt⟩
  exact H.row.kept (grown_of_below hb none) (by cases hv : v.ownBlock with | none => exact .inl rfl | some k => exact .inr (by simp))
theorem Seen.more {w wr w2 : World} {B gb : Nat} {cs : Array Value} {v v2 : Value} {n m : Nat} {xs ys : List Value} (H : Seen w wr B gb cs v n xs) {o : Obj} (hg : (wr.alloc o).grownBy w2 v.ownBlock) (hr : w2.ownsRow B 25 1 v2 m ys) : Seen w w2 B gb cs v2 m ys := by
  have hk : ∀ k, v.ownBlock = some k → B ≤ k := fun k e => (H.row.lt k e).1
  refine ⟨(H.below.alloc H.below.size _).grown hg (by have := H.below.size; simp; omega) fun k e => Nat.le_trans H.low (hk k e), ?_, hr, ?_, H.low, H.lt⟩
  · refine blk_grown (blk_alloc H.box _) hg (fun e => ?_)
    have := hk gb e.symm
    have := H.lt
    omega
  · have z1 := hg.size
    have z2 := H.size
    simp at z1
    omega
/-- The row that is summed. -/
theorem sum_row {p0 p1 p2 p3 p4 p5 p6 p7 p8 p9 p10 p11 s : Int} {l m : List Int} {w wr : World} {B gb : Nat} {cs : Array Value} {v : Value} (F : Fine p0 p1 p2 p3 p4 p5 p6 p7 p8 p9 p10 p11 s) (h1 : FilesOk s l) (h2 : DirsOk s m) (hlen : l.length + m.length ≤ 2097300)
    (H : Seen w wr B gb cs v (l.length + m.length) ((sizes p0 l m).map (cx p0))) :
    ∃ A cap, v = .slice A (l.length + m.length) cap ∧ Calls Try.prog 11 #[.slice A (l.length + m.length) cap] wr (SumEnds (all p0 (sizes p0 l m)) ((l.length + m.length : Nat) : Int) wr) := by
  have hsz : (sizes p0 l m).length = l.length + m.length := by unfold sizes; rw [List.length_append, List.length_map]
  have hpart : ∀ k, k < l.length + m.length → 0 ≤ (sizes p0 l m).getD k 0 ∧ (sizes p0 l m).getD k 0 ≤ s := by
    intro k hk
    unfold sizes
    by_cases c : k < l.length
    · rw [List.getD_eq_getElem?_getD, List.getElem?_append_left c, ← List.getD_eq_getElem?_getD]; exact h1 k c
    · rw [List.getD_eq_getElem?_getD, List.getElem?_append_right (by omega)]
      have hk2 : k - l.length < m.length := by omega
      have := h2 (k - l.length) hk2
      rw [List.getElem?_map, List.getElem?_eq_getElem hk2]
      rw [List.getD_eq_getElem?_getD, List.getElem?_eq_getElem hk2] at this
      exact dsize_ok F.size F.two this.1 this.2
  have key : ∀ A g cap, (l.length + m.length = 0 ∨ A = some ⟨g, 0, none⟩) → (∀ k, k < l.length + m.length → wr.cell? ⟨g, k, none⟩ = some (.complex .f64 (floatOfInt .f64 (Pure.blocks p0 ((sizes p0 l m).getD k 0))) 4607182418800017408)) →
      Calls Try.prog 11 #[.slice A (l.length + m.length) cap] wr (SumEnds (all p0 (sizes p0 l m)) ((l.length + m.length : Nat) : Int) wr) := by
    intro A g cap hA hc
    have h := sum_calls wr (fun k => floatOfInt .f64 (Pure.blocks p0 ((sizes p0 l m).getD k 0))) (fun _ => 4607182418800017408) (fun k => Pure.blocks p0 ((sizes p0 l m).getD k 0)) (fun _ => 1) A g (l.length + m.length) cap (by omega) (fun k hk => ?_) hc ?_ hA
    · unfold all
      rw [hsz]
      rw [tot_one] at h
      exact h
    · have hp := hpart k hk
      have hb := Pure.blocks_part F.two hp.1 (Int.le_trans hp.2 F.high)
      exact ⟨of_int (by omega), rep_one, hb, ⟨by decide, by decide⟩⟩
    · rw [tot_one]
      exact ⟨by omega, by omega⟩
  rcases Joins.ownsRow_forms H.row with ⟨rfl, h0⟩ | ⟨g, cap, rfl⟩
  · have := key none 0 0 (.inl h0) (fun k hk => by omega)
    exact ⟨none, 0, by rw [h0], this⟩
  · refine ⟨_, cap, rfl, key _ g cap (.inr rfl) fun k hk => ?_⟩
    rw [H.row.cellAt k (by omega), List.getElem?_map, List.getElem?_eq_getElem (by rw [hsz]; exact hk)]
    show some (cx p0 _) = some (cx p0 _)
    rw [List.getD_eq_getElem?_getD, List.getElem?_eq_getElem (by rw [hsz]; exact hk)]
    rfl
theorem tree_foul (p0 : Int) (p1 : Int) (p2 : Int) (p3 : Int) (p4 : Int) (p5 : Int) (p6 : Int) (p7 : Int) (p8 : Int) (p9 : Int) (p10 : Int) (p11 : Int) (F : Foul p0 p1 p2 p3 p4 p5 p6 p7 p8 p9 p10 p11) (v1 v2 : Value) (w : World) :
    Calls Try.prog 10 #[.agg #[.int .i64 p0, .int .i64 p1, .int .i64 p2, .int .i64 p3, .int .i64 p4, .int .i64 p5, .int .i64 p6, .int .i64 p7, .int .i64 p8, .int .i64 p9, .int .i64 p10, .int .i64 p11], v1, v2] w fun e w' => e = .returned (.tuple #[.complex .f64 0 0, .int .i64 4]) ∧ Below w.heap.size w w' := by
  have hu := Try.underlying23
  have H := Aside0.mk F.chk
  clear F
  go_enter Try.func10, Try.ntmps10
  go_wp2_with ((with_reducible refine gate_dst (N := 3) rfl ?_); refine box_event ?hg (N := 3) ?hd (cs := #[.int .i64 p0, .int .i64 p1, .int .i64 p2, .int .i64 p3, .int .i64 p4, .int .i64 p5, .int .i64 p6, .int .i64 p7, .int .i64 p8, .int .i64 p9, .int .i64 p10, .int .i64 p11]) (t := 23) ?hr ?_; (case hd => rfl); (case hg => rfl); (case hr => first | (go_simp; done) | (go_simp; rfl)); intro gb hg w1 hbox hb; have HB := Aside0.mk (below_step (Below.refl w.heap.size w) hb); have BK := Aside0.mk hbox; clear hb hbox hg; have c0 : w1.cell? ⟨gb, 0, none⟩ = some (.int .i64 p0) := (blk_cell BK.out 0).trans rfl; have c1 : w1.cell? ⟨gb, 1, none⟩ = some (.int .i64 p1) := (blk_cell BK.out 1).trans rfl; have c2 : w1.cell? ⟨gb, 2, none⟩ = some (.int .i64 p2) := (blk_cell BK.out 2).trans rfl; have c3 : w1.cell? ⟨gb, 3, none⟩ = some (.int .i64 p3) := (blk_cell BK.out 3).trans rfl; have c4 : w1.cell? ⟨gb, 4, none⟩ = some (.int .i64 p4) := (blk_cell BK.out 4).trans rfl; have c5 : w1.cell? ⟨gb, 5, none⟩ = some (.int .i64 p5) := (blk_cell BK.out 5).trans rfl; have c6 : w1.cell? ⟨gb, 6, none⟩ = some (.int .i64 p6) := (blk_cell BK.out 6).trans rfl; have c7 : w1.cell? ⟨gb, 7, none⟩ = some (.int .i64 p7) := (blk_cell BK.out 7).trans rfl; have c8 : w1.cell? ⟨gb, 8, none⟩ = some (.int .i64 p8) := (blk_cell BK.out 8).trans rfl; have c9 : w1.cell? ⟨gb, 9, none⟩ = some (.int .i64 p9) := (blk_cell BK.out 9).trans rfl; have c10 : w1.cell? ⟨gb, 10, none⟩ = some (.int .i64 p10) := (blk_cell BK.out 10).trans rfl; have c11 : w1.cell? ⟨gb, 11, none⟩ = some (.int .i64 p11) := (blk_cell BK.out 11).trans rfl)
  refine (plan_Check.calls p0 p1 p2 p3 p4 p5 p6 p7 p8 p9 p10 p11 4 _ H.out).mono ?_
  rintro e w2 ⟨rfl, hb⟩
  have BK2 := Aside0.mk (blk_below BK.out hb)
  have HB2 := Aside0.mk (below_then HB.out HB.out.size hb)
  clear c0 c1 c2 c3 c4 c5 c6 c7 c8 c9 c10 c11
  clear hb BK HB
  have BK := BK2
  have HB := HB2
  clear BK2 HB2
  have c0 : w2.cell? ⟨gb, 0, none⟩ = some (.int .i64 p0) := (blk_cell BK.out 0).trans rfl; have c1 : w2.cell? ⟨gb, 1, none⟩ = some (.int .i64 p1) := (blk_cell BK.out 1).trans rfl; have c2 : w2.cell? ⟨gb, 2, none⟩ = some (.int .i64 p2) := (blk_cell BK.out 2).trans rfl; have c3 : w2.cell? ⟨gb, 3, none⟩ = some (.int .i64 p3) := (blk_cell BK.out 3).trans rfl; have c4 : w2.cell? ⟨gb, 4, none⟩ = some (.int .i64 p4) := (blk_cell BK.out 4).trans rfl; have c5 : w2.cell? ⟨gb, 5, none⟩ = some (.int .i64 p5) := (blk_cell BK.out 5).trans rfl; have c6 : w2.cell? ⟨gb, 6, none⟩ = some (.int .i64 p6) := (blk_cell BK.out 6).trans rfl; have c7 : w2.cell? ⟨gb, 7, none⟩ = some (.int .i64 p7) := (blk_cell BK.out 7).trans rfl; have c8 : w2.cell? ⟨gb, 8, none⟩ = some (.int .i64 p8) := (blk_cell BK.out 8).trans rfl; have c9 : w2.cell? ⟨gb, 9, none⟩ = some (.int .i64 p9) := (blk_cell BK.out 9).trans rfl; have c10 : w2.cell? ⟨gb, 10, none⟩ = some (.int .i64 p10) := (blk_cell BK.out 10).trans rfl; have c11 : w2.cell? ⟨gb, 11, none⟩ = some (.int .i64 p11) := (blk_cell BK.out 11).trans rfl
  go_wp2
  go_ret2
  exact ⟨rfl, HB.out⟩
set_option maxHeartbeats 4000000 in
set_option maxRecDepth 100000 in
theorem tree_fine (p0 : Int) (p1 : Int) (p2 : Int) (p3 : Int) (p4 : Int) (p5 : Int) (p6 : Int) (p7 : Int) (p8 : Int) (p9 : Int) (p10 : Int) (p11 : Int) (s : Int) (F0 : Fine p0 p1 p2 p3 p4 p5 p6 p7 p8 p9 p10 p11 s) (A1 A2 : Option Addr) (c1 c2 : Nat) (l m : List Int) (w : World) (hr1 : ReadsInt w .i64 A1 l.length l) (hr2 : ReadsInt w .i64 A2 m.length m) (hlen : l.length + m.length ≤ 2097300) :
    Calls Try.prog 10 #[.agg #[.int .i64 p0, .int .i64 p1, .int .i64 p2, .int .i64 p3, .int .i64 p4, .int .i64 p5, .int .i64 p6, .int .i64 p7, .int .i64 p8, .int .i64 p9, .int .i64 p10, .int .i64 p11], .slice A1 l.length c1, .slice A2 m.length c2] w (Ends (TreeOut p0 s l m) w) := by
  have hu := Try.underlying23
  have H := Aside0.mk F0.chk
  have F := Aside0.mk F0
  have R1 := Aside0.mk hr1
  have R2 := Aside0.mk hr2
  clear F0 hr1 hr2
  go_enter Try.func10, Try.ntmps10
  go_wp2_with ((with_reducible refine gate_dst (N := 3) rfl ?_); refine box_event ?hg (N := 3) ?hd (cs := #[.int .i64 p0, .int .i64 p1, .int .i64 p2, .int .i64 p3, .int .i64 p4, .int .i64 p5, .int .i64 p6, .int .i64 p7, .int .i64 p8, .int .i64 p9, .int .i64 p10, .int .i64 p11]) (t := 23) ?hr ?_; (case hd => rfl); (case hg => rfl); (case hr => first | (go_simp; done) | (go_simp; rfl)); intro gb hg w1 hbox hb; have HB := Aside0.mk (below_step (Below.refl w.heap.size w) hb); have BK := Aside0.mk hbox; clear hb hbox hg; have c0 : w1.cell? ⟨gb, 0, none⟩ = some (.int .i64 p0) := (blk_cell BK.out 0).trans rfl; have c1 : w1.cell? ⟨gb, 1, none⟩ = some (.int .i64 p1) := (blk_cell BK.out 1).trans rfl; have c2 : w1.cell? ⟨gb, 2, none⟩ = some (.int .i64 p2) := (blk_cell BK.out 2).trans rfl; have c3 : w1.cell? ⟨gb, 3, none⟩ = some (.int .i64 p3) := (blk_cell BK.out 3).trans rfl; have c4 : w1.cell? ⟨gb, 4, none⟩ = some (.int .i64 p4) := (blk_cell BK.out 4).trans rfl; have c5 : w1.cell? ⟨gb, 5, none⟩ = some (.int .i64 p5) := (blk_cell BK.out 5).trans rfl; have c6 : w1.cell? ⟨gb, 6, none⟩ = some (.int .i64 p6) := (blk_cell BK.out 6).trans rfl; have c7 : w1.cell? ⟨gb, 7, none⟩ = some (.int .i64 p7) := (blk_cell BK.out 7).trans rfl; have c8 : w1.cell? ⟨gb, 8, none⟩ = some (.int .i64 p8) := (blk_cell BK.out 8).trans rfl; have c9 : w1.cell? ⟨gb, 9, none⟩ = some (.int .i64 p9) := (blk_cell BK.out 9).trans rfl; have c10 : w1.cell? ⟨gb, 10, none⟩ = some (.int .i64 p10) := (blk_cell BK.out 10).trans rfl; have c11 : w1.cell? ⟨gb, 11, none⟩ = some (.int .i64 p11) := (blk_cell BK.out 11).trans rfl)
  refine (plan_Check.calls p0 p1 p2 p3 p4 p5 p6 p7 p8 p9 p10 p11 0 _ H.out).mono ?_
  rintro e w2 ⟨rfl, hb⟩
  have BK2 := Aside0.mk (blk_below BK.out hb)
  have HB2 := Aside0.mk (below_then HB.out HB.out.size hb)
  clear hb BK HB c0 c1 c2 c3 c4 c5 c6 c7 c8 c9 c10 c11
  have HS0 : Aside0 (Seen w w2 w2.heap.size gb #[.int .i64 p0, .int .i64 p1, .int .i64 p2, .int .i64 p3, .int .i64 p4, .int .i64 p5, .int .i64 p6, .int .i64 p7, .int .i64 p8, .int .i64 p9, .int .i64 p10, .int .i64 p11] (.slice none 0 0) 0 []) := ⟨⟨HB2.out, BK2.out, World.ownsRow_nil _ _ _ _, Nat.le_refl _, HB2.out.size, blk_lt BK2.out⟩⟩
  clear BK2 HB2
  obtain ⟨B, hB⟩ : ∃ B, w2.heap.size = B := ⟨_, rfl⟩
  rw [hB] at HS0
  clear hB
  go_wp2_with fail
  go_loopg [9, 25] l.length (fun kq v9 v25 w' => ∃ i : Nat, v25 = .int .i64 (i : Int) ∧ i ≤ l.length ∧ l.length - i ≤ kq ∧ Aside0 (∀ k, k < i → 0 ≤ l.getD k 0 ∧ l.getD k 0 ≤ s) ∧ Aside0 (Seen w w' B gb #[.int .i64 p0, .int .i64 p1, .int .i64 p2, .int .i64 p3, .int .i64 p4, .int .i64 p5, .int .i64 p6, .int .i64 p7, .int .i64 p8, .int .i64 p9, .int .i64 p10, .int .i64 p11] v9 i ((l.take i).map (cx p0))))
  case atStart => exact ⟨0, rfl, by omega, by omega, ⟨fun k hk => by omega⟩, HS0⟩
  case round =>
    obtain ⟨i, rfl, hi, hk, HO, HS⟩ := hrel
    clear HS0
    by_cases hlt : i < l.length
    · cases gk with
      | zero => omega
      | succ k1 =>
        obtain ⟨ad, rfl, hcell⟩ := load_int (R1.out.below HS.out.below) i hlt
        obtain ⟨z, hz⟩ : ∃ z, l.getD i 0 = z := ⟨_, rfl⟩
        rw [hz] at hcell
        have HZ := Aside0.mk hz
        clear hz
        have d0 : decide ((i : Int) < (l.length : Int)) = true := decide_eq_true (by omega)
        have p0' : (0 : Int) ≤ (i : Int) := by omega
        have p1' : (i : Int) < (l.length : Int) := by omega
        have c0 : wr.cell? ⟨gb, 0, none⟩ = some (.int .i64 p0) := (blk_cell HS.out.box 0).trans rfl; have c1 : wr.cell? ⟨gb, 1, none⟩ = some (.int .i64 p1) := (blk_cell HS.out.box 1).trans rfl; have c2 : wr.cell? ⟨gb, 2, none⟩ = some (.int .i64 p2) := (blk_cell HS.out.box 2).trans rfl; have c3 : wr.cell? ⟨gb, 3, none⟩ = some (.int .i64 p3) := (blk_cell HS.out.box 3).trans rfl; have c4 : wr.cell? ⟨gb, 4, none⟩ = some (.int .i64 p4) := (blk_cell HS.out.box 4).trans rfl; have c5 : wr.cell? ⟨gb, 5, none⟩ = some (.int .i64 p5) := (blk_cell HS.out.box 5).trans rfl; have c6 : wr.cell? ⟨gb, 6, none⟩ = some (.int .i64 p6) := (blk_cell HS.out.box 6).trans rfl; have c7 : wr.cell? ⟨gb, 7, none⟩ = some (.int .i64 p7) := (blk_cell HS.out.box 7).trans rfl; have c8 : wr.cell? ⟨gb, 8, none⟩ = some (.int .i64 p8) := (blk_cell HS.out.box 8).trans rfl; have c9 : wr.cell? ⟨gb, 9, none⟩ = some (.int .i64 p9) := (blk_cell HS.out.box 9).trans rfl; have c10 : wr.cell? ⟨gb, 10, none⟩ = some (.int .i64 p10) := (blk_cell HS.out.box 10).trans rfl; have c11 : wr.cell? ⟨gb, 11, none⟩ = some (.int .i64 p11) := (blk_cell HS.out.box 11).trans rfl
        go_wp2_with fail
        ((with_reducible refine (file_fine F.out z _).mono ?_); rintro e w2 ⟨x, y, r, rfl, hq, hb⟩)
        have HS2 := Aside0.mk (HS.out.later hb)
        clear HS hb hcell c0 c1 c2 c3 c4 c5 c6 c7 c8 c9 c10 c11
        have HS := HS2
        clear HS2
        rcases hq with ⟨hq, rfl, rfl, rfl⟩ | hq
        · have HQ := Aside0.mk hq
          clear hq
          obtain ⟨i25, hi25⟩ := Option.map_eq_some_iff.1 infoCx
          simp only [Prod.mk.injEq] at hi25
          obtain ⟨hi25, hz25, hs25, hb25⟩ := hi25
          go_wp2_with (at_builtin; refine wpList_append_own _ (by rfl) (.tmp 38) (.tmp 40) 36 (by rfl) B 25 i25 (.complex .f64 0 0) 1 16 Try.underlying36 hi25 hz25 hs25 hb25 rfl (by decide) u9 (i) _ (by rfl) (HS.out.row.alloc _) ⟨w2.heap.size, 0, none⟩ 1 1 [(.complex .f64 (floatOfInt .f64 (Pure.blocks p0 (z))) 4607182418800017408)] (by rfl) rfl (news_one w2 _ _) (by simp [Value.oneCell']) (by unfold maxLen; omega) (by omega) (by have := HS.out.size; simp; omega) ?_; intro v' w' hown hgr _; have HR := Aside0.mk hown; have HGr := Aside0.mk hgr; clear hown hgr)
          clear hi25 hz25 hs25 hb25
          go_roundg k1
          case measure => omega
          case rel =>
            have hown := HR.out
            rw [← HZ.out] at hown
            have hgr := HGr.out
            refine ⟨i + 1, by go_num, by omega, by omega, ⟨?_⟩, ⟨?_⟩⟩
            · intro k hk
              by_cases e : k = i
              · subst e; rw [HZ.out]; exact HQ.out
              · exact HO.out k (by omega)
            · exact (HS.out.more hgr (by rw [← snoc_cx p0 l i hlt]; exact hown))
        · obtain ⟨rfl, rfl, rfl⟩ := hq.2
          have HQ := Aside0.mk hq.1
          clear hq
          go_wp2
          go_ret2
          have hq := HQ
          exact ⟨_, _, _, rfl, .inl ⟨fun h => hq.out (by rw [← HZ.out]; exact h.1 i hlt), rfl, rfl, rfl⟩, HS.out.below⟩
    · obtain rfl : i = l.length := by omega
      have d0 : decide ((l.length : Int) < (l.length : Int)) = false := decide_eq_false (by omega)
      have HSl : Aside0 (Seen w wr B gb #[.int .i64 p0, .int .i64 p1, .int .i64 p2, .int .i64 p3, .int .i64 p4, .int .i64 p5, .int .i64 p6, .int .i64 p7, .int .i64 p8, .int .i64 p9, .int .i64 p10, .int .i64 p11] u9 l.length (l.map (cx p0))) := ⟨by have := HS.out; rwa [List.take_length] at this⟩
      clear hlt hk hi HS
      have OK1 := HO
      clear HO
      obtain ⟨wo, rfl⟩ : ∃ wo : World, wo = wr := ⟨_, rfl⟩
      obtain ⟨uo, rfl⟩ : ∃ uo : Value, uo = u9 := ⟨_, rfl⟩
      go_wp2_with fail
      go_loopg [9, 45] m.length (fun kq v9 v45 w' => ∃ i : Nat, v45 = .int .i64 (i : Int) ∧ i ≤ m.length ∧ m.length - i ≤ kq ∧ Aside0 (∀ k, k < i → 0 ≤ m.getD k 0 ∧ m.getD k 0 ≤ s / 16) ∧ Aside0 (Seen w w' B gb #[.int .i64 p0, .int .i64 p1, .int .i64 p2, .int .i64 p3, .int .i64 p4, .int .i64 p5, .int .i64 p6, .int .i64 p7, .int .i64 p8, .int .i64 p9, .int .i64 p10, .int .i64 p11] v9 (l.length + i) (l.map (cx p0) ++ (m.take i).map (fun n => cx p0 (dsize p0 n)))))
      case atStart => exact ⟨0, rfl, by omega, by omega, ⟨fun k hk => by omega⟩, ⟨by have := HSl.out; simpa using this⟩⟩
      case round =>
        obtain ⟨i, rfl, hi, hk, HO, HS⟩ := hrel
        clear HSl
        by_cases hlt : i < m.length
        · cases gk with
          | zero => omega
          | succ k1 =>
            obtain ⟨ad, rfl, hcell⟩ := load_int (R2.out.below HS.out.below) i hlt
            obtain ⟨z, hz⟩ : ∃ z, m.getD i 0 = z := ⟨_, rfl⟩
            rw [hz] at hcell
            have HZ := Aside0.mk hz
            clear hz
            have d0 : decide ((i : Int) < (m.length : Int)) = true := decide_eq_true (by omega)
            have p0' : (0 : Int) ≤ (i : Int) := by omega
            have p1' : (i : Int) < (m.length : Int) := by omega
            have c0 : wr.cell? ⟨gb, 0, none⟩ = some (.int .i64 p0) := (blk_cell HS.out.box 0).trans rfl; have c1 : wr.cell? ⟨gb, 1, none⟩ = some (.int .i64 p1) := (blk_cell HS.out.box 1).trans rfl; have c2 : wr.cell? ⟨gb, 2, none⟩ = some (.int .i64 p2) := (blk_cell HS.out.box 2).trans rfl; have c3 : wr.cell? ⟨gb, 3, none⟩ = some (.int .i64 p3) := (blk_cell HS.out.box 3).trans rfl; have c4 : wr.cell? ⟨gb, 4, none⟩ = some (.int .i64 p4) := (blk_cell HS.out.box 4).trans rfl; have c5 : wr.cell? ⟨gb, 5, none⟩ = some (.int .i64 p5) := (blk_cell HS.out.box 5).trans rfl; have c6 : wr.cell? ⟨gb, 6, none⟩ = some (.int .i64 p6) := (blk_cell HS.out.box 6).trans rfl; have c7 : wr.cell? ⟨gb, 7, none⟩ = some (.int .i64 p7) := (blk_cell HS.out.box 7).trans rfl; have c8 : wr.cell? ⟨gb, 8, none⟩ = some (.int .i64 p8) := (blk_cell HS.out.box 8).trans rfl; have c9 : wr.cell? ⟨gb, 9, none⟩ = some (.int .i64 p9) := (blk_cell HS.out.box 9).trans rfl; have c10 : wr.cell? ⟨gb, 10, none⟩ = some (.int .i64 p10) := (blk_cell HS.out.box 10).trans rfl; have c11 : wr.cell? ⟨gb, 11, none⟩ = some (.int .i64 p11) := (blk_cell HS.out.box 11).trans rfl
            go_wp2_with fail
            ((with_reducible refine (dir_fine p0 p1 p2 p3 p4 p5 p6 p7 p8 p9 p10 p11 s F.out z _).mono ?_); rintro e w2 ⟨x, y, r, rfl, hq, hb⟩)
            have HS2 := Aside0.mk (HS.out.later hb)
            clear HS hb hcell c0 c1 c2 c3 c4 c5 c6 c7 c8 c9 c10 c11
            have HS := HS2
            clear HS2
            rcases hq with ⟨hq, rfl, rfl, rfl⟩ | hq
            · have HQ := Aside0.mk hq
              clear hq
              obtain ⟨i25, hi25⟩ := Option.map_eq_some_iff.1 infoCx
              simp only [Prod.mk.injEq] at hi25
              obtain ⟨hi25, hz25, hs25, hb25⟩ := hi25
              go_wp2_with (at_builtin; refine wpList_append_own _ (by rfl) (.tmp 58) (.tmp 60) 36 (by rfl) B 25 i25 (.complex .f64 0 0) 1 16 Try.underlying36 hi25 hz25 hs25 hb25 rfl (by decide) u9 (l.length + i) _ (by rfl) (HS.out.row.alloc _) ⟨w2.heap.size, 0, none⟩ 1 1 [(.complex .f64 (floatOfInt .f64 (Pure.blocks p0 (dsize p0 z))) 4607182418800017408)] (by rfl) rfl (news_one w2 _ _) (by simp [Value.oneCell']) (by unfold maxLen; omega) (by omega) (by have := HS.out.size; simp; omega) ?_; intro v' w' hown hgr _; have HR := Aside0.mk hown; have HGr := Aside0.mk hgr; clear hown hgr)
              clear hi25 hz25 hs25 hb25
              go_roundg k1
              case measure => omega
              case rel =>
                have hown := HR.out
                rw [← HZ.out] at hown
                have hgr := HGr.out
                refine ⟨i + 1, by go_num, by omega, by omega, ⟨?_⟩, ⟨?_⟩⟩
                · intro k hk
                  by_cases e : k = i
                  · subst e; rw [HZ.out]; exact HQ.out
                  · exact HO.out k (by omega)
                · exact (HS.out.more hgr (by rw [← snoc_dx p0 _ m i hlt, ← Nat.add_assoc]; exact hown))
            · obtain ⟨rfl, rfl, rfl⟩ := hq.2
              have HQ := Aside0.mk hq.1
              clear hq
              go_wp2
              go_ret2
              have hq := HQ
              exact ⟨_, _, _, rfl, .inl ⟨fun h => hq.out (by rw [← HZ.out]; exact h.2 i hlt), rfl, rfl, rfl⟩, HS.out.below⟩
        · obtain rfl : i = m.length := by omega
          have d0 : decide ((m.length : Int) < (m.length : Int)) = false := decide_eq_false (by omega)
          have HSm : Aside0 (Seen w wr B gb #[.int .i64 p0, .int .i64 p1, .int .i64 p2, .int .i64 p3, .int .i64 p4, .int .i64 p5, .int .i64 p6, .int .i64 p7, .int .i64 p8, .int .i64 p9, .int .i64 p10, .int .i64 p11] u9 (l.length + m.length) ((sizes p0 l m).map (cx p0))) := ⟨by have := HS.out; rw [List.take_length] at this; unfold sizes; rw [List.map_append, List.map_map]; exact this⟩
          clear hlt hk hi HS
          have HK := Aside0.mk (sum_row F.out OK1.out HO.out hlen HSm.out)
          obtain ⟨A, cap, rfl, HKs⟩ := HK.out
          clear HK
          have HK := Aside0.mk HKs
          clear HKs
          go_wp2_with fail
          ((with_reducible refine HK.out.mono ?_); rintro e w2 ⟨x, y, r, rfl, hq, rfl⟩)
          have HQ := Aside0.mk hq
          clear hq HK
          go_wp2
          go_ret2
          exact ⟨_, _, _, rfl, .inr ⟨⟨OK1.out, HO.out⟩, HQ.out⟩, HSm.out.below⟩
end Go.Proofs.Ytdjlbbfgobbcmaa.Need
