/- A tree with one file more: the walk of the law NeedWhole. No conditions. -/
import Derived.Test.YtdjlbbfgobbcmaaKNTree
import Derived.Deep.Cut
namespace Go.Proofs.Ytdjlbbfgobbcmaa.Need
open Go.RowKit Go.Proofs.Ytdjlbbfgobbcmaa.PNeedGrows Go.Proofs.Ytdjlbbfgobbcmaa.PlainFloat Go.Proofs.Ytdjlbbfgobbcmaa.Turn Go.Proofs.YtdjlbbfgobbcmaaW.PrintWords Go.Proofs.YtdjlbbfgobbcmaaW.PrintLast Go.Proofs.YtdjlbbfgobbcmaaW.PrintMore
set_option linter.unusedVariables false
set_option linter.unusedSimpArgs false

/-- The list's numbers together. -/
def sumL : List Int → Int
  | [] => 0
  | x :: l => x + sumL l
theorem sumL_append (l m : List Int) : sumL (l ++ m) = sumL l + sumL m := by
  induction l with
  | nil => show sumL m = 0 + sumL m; omega
  | cons x l ih => show x + sumL (l ++ m) = x + sumL l + sumL m; omega
theorem tot_list (f : Int → Int) (l : List Int) : tot (fun k => f (l.getD k 0)) l.length = sumL (l.map f) := by
  induction l with
  | nil => rfl
  | cons x l ih =>
    have h := tot_add (fun k => f ((x :: l).getD k 0)) 1 l.length
    rw [show (x :: l).length = 1 + l.length by rw [List.length_cons]; omega, h]
    have e : tot (fun k => f ((x :: l).getD (1 + k) 0)) l.length = tot (fun k => f (l.getD k 0)) l.length := tot_congr fun k _ => by rw [Nat.add_comm 1 k, List.getD_cons_succ]
    rw [e, ih]
    show 0 + f x + sumL (l.map f) = f x + sumL (l.map f)
    omega
theorem all_list (p0 : Int) (l : List Int) : all p0 l = sumL (l.map (Pure.blocks p0)) := tot_list _ _
theorem all_more (p0 n : Int) (l m : List Int) : all p0 (sizes p0 (l ++ [n]) m) = all p0 (sizes p0 l m) + Pure.blocks p0 n := by
  rw [all_list, all_list]
  unfold sizes
  simp only [List.map_append, sumL_append, List.map_cons, List.map_nil]
  show _ + (Pure.blocks p0 n + 0) + _ = _
  omega
/-- How the answers hang together. -/
structure Agree (xa ya : Nat) (ra : Int) (xb yb : Nat) (rb : Int) (xc yc : Nat) (rc : Int) : Prop where
  no : ra ≠ 0 ∨ rb ≠ 0 → rc ≠ 0 ∧ xc = 0 ∧ yc = 0
  yes : ra = 0 → rb = 0 → ∃ A I B J, Rep xa A ∧ Rep ya I ∧ Rep xb B ∧ Rep yb J ∧ Part A ∧ Part I ∧ Part B ∧ Part J ∧ Part (I + J) ∧ ((A + B ≤ 1073741824 ∧ rc = 0 ∧ Rep xc (A + B) ∧ Rep yc (I + J)) ∨ (1073741824 < A + B ∧ rc = 3 ∧ xc = 0 ∧ yc = 0))
theorem files_more {s n : Int} {l : List Int} : FilesOk s (l ++ [n]) ↔ FilesOk s l ∧ 0 ≤ n ∧ n ≤ s := by
  have hg : ∀ k, k < l.length → (l ++ [n]).getD k 0 = l.getD k 0 := by
    intro k hk
    rw [List.getD_eq_getElem?_getD, List.getElem?_append_left hk, ← List.getD_eq_getElem?_getD]
  have hn : (l ++ [n]).getD l.length 0 = n := by
    rw [List.getD_eq_getElem?_getD, List.getElem?_append_right (Nat.le_refl _)]
    simp
  unfold FilesOk
  rw [List.length_append]
  constructor
  · intro h
    refine ⟨fun k hk => ?_, ?_⟩
    · have := h k (by simp; omega)
      rwa [hg k hk] at this
    · have := h l.length (by simp)
      rwa [hn] at this
  · rintro ⟨h, h1⟩ k hk
    by_cases c : k < l.length
    · rw [hg k c]; exact h k c
    · obtain rfl : k = l.length := by simp at hk; omega
      rw [hn]; exact h1
theorem agree_fine {p0 p1 p2 p3 p4 p5 p6 p7 p8 p9 p10 p11 s : Int} (F : Fine p0 p1 p2 p3 p4 p5 p6 p7 p8 p9 p10 p11 s) {n : Int} {l m : List Int} (hlen : l.length + m.length ≤ 2097152) {xa ya xb yb xc yc : Nat} {ra rb rc : Int}
    (ha : TreeOut p0 s l m xa ya ra) (hb : FileOut p0 s n xb yb rb) (hc : TreeOut p0 s (l ++ [n]) m xc yc rc) : Agree xa ya ra xb yb rb xc yc rc := by
  have hall := all_more p0 n l m
  have hcnt : (((l ++ [n]).length + m.length : Nat) : Int) = ((l.length + m.length : Nat) : Int) + 1 := by rw [List.length_append]; simp; omega
  have hpos : FilesOk s l ∧ DirsOk s m → 0 ≤ all p0 (sizes p0 l m) := by
    rintro ⟨h1, h2⟩
    rw [all_list]
    have key : ∀ q : List Int, (∀ x ∈ q, 0 ≤ x ∧ x ≤ s) → 0 ≤ sumL (q.map (Pure.blocks p0)) := by
      intro q
      induction q with
      | nil => intro _; exact Int.le_refl _
      | cons x q ih =>
        intro hq
        have h := hq x (by simp)
        have hb := Pure.blocks_part F.two h.1 (Int.le_trans h.2 F.high)
        have := ih (fun y hy => hq y (by simp [hy]))
        show 0 ≤ Pure.blocks p0 x + sumL (q.map (Pure.blocks p0))
        omega
    refine key _ fun x hx => ?_
    unfold sizes at hx
    rcases List.mem_append.1 hx with hx | hx
    · obtain ⟨k, hk, rfl⟩ := List.getElem_of_mem hx
      have := h1 k hk
      rwa [List.getD_eq_getElem?_getD, List.getElem?_eq_getElem hk] at this
    · obtain ⟨y, hy, rfl⟩ := List.mem_map.1 hx
      obtain ⟨k, hk, rfl⟩ := List.getElem_of_mem hy
      have := h2 k hk
      rw [List.getD_eq_getElem?_getD, List.getElem?_eq_getElem hk] at this
      exact dsize_ok F.size F.two this.1 this.2
  unfold TreeOut at ha hc
  rw [files_more] at hc
  rw [hall, hcnt] at hc
  unfold FileOut at hb
  constructor
  · intro hne
    rcases hc with ⟨_, rfl, rfl, rfl⟩ | ⟨⟨⟨h1, h3⟩, h2⟩, hc⟩
    · exact ⟨by decide, rfl, rfl⟩
    · rcases hb with ⟨_, rfl, _, _⟩ | ⟨hb, _⟩
      · rcases ha with ⟨ha, _⟩ | ⟨_, ha⟩
        · exact absurd ⟨h1, h2⟩ ha
        · have hb := Pure.blocks_part F.two h3.1 (Int.le_trans h3.2 F.high)
          rcases ha with ⟨_, rfl, _⟩ | ⟨ha, rfl, _⟩
          · omega
          · rcases hc with ⟨hc, _⟩ | ⟨_, rfl, rfl, rfl⟩
            · omega
            · exact ⟨by decide, rfl, rfl⟩
      · exact absurd h3 hb
  · intro h1 h2
    subst h1
    subst h2
    rcases ha with ⟨_, ha, _⟩ | ⟨hok, ha⟩
    · exact absurd ha (by decide)
    rcases hb with ⟨hbk, _, rfl, rfl⟩ | ⟨_, hb, _⟩
    rotate_left
    · exact absurd hb (by decide)
    rcases ha with ⟨ha, _, r1, r2⟩ | ⟨_, ha, _⟩
    rotate_left
    · exact absurd ha (by decide)
    have hb := Pure.blocks_part F.two hbk.1 (Int.le_trans hbk.2 F.high)
    refine ⟨all p0 (sizes p0 l m), ((l.length + m.length : Nat) : Int), Pure.blocks p0 n, 1, r1, r2, of_int (by omega), rep_one, ⟨hpos hok, ha⟩, ⟨by omega, by omega⟩, hb, ⟨by decide, by decide⟩, ⟨by omega, by omega⟩, ?_⟩
    rcases hc with ⟨hc, _⟩ | ⟨_, hc⟩
    · exact absurd ⟨⟨hok.1, hbk⟩, hok.2⟩ hc
    · exact hc
theorem info3 : (Try.prog.info? 3).map (fun i => (i.zero, i.size, i.bytes)) = some (some (.int .i64 0), 1, 8) := by kernel_rfl
theorem irow_reads {e base : Nat} {ok : Nat → Prop} {w : World} {v : Value} {xs : List Int} (h : (Kd.int .i64).R e w base ok v xs) : ∃ A c, v = .slice A xs.length c ∧ xs.length ≤ c ∧ ReadsInt w .i64 A xs.length xs := by
  obtain ⟨A, c, e, h1, h2⟩ := Kd.R_reads h
  exact ⟨A, c, e, h1, readsInt_of.2 (Kd.reads_of_C (d := (0 : Int)) (h1 := fun _ => rfl) h2)⟩
theorem ireads_row {w : World} {A : Option Addr} {xs : List Int} (h : ReadsInt w .i64 A xs.length xs) : (Kd.int .i64).C w A xs.length xs := Kd.C_of_reads (d := (0 : Int)) (h1 := fun _ => rfl) (readsInt_of.1 h)
theorem irow_lit0 (w0 W : World) (hb : w0.heap.size ≤ W.heap.size) : (Kd.int .i64).R 3 (W.alloc (.cells #[] 3)) w0.heap.size (fun _ => True) (.slice (some ⟨W.heap.size, 0, none⟩) 0 0) [] :=
  Kd.R_of_own (enc := Value.int .i64) (h1 := fun _ => rfl) (own_lit W w0.heap.size 3 .i64 [] hb (by decide)) (fun _ _ => trivial)
theorem one_reads (W : World) (n : Int) : ReadsInt (W.alloc (.cells #[.int .i64 n] 3)) .i64 (some ⟨W.heap.size, 0, none⟩) [n].length [n] := by
  refine ⟨rfl, by simp, fun _ => ⟨_, rfl, fun j hj => ?_⟩⟩
  obtain rfl : j = 0 := by simp at hj; omega
  rw [add_plain, blk_cell (blk_new W (.cells #[.int .i64 n] 3))]
  rfl
def whole.T5 : Bool × List (List Nat × List Nat) := (true, [([], []), ([], []), ([], []), ([1, 2], [1, 2]), ([], []), ([4], [4]), ([3, 5, 3], [3, 5]), ([], []), ([0, 6, 7, 6], [0, 6, 7]), ([8], [8]), ([9], [9]), ([9], [9]), ([10, 8, 0, 1, 2, 3, 4, 5, 6, 7, 8, 9, 10], [10]), ([11, 12, 0, 1, 2, 3, 4, 5, 6, 7, 8, 9, 10, 11, 12], [11])])
def whole.B5 : List Nat := [0, 0, 0, 6, 0, 16, 62, 0, 255, 511, 1023, 1023, 2047, 8191]
theorem whole.tab5 : rtab .any (opsOf Try.f4 5) = whole.T5 := by kernel_rfl
theorem whole.bits5 : waitsOk whole.T5.2 whole.B5 = true := by kernel_rfl

theorem reads_lt {W : World} {G : Option Addr} {n : Int} (h : ReadsInt W .i64 G [n].length [n]) {ad : Addr} (e : G = some ad) : ad.block < W.heap.size := by
  obtain ⟨ad', e', hc⟩ := h.2.2 (by simp)
  rw [e] at e'
  obtain rfl := Option.some.inj e'
  have := World.block_lt_of_cell? W _ (hc 0 (by simp))
  unfold Addr.add at this
  split at this <;> exact this
theorem apart_a {W : World} {G : Option Addr} {n : Int} (h : ReadsInt W .i64 G [n].length [n]) : ∀ k ad, (Value.slice (some ⟨W.heap.size, 0, none⟩) 0 0).ownBlock = some k → G = some ad → ad.block ≠ k := by
  intro k ad e1 e2
  have := reads_lt h e2
  simp [Value.ownBlock] at e1
  omega
theorem apart_b {base : Nat} {ok : Nat → Prop} {W : World} {v : Value} {xs : List Int} (h : (Kd.int .i64).R 3 W base ok v xs) : ∀ k ad, v.ownBlock = some k → (some ⟨W.heap.size, 0, none⟩ : Option Addr) = some ad → ad.block ≠ k := by
  intro k ad e1 e2
  have := ((Kd.own_of_R (enc := Value.int .i64) (h1 := fun _ => rfl) h).lt k e1).2
  obtain rfl := Option.some.inj e2
  show W.heap.size ≠ k
  omega
theorem sum_two (W : World) (g : Nat) {xa ya xb yb : Nat} {A I B J : Int} (h : W.heap[g]? = some (.cells #[.complex .f64 xa ya, .complex .f64 xb yb] 25 (0, 0))) (hR : (Rep xa A ∧ Rep ya I) ∧ Rep xb B ∧ Rep yb J) (hQ : (Part A ∧ Part I) ∧ (Part B ∧ Part J) ∧ Part (I + J)) :
    Calls Try.prog 11 #[.slice (some ⟨g, 0, none⟩) 2 2] W (SumEnds (A + B) (I + J) W) := by
  have h2 := sum_calls W (fun k => if k = 0 then xa else xb) (fun k => if k = 0 then ya else yb) (fun k => if k = 0 then A else B) (fun k => if k = 0 then I else J) (some ⟨g, 0, none⟩) g 2 2 (by decide) (fun k hk => ?_) (fun k hk => ?_) ?_ (.inr rfl)
  · have e1 : tot (fun k => if k = 0 then A else B) 2 = A + B := by show 0 + A + B = A + B; omega
    have e2 : tot (fun k => if k = 0 then I else J) 2 = I + J := by show 0 + I + J = I + J; omega
    rw [e1, e2] at h2
    exact h2
  · obtain rfl | rfl : k = 0 ∨ k = 1 := by omega
    · exact ⟨hR.1.1, hR.1.2, hQ.1.1, hQ.1.2⟩
    · exact ⟨hR.2.1, hR.2.2, hQ.2.1.1, hQ.2.1.2⟩
  · rw [blk_cell h]
    obtain rfl | rfl : k = 0 ∨ k = 1 := by omega
    · rfl
    · rfl
  · have e2 : tot (fun k => if k = 0 then I else J) 2 = I + J := by show 0 + I + J = I + J; omega
    rw [e2]
    exact hQ.2.2
theorem news_kept {W W1 : World} {v : Value} {G : Option Addr} {n : Int} (h : ReadsInt W .i64 G [n].length [n]) (hg : W.grownBy W1 v.ownBlock) (hd : ∀ k ad, v.ownBlock = some k → G = some ad → ad.block ≠ k) : ReadsInt W1 .i64 G [n].length [n] := by
  refine ⟨h.1, h.2.1, fun hn => ?_⟩
  obtain ⟨ad, e, hc⟩ := h.2.2 hn
  refine ⟨ad, e, fun j hj => ?_⟩
  have hj := hc j hj
  have hlt := World.block_lt_of_cell? W _ hj
  have hb : (ad.add j).block = ad.block := by unfold Addr.add; split <;> rfl
  have hkeep := hg.block (ad.add j).block hlt (by
    rw [hb]
    intro e2
    exact hd ad.block ad e2.symm e rfl)
  rw [← hj]
  unfold World.cell?
  rw [hkeep]
set_option maxHeartbeats 4000000 in
set_option maxRecDepth 100000 in
theorem whole_walk (p0 : Int) (p1 : Int) (p2 : Int) (p3 : Int) (p4 : Int) (p5 : Int) (p6 : Int) (p7 : Int) (p8 : Int) (p9 : Int) (p10 : Int) (p11 : Int) (n : Int) (A1 A2 : Option Addr) (ca cb : Nat) (l m : List Int) (w : World) (hr1 : ReadsInt w .i64 A1 l.length l) (hr2 : ReadsInt w .i64 A2 m.length m) (hlen : l.length + m.length ≤ 2097152)
    (T : List Int → List Int → Nat → Nat → Int → Prop) (hT0 : ∀ A1 A2 c1 c2 l m W, ReadsInt W .i64 A1 l.length l → ReadsInt W .i64 A2 m.length m → l.length + m.length ≤ 2097300 → Calls Try.prog 10 #[.agg #[.int .i64 p0, .int .i64 p1, .int .i64 p2, .int .i64 p3, .int .i64 p4, .int .i64 p5, .int .i64 p6, .int .i64 p7, .int .i64 p8, .int .i64 p9, .int .i64 p10, .int .i64 p11], .slice A1 l.length c1, .slice A2 m.length c2] W (Ends (T l m) W))
    (FQ : Nat → Nat → Int → Prop) (hF0 : ∀ W, Calls Try.prog 7 #[.agg #[.int .i64 p0, .int .i64 p1, .int .i64 p2, .int .i64 p3, .int .i64 p4, .int .i64 p5, .int .i64 p6, .int .i64 p7, .int .i64 p8, .int .i64 p9, .int .i64 p10, .int .i64 p11], .int .i64 n] W (Ends FQ W)) (hAg : ∀ xa ya ra xb yb rb xc yc rc, T l m xa ya ra → FQ xb yb rb → T (l ++ [n]) m xc yc rc → Agree xa ya ra xb yb rb xc yc rc) :
    Calls Try.prog 4 #[.agg #[.int .i64 p0, .int .i64 p1, .int .i64 p2, .int .i64 p3, .int .i64 p4, .int .i64 p5, .int .i64 p6, .int .i64 p7, .int .i64 p8, .int .i64 p9, .int .i64 p10, .int .i64 p11], .slice A1 l.length ca, .slice A2 m.length cb, .int .i64 n] w fun e w' => e = .returned (.bool true) ∧ Below w.heap.size w w' := by
  have hu := Try.underlying23
  have R1 := Aside0.mk hr1
  have R2 := Aside0.mk hr2
  have hT := Aside0.mk hT0
  have hF := Aside0.mk hF0
  have HAg := Aside0.mk hAg
  have ze := same_ord rep_zero rep_zero
  clear hr1 hr2 hT0 hF0 hAg
  go_enter Try.func4, Try.ntmps4
  go_wp2_with ((with_reducible refine gate_dst (N := 4) rfl ?_); refine box_event ?hg (N := 4) ?hd (cs := #[.int .i64 p0, .int .i64 p1, .int .i64 p2, .int .i64 p3, .int .i64 p4, .int .i64 p5, .int .i64 p6, .int .i64 p7, .int .i64 p8, .int .i64 p9, .int .i64 p10, .int .i64 p11]) (t := 23) ?hr ?_; (case hd => rfl); (case hg => rfl); (case hr => first | (go_simp; done) | (go_simp; rfl)); intro gb hg w1 hbox hb; have HB := Aside0.mk (below_step (Below.refl w.heap.size w) hb); have BK := Aside0.mk hbox; clear hb hbox hg; have c0 : w1.cell? ⟨gb, 0, none⟩ = some (.int .i64 p0) := (blk_cell BK.out 0).trans rfl; have c1 : w1.cell? ⟨gb, 1, none⟩ = some (.int .i64 p1) := (blk_cell BK.out 1).trans rfl; have c2 : w1.cell? ⟨gb, 2, none⟩ = some (.int .i64 p2) := (blk_cell BK.out 2).trans rfl; have c3 : w1.cell? ⟨gb, 3, none⟩ = some (.int .i64 p3) := (blk_cell BK.out 3).trans rfl; have c4 : w1.cell? ⟨gb, 4, none⟩ = some (.int .i64 p4) := (blk_cell BK.out 4).trans rfl; have c5 : w1.cell? ⟨gb, 5, none⟩ = some (.int .i64 p5) := (blk_cell BK.out 5).trans rfl; have c6 : w1.cell? ⟨gb, 6, none⟩ = some (.int .i64 p6) := (blk_cell BK.out 6).trans rfl; have c7 : w1.cell? ⟨gb, 7, none⟩ = some (.int .i64 p7) := (blk_cell BK.out 7).trans rfl; have c8 : w1.cell? ⟨gb, 8, none⟩ = some (.int .i64 p8) := (blk_cell BK.out 8).trans rfl; have c9 : w1.cell? ⟨gb, 9, none⟩ = some (.int .i64 p9) := (blk_cell BK.out 9).trans rfl; have c10 : w1.cell? ⟨gb, 10, none⟩ = some (.int .i64 p10) := (blk_cell BK.out 10).trans rfl; have c11 : w1.cell? ⟨gb, 11, none⟩ = some (.int .i64 p11) := (blk_cell BK.out 11).trans rfl)
  refine (wakes _).mono ?_
  rintro e w2 ⟨rfl, rfl⟩
  go_wp2_with fail
  ((with_reducible refine (hT.out A1 A2 ca cb l m _ (R1.out.below HB.out) (R2.out.below HB.out) (by omega)).mono ?_); rintro e w2 ⟨xa, ya, ra, rfl, hqa, hb⟩)
  have BK2 := Aside0.mk (blk_below BK.out hb)
  have HB2 := Aside0.mk (below_then HB.out HB.out.size hb)
  clear c0 c1 c2 c3 c4 c5 c6 c7 c8 c9 c10 c11
  clear hb BK HB
  have BK := BK2
  have HB := HB2
  clear BK2 HB2
  have c0 : w2.cell? ⟨gb, 0, none⟩ = some (.int .i64 p0) := (blk_cell BK.out 0).trans rfl; have c1 : w2.cell? ⟨gb, 1, none⟩ = some (.int .i64 p1) := (blk_cell BK.out 1).trans rfl; have c2 : w2.cell? ⟨gb, 2, none⟩ = some (.int .i64 p2) := (blk_cell BK.out 2).trans rfl; have c3 : w2.cell? ⟨gb, 3, none⟩ = some (.int .i64 p3) := (blk_cell BK.out 3).trans rfl; have c4 : w2.cell? ⟨gb, 4, none⟩ = some (.int .i64 p4) := (blk_cell BK.out 4).trans rfl; have c5 : w2.cell? ⟨gb, 5, none⟩ = some (.int .i64 p5) := (blk_cell BK.out 5).trans rfl; have c6 : w2.cell? ⟨gb, 6, none⟩ = some (.int .i64 p6) := (blk_cell BK.out 6).trans rfl; have c7 : w2.cell? ⟨gb, 7, none⟩ = some (.int .i64 p7) := (blk_cell BK.out 7).trans rfl; have c8 : w2.cell? ⟨gb, 8, none⟩ = some (.int .i64 p8) := (blk_cell BK.out 8).trans rfl; have c9 : w2.cell? ⟨gb, 9, none⟩ = some (.int .i64 p9) := (blk_cell BK.out 9).trans rfl; have c10 : w2.cell? ⟨gb, 10, none⟩ = some (.int .i64 p10) := (blk_cell BK.out 10).trans rfl; have c11 : w2.cell? ⟨gb, 11, none⟩ = some (.int .i64 p11) := (blk_cell BK.out 11).trans rfl
  have HA := Aside0.mk hqa
  clear hqa
  go_wp2_with fail
  ((with_reducible refine (hF.out _).mono ?_); rintro e w3 ⟨xb, yb, rb, rfl, hqb, hb⟩)
  have BK2 := Aside0.mk (blk_below BK.out hb)
  have HB2 := Aside0.mk (below_then HB.out HB.out.size hb)
  clear c0 c1 c2 c3 c4 c5 c6 c7 c8 c9 c10 c11
  clear hb BK HB
  have BK := BK2
  have HB := HB2
  clear BK2 HB2
  have c0 : w3.cell? ⟨gb, 0, none⟩ = some (.int .i64 p0) := (blk_cell BK.out 0).trans rfl; have c1 : w3.cell? ⟨gb, 1, none⟩ = some (.int .i64 p1) := (blk_cell BK.out 1).trans rfl; have c2 : w3.cell? ⟨gb, 2, none⟩ = some (.int .i64 p2) := (blk_cell BK.out 2).trans rfl; have c3 : w3.cell? ⟨gb, 3, none⟩ = some (.int .i64 p3) := (blk_cell BK.out 3).trans rfl; have c4 : w3.cell? ⟨gb, 4, none⟩ = some (.int .i64 p4) := (blk_cell BK.out 4).trans rfl; have c5 : w3.cell? ⟨gb, 5, none⟩ = some (.int .i64 p5) := (blk_cell BK.out 5).trans rfl; have c6 : w3.cell? ⟨gb, 6, none⟩ = some (.int .i64 p6) := (blk_cell BK.out 6).trans rfl; have c7 : w3.cell? ⟨gb, 7, none⟩ = some (.int .i64 p7) := (blk_cell BK.out 7).trans rfl; have c8 : w3.cell? ⟨gb, 8, none⟩ = some (.int .i64 p8) := (blk_cell BK.out 8).trans rfl; have c9 : w3.cell? ⟨gb, 9, none⟩ = some (.int .i64 p9) := (blk_cell BK.out 9).trans rfl; have c10 : w3.cell? ⟨gb, 10, none⟩ = some (.int .i64 p10) := (blk_cell BK.out 10).trans rfl; have c11 : w3.cell? ⟨gb, 11, none⟩ = some (.int .i64 p11) := (blk_cell BK.out 11).trans rfl
  have HFb := Aside0.mk hqb
  clear hqb
  go_upto_region 5 with (fail)
  obtain ⟨wo, rfl⟩ : ∃ wo : World, wo = w3 := ⟨_, rfl⟩
  clear c0 c1 c2 c3 c4 c5 c6 c7 c8 c9 c10 c11
  go_cut [13, 14] (fun c g wx => ∃ x y r, c = .complex .f64 x y ∧ g = .int .i64 r ∧ Aside0 (T (l ++ [n]) m x y r) ∧ Aside0 (Below w.heap.size w wx))
  case first =>
    refine start_ (n := 14) (S := (fun w' => w'.cell? ⟨gb, 0, none⟩ = some (.int .i64 p0) ∧ w'.cell? ⟨gb, 1, none⟩ = some (.int .i64 p1) ∧ w'.cell? ⟨gb, 2, none⟩ = some (.int .i64 p2) ∧ w'.cell? ⟨gb, 3, none⟩ = some (.int .i64 p3) ∧ w'.cell? ⟨gb, 4, none⟩ = some (.int .i64 p4) ∧ w'.cell? ⟨gb, 5, none⟩ = some (.int .i64 p5) ∧ w'.cell? ⟨gb, 6, none⟩ = some (.int .i64 p6) ∧ w'.cell? ⟨gb, 7, none⟩ = some (.int .i64 p7) ∧ w'.cell? ⟨gb, 8, none⟩ = some (.int .i64 p8) ∧ w'.cell? ⟨gb, 9, none⟩ = some (.int .i64 p9) ∧ w'.cell? ⟨gb, 10, none⟩ = some (.int .i64 p10) ∧ w'.cell? ⟨gb, 11, none⟩ = some (.int .i64 p11))) (ds := []) #[false, false, false, false, false, false, false, false, false, false, false, false, false, false] (by kernel_rfl) rfl rfl ⟨(blk_cell BK.out 0).trans rfl, (blk_cell BK.out 1).trans rfl, (blk_cell BK.out 2).trans rfl, (blk_cell BK.out 3).trans rfl, (blk_cell BK.out 4).trans rfl, (blk_cell BK.out 5).trans rfl, (blk_cell BK.out 6).trans rfl, (blk_cell BK.out 7).trans rfl, (blk_cell BK.out 8).trans rfl, (blk_cell BK.out 9).trans rfl, (blk_cell BK.out 10).trans rfl, (blk_cell BK.out 11).trans rfl⟩ (fun hHeld => ?_); refine with_tabW whole.tab5 whole.bits5 (fun HT_ HW_ => ?_)
    have HC_0 := Aside0.mk (below_drew (Below.refl wo.heap.size wo))
    generalize wo.drew = W_0 at HC_0 hHeld ⊢
    refine take_ (i := 0) (N := (some 33)) (v := ?_) (a' := ?_) #[true, false, false, false, false, false, false, false, false, false, false, false, false, false] rfl rfl (take_ofW HT_.out HW_.out (by kernel_rfl)) (fun _ _ _ h => h) (Or.inl ⟨by rfl, ?_⟩) hHeld ?_ ?_
    rotate_left
    · rintro w' ⟨s0, s1, s2, s3, s4, s5, s6, s7, s8, s9, s10, s11⟩
      go_simp
      with_reducible rfl
    rotate_left
    · simp only [Act.put, List.setIfInBounds_toArray, List.set_cons_zero, List.set_cons_succ, i64_w, i32_w]
      rfl
    refine pure_ (i := 2) (N := (some 35)) (v := ?_) (a' := ?_) #[true, false, true, false, false, false, false, false, false, false, false, false, false, false] rfl rfl (any_of HT_.out (by kernel_rfl)) (fun _ _ _ h => h) (Or.inl ⟨by rfl, ?_⟩) ?_ ?_
    rotate_left
    · intro w'
      go_simp
      with_reducible rfl
    rotate_left
    · simp only [Act.put, List.setIfInBounds_toArray, List.set_cons_zero, List.set_cons_succ, i64_w, i32_w]
      rfl
    refine pure_ (i := 4) (N := (some 37)) (v := ?_) (a' := ?_) #[true, false, true, false, true, false, false, false, false, false, false, false, false, false] rfl rfl (any_of HT_.out (by kernel_rfl)) (fun _ _ _ h => h) (Or.inl ⟨by rfl, ?_⟩) ?_ ?_
    rotate_left
    · intro w'
      go_simp
      with_reducible rfl
    rotate_left
    · simp only [Act.put, List.setIfInBounds_toArray, List.set_cons_zero, List.set_cons_succ, i64_w, i32_w]
      rfl
    refine pure_ (i := 7) (N := (some 40)) (v := ?_) (a' := ?_) #[true, false, true, false, true, false, false, true, false, false, false, false, false, false] rfl rfl (any_of HT_.out (by kernel_rfl)) (fun _ _ _ h => h) (Or.inl ⟨by rfl, ?_⟩) ?_ ?_
    rotate_left
    · intro w'
      go_simp
      with_reducible rfl
    rotate_left
    · simp only [Act.put, List.setIfInBounds_toArray, List.set_cons_zero, List.set_cons_succ, i64_w, i32_w]
      rfl
    refine two_ (i := 1) (j := 5) (Ni := (some 34)) (Nj := (some 38)) #[true, true, true, false, true, false, false, true, false, false, false, false, false, false] #[true, false, true, false, true, true, false, true, false, false, false, false, false, false] rfl rfl rfl rfl (two_of HT_.out (by kernel_rfl)) (by decide) (by decide) (fun K hK => ?_) (fun K hK => ?_)
    ·
      refine value_ (w1 := W_0.alloc (.cells #[] 3)) (v := .slice (some ⟨W_0.heap.size, 0, none⟩) 0 0) (by rfl) rfl (by go_simp) ?_
      have RW_1 := Aside0.mk (irow_lit0 wo W_0 HC_0.out.size)
      have HC_1 := Aside0.mk (HC_0.out.alloc HC_0.out.size (.cells #[] 3))
      generalize hv1 : Value.slice (some ⟨W_0.heap.size, 0, none⟩) 0 0 = v_1 at RW_1 ⊢
      clear hv1
      generalize W_0.alloc (.cells #[] 3) = W_1 at RW_1 HC_1 ⊢
      clear hHeld
      refine hK.out _ _ ⟨(blk_cell (blk_below BK.out HC_1.out) 0).trans rfl, (blk_cell (blk_below BK.out HC_1.out) 1).trans rfl, (blk_cell (blk_below BK.out HC_1.out) 2).trans rfl, (blk_cell (blk_below BK.out HC_1.out) 3).trans rfl, (blk_cell (blk_below BK.out HC_1.out) 4).trans rfl, (blk_cell (blk_below BK.out HC_1.out) 5).trans rfl, (blk_cell (blk_below BK.out HC_1.out) 6).trans rfl, (blk_cell (blk_below BK.out HC_1.out) 7).trans rfl, (blk_cell (blk_below BK.out HC_1.out) 8).trans rfl, (blk_cell (blk_below BK.out HC_1.out) 9).trans rfl, (blk_cell (blk_below BK.out HC_1.out) 10).trans rfl, (blk_cell (blk_below BK.out HC_1.out) 11).trans rfl⟩ (fun hHeld => ?_)
      clear hK K
      refine norm_ (a' := ?_) ?_ ?_
      rotate_left
      · show Act.put _ (some 34) _ = _
        simp only [Act.put, List.setIfInBounds_toArray, List.set_cons_zero, List.set_cons_succ, i64_w, i32_w]
        rfl
      refine two_ (i := 3) (j := 5) (Ni := (some 36)) (Nj := (some 38)) #[true, true, true, true, true, false, false, true, false, false, false, false, false, false] #[true, true, true, false, true, true, false, true, false, false, false, false, false, false] rfl rfl rfl rfl (two_of HT_.out (by kernel_rfl)) (by decide) (by decide) (fun K hK => ?_) (fun K hK => ?_)
      ·
        refine Kd.R_append_rows_step (Kd.int .i64) (w0 := wo) wo.heap.size (by rfl) (.tmp 34) (.tmp 35) 33 3 (.int .i64 0) 8 rfl Try.underlying33 info3 rfl (by decide) (by omega) _ ([] : List Int) l _ _ _ (fun _ => True) (fun _ => False) (by rfl) (by rfl) RW_1.out (Kd.C_below (ireads_row ((R1.out.below HB.out))) HC_1.out) (fun _ _ h => h) (fun _ h => h.elim) (fun _ _ => trivial) HC_1.out HC_1.out.size (by simp; omega) ?_
        intro v_2 W_2 ho hb hg hat
        have RW_2 := Aside0.mk ho
        have HC_2 := Aside0.mk hb
        clear ho hb hg hat
        clear hHeld
        refine hK.out _ _ ⟨(blk_cell (blk_below BK.out HC_2.out) 0).trans rfl, (blk_cell (blk_below BK.out HC_2.out) 1).trans rfl, (blk_cell (blk_below BK.out HC_2.out) 2).trans rfl, (blk_cell (blk_below BK.out HC_2.out) 3).trans rfl, (blk_cell (blk_below BK.out HC_2.out) 4).trans rfl, (blk_cell (blk_below BK.out HC_2.out) 5).trans rfl, (blk_cell (blk_below BK.out HC_2.out) 6).trans rfl, (blk_cell (blk_below BK.out HC_2.out) 7).trans rfl, (blk_cell (blk_below BK.out HC_2.out) 8).trans rfl, (blk_cell (blk_below BK.out HC_2.out) 9).trans rfl, (blk_cell (blk_below BK.out HC_2.out) 10).trans rfl, (blk_cell (blk_below BK.out HC_2.out) 11).trans rfl⟩ (fun hHeld => ?_)
        clear hK K
        refine norm_ (a' := ?_) ?_ ?_
        rotate_left
        · show Act.put _ (some 36) _ = _
          simp only [Act.put, List.setIfInBounds_toArray, List.set_cons_zero, List.set_cons_succ, i64_w, i32_w]
          rfl
        refine one_ (i := 5) (N := (some 38)) #[true, true, true, true, true, true, false, true, false, false, false, false, false, false] rfl rfl (one_of HT_.out (by kernel_rfl)) (by decide) (fun K hK => ?_)
        refine value_ (w1 := W_2.alloc (.cells #[.int .i64 n] 3)) (v := .slice (some ⟨W_2.heap.size, 0, none⟩) 1 1) (by rfl) rfl (by go_simp) ?_
        have NW_3 := Aside0.mk (one_reads W_2 n)
        have HC_3 := Aside0.mk (HC_2.out.alloc HC_2.out.size (.cells #[.int .i64 n] 3))
        have RW_3 := Aside0.mk (Kd.R_alloc RW_2.out (.cells #[.int .i64 n] 3))
        have DW := Aside0.mk (apart_b RW_2.out)
        generalize hg3 : (some ⟨W_2.heap.size, 0, none⟩ : Option Addr) = G at NW_3 DW ⊢
        clear hg3
        generalize W_2.alloc (.cells #[.int .i64 n] 3) = W_3 at NW_3 HC_3 RW_3 ⊢
        clear hHeld
        refine hK.out _ _ ⟨(blk_cell (blk_below BK.out HC_3.out) 0).trans rfl, (blk_cell (blk_below BK.out HC_3.out) 1).trans rfl, (blk_cell (blk_below BK.out HC_3.out) 2).trans rfl, (blk_cell (blk_below BK.out HC_3.out) 3).trans rfl, (blk_cell (blk_below BK.out HC_3.out) 4).trans rfl, (blk_cell (blk_below BK.out HC_3.out) 5).trans rfl, (blk_cell (blk_below BK.out HC_3.out) 6).trans rfl, (blk_cell (blk_below BK.out HC_3.out) 7).trans rfl, (blk_cell (blk_below BK.out HC_3.out) 8).trans rfl, (blk_cell (blk_below BK.out HC_3.out) 9).trans rfl, (blk_cell (blk_below BK.out HC_3.out) 10).trans rfl, (blk_cell (blk_below BK.out HC_3.out) 11).trans rfl⟩ (fun hHeld => ?_)
        clear hK K
        refine norm_ (a' := ?_) ?_ ?_
        rotate_left
        · show Act.put _ (some 38) _ = _
          simp only [Act.put, List.setIfInBounds_toArray, List.set_cons_zero, List.set_cons_succ, i64_w, i32_w]
          rfl
        refine one_ (i := 6) (N := (some 39)) #[true, true, true, true, true, true, true, true, false, false, false, false, false, false] rfl rfl (one_of HT_.out (by kernel_rfl)) (by decide) (fun K hK => ?_)
        refine Kd.R_append_rows_step (Kd.int .i64) (w0 := wo) wo.heap.size (by rfl) (.tmp 36) (.tmp 38) 33 3 (.int .i64 0) 8 rfl Try.underlying33 info3 rfl (by decide) (by omega) _ (([] : List Int) ++ l) [n] _ _ _ (fun _ => True) (fun _ => False) (by rfl) (by rfl) RW_3.out (ireads_row NW_3.out) (fun _ _ h => h) (fun _ h => h.elim) (fun _ _ => trivial) HC_3.out HC_3.out.size (by simp; omega) ?_
        intro v_4 W_4 ho hb hg hat
        have RW_4 := Aside0.mk ho
        have HC_4 := Aside0.mk hb
        clear ho hb hg hat
        clear hHeld
        refine hK.out _ _ ⟨(blk_cell (blk_below BK.out HC_4.out) 0).trans rfl, (blk_cell (blk_below BK.out HC_4.out) 1).trans rfl, (blk_cell (blk_below BK.out HC_4.out) 2).trans rfl, (blk_cell (blk_below BK.out HC_4.out) 3).trans rfl, (blk_cell (blk_below BK.out HC_4.out) 4).trans rfl, (blk_cell (blk_below BK.out HC_4.out) 5).trans rfl, (blk_cell (blk_below BK.out HC_4.out) 6).trans rfl, (blk_cell (blk_below BK.out HC_4.out) 7).trans rfl, (blk_cell (blk_below BK.out HC_4.out) 8).trans rfl, (blk_cell (blk_below BK.out HC_4.out) 9).trans rfl, (blk_cell (blk_below BK.out HC_4.out) 10).trans rfl, (blk_cell (blk_below BK.out HC_4.out) 11).trans rfl⟩ (fun hHeld => ?_)
        clear hK K
        refine norm_ (a' := ?_) ?_ ?_
        rotate_left
        · show Act.put _ (some 39) _ = _
          simp only [Act.put, List.setIfInBounds_toArray, List.set_cons_zero, List.set_cons_succ, i64_w, i32_w]
          rfl
        refine one_ (i := 8) (N := (some 41)) #[true, true, true, true, true, true, true, true, true, false, false, false, false, false] rfl rfl (one_of HT_.out (by kernel_rfl)) (by decide) (fun K hK => ?_)
        obtain ⟨A9, c9, hv9, _, hr9⟩ := irow_reads RW_4.out
        subst hv9
        have R9 := Aside0.mk hr9
        clear hr9
        refine goes_ Try.func10 (by kernel_rfl) rfl #[.agg #[.int .i64 p0, .int .i64 p1, .int .i64 p2, .int .i64 p3, .int .i64 p4, .int .i64 p5, .int .i64 p6, .int .i64 p7, .int .i64 p8, .int .i64 p9, .int .i64 p10, .int .i64 p11], .slice A9 (((([] : List Int) ++ l) ++ [n])).length c9, .slice A2 m.length cb] (by rfl) rfl rfl (by simp [Act.eval]) ?_
        have e9 : ((([] : List Int) ++ l) ++ [n]) = l ++ [n] := by simp
        rw [e9] at R9 ⊢
        refine (hT.out A9 A2 c9 cb (l ++ [n]) m W_4 R9.out ((R2.out.below HB.out).below HC_4.out) (by rw [List.length_append]; simp; omega)).mono ?_
        rintro e W_5 ⟨x, y, r, rfl, hq, hb⟩
        refine ⟨_, rfl, ?_⟩
        have HQ := Aside0.mk hq
        have HC_5 := Aside0.mk (below_then HC_4.out HC_4.out.size hb)
        clear hb hq R9
        clear hHeld
        refine hK.out _ _ ⟨(blk_cell (blk_below BK.out HC_5.out) 0).trans rfl, (blk_cell (blk_below BK.out HC_5.out) 1).trans rfl, (blk_cell (blk_below BK.out HC_5.out) 2).trans rfl, (blk_cell (blk_below BK.out HC_5.out) 3).trans rfl, (blk_cell (blk_below BK.out HC_5.out) 4).trans rfl, (blk_cell (blk_below BK.out HC_5.out) 5).trans rfl, (blk_cell (blk_below BK.out HC_5.out) 6).trans rfl, (blk_cell (blk_below BK.out HC_5.out) 7).trans rfl, (blk_cell (blk_below BK.out HC_5.out) 8).trans rfl, (blk_cell (blk_below BK.out HC_5.out) 9).trans rfl, (blk_cell (blk_below BK.out HC_5.out) 10).trans rfl, (blk_cell (blk_below BK.out HC_5.out) 11).trans rfl⟩ (fun hHeld => ?_)
        clear hK K
        refine norm_ (a' := ?_) ?_ ?_
        rotate_left
        · show Act.put _ (some 41) _ = _
          simp only [Act.put, List.setIfInBounds_toArray, List.set_cons_zero, List.set_cons_succ, i64_w, i32_w]
          rfl
        refine pure_ (i := 9) (N := (some 32)) (v := ?_) (a' := ?_) #[true, true, true, true, true, true, true, true, true, true, false, false, false, false] rfl rfl (any_of HT_.out (by kernel_rfl)) (fun _ _ _ h => h) (Or.inl ⟨by rfl, ?_⟩) ?_ ?_
        rotate_left
        · intro w'
          go_simp
          with_reducible rfl
        rotate_left
        · simp only [Act.put, List.setIfInBounds_toArray, List.set_cons_zero, List.set_cons_succ, i64_w, i32_w]
          rfl
        refine pure_ (i := 10) (N := (some 42)) (v := ?_) (a' := ?_) #[true, true, true, true, true, true, true, true, true, true, true, false, false, false] rfl rfl (any_of HT_.out (by kernel_rfl)) (fun _ _ _ h => h) (Or.inl ⟨by rfl, ?_⟩) ?_ ?_
        rotate_left
        · intro w'
          go_simp
          with_reducible rfl
        rotate_left
        · simp only [Act.put, List.setIfInBounds_toArray, List.set_cons_zero, List.set_cons_succ, i64_w, i32_w]
          rfl
        refine pure_ (i := 11) (N := (some 43)) (v := ?_) (a' := ?_) #[true, true, true, true, true, true, true, true, true, true, true, true, false, false] rfl rfl (any_of HT_.out (by kernel_rfl)) (fun _ _ _ h => h) (Or.inl ⟨by rfl, ?_⟩) ?_ ?_
        rotate_left
        · intro w'
          go_simp
          with_reducible rfl
        rotate_left
        · simp only [Act.put, List.setIfInBounds_toArray, List.set_cons_zero, List.set_cons_succ, i64_w, i32_w]
          rfl
        refine pure_ (i := 12) (N := (some 13)) (v := ?_) (a' := ?_) #[true, true, true, true, true, true, true, true, true, true, true, true, true, false] rfl rfl (any_of HT_.out (by kernel_rfl)) (fun _ _ _ h => h) (Or.inl ⟨by rfl, ?_⟩) ?_ ?_
        rotate_left
        · intro w'
          go_simp
          with_reducible rfl
        rotate_left
        · simp only [Act.put, List.setIfInBounds_toArray, List.set_cons_zero, List.set_cons_succ, i64_w, i32_w]
          rfl
        refine pure_ (i := 13) (N := (some 14)) (v := ?_) (a' := ?_) #[true, true, true, true, true, true, true, true, true, true, true, true, true, true] rfl rfl (any_of HT_.out (by kernel_rfl)) (fun _ _ _ h => h) (Or.inl ⟨by rfl, ?_⟩) ?_ ?_
        rotate_left
        · intro w'
          go_simp
          with_reducible rfl
        rotate_left
        · simp only [Act.put, List.setIfInBounds_toArray, List.set_cons_zero, List.set_cons_succ, i64_w, i32_w]
          rfl
        refine done_ (done_of HT_.out (by kernel_rfl)) ?_
        go_wp2_with fail
        go_meet
        case rel => exact ⟨x, y, r, rfl, rfl, HQ, ⟨below_then HB.out HB.out.size HC_5.out⟩⟩
      ·
        refine value_ (w1 := W_1.alloc (.cells #[.int .i64 n] 3)) (v := .slice (some ⟨W_1.heap.size, 0, none⟩) 1 1) (by rfl) rfl (by go_simp) ?_
        have NW_6 := Aside0.mk (one_reads W_1 n)
        have HC_6 := Aside0.mk (HC_1.out.alloc HC_1.out.size (.cells #[.int .i64 n] 3))
        have RW_6 := Aside0.mk (Kd.R_alloc RW_1.out (.cells #[.int .i64 n] 3))
        have DW := Aside0.mk (apart_b RW_1.out)
        generalize hg6 : (some ⟨W_1.heap.size, 0, none⟩ : Option Addr) = G at NW_6 DW ⊢
        clear hg6
        generalize W_1.alloc (.cells #[.int .i64 n] 3) = W_6 at NW_6 HC_6 RW_6 ⊢
        clear hHeld
        refine hK.out _ _ ⟨(blk_cell (blk_below BK.out HC_6.out) 0).trans rfl, (blk_cell (blk_below BK.out HC_6.out) 1).trans rfl, (blk_cell (blk_below BK.out HC_6.out) 2).trans rfl, (blk_cell (blk_below BK.out HC_6.out) 3).trans rfl, (blk_cell (blk_below BK.out HC_6.out) 4).trans rfl, (blk_cell (blk_below BK.out HC_6.out) 5).trans rfl, (blk_cell (blk_below BK.out HC_6.out) 6).trans rfl, (blk_cell (blk_below BK.out HC_6.out) 7).trans rfl, (blk_cell (blk_below BK.out HC_6.out) 8).trans rfl, (blk_cell (blk_below BK.out HC_6.out) 9).trans rfl, (blk_cell (blk_below BK.out HC_6.out) 10).trans rfl, (blk_cell (blk_below BK.out HC_6.out) 11).trans rfl⟩ (fun hHeld => ?_)
        clear hK K
        refine norm_ (a' := ?_) ?_ ?_
        rotate_left
        · show Act.put _ (some 38) _ = _
          simp only [Act.put, List.setIfInBounds_toArray, List.set_cons_zero, List.set_cons_succ, i64_w, i32_w]
          rfl
        refine one_ (i := 3) (N := (some 36)) #[true, true, true, true, true, true, false, true, false, false, false, false, false, false] rfl rfl (one_of HT_.out (by kernel_rfl)) (by decide) (fun K hK => ?_)
        refine Kd.R_append_rows_step (Kd.int .i64) (w0 := wo) wo.heap.size (by rfl) (.tmp 34) (.tmp 35) 33 3 (.int .i64 0) 8 rfl Try.underlying33 info3 rfl (by decide) (by omega) _ ([] : List Int) l _ _ _ (fun _ => True) (fun _ => False) (by rfl) (by rfl) RW_6.out (Kd.C_below (ireads_row ((R1.out.below HB.out))) HC_6.out) (fun _ _ h => h) (fun _ h => h.elim) (fun _ _ => trivial) HC_6.out HC_6.out.size (by simp; omega) ?_
        intro v_7 W_7 ho hb hg hat
        have RW_7 := Aside0.mk ho
        have HC_7 := Aside0.mk hb
        have NW_7 := Aside0.mk (news_kept NW_6.out hg DW.out)
        clear ho hb hg hat
        clear hHeld
        refine hK.out _ _ ⟨(blk_cell (blk_below BK.out HC_7.out) 0).trans rfl, (blk_cell (blk_below BK.out HC_7.out) 1).trans rfl, (blk_cell (blk_below BK.out HC_7.out) 2).trans rfl, (blk_cell (blk_below BK.out HC_7.out) 3).trans rfl, (blk_cell (blk_below BK.out HC_7.out) 4).trans rfl, (blk_cell (blk_below BK.out HC_7.out) 5).trans rfl, (blk_cell (blk_below BK.out HC_7.out) 6).trans rfl, (blk_cell (blk_below BK.out HC_7.out) 7).trans rfl, (blk_cell (blk_below BK.out HC_7.out) 8).trans rfl, (blk_cell (blk_below BK.out HC_7.out) 9).trans rfl, (blk_cell (blk_below BK.out HC_7.out) 10).trans rfl, (blk_cell (blk_below BK.out HC_7.out) 11).trans rfl⟩ (fun hHeld => ?_)
        clear hK K
        refine norm_ (a' := ?_) ?_ ?_
        rotate_left
        · show Act.put _ (some 36) _ = _
          simp only [Act.put, List.setIfInBounds_toArray, List.set_cons_zero, List.set_cons_succ, i64_w, i32_w]
          rfl
        refine one_ (i := 6) (N := (some 39)) #[true, true, true, true, true, true, true, true, false, false, false, false, false, false] rfl rfl (one_of HT_.out (by kernel_rfl)) (by decide) (fun K hK => ?_)
        refine Kd.R_append_rows_step (Kd.int .i64) (w0 := wo) wo.heap.size (by rfl) (.tmp 36) (.tmp 38) 33 3 (.int .i64 0) 8 rfl Try.underlying33 info3 rfl (by decide) (by omega) _ (([] : List Int) ++ l) [n] _ _ _ (fun _ => True) (fun _ => False) (by rfl) (by rfl) RW_7.out (ireads_row NW_7.out) (fun _ _ h => h) (fun _ h => h.elim) (fun _ _ => trivial) HC_7.out HC_7.out.size (by simp; omega) ?_
        intro v_8 W_8 ho hb hg hat
        have RW_8 := Aside0.mk ho
        have HC_8 := Aside0.mk hb
        clear ho hb hg hat
        clear hHeld
        refine hK.out _ _ ⟨(blk_cell (blk_below BK.out HC_8.out) 0).trans rfl, (blk_cell (blk_below BK.out HC_8.out) 1).trans rfl, (blk_cell (blk_below BK.out HC_8.out) 2).trans rfl, (blk_cell (blk_below BK.out HC_8.out) 3).trans rfl, (blk_cell (blk_below BK.out HC_8.out) 4).trans rfl, (blk_cell (blk_below BK.out HC_8.out) 5).trans rfl, (blk_cell (blk_below BK.out HC_8.out) 6).trans rfl, (blk_cell (blk_below BK.out HC_8.out) 7).trans rfl, (blk_cell (blk_below BK.out HC_8.out) 8).trans rfl, (blk_cell (blk_below BK.out HC_8.out) 9).trans rfl, (blk_cell (blk_below BK.out HC_8.out) 10).trans rfl, (blk_cell (blk_below BK.out HC_8.out) 11).trans rfl⟩ (fun hHeld => ?_)
        clear hK K
        refine norm_ (a' := ?_) ?_ ?_
        rotate_left
        · show Act.put _ (some 39) _ = _
          simp only [Act.put, List.setIfInBounds_toArray, List.set_cons_zero, List.set_cons_succ, i64_w, i32_w]
          rfl
        refine one_ (i := 8) (N := (some 41)) #[true, true, true, true, true, true, true, true, true, false, false, false, false, false] rfl rfl (one_of HT_.out (by kernel_rfl)) (by decide) (fun K hK => ?_)
        obtain ⟨A9, c9, hv9, _, hr9⟩ := irow_reads RW_8.out
        subst hv9
        have R9 := Aside0.mk hr9
        clear hr9
        refine goes_ Try.func10 (by kernel_rfl) rfl #[.agg #[.int .i64 p0, .int .i64 p1, .int .i64 p2, .int .i64 p3, .int .i64 p4, .int .i64 p5, .int .i64 p6, .int .i64 p7, .int .i64 p8, .int .i64 p9, .int .i64 p10, .int .i64 p11], .slice A9 (((([] : List Int) ++ l) ++ [n])).length c9, .slice A2 m.length cb] (by rfl) rfl rfl (by simp [Act.eval]) ?_
        have e9 : ((([] : List Int) ++ l) ++ [n]) = l ++ [n] := by simp
        rw [e9] at R9 ⊢
        refine (hT.out A9 A2 c9 cb (l ++ [n]) m W_8 R9.out ((R2.out.below HB.out).below HC_8.out) (by rw [List.length_append]; simp; omega)).mono ?_
        rintro e W_9 ⟨x, y, r, rfl, hq, hb⟩
        refine ⟨_, rfl, ?_⟩
        have HQ := Aside0.mk hq
        have HC_9 := Aside0.mk (below_then HC_8.out HC_8.out.size hb)
        clear hb hq R9
        clear hHeld
        refine hK.out _ _ ⟨(blk_cell (blk_below BK.out HC_9.out) 0).trans rfl, (blk_cell (blk_below BK.out HC_9.out) 1).trans rfl, (blk_cell (blk_below BK.out HC_9.out) 2).trans rfl, (blk_cell (blk_below BK.out HC_9.out) 3).trans rfl, (blk_cell (blk_below BK.out HC_9.out) 4).trans rfl, (blk_cell (blk_below BK.out HC_9.out) 5).trans rfl, (blk_cell (blk_below BK.out HC_9.out) 6).trans rfl, (blk_cell (blk_below BK.out HC_9.out) 7).trans rfl, (blk_cell (blk_below BK.out HC_9.out) 8).trans rfl, (blk_cell (blk_below BK.out HC_9.out) 9).trans rfl, (blk_cell (blk_below BK.out HC_9.out) 10).trans rfl, (blk_cell (blk_below BK.out HC_9.out) 11).trans rfl⟩ (fun hHeld => ?_)
        clear hK K
        refine norm_ (a' := ?_) ?_ ?_
        rotate_left
        · show Act.put _ (some 41) _ = _
          simp only [Act.put, List.setIfInBounds_toArray, List.set_cons_zero, List.set_cons_succ, i64_w, i32_w]
          rfl
        refine pure_ (i := 9) (N := (some 32)) (v := ?_) (a' := ?_) #[true, true, true, true, true, true, true, true, true, true, false, false, false, false] rfl rfl (any_of HT_.out (by kernel_rfl)) (fun _ _ _ h => h) (Or.inl ⟨by rfl, ?_⟩) ?_ ?_
        rotate_left
        · intro w'
          go_simp
          with_reducible rfl
        rotate_left
        · simp only [Act.put, List.setIfInBounds_toArray, List.set_cons_zero, List.set_cons_succ, i64_w, i32_w]
          rfl
        refine pure_ (i := 10) (N := (some 42)) (v := ?_) (a' := ?_) #[true, true, true, true, true, true, true, true, true, true, true, false, false, false] rfl rfl (any_of HT_.out (by kernel_rfl)) (fun _ _ _ h => h) (Or.inl ⟨by rfl, ?_⟩) ?_ ?_
        rotate_left
        · intro w'
          go_simp
          with_reducible rfl
        rotate_left
        · simp only [Act.put, List.setIfInBounds_toArray, List.set_cons_zero, List.set_cons_succ, i64_w, i32_w]
          rfl
        refine pure_ (i := 11) (N := (some 43)) (v := ?_) (a' := ?_) #[true, true, true, true, true, true, true, true, true, true, true, true, false, false] rfl rfl (any_of HT_.out (by kernel_rfl)) (fun _ _ _ h => h) (Or.inl ⟨by rfl, ?_⟩) ?_ ?_
        rotate_left
        · intro w'
          go_simp
          with_reducible rfl
        rotate_left
        · simp only [Act.put, List.setIfInBounds_toArray, List.set_cons_zero, List.set_cons_succ, i64_w, i32_w]
          rfl
        refine pure_ (i := 12) (N := (some 13)) (v := ?_) (a' := ?_) #[true, true, true, true, true, true, true, true, true, true, true, true, true, false] rfl rfl (any_of HT_.out (by kernel_rfl)) (fun _ _ _ h => h) (Or.inl ⟨by rfl, ?_⟩) ?_ ?_
        rotate_left
        · intro w'
          go_simp
          with_reducible rfl
        rotate_left
        · simp only [Act.put, List.setIfInBounds_toArray, List.set_cons_zero, List.set_cons_succ, i64_w, i32_w]
          rfl
        refine pure_ (i := 13) (N := (some 14)) (v := ?_) (a' := ?_) #[true, true, true, true, true, true, true, true, true, true, true, true, true, true] rfl rfl (any_of HT_.out (by kernel_rfl)) (fun _ _ _ h => h) (Or.inl ⟨by rfl, ?_⟩) ?_ ?_
        rotate_left
        · intro w'
          go_simp
          with_reducible rfl
        rotate_left
        · simp only [Act.put, List.setIfInBounds_toArray, List.set_cons_zero, List.set_cons_succ, i64_w, i32_w]
          rfl
        refine done_ (done_of HT_.out (by kernel_rfl)) ?_
        go_wp2_with fail
        go_meet
        case rel => exact ⟨x, y, r, rfl, rfl, HQ, ⟨below_then HB.out HB.out.size HC_9.out⟩⟩
    ·
      refine value_ (w1 := W_0.alloc (.cells #[.int .i64 n] 3)) (v := .slice (some ⟨W_0.heap.size, 0, none⟩) 1 1) (by rfl) rfl (by go_simp) ?_
      have NW_10 := Aside0.mk (one_reads W_0 n)
      have HC_10 := Aside0.mk (HC_0.out.alloc HC_0.out.size (.cells #[.int .i64 n] 3))
      generalize hg10 : (some ⟨W_0.heap.size, 0, none⟩ : Option Addr) = G at NW_10 ⊢
      clear hg10
      generalize W_0.alloc (.cells #[.int .i64 n] 3) = W_10 at NW_10 HC_10 ⊢
      clear hHeld
      refine hK.out _ _ ⟨(blk_cell (blk_below BK.out HC_10.out) 0).trans rfl, (blk_cell (blk_below BK.out HC_10.out) 1).trans rfl, (blk_cell (blk_below BK.out HC_10.out) 2).trans rfl, (blk_cell (blk_below BK.out HC_10.out) 3).trans rfl, (blk_cell (blk_below BK.out HC_10.out) 4).trans rfl, (blk_cell (blk_below BK.out HC_10.out) 5).trans rfl, (blk_cell (blk_below BK.out HC_10.out) 6).trans rfl, (blk_cell (blk_below BK.out HC_10.out) 7).trans rfl, (blk_cell (blk_below BK.out HC_10.out) 8).trans rfl, (blk_cell (blk_below BK.out HC_10.out) 9).trans rfl, (blk_cell (blk_below BK.out HC_10.out) 10).trans rfl, (blk_cell (blk_below BK.out HC_10.out) 11).trans rfl⟩ (fun hHeld => ?_)
      clear hK K
      refine norm_ (a' := ?_) ?_ ?_
      rotate_left
      · show Act.put _ (some 38) _ = _
        simp only [Act.put, List.setIfInBounds_toArray, List.set_cons_zero, List.set_cons_succ, i64_w, i32_w]
        rfl
      refine one_ (i := 1) (N := (some 34)) #[true, true, true, false, true, true, false, true, false, false, false, false, false, false] rfl rfl (one_of HT_.out (by kernel_rfl)) (by decide) (fun K hK => ?_)
      refine value_ (w1 := W_10.alloc (.cells #[] 3)) (v := .slice (some ⟨W_10.heap.size, 0, none⟩) 0 0) (by rfl) rfl (by go_simp) ?_
      have RW_11 := Aside0.mk (irow_lit0 wo W_10 HC_10.out.size)
      have HC_11 := Aside0.mk (HC_10.out.alloc HC_10.out.size (.cells #[] 3))
      have NW_11 := Aside0.mk (NW_10.out.below (below_alloc (Below.refl _ _) (.cells #[] 3)))
      have DW := Aside0.mk (apart_a NW_10.out)
      generalize hv11 : Value.slice (some ⟨W_10.heap.size, 0, none⟩) 0 0 = v_11 at RW_11 DW ⊢
      clear hv11
      generalize W_10.alloc (.cells #[] 3) = W_11 at RW_11 HC_11 NW_11 ⊢
      clear hHeld
      refine hK.out _ _ ⟨(blk_cell (blk_below BK.out HC_11.out) 0).trans rfl, (blk_cell (blk_below BK.out HC_11.out) 1).trans rfl, (blk_cell (blk_below BK.out HC_11.out) 2).trans rfl, (blk_cell (blk_below BK.out HC_11.out) 3).trans rfl, (blk_cell (blk_below BK.out HC_11.out) 4).trans rfl, (blk_cell (blk_below BK.out HC_11.out) 5).trans rfl, (blk_cell (blk_below BK.out HC_11.out) 6).trans rfl, (blk_cell (blk_below BK.out HC_11.out) 7).trans rfl, (blk_cell (blk_below BK.out HC_11.out) 8).trans rfl, (blk_cell (blk_below BK.out HC_11.out) 9).trans rfl, (blk_cell (blk_below BK.out HC_11.out) 10).trans rfl, (blk_cell (blk_below BK.out HC_11.out) 11).trans rfl⟩ (fun hHeld => ?_)
      clear hK K
      refine norm_ (a' := ?_) ?_ ?_
      rotate_left
      · show Act.put _ (some 34) _ = _
        simp only [Act.put, List.setIfInBounds_toArray, List.set_cons_zero, List.set_cons_succ, i64_w, i32_w]
        rfl
      refine one_ (i := 3) (N := (some 36)) #[true, true, true, true, true, true, false, true, false, false, false, false, false, false] rfl rfl (one_of HT_.out (by kernel_rfl)) (by decide) (fun K hK => ?_)
      refine Kd.R_append_rows_step (Kd.int .i64) (w0 := wo) wo.heap.size (by rfl) (.tmp 34) (.tmp 35) 33 3 (.int .i64 0) 8 rfl Try.underlying33 info3 rfl (by decide) (by omega) _ ([] : List Int) l _ _ _ (fun _ => True) (fun _ => False) (by rfl) (by rfl) RW_11.out (Kd.C_below (ireads_row ((R1.out.below HB.out))) HC_11.out) (fun _ _ h => h) (fun _ h => h.elim) (fun _ _ => trivial) HC_11.out HC_11.out.size (by simp; omega) ?_
      intro v_12 W_12 ho hb hg hat
      have RW_12 := Aside0.mk ho
      have HC_12 := Aside0.mk hb
      have NW_12 := Aside0.mk (news_kept NW_11.out hg DW.out)
      clear ho hb hg hat
      clear hHeld
      refine hK.out _ _ ⟨(blk_cell (blk_below BK.out HC_12.out) 0).trans rfl, (blk_cell (blk_below BK.out HC_12.out) 1).trans rfl, (blk_cell (blk_below BK.out HC_12.out) 2).trans rfl, (blk_cell (blk_below BK.out HC_12.out) 3).trans rfl, (blk_cell (blk_below BK.out HC_12.out) 4).trans rfl, (blk_cell (blk_below BK.out HC_12.out) 5).trans rfl, (blk_cell (blk_below BK.out HC_12.out) 6).trans rfl, (blk_cell (blk_below BK.out HC_12.out) 7).trans rfl, (blk_cell (blk_below BK.out HC_12.out) 8).trans rfl, (blk_cell (blk_below BK.out HC_12.out) 9).trans rfl, (blk_cell (blk_below BK.out HC_12.out) 10).trans rfl, (blk_cell (blk_below BK.out HC_12.out) 11).trans rfl⟩ (fun hHeld => ?_)
      clear hK K
      refine norm_ (a' := ?_) ?_ ?_
      rotate_left
      · show Act.put _ (some 36) _ = _
        simp only [Act.put, List.setIfInBounds_toArray, List.set_cons_zero, List.set_cons_succ, i64_w, i32_w]
        rfl
      refine one_ (i := 6) (N := (some 39)) #[true, true, true, true, true, true, true, true, false, false, false, false, false, false] rfl rfl (one_of HT_.out (by kernel_rfl)) (by decide) (fun K hK => ?_)
      refine Kd.R_append_rows_step (Kd.int .i64) (w0 := wo) wo.heap.size (by rfl) (.tmp 36) (.tmp 38) 33 3 (.int .i64 0) 8 rfl Try.underlying33 info3 rfl (by decide) (by omega) _ (([] : List Int) ++ l) [n] _ _ _ (fun _ => True) (fun _ => False) (by rfl) (by rfl) RW_12.out (ireads_row NW_12.out) (fun _ _ h => h) (fun _ h => h.elim) (fun _ _ => trivial) HC_12.out HC_12.out.size (by simp; omega) ?_
      intro v_13 W_13 ho hb hg hat
      have RW_13 := Aside0.mk ho
      have HC_13 := Aside0.mk hb
      clear ho hb hg hat
      clear hHeld
      refine hK.out _ _ ⟨(blk_cell (blk_below BK.out HC_13.out) 0).trans rfl, (blk_cell (blk_below BK.out HC_13.out) 1).trans rfl, (blk_cell (blk_below BK.out HC_13.out) 2).trans rfl, (blk_cell (blk_below BK.out HC_13.out) 3).trans rfl, (blk_cell (blk_below BK.out HC_13.out) 4).trans rfl, (blk_cell (blk_below BK.out HC_13.out) 5).trans rfl, (blk_cell (blk_below BK.out HC_13.out) 6).trans rfl, (blk_cell (blk_below BK.out HC_13.out) 7).trans rfl, (blk_cell (blk_below BK.out HC_13.out) 8).trans rfl, (blk_cell (blk_below BK.out HC_13.out) 9).trans rfl, (blk_cell (blk_below BK.out HC_13.out) 10).trans rfl, (blk_cell (blk_below BK.out HC_13.out) 11).trans rfl⟩ (fun hHeld => ?_)
      clear hK K
      refine norm_ (a' := ?_) ?_ ?_
      rotate_left
      · show Act.put _ (some 39) _ = _
        simp only [Act.put, List.setIfInBounds_toArray, List.set_cons_zero, List.set_cons_succ, i64_w, i32_w]
        rfl
      refine one_ (i := 8) (N := (some 41)) #[true, true, true, true, true, true, true, true, true, false, false, false, false, false] rfl rfl (one_of HT_.out (by kernel_rfl)) (by decide) (fun K hK => ?_)
      obtain ⟨A9, c9, hv9, _, hr9⟩ := irow_reads RW_13.out
      subst hv9
      have R9 := Aside0.mk hr9
      clear hr9
      refine goes_ Try.func10 (by kernel_rfl) rfl #[.agg #[.int .i64 p0, .int .i64 p1, .int .i64 p2, .int .i64 p3, .int .i64 p4, .int .i64 p5, .int .i64 p6, .int .i64 p7, .int .i64 p8, .int .i64 p9, .int .i64 p10, .int .i64 p11], .slice A9 (((([] : List Int) ++ l) ++ [n])).length c9, .slice A2 m.length cb] (by rfl) rfl rfl (by simp [Act.eval]) ?_
      have e9 : ((([] : List Int) ++ l) ++ [n]) = l ++ [n] := by simp
      rw [e9] at R9 ⊢
      refine (hT.out A9 A2 c9 cb (l ++ [n]) m W_13 R9.out ((R2.out.below HB.out).below HC_13.out) (by rw [List.length_append]; simp; omega)).mono ?_
      rintro e W_14 ⟨x, y, r, rfl, hq, hb⟩
      refine ⟨_, rfl, ?_⟩
      have HQ := Aside0.mk hq
      have HC_14 := Aside0.mk (below_then HC_13.out HC_13.out.size hb)
      clear hb hq R9
      clear hHeld
      refine hK.out _ _ ⟨(blk_cell (blk_below BK.out HC_14.out) 0).trans rfl, (blk_cell (blk_below BK.out HC_14.out) 1).trans rfl, (blk_cell (blk_below BK.out HC_14.out) 2).trans rfl, (blk_cell (blk_below BK.out HC_14.out) 3).trans rfl, (blk_cell (blk_below BK.out HC_14.out) 4).trans rfl, (blk_cell (blk_below BK.out HC_14.out) 5).trans rfl, (blk_cell (blk_below BK.out HC_14.out) 6).trans rfl, (blk_cell (blk_below BK.out HC_14.out) 7).trans rfl, (blk_cell (blk_below BK.out HC_14.out) 8).trans rfl, (blk_cell (blk_below BK.out HC_14.out) 9).trans rfl, (blk_cell (blk_below BK.out HC_14.out) 10).trans rfl, (blk_cell (blk_below BK.out HC_14.out) 11).trans rfl⟩ (fun hHeld => ?_)
      clear hK K
      refine norm_ (a' := ?_) ?_ ?_
      rotate_left
      · show Act.put _ (some 41) _ = _
        simp only [Act.put, List.setIfInBounds_toArray, List.set_cons_zero, List.set_cons_succ, i64_w, i32_w]
        rfl
      refine pure_ (i := 9) (N := (some 32)) (v := ?_) (a' := ?_) #[true, true, true, true, true, true, true, true, true, true, false, false, false, false] rfl rfl (any_of HT_.out (by kernel_rfl)) (fun _ _ _ h => h) (Or.inl ⟨by rfl, ?_⟩) ?_ ?_
      rotate_left
      · intro w'
        go_simp
        with_reducible rfl
      rotate_left
      · simp only [Act.put, List.setIfInBounds_toArray, List.set_cons_zero, List.set_cons_succ, i64_w, i32_w]
        rfl
      refine pure_ (i := 10) (N := (some 42)) (v := ?_) (a' := ?_) #[true, true, true, true, true, true, true, true, true, true, true, false, false, false] rfl rfl (any_of HT_.out (by kernel_rfl)) (fun _ _ _ h => h) (Or.inl ⟨by rfl, ?_⟩) ?_ ?_
      rotate_left
      · intro w'
        go_simp
        with_reducible rfl
      rotate_left
      · simp only [Act.put, List.setIfInBounds_toArray, List.set_cons_zero, List.set_cons_succ, i64_w, i32_w]
        rfl
      refine pure_ (i := 11) (N := (some 43)) (v := ?_) (a' := ?_) #[true, true, true, true, true, true, true, true, true, true, true, true, false, false] rfl rfl (any_of HT_.out (by kernel_rfl)) (fun _ _ _ h => h) (Or.inl ⟨by rfl, ?_⟩) ?_ ?_
      rotate_left
      · intro w'
        go_simp
        with_reducible rfl
      rotate_left
      · simp only [Act.put, List.setIfInBounds_toArray, List.set_cons_zero, List.set_cons_succ, i64_w, i32_w]
        rfl
      refine pure_ (i := 12) (N := (some 13)) (v := ?_) (a' := ?_) #[true, true, true, true, true, true, true, true, true, true, true, true, true, false] rfl rfl (any_of HT_.out (by kernel_rfl)) (fun _ _ _ h => h) (Or.inl ⟨by rfl, ?_⟩) ?_ ?_
      rotate_left
      · intro w'
        go_simp
        with_reducible rfl
      rotate_left
      · simp only [Act.put, List.setIfInBounds_toArray, List.set_cons_zero, List.set_cons_succ, i64_w, i32_w]
        rfl
      refine pure_ (i := 13) (N := (some 14)) (v := ?_) (a' := ?_) #[true, true, true, true, true, true, true, true, true, true, true, true, true, true] rfl rfl (any_of HT_.out (by kernel_rfl)) (fun _ _ _ h => h) (Or.inl ⟨by rfl, ?_⟩) ?_ ?_
      rotate_left
      · intro w'
        go_simp
        with_reducible rfl
      rotate_left
      · simp only [Act.put, List.setIfInBounds_toArray, List.set_cons_zero, List.set_cons_succ, i64_w, i32_w]
        rfl
      refine done_ (done_of HT_.out (by kernel_rfl)) ?_
      go_wp2_with fail
      go_meet
      case rel => exact ⟨x, y, r, rfl, rfl, HQ, ⟨below_then HB.out HB.out.size HC_14.out⟩⟩
  case rest =>
    obtain ⟨xc, yc, rc, rfl, rfl, HQ, HBc⟩ := hcut
    clear HB BK
    have AG := Aside0.mk (HAg.out _ _ _ _ _ _ _ _ _ HA.out HFb.out HQ.out)
    clear HAg HA HFb HQ R1 R2 hT hF
    by_cases c1 : ra = 0
    · by_cases c2 : rb = 0
      · obtain ⟨A, I, B, J, r1, r2, r3, r4, q1, q2, q3, q4, q5, hc⟩ := AG.out.yes c1 c2
        subst c1
        subst c2
        have HR := Aside0.mk (And.intro (And.intro r1 r2) (And.intro r3 r4))
        have HQ := Aside0.mk (And.intro (And.intro q1 q2) (And.intro (And.intro q3 q4) q5))
        have HCc := Aside0.mk hc
        clear r1 r2 r3 r4 q1 q2 q3 q4 q5 hc AG
        have hS := fun (W : World) (g : Nat) (h : W.heap[g]? = some (.cells #[.complex .f64 xa ya, .complex .f64 xb yb] 25 (0, 0))) => sum_two W g h HR.out HQ.out
        have HS := Aside0.mk hS
        clear hS
        go_wp2_with fail
        have HS2 := Aside0.mk (HS.out _ wc.heap.size (blk_new wc _))
        ((with_reducible refine HS2.out.mono ?_); rintro e w5 ⟨xd, yd, rd, rfl, hd, rfl⟩)
        have HBd := Aside0.mk (HBc.out.alloc HBc.out.size (.cells #[.complex .f64 xa ya, .complex .f64 xb yb] 25))
        clear HS HS2 HBc
        rcases hd with ⟨hd, rfl, rx, ry⟩ | ⟨hd, rfl, rfl, rfl⟩
        · rcases HCc.out with ⟨_, rfl, sx, sy⟩ | ⟨hc, _⟩
          · have v1 := same_ord sx rx
            have v2 := same_ord sy ry
            clear rx ry sx sy HCc hd HR HQ
            go_wp2
            go_ret
            exact ⟨rfl, HBd.out⟩
          · omega
        · rcases HCc.out with ⟨hc, _⟩ | ⟨_, rfl, rfl, rfl⟩
          · omega
          · clear HCc hd HR HQ
            go_wp2
            go_ret
            exact ⟨rfl, HBd.out⟩
      · obtain ⟨h, rfl, rfl⟩ := AG.out.no (.inr c2)
        subst c1
        have d1 : (rb != 0) = true := bne_iff_ne.2 c2
        have d2 : (rc != 0) = true := bne_iff_ne.2 h
        clear h c2 AG
        go_wp2
        go_ret
        exact ⟨rfl, HBc.out⟩
    · obtain ⟨h, rfl, rfl⟩ := AG.out.no (.inl c1)
      have d1 : (ra != 0) = true := bne_iff_ne.2 c1
      have d2 : (rc != 0) = true := bne_iff_ne.2 h
      clear h c1 AG
      go_wp2
      go_ret
      exact ⟨rfl, HBc.out⟩
theorem whole_row (p0 : Int) (p1 : Int) (p2 : Int) (p3 : Int) (p4 : Int) (p5 : Int) (p6 : Int) (p7 : Int) (p8 : Int) (p9 : Int) (p10 : Int) (p11 : Int) (A1 : Option Addr) (c1 : Nat) (l : List Int) (A2 : Option Addr) (c2 : Nat) (m : List Int) (n : Int) (w : World) (_ : (Lit.int .i64 p0).wf = true) (_ : (Lit.int .i64 p1).wf = true) (_ : (Lit.int .i64 p2).wf = true) (_ : (Lit.int .i64 p3).wf = true) (_ : (Lit.int .i64 p4).wf = true) (_ : (Lit.int .i64 p5).wf = true) (_ : (Lit.int .i64 p6).wf = true) (_ : (Lit.int .i64 p7).wf = true) (_ : (Lit.int .i64 p8).wf = true) (_ : (Lit.int .i64 p9).wf = true) (_ : (Lit.int .i64 p10).wf = true) (_ : (Lit.int .i64 p11).wf = true) (hr1 : ReadsInt w .i64 A1 l.length l) (_ : l.length ≤ c1) (_ : ∀ x ∈ l, (Lit.int .i64 x).wf = true) (hl1 : l.length ≤ 1048576) (hr2 : ReadsInt w .i64 A2 m.length m) (_ : m.length ≤ c2) (_ : ∀ x ∈ m, (Lit.int .i64 x).wf = true) (hl2 : m.length ≤ 1048576) (_ : (Lit.int .i64 n).wf = true) (hlen : l.length + m.length ≤ 2097152) :
    Calls Try.prog 4 #[.agg #[.int .i64 p0, .int .i64 p1, .int .i64 p2, .int .i64 p3, .int .i64 p4, .int .i64 p5, .int .i64 p6, .int .i64 p7, .int .i64 p8, .int .i64 p9, .int .i64 p10, .int .i64 p11], .slice A1 l.length c1, .slice A2 m.length c2, .int .i64 n] w fun e w' => e = .returned (.bool true) ∧ Below w.heap.size w w' := by
  rcases plan_cases p0 p1 p2 p3 p4 p5 p6 p7 p8 p9 p10 p11 with F | ⟨s, F⟩
  · refine whole_walk p0 p1 p2 p3 p4 p5 p6 p7 p8 p9 p10 p11 n A1 A2 c1 c2 l m w hr1 hr2 hlen (fun _ _ x y r => r = 4 ∧ x = 0 ∧ y = 0) (fun A1 A2 c1 c2 l m W _ _ _ => ?_) (fun x y r => r = 4 ∧ x = 0 ∧ y = 0) (fun W => ?_) ?_
    · refine (tree_foul p0 p1 p2 p3 p4 p5 p6 p7 p8 p9 p10 p11 F _ _ W).mono ?_
      rintro e w' ⟨rfl, hb⟩
      exact ⟨_, _, _, rfl, ⟨rfl, rfl, rfl⟩, hb⟩
    · refine (file_foul F n W).mono ?_
      rintro e w' ⟨rfl, hb⟩
      exact ⟨_, _, _, rfl, ⟨rfl, rfl, rfl⟩, hb⟩
    · rintro xa ya ra xb yb rb xc yc rc ⟨rfl, rfl, rfl⟩ ⟨rfl, rfl, rfl⟩ ⟨rfl, rfl, rfl⟩
      exact ⟨fun _ => ⟨by decide, rfl, rfl⟩, fun h => absurd h (by decide)⟩
  · exact whole_walk p0 p1 p2 p3 p4 p5 p6 p7 p8 p9 p10 p11 n A1 A2 c1 c2 l m w hr1 hr2 hlen (TreeOut p0 s) (fun A1 A2 c1 c2 l m W h1 h2 h3 => tree_fine p0 p1 p2 p3 p4 p5 p6 p7 p8 p9 p10 p11 s F A1 A2 c1 c2 l m W h1 h2 h3) (FileOut p0 s n) (fun W => file_fine F n W) (fun xa ya ra xb yb rb xc yc rc ha hb hc => agree_fine F hlen ha hb hc)
end Go.Proofs.Ytdjlbbfgobbcmaa.Need
