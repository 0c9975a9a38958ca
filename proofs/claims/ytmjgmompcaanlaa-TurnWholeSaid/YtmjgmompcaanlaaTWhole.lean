/- The spectrum of bytes in two parts, joined, is that of the whole; that of bytes behind others that are all 0 is the shifted one; joining three, it does not matter which two are joined first: the walk of the law. No conditions. -/
import Derived.Test.YtmjgmompcaanlaaTWholePlain
import Derived.Test.YtmjgmompcaanlaaWLast
import Derived.Test.YtmjgmompcaanlaaWTab
import Derived.Test.YtmjgmompcaanlaaWMore
import Derived.Test.YtmjgmompcaanlaaWGuard
import Derived.Outline
import Derived.Laws.CopyOwn
namespace Go.Proofs.Ytmjgmompcaanlaa.Turn
open Go.RowKit Go.Proofs.Ytmjgmompcaanlaa.PlainFloat Go.Proofs.YtmjgmompcaanlaaW.PrintWords Go.Proofs.YtmjgmompcaanlaaW.PrintLast Go.Proofs.YtmjgmompcaanlaaW.PrintMore
set_option linter.unusedVariables false
set_option linter.unusedSimpArgs false
attribute [local go_sem] run_store_complex
theorem info5 : (Try.prog.info? 5).map (fun i => (i.zero, i.size, i.bytes)) = some (some (.int .u8 0), 1, 1) := by kernel_rfl
theorem row_reads {e base : Nat} {ok : Nat → Prop} {w : World} {v : Value} {xs : List Int} (h : (Kd.int .u8).R e w base ok v xs) : ∃ A c, v = .slice A xs.length c ∧ xs.length ≤ c ∧ ReadsInt w .u8 A xs.length xs := by
  obtain ⟨A, c, e, h1, h2⟩ := Kd.R_reads h
  exact ⟨A, c, e, h1, readsInt_of.2 (Kd.reads_of_C (d := (0 : Int)) (h1 := fun _ => rfl) h2)⟩
theorem reads_row {w : World} {A : Option Addr} {xs : List Int} (h : ReadsInt w .u8 A xs.length xs) : (Kd.int .u8).C w A xs.length xs := Kd.C_of_reads (d := (0 : Int)) (h1 := fun _ => rfl) (readsInt_of.1 h)
theorem row_lit0 (w0 W : World) (hb : w0.heap.size ≤ W.heap.size) : (Kd.int .u8).R 5 (W.alloc (.cells #[] 5)) w0.heap.size (fun _ => True) (.slice (some ⟨W.heap.size, 0, none⟩) 0 0) [] :=
  Kd.R_of_own (enc := Value.int .u8) (h1 := fun _ => rfl) (own_lit W w0.heap.size 5 .u8 [] hb (by decide)) (fun _ _ => trivial)
theorem row_made (w0 W : World) (m : Nat) (hb : w0.heap.size ≤ W.heap.size) (hm : m ≤ 9223372036854775807) : (Kd.int .u8).R 5 (W.alloc (.cells (madeCells #[.int .u8 0] m) 5)) w0.heap.size (fun _ => True) (.slice (some ⟨W.heap.size, 0, none⟩) m m) (List.replicate m 0) := by
  refine Kd.R_of_own (enc := Value.int .u8) (h1 := fun _ => rfl) ?_ (fun _ _ => trivial)
  rw [List.length_replicate]
  exact own_made W w0.heap.size 5 .u8 m hb hm
theorem cells_one (p0 q0 p1 q1 p2 q2 p3 q3 : Nat) : #[Value.complex .f64 p0 q0, .complex .f64 p1 q1, .complex .f64 p2 q2, .complex .f64 p3 q3].all (·.oneCell') = true := by simp [Value.oneCell']
def zero4 : Array Value := #[.complex .f64 0 0, .complex .f64 0 0, .complex .f64 0 0, .complex .f64 0 0]
theorem info26 : (Try.prog.info? 26).map (·.size) = some 4 := by kernel_rfl
def SpecAt (w : World) (g : Nat) (l : List Int) : Prop := ∃ p0 q0 p1 q1 p2 q2 p3 q3, Of4 (.agg #[.complex .f64 p0 q0, .complex .f64 p1 q1, .complex .f64 p2 q2, .complex .f64 p3 q3]) l ∧ w.heap[g]? = some (.cells #[.complex .f64 p0 q0, .complex .f64 p1 q1, .complex .f64 p2 q2, .complex .f64 p3 q3] 26 (0, 0))
theorem SpecAt.below {w W : World} {g : Nat} {l : List Int} (h : SpecAt w g l) (hb : Below w.heap.size w W) : SpecAt W g l := by
  obtain ⟨p0, q0, p1, q1, p2, q2, p3, q3, h1, h2⟩ := h
  exact ⟨p0, q0, p1, q1, p2, q2, p3, q3, h1, blk_below h2 hb⟩
def whole.T8 : Bool × List (List Nat × List Nat) := (true, [([], []), ([0], [0]), ([1], [1]), ([2], [2]), ([3, 2], [2, 3]), ([2, 4], [2, 4]), ([5, 2], [5]), ([6], [6]), ([6], [6]), ([8, 6, 6], [6, 8]), ([7, 9, 6], [6, 7, 9]), ([6, 10], [6, 10]), ([11, 9], [11]), ([12], [12]), ([12], [12]), ([14, 12], [12, 14]), ([15, 15, 12], [12, 15]), ([12], [12]), ([16, 17, 12, 12], [12, 16, 17]), ([18, 18, 12], [12, 18]), ([13, 19, 12], [12, 13, 19]), ([12, 20], [12, 20])])
def whole.B8 : List Nat := [0, 1, 3, 7, 15, 31, 63, 127, 127, 383, 1023, 2047, 4095, 8191, 8191, 24575, 57343, 8191, 253951, 516095, 1048575, 2097151]
theorem whole.tab8 : rtab .any (opsOf Try.f6 8) = whole.T8 := by kernel_rfl
theorem whole.bits8 : waitsOk whole.T8.2 whole.B8 = true := by kernel_rfl
def whole.T10 : Bool × List (List Nat × List Nat) := (true, [([], []), ([], []), ([1], [1]), ([], []), ([3], [3]), ([0, 2, 4, 2], [0, 2, 4]), ([5], [5]), ([6], [6]), ([6], [6]), ([], []), ([9, 7, 5, 0, 1, 2, 3, 4, 5, 6, 7, 9], [7, 9]), ([8, 10, 0, 1, 2, 3, 4, 5, 6, 7, 8, 9, 10], [8])])
def whole.B10 : List Nat := [0, 0, 2, 0, 8, 31, 63, 127, 127, 0, 767, 2047]
theorem whole.tab10 : rtab .any (opsOf Try.f6 10) = whole.T10 := by kernel_rfl
theorem whole.bits10 : waitsOk whole.T10.2 whole.B10 = true := by kernel_rfl
def whole.T14 : Bool × List (List Nat × List Nat) := (true, [([], []), ([0], [0]), ([], []), ([], []), ([3], [3]), ([1, 2, 4, 1], [1, 2, 4]), ([5], [5]), ([6], [6]), ([6], [6]), ([], []), ([9, 7, 5, 0, 1, 2, 3, 4, 5, 6, 7, 9], [7, 9]), ([8, 10, 0, 1, 2, 3, 4, 5, 6, 7, 8, 9, 10], [8])])
def whole.B14 : List Nat := [0, 1, 0, 0, 8, 31, 63, 127, 127, 0, 767, 2047]
theorem whole.tab14 : rtab .any (opsOf Try.f6 14) = whole.T14 := by kernel_rfl
theorem whole.bits14 : waitsOk whole.T14.2 whole.B14 = true := by kernel_rfl
def whole.T15 : Bool × List (List Nat × List Nat) := (true, [([], []), ([0], [0]), ([1], [1]), ([2], [2]), ([2], [2]), ([3, 4, 2], [2, 3, 4]), ([2, 5], [2, 5]), ([6, 2], [6]), ([7], [7]), ([7], [7]), ([7], [7]), ([9, 10, 7, 7], [7, 9, 10]), ([7], [7]), ([11, 12, 11, 7], [7, 11, 12]), ([13, 13, 7], [7, 13]), ([8, 14, 7], [7, 8, 14]), ([7, 15], [7, 15]), ([16, 14, 0, 1, 2, 3, 4, 5, 6, 7, 8, 9, 10, 11, 12, 13, 14, 15, 16], [16])])
def whole.B15 : List Nat := [0, 1, 3, 7, 7, 31, 63, 127, 255, 255, 255, 1791, 255, 7935, 16127, 32767, 65535, 131071]
theorem whole.tab15 : rtab .any (opsOf Try.f6 15) = whole.T15 := by kernel_rfl
theorem whole.bits15 : waitsOk whole.T15.2 whole.B15 = true := by kernel_rfl
set_option maxHeartbeats 16000000 in
set_option maxRecDepth 100000 in
theorem whole_main (A1 A2 A3 : Option Addr) (c1 c2 c3 : Nat) (l1 l2 l3 : List Int) (w : World) (hr1 : ReadsInt w .u8 A1 l1.length l1) (hr2 : ReadsInt w .u8 A2 l2.length l2) (hr3 : ReadsInt w .u8 A3 l3.length l3) (hy1 : ByteList l1) (hy2 : ByteList l2) (hy3 : ByteList l3) (h1 : l1.length ≤ 4000) (h2 : l2.length ≤ 4000) (h3 : l3.length ≤ 4000) :
    Calls Try.prog 6 #[.slice A1 l1.length c1, .slice A2 l2.length c2, .slice A3 l3.length c3] w fun e w' => e = .returned (.bool true) ∧ Below w.heap.size w w' := by
  have R1 := Aside0.mk hr1
  have R2 := Aside0.mk hr2
  have R3 := Aside0.mk hr3
  have Y1 := Aside0.mk hy1
  have Y2 := Aside0.mk hy2
  have Y3 := Aside0.mk hy3
  clear hr1 hr2 hr3 hy1 hy2 hy3
  have d1 : decide ((4000 : Int) < (l1.length : Int)) = false := by simp; omega
  have d2 : decide ((4000 : Int) < (l2.length : Int)) = false := by simp; omega
  have d3 : decide ((4000 : Int) < (l3.length : Int)) = false := by simp; omega
  have hu := Try.underlying26
  go_enter Try.func6, Try.ntmps6
  go_wp2_with fail
  refine (wakes _).mono ?_
  rintro e w1 ⟨rfl, hb1⟩
  have HB1 := Aside0.mk hb1
  clear hb1
  go_upto_region 6 with (first | ((with_reducible refine gate_builtin (b := .append) (xs := #[.tmp 30, .tmp 31]) rfl ?_); at_builtin; refine Kd.R_append_rows (Kd.int .u8) (w0 := w) w.heap.size rfl (.tmp 30) (.tmp 31) 22 5 (.int .u8 0) 1 rfl Try.underlying22 info5 rfl (by decide) (by omega) _ [] l1 _ _ _ (fun _ => True) (fun _ => False) rfl rfl (row_lit0 w w1 HB1.out.size) (Kd.C_alloc (Kd.C_below (reads_row R1.out) HB1.out) _) (fun _ _ h => h) (fun _ h => h.elim) (fun _ _ => trivial) (HB1.out.alloc HB1.out.size _) (by have := HB1.out.size; simp; omega) (by simp; omega) ?_; intro v2 w2 ho hb hg hat; have HO1 := Aside0.mk ho; have HB2 := Aside0.mk hb; clear ho hb hg hat) | ((with_reducible refine gate_builtin (b := .append) (xs := #[.tmp 32, .tmp 33]) rfl ?_); at_builtin; refine Kd.R_append_rows (Kd.int .u8) (w0 := w) w.heap.size rfl (.tmp 32) (.tmp 33) 22 5 (.int .u8 0) 1 rfl Try.underlying22 info5 rfl (by decide) (by omega) v2 ([] ++ l1) l2 _ _ _ (fun _ => True) (fun _ => False) rfl rfl HO1.out (Kd.C_below (reads_row R2.out) HB2.out) (fun _ _ h => h) (fun _ h => h.elim) (fun _ _ => trivial) HB2.out HB2.out.size (by simp; omega) ?_; intro v3 w3 ho hb hg hat; have HO := Aside0.mk ho; have HB3 := Aside0.mk hb; clear ho hb hg hat HO1))
  clear d1 d2 d3
  obtain ⟨A4, c4, rfl, hc4, hr4⟩ := row_reads HO.out
  have R4 := Aside0.mk hr4
  clear hr4
  obtain ⟨l4, hl4⟩ : ∃ l4, ([] ++ l1 ++ l2 : List Int) = l4 := ⟨_, rfl⟩
  rw [hl4] at R4 ⊢
  have hl4' : l1 ++ l2 = l4 := by rw [← hl4, List.nil_append]
  have L4 := Aside0.mk hl4'
  have h4 : l4.length ≤ 8000 := by rw [← hl4', List.length_append]; omega
  have Y4 : Aside0 (ByteList l4) := ⟨by rw [← hl4']; exact byte_append Y1.out Y2.out⟩
  have E12 : Aside0 (plus (four l1) (rot (l1.length : Int) (four l2)) = four l4) := ⟨by rw [← hl4', four_append]⟩
  have S12 : Aside0 (Sums4 (plus (four l1) (rot (l1.length : Int) (four l2)))) := ⟨by rw [E12.out]; exact four_sums Y4.out (by omega)⟩
  clear hl4 hl4' HO hc4
  have hn1 : (0 : Int) ≤ (l1.length : Int) := by omega
  go_wp2_with fail
  refine (of4_calls A1 c1 l1 _ (R1.out.below HB3.out) Y1.out (by omega)).mono ?_
  rintro e w4 ⟨fa, rfl, hfa, hb⟩
  have HB4 := Aside0.mk (below_then HB3.out HB3.out.size hb)
  have R44 := Aside0.mk (R4.out.below hb)
  have FA := Aside0.mk hfa
  clear hb hfa
  go_wp2_with fail
  refine (of4_calls A2 c2 l2 _ (R2.out.below HB4.out) Y2.out (by omega)).mono ?_
  rintro e w5 ⟨fb, rfl, hfb, hb⟩
  have HB5 := Aside0.mk (below_then HB4.out HB4.out.size hb)
  have R45 := Aside0.mk (R44.out.below hb)
  have FB := Aside0.mk hfb
  clear hb hfb
  go_wp2_with fail
  refine (join_calls fa fb _ _ FA.out FB.out (l1.length : Int) hn1 S12.out _).mono ?_
  rintro e w6 ⟨f, rfl, hf, hb⟩
  rw [E12.out] at hf
  have HB6 := Aside0.mk (below_then HB5.out HB5.out.size hb)
  have R46 := Aside0.mk (R45.out.below hb)
  obtain ⟨a0, b0, a1, b1, a2, b2, a3, b3, rfl⟩ := hf.agg
  have FF := Aside0.mk hf
  clear hb hf
  go_wp2_with fail
  refine (of4_calls A2 c2 l2 _ ((R2.out.below HB6.out).below (below_alloc (Below.refl _ _) _)) Y2.out (by omega)).mono ?_
  rintro e w7 ⟨fb', rfl, hfb, hb⟩
  have HB7 := Aside0.mk (below_then (HB6.out.alloc HB6.out.size _) (by have := HB6.out.size; simp; omega) hb)
  have R47 := Aside0.mk ((R46.out.below (below_alloc (Below.refl _ _) _)).below hb)
  have N7 := Aside0.mk (blk_below (blk_new w6 (.cells #[.complex .f64 a0 b0, .complex .f64 a1 b1, .complex .f64 a2 b2, .complex .f64 a3 b3] 26)) hb)
  have FB2 := Aside0.mk hfb
  clear hb hfb
  go_wp2_with fail
  refine (shift_calls fb' _ FB2.out (l1.length : Int) hn1 _).mono ?_
  rintro e w8 ⟨g, rfl, hg, hb⟩
  have HB8 := Aside0.mk (below_then HB7.out HB7.out.size hb)
  have R48 := Aside0.mk (R47.out.below hb)
  have N8 := Aside0.mk (blk_below N7.out hb)
  obtain ⟨c0, d0, c1', d1, c2', d2, c3', d3, rfl⟩ := hg.agg
  have GG := Aside0.mk hg
  clear hb hg
  go_upto_region 8 with (fail)
  obtain ⟨gf, hgf⟩ : ∃ gf, w6.heap.size = gf := ⟨_, rfl⟩
  obtain ⟨gg, hgg⟩ : ∃ gg, w8.heap.size = gg := ⟨_, rfl⟩
  rw [hgf] at N8 ⊢
  have BF := Aside0.mk (blk_alloc N8.out (.cells #[.complex .f64 c0 d0, .complex .f64 c1' d1, .complex .f64 c2' d2, .complex .f64 c3' d3] 26))
  have BG : Aside0 ((w8.alloc (.cells #[.complex .f64 c0 d0, .complex .f64 c1' d1, .complex .f64 c2' d2, .complex .f64 c3' d3] 26)).heap[gg]? = some (.cells #[.complex .f64 c0 d0, .complex .f64 c1' d1, .complex .f64 c2' d2, .complex .f64 c3' d3] 26 (0, 0))) := ⟨hgg ▸ blk_new w8 _⟩
  have HB := Aside0.mk (HB8.out.alloc HB8.out.size (.cells #[.complex .f64 c0 d0, .complex .f64 c1' d1, .complex .f64 c2' d2, .complex .f64 c3' d3] 26))
  have R4W := Aside0.mk (R48.out.below (below_alloc (Below.refl _ _) (.cells #[.complex .f64 c0 d0, .complex .f64 c1' d1, .complex .f64 c2' d2, .complex .f64 c3' d3] 26)))
  rw [hgg]
  generalize w8.alloc (.cells #[.complex .f64 c0 d0, .complex .f64 c1' d1, .complex .f64 c2' d2, .complex .f64 c3' d3] 26) = W at BF BG HB R4W ⊢
  clear hgf hgg HB1 HB2 HB3 HB4 HB5 HB6 HB7 HB8 R4 R44 R45 R46 R47 R48 N7 N8
  go_cut [74] (fun t wc => t = .bool false ∧ Aside0 (wc.heap[gf]? = some (.cells #[.complex .f64 a0 b0, .complex .f64 a1 b1, .complex .f64 a2 b2, .complex .f64 a3 b3] 26 (0, 0))) ∧ Aside0 (ReadsInt wc .u8 A4 l4.length l4) ∧ Aside0 (Below w.heap.size w wc))
  case first =>
    have hmk := print_make (P := Try.prog) 22 5 .u8 1 Try.underlying22 info5 (by decide) l1.length (by omega)
    refine start_ (n := 22) (S := (fun w' => w'.cell? ⟨gf, 0, none⟩ = some (.complex .f64 a0 b0) ∧ w'.cell? ⟨gf, 1, none⟩ = some (.complex .f64 a1 b1) ∧ w'.cell? ⟨gf, 2, none⟩ = some (.complex .f64 a2 b2) ∧ w'.cell? ⟨gf, 3, none⟩ = some (.complex .f64 a3 b3) ∧ w'.cell? ⟨gg, 0, none⟩ = some (.complex .f64 c0 d0) ∧ w'.cell? ⟨gg, 1, none⟩ = some (.complex .f64 c1' d1) ∧ w'.cell? ⟨gg, 2, none⟩ = some (.complex .f64 c2' d2) ∧ w'.cell? ⟨gg, 3, none⟩ = some (.complex .f64 c3' d3))) (ds := []) #[false, false, false, false, false, false, false, false, false, false, false, false, false, false, false, false, false, false, false, false, false, false] (by kernel_rfl) rfl rfl ⟨(blk_cell BF.out 0).trans rfl, (blk_cell BF.out 1).trans rfl, (blk_cell BF.out 2).trans rfl, (blk_cell BF.out 3).trans rfl, (blk_cell BG.out 0).trans rfl, (blk_cell BG.out 1).trans rfl, (blk_cell BG.out 2).trans rfl, (blk_cell BG.out 3).trans rfl⟩ (fun hHeld => ?_); refine with_tabW whole.tab8 whole.bits8 (fun HT_ HW_ => ?_)
    have BF2 := Aside0.mk (blk_drew BF.out)
    have BG2 := Aside0.mk (blk_drew BG.out)
    have HB2 := Aside0.mk (below_drew HB.out)
    have R42 := Aside0.mk (R4W.out.below (below_drew (Below.refl _ _)))
    clear BF BG HB R4W
    generalize W.drew = W2 at BF2 BG2 HB2 R42 hHeld ⊢
    refine pure_ (i := 0) (N := (some 53)) (v := ?_) (a' := ?_) #[true, false, false, false, false, false, false, false, false, false, false, false, false, false, false, false, false, false, false, false, false, false] rfl rfl (any_of HT_.out (by kernel_rfl)) (fun _ _ _ h => h) (Or.inl ⟨by rfl, ?_⟩) ?_ ?_
    rotate_left
    · intro w'
      go_simp
      with_reducible rfl
    rotate_left
    · simp only [Act.put, List.setIfInBounds_toArray, List.set_cons_zero, List.set_cons_succ, i64_w, i32_w]
      rfl
    refine pure_ (i := 1) (N := (some 54)) (v := ?_) (a' := ?_) #[true, true, false, false, false, false, false, false, false, false, false, false, false, false, false, false, false, false, false, false, false, false] rfl rfl (any_of HT_.out (by kernel_rfl)) (fun _ _ _ h => h) (Or.inl ⟨by rfl, ?_⟩) ?_ ?_
    rotate_left
    · intro w'
      go_simp
      with_reducible rfl
    rotate_left
    · simp only [Act.put, List.setIfInBounds_toArray, List.set_cons_zero, List.set_cons_succ, i64_w, i32_w]
      rfl
    refine pure_ (i := 2) (N := (some 55)) (v := ?_) (a' := ?_) #[true, true, true, false, false, false, false, false, false, false, false, false, false, false, false, false, false, false, false, false, false, false] rfl rfl (any_of HT_.out (by kernel_rfl)) (fun _ _ _ h => h) (Or.inl ⟨by rfl, ?_⟩) ?_ ?_
    rotate_left
    · intro w'
      go_simp
      with_reducible rfl
    rotate_left
    · simp only [Act.put, List.setIfInBounds_toArray, List.set_cons_zero, List.set_cons_succ, i64_w, i32_w]
      rfl
    refine pure_ (i := 3) (N := (some 56)) (v := ?_) (a' := ?_) #[true, true, true, true, false, false, false, false, false, false, false, false, false, false, false, false, false, false, false, false, false, false] rfl rfl (any_of HT_.out (by kernel_rfl)) (fun _ _ _ h => h) (Or.inl ⟨by rfl, ?_⟩) ?_ ?_
    rotate_left
    · intro w'
      go_simp
      with_reducible rfl
    rotate_left
    · simp only [Act.put, List.setIfInBounds_toArray, List.set_cons_zero, List.set_cons_succ, i64_w, i32_w]
      rfl
    refine pure_ (i := 4) (N := (some 57)) (v := ?_) (a' := ?_) #[true, true, true, true, true, false, false, false, false, false, false, false, false, false, false, false, false, false, false, false, false, false] rfl rfl (any_of HT_.out (by kernel_rfl)) (fun _ _ _ h => h) (Or.inl ⟨by rfl, ?_⟩) ?_ ?_
    rotate_left
    · intro w'
      go_simp
      with_reducible rfl
    rotate_left
    · simp only [Act.put, List.setIfInBounds_toArray, List.set_cons_zero, List.set_cons_succ, i64_w, i32_w]
      rfl
    refine pure_ (i := 5) (N := (some 58)) (v := ?_) (a' := ?_) #[true, true, true, true, true, true, false, false, false, false, false, false, false, false, false, false, false, false, false, false, false, false] rfl rfl (any_of HT_.out (by kernel_rfl)) (fun _ _ _ h => h) (Or.inl ⟨by rfl, ?_⟩) ?_ ?_
    rotate_left
    · intro w'
      go_simp
      with_reducible rfl
    rotate_left
    · simp only [Act.put, List.setIfInBounds_toArray, List.set_cons_zero, List.set_cons_succ, i64_w, i32_w]
      rfl
    refine pure_ (i := 6) (N := (some 59)) (v := ?_) (a' := ?_) #[true, true, true, true, true, true, true, false, false, false, false, false, false, false, false, false, false, false, false, false, false, false] rfl rfl (any_of HT_.out (by kernel_rfl)) (fun _ _ _ h => h) (Or.inl ⟨by rfl, ?_⟩) ?_ ?_
    rotate_left
    · intro w'
      go_simp
      with_reducible rfl
    rotate_left
    · simp only [Act.put, List.setIfInBounds_toArray, List.set_cons_zero, List.set_cons_succ, i64_w, i32_w]
      rfl
    refine take_ (i := 7) (N := (some 60)) (v := ?_) (a' := ?_) #[true, true, true, true, true, true, true, true, false, false, false, false, false, false, false, false, false, false, false, false, false, false] rfl rfl (take_ofW HT_.out HW_.out (by kernel_rfl)) (fun _ _ _ h => h) (Or.inl ⟨by rfl, ?_⟩) hHeld ?_ ?_
    rotate_left
    · rintro w' ⟨s0, s1, s2, s3, s4, s5, s6, s7⟩
      go_simp
      with_reducible rfl
    rotate_left
    · simp only [Act.put, List.setIfInBounds_toArray, List.set_cons_zero, List.set_cons_succ, i64_w, i32_w]
      rfl
    refine pure_ (i := 8) (N := (some 61)) (v := ?_) (a' := ?_) #[true, true, true, true, true, true, true, true, true, false, false, false, false, false, false, false, false, false, false, false, false, false] rfl rfl (any_of HT_.out (by kernel_rfl)) (fun _ _ _ h => h) (Or.inl ⟨by rfl, ?_⟩) ?_ ?_
    rotate_left
    · intro w'
      go_simp
      with_reducible rfl
    rotate_left
    · simp only [Act.put, List.setIfInBounds_toArray, List.set_cons_zero, List.set_cons_succ, i64_w, i32_w]
      rfl
    refine one_ (i := 9) (N := (some 62)) #[true, true, true, true, true, true, true, true, true, true, false, false, false, false, false, false, false, false, false, false, false, false] rfl rfl (one_of HT_.out (by kernel_rfl)) (by decide) (fun K hK => ?_)
    refine goes_ Try.func8 (by kernel_rfl) rfl #[.slice A4 l4.length c4] (by rfl) rfl rfl (by simp [Act.eval]) ?_
    refine (of4_calls A4 c4 l4 _ R42.out Y4.out (by omega)).mono ?_
    rintro e W3 ⟨u, rfl, hu1, hb⟩
    refine ⟨_, rfl, ?_⟩
    have hne1 := fun W => (spec_neq FF.out.2 hu1.2 W).trans (by rw [alike_same (fun q _ => ⟨rfl, rfl⟩)])
    have hgn1 := fun p q W => spec_guard_neq FF.out.2 hu1.2 p q W
    have BF3 := Aside0.mk (blk_below BF2.out hb)
    have BG3 := Aside0.mk (blk_below BG2.out hb)
    have HB3 := Aside0.mk (below_then HB2.out HB2.out.size hb)
    have R43 := Aside0.mk (R42.out.below hb)
    obtain ⟨u0, v0, u1, v1, u2, v2_, u3, v3_, rfl⟩ := hu1.agg
    clear hu1 hb BF2 BG2 HB2 R42 hHeld
    refine hK.out _ _ ⟨(blk_cell BF3.out 0).trans rfl, (blk_cell BF3.out 1).trans rfl, (blk_cell BF3.out 2).trans rfl, (blk_cell BF3.out 3).trans rfl, (blk_cell BG3.out 0).trans rfl, (blk_cell BG3.out 1).trans rfl, (blk_cell BG3.out 2).trans rfl, (blk_cell BG3.out 3).trans rfl⟩ (fun hHeld => ?_)
    clear hK K
    refine norm_ (a' := ?_) ?_ ?_
    rotate_left
    · show Act.put _ (some 62) _ = _
      simp only [Act.put, List.setIfInBounds_toArray, List.set_cons_zero, List.set_cons_succ, i64_w, i32_w]
      rfl
    refine pure_ (i := 10) (N := (some 63)) (v := ?_) (a' := ?_) #[true, true, true, true, true, true, true, true, true, true, true, false, false, false, false, false, false, false, false, false, false, false] rfl rfl (any_of HT_.out (by kernel_rfl)) (fun _ _ _ h => h) (Or.inl ⟨by rfl, ?_⟩) ?_ ?_
    rotate_left
    · intro w'
      go_simp
      with_reducible rfl
    rotate_left
    · simp only [Act.put, List.setIfInBounds_toArray, List.set_cons_zero, List.set_cons_succ, i64_w, i32_w]
      rfl
    refine pure_ (i := 11) (N := (some 64)) (v := ?_) (a' := ?_) #[true, true, true, true, true, true, true, true, true, true, true, true, false, false, false, false, false, false, false, false, false, false] rfl rfl (any_of HT_.out (by kernel_rfl)) (fun _ _ _ h => h) (Or.inl ⟨by rfl, ?_⟩) ?_ ?_
    rotate_left
    · intro w'
      go_simp
      with_reducible rfl
    rotate_left
    · simp only [Act.put, List.setIfInBounds_toArray, List.set_cons_zero, List.set_cons_succ, i64_w, i32_w]
      rfl
    refine pure_ (i := 12) (N := (some 65)) (v := ?_) (a' := ?_) #[true, true, true, true, true, true, true, true, true, true, true, true, true, false, false, false, false, false, false, false, false, false] rfl rfl (any_of HT_.out (by kernel_rfl)) (fun _ _ _ h => h) (Or.inl ⟨by rfl, ?_⟩) ?_ ?_
    rotate_left
    · intro w'
      go_simp
      with_reducible rfl
    rotate_left
    · simp only [Act.put, List.setIfInBounds_toArray, List.set_cons_zero, List.set_cons_succ, i64_w, i32_w]
      rfl
    clear hne1 hgn1
    refine take_ (i := 13) (N := (some 66)) (v := ?_) (a' := ?_) #[true, true, true, true, true, true, true, true, true, true, true, true, true, true, false, false, false, false, false, false, false, false] rfl rfl (take_ofW HT_.out HW_.out (by kernel_rfl)) (fun _ _ _ h => h) (Or.inl ⟨by rfl, ?_⟩) hHeld ?_ ?_
    rotate_left
    · rintro w' ⟨s0, s1, s2, s3, s4, s5, s6, s7⟩
      go_simp
      with_reducible rfl
    rotate_left
    · simp only [Act.put, List.setIfInBounds_toArray, List.set_cons_zero, List.set_cons_succ, i64_w, i32_w]
      rfl
    refine pure_ (i := 14) (N := (some 67)) (v := ?_) (a' := ?_) #[true, true, true, true, true, true, true, true, true, true, true, true, true, true, true, false, false, false, false, false, false, false] rfl rfl (any_of HT_.out (by kernel_rfl)) (fun _ _ _ h => h) (Or.inl ⟨by rfl, ?_⟩) ?_ ?_
    rotate_left
    · intro w'
      go_simp
      with_reducible rfl
    rotate_left
    · simp only [Act.put, List.setIfInBounds_toArray, List.set_cons_zero, List.set_cons_succ, i64_w, i32_w]
      rfl
    refine pure_ (i := 15) (N := (some 68)) (v := ?_) (a' := ?_) #[true, true, true, true, true, true, true, true, true, true, true, true, true, true, true, true, false, false, false, false, false, false] rfl rfl (any_of HT_.out (by kernel_rfl)) (fun _ _ _ h => h) (Or.inl ⟨by rfl, ?_⟩) ?_ ?_
    rotate_left
    · intro w'
      go_simp
      with_reducible rfl
    rotate_left
    · simp only [Act.put, List.setIfInBounds_toArray, List.set_cons_zero, List.set_cons_succ, i64_w, i32_w]
      rfl
    refine pure_ (i := 17) (N := (some 70)) (v := ?_) (a' := ?_) #[true, true, true, true, true, true, true, true, true, true, true, true, true, true, true, true, false, true, false, false, false, false] rfl rfl (any_of HT_.out (by kernel_rfl)) (fun _ _ _ h => h) (Or.inl ⟨by rfl, ?_⟩) ?_ ?_
    rotate_left
    · intro w'
      go_simp
      with_reducible rfl
    rotate_left
    · simp only [Act.put, List.setIfInBounds_toArray, List.set_cons_zero, List.set_cons_succ, i64_w, i32_w]
      rfl
    refine one_ (i := 16) (N := (some 69)) #[true, true, true, true, true, true, true, true, true, true, true, true, true, true, true, true, true, true, false, false, false, false] rfl rfl (one_of HT_.out (by kernel_rfl)) (by decide) (fun K hK => ?_)
    refine value_ (w1 := W3.alloc (.cells (madeCells #[.int .u8 0] l1.length) 5)) (v := .slice (some ⟨W3.heap.size, 0, none⟩) l1.length l1.length) (by rfl) rfl (by go_simp) ?_
    have OM := Aside0.mk (row_made W3 W3 l1.length (Nat.le_refl _) (by omega))
    have HB34 := Aside0.mk (below_alloc (Below.refl W3.heap.size W3) (.cells (madeCells #[.int .u8 0] l1.length) 5))
    clear hHeld hmk
    generalize W3.alloc (.cells (madeCells #[.int .u8 0] l1.length) 5) = W4 at OM HB34 ⊢
    have BF4 := Aside0.mk (blk_below BF3.out HB34.out)
    have BG4 := Aside0.mk (blk_below BG3.out HB34.out)
    refine hK.out _ _ ⟨(blk_cell BF4.out 0).trans rfl, (blk_cell BF4.out 1).trans rfl, (blk_cell BF4.out 2).trans rfl, (blk_cell BF4.out 3).trans rfl, (blk_cell BG4.out 0).trans rfl, (blk_cell BG4.out 1).trans rfl, (blk_cell BG4.out 2).trans rfl, (blk_cell BG4.out 3).trans rfl⟩ (fun hHeld => ?_)
    clear hK K BF4 BG4
    refine norm_ (a' := ?_) ?_ ?_
    rotate_left
    · show Act.put _ (some 69) _ = _
      simp only [Act.put, List.setIfInBounds_toArray, List.set_cons_zero, List.set_cons_succ, i64_w, i32_w]
      rfl
    refine one_ (i := 18) (N := (some 71)) #[true, true, true, true, true, true, true, true, true, true, true, true, true, true, true, true, true, true, true, false, false, false] rfl rfl (one_of HT_.out (by kernel_rfl)) (by decide) (fun K hK => ?_)
    refine Kd.R_append_rows_step (Kd.int .u8) (w0 := W3) W3.heap.size (by rfl) (.tmp 69) (.tmp 70) 22 5 (.int .u8 0) 1 rfl Try.underlying22 info5 rfl (by decide) (by omega) _ (List.replicate l1.length 0) l2 _ _ _ (fun _ => True) (fun _ => False) (by rfl) (by rfl) OM.out (Kd.C_below (reads_row ((R2.out.below HB3.out))) HB34.out) (fun _ _ h => h) (fun _ h => h.elim) (fun _ _ => trivial) HB34.out HB34.out.size (by simp; omega) ?_
    intro v5 W5 ho hb hg hat
    obtain ⟨A5, c5, rfl, hc5, hr5⟩ := row_reads ho
    have R5 := Aside0.mk hr5
    have BF5 := Aside0.mk (blk_below BF3.out hb)
    have BG5 := Aside0.mk (blk_below BG3.out hb)
    have HB5 := Aside0.mk (below_then HB3.out HB3.out.size hb)
    have R45 := Aside0.mk (R43.out.below hb)
    clear ho hb hg hat hHeld hr5 hc5 OM HB34 BF3 BG3 HB3 R43
    refine hK.out _ _ ⟨(blk_cell BF5.out 0).trans rfl, (blk_cell BF5.out 1).trans rfl, (blk_cell BF5.out 2).trans rfl, (blk_cell BF5.out 3).trans rfl, (blk_cell BG5.out 0).trans rfl, (blk_cell BG5.out 1).trans rfl, (blk_cell BG5.out 2).trans rfl, (blk_cell BG5.out 3).trans rfl⟩ (fun hHeld => ?_)
    clear hK K
    refine norm_ (a' := ?_) ?_ ?_
    rotate_left
    · show Act.put _ (some 71) _ = _
      simp only [Act.put, List.setIfInBounds_toArray, List.set_cons_zero, List.set_cons_succ, i64_w, i32_w]
      rfl
    refine one_ (i := 19) (N := (some 72)) #[true, true, true, true, true, true, true, true, true, true, true, true, true, true, true, true, true, true, true, true, false, false] rfl rfl (one_of HT_.out (by kernel_rfl)) (by decide) (fun K hK => ?_)
    refine goes_ Try.func8 (by kernel_rfl) rfl #[.slice A5 (List.replicate l1.length 0 ++ l2).length c5] (by rfl) rfl rfl (by simp [Act.eval]) ?_
    refine (of4_calls A5 c5 (List.replicate l1.length 0 ++ l2) _ R5.out (byte_append (byte_zeros _) Y2.out) (by simp; omega)).mono ?_
    rintro e W6 ⟨u, rfl, hu1, hb⟩
    refine ⟨_, rfl, ?_⟩
    rw [four_zeros] at hu1
    have hne1 := fun W => (spec_neq GG.out.2 hu1.2 W).trans (by rw [alike_same (fun q _ => ⟨rfl, rfl⟩)])
    have hgn1 := fun p q W => spec_guard_neq GG.out.2 hu1.2 p q W
    have BF6 := Aside0.mk (blk_below BF5.out hb)
    have BG6 := Aside0.mk (blk_below BG5.out hb)
    have HB6 := Aside0.mk (below_then HB5.out HB5.out.size hb)
    have R46 := Aside0.mk (R45.out.below hb)
    obtain ⟨x0, y0, x1, y1, x2, y2, x3, y3, rfl⟩ := hu1.agg
    clear hu1 hb BF5 BG5 HB5 R45 R5 hHeld
    refine hK.out _ _ ⟨(blk_cell BF6.out 0).trans rfl, (blk_cell BF6.out 1).trans rfl, (blk_cell BF6.out 2).trans rfl, (blk_cell BF6.out 3).trans rfl, (blk_cell BG6.out 0).trans rfl, (blk_cell BG6.out 1).trans rfl, (blk_cell BG6.out 2).trans rfl, (blk_cell BG6.out 3).trans rfl⟩ (fun hHeld => ?_)
    clear hK K
    refine norm_ (a' := ?_) ?_ ?_
    rotate_left
    · show Act.put _ (some 72) _ = _
      simp only [Act.put, List.setIfInBounds_toArray, List.set_cons_zero, List.set_cons_succ, i64_w, i32_w]
      rfl
    refine pure_ (i := 20) (N := (some 73)) (v := ?_) (a' := ?_) #[true, true, true, true, true, true, true, true, true, true, true, true, true, true, true, true, true, true, true, true, true, false] rfl rfl (any_of HT_.out (by kernel_rfl)) (fun _ _ _ h => h) (Or.inl ⟨by rfl, ?_⟩) ?_ ?_
    rotate_left
    · intro w'
      go_simp
      with_reducible rfl
    rotate_left
    · simp only [Act.put, List.setIfInBounds_toArray, List.set_cons_zero, List.set_cons_succ, i64_w, i32_w]
      rfl
    refine pure_ (i := 21) (N := (some 74)) (v := ?_) (a' := ?_) #[true, true, true, true, true, true, true, true, true, true, true, true, true, true, true, true, true, true, true, true, true, true] rfl rfl (any_of HT_.out (by kernel_rfl)) (fun _ _ _ h => h) (Or.inl ⟨by rfl, ?_⟩) ?_ ?_
    rotate_left
    · intro w'
      go_simp
      with_reducible rfl
    rotate_left
    · simp only [Act.put, List.setIfInBounds_toArray, List.set_cons_zero, List.set_cons_succ, i64_w, i32_w]
      rfl
    refine done_ (done_of HT_.out (by kernel_rfl)) ?_
    go_wp2_with fail
    go_meet
    case rel => exact ⟨rfl, BF6, R46, HB6⟩
  case rest =>
    obtain ⟨rfl, hbf, hr4, hb⟩ := hcut
    have BF0 := hbf
    have R40 := hr4
    have HB0 := hb
    clear hbf hr4 hb BF BG HB R4W GG FA FB FB2
    have hn4 : (0 : Int) ≤ (l4.length : Int) := by omega
    have hn2 : (0 : Int) ≤ (l2.length : Int) := by omega
    have E43 : Aside0 (plus (four l4) (rot (l4.length : Int) (four l3)) = four (l4 ++ l3)) := ⟨(four_append _ _).symm⟩
    have S43 : Aside0 (Sums4 (plus (four l4) (rot (l4.length : Int) (four l3)))) := ⟨by rw [E43.out]; exact four_sums (byte_append Y4.out Y3.out) (by rw [List.length_append]; omega)⟩
    have E23 : Aside0 (plus (four l2) (rot (l2.length : Int) (four l3)) = four (l2 ++ l3)) := ⟨(four_append _ _).symm⟩
    have S23 : Aside0 (Sums4 (plus (four l2) (rot (l2.length : Int) (four l3)))) := ⟨by rw [E23.out]; exact four_sums (byte_append Y2.out Y3.out) (by rw [List.length_append]; omega)⟩
    have E123 : Aside0 (plus (four l1) (rot (l1.length : Int) (four (l2 ++ l3))) = four (l4 ++ l3)) := ⟨by rw [← L4.out, List.append_assoc, four_append l1]⟩
    have S123 : Aside0 (Sums4 (plus (four l1) (rot (l1.length : Int) (four (l2 ++ l3))))) := ⟨by rw [E123.out]; exact four_sums (byte_append Y4.out Y3.out) (by rw [List.length_append]; omega)⟩
    clear E12 S12
    go_upto_region 10 with (fail)
    have HC_0 := Aside0.mk (Below.refl wc.heap.size wc)
    go_cut [12, 9] (fun t s wx => Aside0 (∃ gx, t = .pointer (some ⟨gx, 0, none⟩) ∧ s = .int .i64 0 ∧ SpecAt wx gx (four (l4 ++ l3)) ∧ ReadsInt wx .u8 A4 l4.length l4 ∧ Below w.heap.size w wx))
    case first =>
      refine start_ (n := 12) (S := (fun w' => w'.cell? ⟨gf, 0, none⟩ = some (.complex .f64 a0 b0) ∧ w'.cell? ⟨gf, 1, none⟩ = some (.complex .f64 a1 b1) ∧ w'.cell? ⟨gf, 2, none⟩ = some (.complex .f64 a2 b2) ∧ w'.cell? ⟨gf, 3, none⟩ = some (.complex .f64 a3 b3))) (ds := []) #[false, false, false, false, false, false, false, false, false, false, false, false] (by kernel_rfl) rfl rfl ⟨(blk_cell BF0.out 0).trans rfl, (blk_cell BF0.out 1).trans rfl, (blk_cell BF0.out 2).trans rfl, (blk_cell BF0.out 3).trans rfl⟩ (fun hHeld => ?_); refine with_tabW whole.tab10 whole.bits10 (fun HT_ HW_ => ?_)
      have HC_1 := Aside0.mk (below_drew HC_0.out)
      clear HC_0
      generalize wc.drew = WD at HC_1 hHeld ⊢
      refine take_ (i := 0) (N := (some 76)) (v := ?_) (a' := ?_) #[true, false, false, false, false, false, false, false, false, false, false, false] rfl rfl (take_ofW HT_.out HW_.out (by kernel_rfl)) (fun _ _ _ h => h) (Or.inl ⟨by rfl, ?_⟩) hHeld ?_ ?_
      rotate_left
      · rintro w' ⟨s0, s1, s2, s3⟩
        go_simp
        with_reducible rfl
      rotate_left
      · simp only [Act.put, List.setIfInBounds_toArray, List.set_cons_zero, List.set_cons_succ, i64_w, i32_w]
        rfl
      refine pure_ (i := 1) (N := (some 77)) (v := ?_) (a' := ?_) #[true, true, false, false, false, false, false, false, false, false, false, false] rfl rfl (any_of HT_.out (by kernel_rfl)) (fun _ _ _ h => h) (Or.inl ⟨by rfl, ?_⟩) ?_ ?_
      rotate_left
      · intro w'
        go_simp
        with_reducible rfl
      rotate_left
      · simp only [Act.put, List.setIfInBounds_toArray, List.set_cons_zero, List.set_cons_succ, i64_w, i32_w]
        rfl
      refine pure_ (i := 3) (N := (some 79)) (v := ?_) (a' := ?_) #[true, true, false, true, false, false, false, false, false, false, false, false] rfl rfl (any_of HT_.out (by kernel_rfl)) (fun _ _ _ h => h) (Or.inl ⟨by rfl, ?_⟩) ?_ ?_
      rotate_left
      · intro w'
        go_simp
        with_reducible rfl
      rotate_left
      · simp only [Act.put, List.setIfInBounds_toArray, List.set_cons_zero, List.set_cons_succ, i64_w, i32_w]
        rfl
      refine pure_ (i := 4) (N := (some 80)) (v := ?_) (a' := ?_) #[true, true, false, true, true, false, false, false, false, false, false, false] rfl rfl (any_of HT_.out (by kernel_rfl)) (fun _ _ _ h => h) (Or.inl ⟨by rfl, ?_⟩) ?_ ?_
      rotate_left
      · intro w'
        go_simp
        with_reducible rfl
      rotate_left
      · simp only [Act.put, List.setIfInBounds_toArray, List.set_cons_zero, List.set_cons_succ, i64_w, i32_w]
        rfl
      refine two_ (i := 2) (j := 9) (Ni := (some 78)) (Nj := (some 12)) #[true, true, true, true, true, false, false, false, false, false, false, false] #[true, true, false, true, true, false, false, false, false, true, false, false] rfl rfl rfl rfl (two_of HT_.out (by kernel_rfl)) (by decide) (by decide) (fun K hK => ?_) (fun K hK => ?_)
      ·
        refine goes_ Try.func8 (by kernel_rfl) rfl #[.slice A3 l3.length c3] (by rfl) rfl rfl (by simp [Act.eval]) ?_
        refine (of4_calls A3 c3 l3 _ ((R3.out.below HB0.out).below HC_1.out) Y3.out (by omega)).mono ?_
        rintro e W_2 ⟨u, rfl, hu1, hb⟩
        refine ⟨_, rfl, ?_⟩
        have U := Aside0.mk hu1
        have HC_2 := Aside0.mk (below_then HC_1.out HC_1.out.size hb)
        clear hb hu1 hHeld HC_1
        refine hK.out _ _ ⟨(blk_cell (blk_below BF0.out HC_2.out) 0).trans rfl, (blk_cell (blk_below BF0.out HC_2.out) 1).trans rfl, (blk_cell (blk_below BF0.out HC_2.out) 2).trans rfl, (blk_cell (blk_below BF0.out HC_2.out) 3).trans rfl⟩ (fun hHeld => ?_)
        clear hK K
        refine norm_ (a' := ?_) ?_ ?_
        rotate_left
        · show Act.put _ (some 78) _ = _
          simp only [Act.put, List.setIfInBounds_toArray, List.set_cons_zero, List.set_cons_succ, i64_w, i32_w]
          rfl
        refine two_ (i := 5) (j := 9) (Ni := (some 81)) (Nj := (some 12)) #[true, true, true, true, true, true, false, false, false, false, false, false] #[true, true, true, true, true, false, false, false, false, true, false, false] rfl rfl rfl rfl (two_of HT_.out (by kernel_rfl)) (by decide) (by decide) (fun K hK => ?_) (fun K hK => ?_)
        ·
          refine goes_ Try.func16 (by kernel_rfl) rfl #[.agg #[.complex .f64 a0 b0, .complex .f64 a1 b1, .complex .f64 a2 b2, .complex .f64 a3 b3], u, .int .i64 (l4.length : Int)] (by rfl) rfl rfl (by simp [Act.eval]) ?_
          refine (join_calls _ u _ _ FF.out U.out (l4.length : Int) hn4 S43.out _).mono ?_
          rintro e W_3 ⟨x, rfl, hu1, hb⟩
          rw [E43.out] at hu1
          obtain ⟨p0, q0, p1, q1, p2, q2, p3, q3, rfl⟩ := hu1.agg
          refine ⟨_, rfl, ?_⟩
          have XX := Aside0.mk hu1
          have HC_3 := Aside0.mk (below_then HC_2.out HC_2.out.size hb)
          clear hb hu1 hHeld HC_2
          refine hK.out _ _ ⟨(blk_cell (blk_below BF0.out HC_3.out) 0).trans rfl, (blk_cell (blk_below BF0.out HC_3.out) 1).trans rfl, (blk_cell (blk_below BF0.out HC_3.out) 2).trans rfl, (blk_cell (blk_below BF0.out HC_3.out) 3).trans rfl⟩ (fun hHeld => ?_)
          clear hK K
          refine norm_ (a' := ?_) ?_ ?_
          rotate_left
          · show Act.put _ (some 81) _ = _
            simp only [Act.put, List.setIfInBounds_toArray, List.set_cons_zero, List.set_cons_succ, i64_w, i32_w]
            rfl
          refine pure_ (i := 6) (N := (some 75)) (v := ?_) (a' := ?_) #[true, true, true, true, true, true, true, false, false, false, false, false] rfl rfl (any_of HT_.out (by kernel_rfl)) (fun _ _ _ h => h) (Or.inl ⟨by rfl, ?_⟩) ?_ ?_
          rotate_left
          · intro w'
            go_simp
            with_reducible rfl
          rotate_left
          · simp only [Act.put, List.setIfInBounds_toArray, List.set_cons_zero, List.set_cons_succ, i64_w, i32_w]
            rfl
          refine pure_ (i := 7) (N := (some 82)) (v := ?_) (a' := ?_) #[true, true, true, true, true, true, true, true, false, false, false, false] rfl rfl (any_of HT_.out (by kernel_rfl)) (fun _ _ _ h => h) (Or.inl ⟨by rfl, ?_⟩) ?_ ?_
          rotate_left
          · intro w'
            go_simp
            with_reducible rfl
          rotate_left
          · simp only [Act.put, List.setIfInBounds_toArray, List.set_cons_zero, List.set_cons_succ, i64_w, i32_w]
            rfl
          refine pure_ (i := 8) (N := (some 83)) (v := ?_) (a' := ?_) #[true, true, true, true, true, true, true, true, true, false, false, false] rfl rfl (any_of HT_.out (by kernel_rfl)) (fun _ _ _ h => h) (Or.inl ⟨by rfl, ?_⟩) ?_ ?_
          rotate_left
          · intro w'
            go_simp
            with_reducible rfl
          rotate_left
          · simp only [Act.put, List.setIfInBounds_toArray, List.set_cons_zero, List.set_cons_succ, i64_w, i32_w]
            rfl
          refine one_ (i := 9) (N := (some 12)) #[true, true, true, true, true, true, true, true, true, true, false, false] rfl rfl (one_of HT_.out (by kernel_rfl)) (by decide) (fun K hK => ?_)
          refine value_ (w1 := W_3.alloc (.cells zero4 26)) (v := .pointer (some ⟨W_3.heap.size, 0, none⟩)) (by rfl) rfl (by go_simp; rfl) ?_
          have NX_4 := Aside0.mk (blk_new W_3 (.cells zero4 26))
          have HC_4 := Aside0.mk (HC_3.out.alloc HC_3.out.size (.cells zero4 26))
          obtain ⟨gx, hgx⟩ : ∃ gx, W_3.heap.size = gx := ⟨_, rfl⟩
          have hge := Aside0.mk (hgx ▸ HC_3.out.size)
          rw [hgx] at NX_4 ⊢
          generalize W_3.alloc (.cells zero4 26) = W_4 at NX_4 HC_4 ⊢
          clear hgx hHeld HC_3
          refine hK.out _ _ ⟨(blk_cell (blk_below BF0.out HC_4.out) 0).trans rfl, (blk_cell (blk_below BF0.out HC_4.out) 1).trans rfl, (blk_cell (blk_below BF0.out HC_4.out) 2).trans rfl, (blk_cell (blk_below BF0.out HC_4.out) 3).trans rfl⟩ (fun hHeld => ?_)
          clear hK K
          refine norm_ (a' := ?_) ?_ ?_
          rotate_left
          · show Act.put _ (some 12) _ = _
            simp only [Act.put, List.setIfInBounds_toArray, List.set_cons_zero, List.set_cons_succ, i64_w, i32_w]
            rfl
          refine one_ (i := 10) (N := none) #[true, true, true, true, true, true, true, true, true, true, true, false] rfl rfl (one_of HT_.out (by kernel_rfl)) (by decide) (fun K hK => ?_)
          rw [if_pos (by rfl)]
          refine wp_store_row 26 (.tmp 12) (.tmp 82) (by rfl) gx #[.complex .f64 p0 q0, .complex .f64 p1 q1, .complex .f64 p2 q2, .complex .f64 p3 q3] (by rfl) (by rfl) 26 zero4 NX_4.out info26 (by rfl) (cells_one _ _ _ _ _ _ _ _) ?_
          have NX_5 := Aside0.mk (setRow_heap W_4 gx zero4 #[.complex .f64 p0 q0, .complex .f64 p1 q1, .complex .f64 p2 q2, .complex .f64 p3 q3] 26 (0, 0) NX_4.out)
          have HC_5 := Aside0.mk (below_setRow HC_4.out hge.out #[.complex .f64 p0 q0, .complex .f64 p1 q1, .complex .f64 p2 q2, .complex .f64 p3 q3])
          generalize W_4.setRow gx #[.complex .f64 p0 q0, .complex .f64 p1 q1, .complex .f64 p2 q2, .complex .f64 p3 q3] = W_5 at NX_5 HC_5 ⊢
          clear hHeld HC_4 NX_4
          refine hK.out _ _ ⟨(blk_cell (blk_below BF0.out HC_5.out) 0).trans rfl, (blk_cell (blk_below BF0.out HC_5.out) 1).trans rfl, (blk_cell (blk_below BF0.out HC_5.out) 2).trans rfl, (blk_cell (blk_below BF0.out HC_5.out) 3).trans rfl⟩ (fun hHeld => ?_)
          clear hK K
          refine norm_ (a' := ?_) ?_ ?_
          rotate_left
          · show Act.put _ none _ = _
            simp only [Act.put, List.setIfInBounds_toArray, List.set_cons_zero, List.set_cons_succ, i64_w, i32_w]
            rfl
          refine pure_ (i := 11) (N := (some 9)) (v := ?_) (a' := ?_) #[true, true, true, true, true, true, true, true, true, true, true, true] rfl rfl (any_of HT_.out (by kernel_rfl)) (fun _ _ _ h => h) (Or.inl ⟨by rfl, ?_⟩) ?_ ?_
          rotate_left
          · intro w'
            go_simp
            with_reducible rfl
          rotate_left
          · simp only [Act.put, List.setIfInBounds_toArray, List.set_cons_zero, List.set_cons_succ, i64_w, i32_w]
            rfl
          refine done_ (done_of HT_.out (by kernel_rfl)) ?_
          go_wp2_with fail
          go_meet
          case rel => exact ⟨gx, rfl, rfl, ⟨p0, q0, p1, q1, p2, q2, p3, q3, XX.out, NX_5.out⟩, R40.out.below HC_5.out, below_then HB0.out HB0.out.size HC_5.out⟩
        ·
          refine value_ (w1 := W_2.alloc (.cells zero4 26)) (v := .pointer (some ⟨W_2.heap.size, 0, none⟩)) (by rfl) rfl (by go_simp; rfl) ?_
          have NX_6 := Aside0.mk (blk_new W_2 (.cells zero4 26))
          have HC_6 := Aside0.mk (HC_2.out.alloc HC_2.out.size (.cells zero4 26))
          obtain ⟨gx, hgx⟩ : ∃ gx, W_2.heap.size = gx := ⟨_, rfl⟩
          have hge := Aside0.mk (hgx ▸ HC_2.out.size)
          rw [hgx] at NX_6 ⊢
          generalize W_2.alloc (.cells zero4 26) = W_6 at NX_6 HC_6 ⊢
          clear hgx hHeld HC_2
          refine hK.out _ _ ⟨(blk_cell (blk_below BF0.out HC_6.out) 0).trans rfl, (blk_cell (blk_below BF0.out HC_6.out) 1).trans rfl, (blk_cell (blk_below BF0.out HC_6.out) 2).trans rfl, (blk_cell (blk_below BF0.out HC_6.out) 3).trans rfl⟩ (fun hHeld => ?_)
          clear hK K
          refine norm_ (a' := ?_) ?_ ?_
          rotate_left
          · show Act.put _ (some 12) _ = _
            simp only [Act.put, List.setIfInBounds_toArray, List.set_cons_zero, List.set_cons_succ, i64_w, i32_w]
            rfl
          refine one_ (i := 5) (N := (some 81)) #[true, true, true, true, true, true, false, false, false, true, false, false] rfl rfl (one_of HT_.out (by kernel_rfl)) (by decide) (fun K hK => ?_)
          refine goes_ Try.func16 (by kernel_rfl) rfl #[.agg #[.complex .f64 a0 b0, .complex .f64 a1 b1, .complex .f64 a2 b2, .complex .f64 a3 b3], u, .int .i64 (l4.length : Int)] (by rfl) rfl rfl (by simp [Act.eval]) ?_
          refine (join_calls _ u _ _ FF.out U.out (l4.length : Int) hn4 S43.out _).mono ?_
          rintro e W_7 ⟨x, rfl, hu1, hb⟩
          rw [E43.out] at hu1
          obtain ⟨p0, q0, p1, q1, p2, q2, p3, q3, rfl⟩ := hu1.agg
          refine ⟨_, rfl, ?_⟩
          have XX := Aside0.mk hu1
          have HC_7 := Aside0.mk (below_then HC_6.out HC_6.out.size hb)
          have NX_7 := Aside0.mk (blk_below NX_6.out hb)
          clear hb hu1 hHeld HC_6 NX_6
          refine hK.out _ _ ⟨(blk_cell (blk_below BF0.out HC_7.out) 0).trans rfl, (blk_cell (blk_below BF0.out HC_7.out) 1).trans rfl, (blk_cell (blk_below BF0.out HC_7.out) 2).trans rfl, (blk_cell (blk_below BF0.out HC_7.out) 3).trans rfl⟩ (fun hHeld => ?_)
          clear hK K
          refine norm_ (a' := ?_) ?_ ?_
          rotate_left
          · show Act.put _ (some 81) _ = _
            simp only [Act.put, List.setIfInBounds_toArray, List.set_cons_zero, List.set_cons_succ, i64_w, i32_w]
            rfl
          refine pure_ (i := 6) (N := (some 75)) (v := ?_) (a' := ?_) #[true, true, true, true, true, true, true, false, false, true, false, false] rfl rfl (any_of HT_.out (by kernel_rfl)) (fun _ _ _ h => h) (Or.inl ⟨by rfl, ?_⟩) ?_ ?_
          rotate_left
          · intro w'
            go_simp
            with_reducible rfl
          rotate_left
          · simp only [Act.put, List.setIfInBounds_toArray, List.set_cons_zero, List.set_cons_succ, i64_w, i32_w]
            rfl
          refine pure_ (i := 7) (N := (some 82)) (v := ?_) (a' := ?_) #[true, true, true, true, true, true, true, true, false, true, false, false] rfl rfl (any_of HT_.out (by kernel_rfl)) (fun _ _ _ h => h) (Or.inl ⟨by rfl, ?_⟩) ?_ ?_
          rotate_left
          · intro w'
            go_simp
            with_reducible rfl
          rotate_left
          · simp only [Act.put, List.setIfInBounds_toArray, List.set_cons_zero, List.set_cons_succ, i64_w, i32_w]
            rfl
          refine pure_ (i := 8) (N := (some 83)) (v := ?_) (a' := ?_) #[true, true, true, true, true, true, true, true, true, true, false, false] rfl rfl (any_of HT_.out (by kernel_rfl)) (fun _ _ _ h => h) (Or.inl ⟨by rfl, ?_⟩) ?_ ?_
          rotate_left
          · intro w'
            go_simp
            with_reducible rfl
          rotate_left
          · simp only [Act.put, List.setIfInBounds_toArray, List.set_cons_zero, List.set_cons_succ, i64_w, i32_w]
            rfl
          refine one_ (i := 10) (N := none) #[true, true, true, true, true, true, true, true, true, true, true, false] rfl rfl (one_of HT_.out (by kernel_rfl)) (by decide) (fun K hK => ?_)
          rw [if_pos (by rfl)]
          refine wp_store_row 26 (.tmp 12) (.tmp 82) (by rfl) gx #[.complex .f64 p0 q0, .complex .f64 p1 q1, .complex .f64 p2 q2, .complex .f64 p3 q3] (by rfl) (by rfl) 26 zero4 NX_7.out info26 (by rfl) (cells_one _ _ _ _ _ _ _ _) ?_
          have NX_8 := Aside0.mk (setRow_heap W_7 gx zero4 #[.complex .f64 p0 q0, .complex .f64 p1 q1, .complex .f64 p2 q2, .complex .f64 p3 q3] 26 (0, 0) NX_7.out)
          have HC_8 := Aside0.mk (below_setRow HC_7.out hge.out #[.complex .f64 p0 q0, .complex .f64 p1 q1, .complex .f64 p2 q2, .complex .f64 p3 q3])
          generalize W_7.setRow gx #[.complex .f64 p0 q0, .complex .f64 p1 q1, .complex .f64 p2 q2, .complex .f64 p3 q3] = W_8 at NX_8 HC_8 ⊢
          clear hHeld HC_7 NX_7
          refine hK.out _ _ ⟨(blk_cell (blk_below BF0.out HC_8.out) 0).trans rfl, (blk_cell (blk_below BF0.out HC_8.out) 1).trans rfl, (blk_cell (blk_below BF0.out HC_8.out) 2).trans rfl, (blk_cell (blk_below BF0.out HC_8.out) 3).trans rfl⟩ (fun hHeld => ?_)
          clear hK K
          refine norm_ (a' := ?_) ?_ ?_
          rotate_left
          · show Act.put _ none _ = _
            simp only [Act.put, List.setIfInBounds_toArray, List.set_cons_zero, List.set_cons_succ, i64_w, i32_w]
            rfl
          refine pure_ (i := 11) (N := (some 9)) (v := ?_) (a' := ?_) #[true, true, true, true, true, true, true, true, true, true, true, true] rfl rfl (any_of HT_.out (by kernel_rfl)) (fun _ _ _ h => h) (Or.inl ⟨by rfl, ?_⟩) ?_ ?_
          rotate_left
          · intro w'
            go_simp
            with_reducible rfl
          rotate_left
          · simp only [Act.put, List.setIfInBounds_toArray, List.set_cons_zero, List.set_cons_succ, i64_w, i32_w]
            rfl
          refine done_ (done_of HT_.out (by kernel_rfl)) ?_
          go_wp2_with fail
          go_meet
          case rel => exact ⟨gx, rfl, rfl, ⟨p0, q0, p1, q1, p2, q2, p3, q3, XX.out, NX_8.out⟩, R40.out.below HC_8.out, below_then HB0.out HB0.out.size HC_8.out⟩
      ·
        refine value_ (w1 := WD.alloc (.cells zero4 26)) (v := .pointer (some ⟨WD.heap.size, 0, none⟩)) (by rfl) rfl (by go_simp; rfl) ?_
        have NX_9 := Aside0.mk (blk_new WD (.cells zero4 26))
        have HC_9 := Aside0.mk (HC_1.out.alloc HC_1.out.size (.cells zero4 26))
        obtain ⟨gx, hgx⟩ : ∃ gx, WD.heap.size = gx := ⟨_, rfl⟩
        have hge := Aside0.mk (hgx ▸ HC_1.out.size)
        rw [hgx] at NX_9 ⊢
        generalize WD.alloc (.cells zero4 26) = W_9 at NX_9 HC_9 ⊢
        clear hgx hHeld HC_1
        refine hK.out _ _ ⟨(blk_cell (blk_below BF0.out HC_9.out) 0).trans rfl, (blk_cell (blk_below BF0.out HC_9.out) 1).trans rfl, (blk_cell (blk_below BF0.out HC_9.out) 2).trans rfl, (blk_cell (blk_below BF0.out HC_9.out) 3).trans rfl⟩ (fun hHeld => ?_)
        clear hK K
        refine norm_ (a' := ?_) ?_ ?_
        rotate_left
        · show Act.put _ (some 12) _ = _
          simp only [Act.put, List.setIfInBounds_toArray, List.set_cons_zero, List.set_cons_succ, i64_w, i32_w]
          rfl
        refine one_ (i := 2) (N := (some 78)) #[true, true, true, true, true, false, false, false, false, true, false, false] rfl rfl (one_of HT_.out (by kernel_rfl)) (by decide) (fun K hK => ?_)
        refine goes_ Try.func8 (by kernel_rfl) rfl #[.slice A3 l3.length c3] (by rfl) rfl rfl (by simp [Act.eval]) ?_
        refine (of4_calls A3 c3 l3 _ ((R3.out.below HB0.out).below HC_9.out) Y3.out (by omega)).mono ?_
        rintro e W_10 ⟨u, rfl, hu1, hb⟩
        refine ⟨_, rfl, ?_⟩
        have U := Aside0.mk hu1
        have HC_10 := Aside0.mk (below_then HC_9.out HC_9.out.size hb)
        have NX_10 := Aside0.mk (blk_below NX_9.out hb)
        clear hb hu1 hHeld HC_9 NX_9
        refine hK.out _ _ ⟨(blk_cell (blk_below BF0.out HC_10.out) 0).trans rfl, (blk_cell (blk_below BF0.out HC_10.out) 1).trans rfl, (blk_cell (blk_below BF0.out HC_10.out) 2).trans rfl, (blk_cell (blk_below BF0.out HC_10.out) 3).trans rfl⟩ (fun hHeld => ?_)
        clear hK K
        refine norm_ (a' := ?_) ?_ ?_
        rotate_left
        · show Act.put _ (some 78) _ = _
          simp only [Act.put, List.setIfInBounds_toArray, List.set_cons_zero, List.set_cons_succ, i64_w, i32_w]
          rfl
        refine one_ (i := 5) (N := (some 81)) #[true, true, true, true, true, true, false, false, false, true, false, false] rfl rfl (one_of HT_.out (by kernel_rfl)) (by decide) (fun K hK => ?_)
        refine goes_ Try.func16 (by kernel_rfl) rfl #[.agg #[.complex .f64 a0 b0, .complex .f64 a1 b1, .complex .f64 a2 b2, .complex .f64 a3 b3], u, .int .i64 (l4.length : Int)] (by rfl) rfl rfl (by simp [Act.eval]) ?_
        refine (join_calls _ u _ _ FF.out U.out (l4.length : Int) hn4 S43.out _).mono ?_
        rintro e W_11 ⟨x, rfl, hu1, hb⟩
        rw [E43.out] at hu1
        obtain ⟨p0, q0, p1, q1, p2, q2, p3, q3, rfl⟩ := hu1.agg
        refine ⟨_, rfl, ?_⟩
        have XX := Aside0.mk hu1
        have HC_11 := Aside0.mk (below_then HC_10.out HC_10.out.size hb)
        have NX_11 := Aside0.mk (blk_below NX_10.out hb)
        clear hb hu1 hHeld HC_10 NX_10
        refine hK.out _ _ ⟨(blk_cell (blk_below BF0.out HC_11.out) 0).trans rfl, (blk_cell (blk_below BF0.out HC_11.out) 1).trans rfl, (blk_cell (blk_below BF0.out HC_11.out) 2).trans rfl, (blk_cell (blk_below BF0.out HC_11.out) 3).trans rfl⟩ (fun hHeld => ?_)
        clear hK K
        refine norm_ (a' := ?_) ?_ ?_
        rotate_left
        · show Act.put _ (some 81) _ = _
          simp only [Act.put, List.setIfInBounds_toArray, List.set_cons_zero, List.set_cons_succ, i64_w, i32_w]
          rfl
        refine pure_ (i := 6) (N := (some 75)) (v := ?_) (a' := ?_) #[true, true, true, true, true, true, true, false, false, true, false, false] rfl rfl (any_of HT_.out (by kernel_rfl)) (fun _ _ _ h => h) (Or.inl ⟨by rfl, ?_⟩) ?_ ?_
        rotate_left
        · intro w'
          go_simp
          with_reducible rfl
        rotate_left
        · simp only [Act.put, List.setIfInBounds_toArray, List.set_cons_zero, List.set_cons_succ, i64_w, i32_w]
          rfl
        refine pure_ (i := 7) (N := (some 82)) (v := ?_) (a' := ?_) #[true, true, true, true, true, true, true, true, false, true, false, false] rfl rfl (any_of HT_.out (by kernel_rfl)) (fun _ _ _ h => h) (Or.inl ⟨by rfl, ?_⟩) ?_ ?_
        rotate_left
        · intro w'
          go_simp
          with_reducible rfl
        rotate_left
        · simp only [Act.put, List.setIfInBounds_toArray, List.set_cons_zero, List.set_cons_succ, i64_w, i32_w]
          rfl
        refine pure_ (i := 8) (N := (some 83)) (v := ?_) (a' := ?_) #[true, true, true, true, true, true, true, true, true, true, false, false] rfl rfl (any_of HT_.out (by kernel_rfl)) (fun _ _ _ h => h) (Or.inl ⟨by rfl, ?_⟩) ?_ ?_
        rotate_left
        · intro w'
          go_simp
          with_reducible rfl
        rotate_left
        · simp only [Act.put, List.setIfInBounds_toArray, List.set_cons_zero, List.set_cons_succ, i64_w, i32_w]
          rfl
        refine one_ (i := 10) (N := none) #[true, true, true, true, true, true, true, true, true, true, true, false] rfl rfl (one_of HT_.out (by kernel_rfl)) (by decide) (fun K hK => ?_)
        rw [if_pos (by rfl)]
        refine wp_store_row 26 (.tmp 12) (.tmp 82) (by rfl) gx #[.complex .f64 p0 q0, .complex .f64 p1 q1, .complex .f64 p2 q2, .complex .f64 p3 q3] (by rfl) (by rfl) 26 zero4 NX_11.out info26 (by rfl) (cells_one _ _ _ _ _ _ _ _) ?_
        have NX_12 := Aside0.mk (setRow_heap W_11 gx zero4 #[.complex .f64 p0 q0, .complex .f64 p1 q1, .complex .f64 p2 q2, .complex .f64 p3 q3] 26 (0, 0) NX_11.out)
        have HC_12 := Aside0.mk (below_setRow HC_11.out hge.out #[.complex .f64 p0 q0, .complex .f64 p1 q1, .complex .f64 p2 q2, .complex .f64 p3 q3])
        generalize W_11.setRow gx #[.complex .f64 p0 q0, .complex .f64 p1 q1, .complex .f64 p2 q2, .complex .f64 p3 q3] = W_12 at NX_12 HC_12 ⊢
        clear hHeld HC_11 NX_11
        refine hK.out _ _ ⟨(blk_cell (blk_below BF0.out HC_12.out) 0).trans rfl, (blk_cell (blk_below BF0.out HC_12.out) 1).trans rfl, (blk_cell (blk_below BF0.out HC_12.out) 2).trans rfl, (blk_cell (blk_below BF0.out HC_12.out) 3).trans rfl⟩ (fun hHeld => ?_)
        clear hK K
        refine norm_ (a' := ?_) ?_ ?_
        rotate_left
        · show Act.put _ none _ = _
          simp only [Act.put, List.setIfInBounds_toArray, List.set_cons_zero, List.set_cons_succ, i64_w, i32_w]
          rfl
        refine pure_ (i := 11) (N := (some 9)) (v := ?_) (a' := ?_) #[true, true, true, true, true, true, true, true, true, true, true, true] rfl rfl (any_of HT_.out (by kernel_rfl)) (fun _ _ _ h => h) (Or.inl ⟨by rfl, ?_⟩) ?_ ?_
        rotate_left
        · intro w'
          go_simp
          with_reducible rfl
        rotate_left
        · simp only [Act.put, List.setIfInBounds_toArray, List.set_cons_zero, List.set_cons_succ, i64_w, i32_w]
          rfl
        refine done_ (done_of HT_.out (by kernel_rfl)) ?_
        go_wp2_with fail
        go_meet
        case rel => exact ⟨gx, rfl, rfl, ⟨p0, q0, p1, q1, p2, q2, p3, q3, XX.out, NX_12.out⟩, R40.out.below HC_12.out, below_then HB0.out HB0.out.size HC_12.out⟩
    case rest =>
      obtain ⟨gx, rfl, rfl, hx, hr4, hb⟩ := hcut.out
      have SX := Aside0.mk hx
      have R41 := Aside0.mk hr4
      have HB1 := Aside0.mk hb
      clear hx hr4 hb hcut HC_0 BF0 R40 HB0 FF S43 E43
      go_wp2_with fail
      refine (of4_calls A2 c2 l2 _ (R2.out.below HB1.out) Y2.out (by omega)).mono ?_
      rintro e w11 ⟨u2, rfl, hu2, hb⟩
      have HX1 := Aside0.mk hb
      have U2 := Aside0.mk hu2
      clear hb hu2
      go_wp2_with fail
      refine (of4_calls A3 c3 l3 _ ((R3.out.below HB1.out).below HX1.out) Y3.out (by omega)).mono ?_
      rintro e w12 ⟨u3, rfl, hu3, hb⟩
      have HX2 := Aside0.mk (below_then HX1.out HX1.out.size hb)
      have U3 := Aside0.mk hu3
      clear hb hu3 HX1
      go_wp2_with fail
      refine (join_calls u2 u3 _ _ U2.out U3.out (l2.length : Int) hn2 S23.out _).mono ?_
      rintro e w13 ⟨z, rfl, hz, hb⟩
      rw [E23.out] at hz
      obtain ⟨a0', b0', a1', b1', a2', b2', a3', b3', rfl⟩ := hz.agg
      have ZZ := Aside0.mk hz
      have HX3 := Aside0.mk (below_then HX2.out HX2.out.size hb)
      clear hb hz HX2 U2 U3 E23 S23
      go_upto_region 14 with (fail)
      obtain ⟨gz, hgz⟩ : ∃ gz, w13.heap.size = gz := ⟨_, rfl⟩
      have BZ0 := Aside0.mk (hgz ▸ blk_new w13 (.cells #[.complex .f64 a0' b0', .complex .f64 a1' b1', .complex .f64 a2' b2', .complex .f64 a3' b3'] 26))
      have HX4 := Aside0.mk (HX3.out.alloc HX3.out.size (.cells #[.complex .f64 a0' b0', .complex .f64 a1' b1', .complex .f64 a2' b2', .complex .f64 a3' b3'] 26))
      rw [hgz]
      generalize w13.alloc (.cells #[.complex .f64 a0' b0', .complex .f64 a1' b1', .complex .f64 a2' b2', .complex .f64 a3' b3'] 26) = wz at BZ0 HX4 ⊢
      have SX2 := Aside0.mk (SX.out.below HX4.out)
      have R42 := Aside0.mk (R41.out.below HX4.out)
      have HB2 := Aside0.mk (below_then HB1.out HB1.out.size HX4.out)
      clear hgz HX3 HX4 SX R41 HB1
      have HC_0 := Aside0.mk (Below.refl wz.heap.size wz)
      go_cut [14, 9] (fun t s wx => Aside0 (∃ gy, t = .pointer (some ⟨gy, 0, none⟩) ∧ s = .int .i64 0 ∧ SpecAt wx gy (four (l4 ++ l3)) ∧ SpecAt wx gx (four (l4 ++ l3)) ∧ ReadsInt wx .u8 A4 l4.length l4 ∧ Below w.heap.size w wx))
      case first =>
        refine start_ (n := 12) (S := (fun w' => w'.cell? ⟨gz, 0, none⟩ = some (.complex .f64 a0' b0') ∧ w'.cell? ⟨gz, 1, none⟩ = some (.complex .f64 a1' b1') ∧ w'.cell? ⟨gz, 2, none⟩ = some (.complex .f64 a2' b2') ∧ w'.cell? ⟨gz, 3, none⟩ = some (.complex .f64 a3' b3'))) (ds := []) #[false, false, false, false, false, false, false, false, false, false, false, false] (by kernel_rfl) rfl rfl ⟨(blk_cell BZ0.out 0).trans rfl, (blk_cell BZ0.out 1).trans rfl, (blk_cell BZ0.out 2).trans rfl, (blk_cell BZ0.out 3).trans rfl⟩ (fun hHeld => ?_); refine with_tabW whole.tab14 whole.bits14 (fun HT_ HW_ => ?_)
        have HC_1 := Aside0.mk (below_drew HC_0.out)
        clear HC_0
        generalize wz.drew = WD at HC_1 hHeld ⊢
        refine take_ (i := 2) (N := (some 103)) (v := ?_) (a' := ?_) #[false, false, true, false, false, false, false, false, false, false, false, false] rfl rfl (take_ofW HT_.out HW_.out (by kernel_rfl)) (fun _ _ _ h => h) (Or.inl ⟨by rfl, ?_⟩) hHeld ?_ ?_
        rotate_left
        · rintro w' ⟨s0, s1, s2, s3⟩
          go_simp
          with_reducible rfl
        rotate_left
        · simp only [Act.put, List.setIfInBounds_toArray, List.set_cons_zero, List.set_cons_succ, i64_w, i32_w]
          rfl
        refine pure_ (i := 0) (N := (some 101)) (v := ?_) (a' := ?_) #[true, false, true, false, false, false, false, false, false, false, false, false] rfl rfl (any_of HT_.out (by kernel_rfl)) (fun _ _ _ h => h) (Or.inl ⟨by rfl, ?_⟩) ?_ ?_
        rotate_left
        · intro w'
          go_simp
          with_reducible rfl
        rotate_left
        · simp only [Act.put, List.setIfInBounds_toArray, List.set_cons_zero, List.set_cons_succ, i64_w, i32_w]
          rfl
        refine pure_ (i := 3) (N := (some 104)) (v := ?_) (a' := ?_) #[true, false, true, true, false, false, false, false, false, false, false, false] rfl rfl (any_of HT_.out (by kernel_rfl)) (fun _ _ _ h => h) (Or.inl ⟨by rfl, ?_⟩) ?_ ?_
        rotate_left
        · intro w'
          go_simp
          with_reducible rfl
        rotate_left
        · simp only [Act.put, List.setIfInBounds_toArray, List.set_cons_zero, List.set_cons_succ, i64_w, i32_w]
          rfl
        refine pure_ (i := 4) (N := (some 105)) (v := ?_) (a' := ?_) #[true, false, true, true, true, false, false, false, false, false, false, false] rfl rfl (any_of HT_.out (by kernel_rfl)) (fun _ _ _ h => h) (Or.inl ⟨by rfl, ?_⟩) ?_ ?_
        rotate_left
        · intro w'
          go_simp
          with_reducible rfl
        rotate_left
        · simp only [Act.put, List.setIfInBounds_toArray, List.set_cons_zero, List.set_cons_succ, i64_w, i32_w]
          rfl
        refine two_ (i := 1) (j := 9) (Ni := (some 102)) (Nj := (some 14)) #[true, true, true, true, true, false, false, false, false, false, false, false] #[true, false, true, true, true, false, false, false, false, true, false, false] rfl rfl rfl rfl (two_of HT_.out (by kernel_rfl)) (by decide) (by decide) (fun K hK => ?_) (fun K hK => ?_)
        ·
          refine goes_ Try.func8 (by kernel_rfl) rfl #[.slice A1 l1.length c1] (by rfl) rfl rfl (by simp [Act.eval]) ?_
          refine (of4_calls A1 c1 l1 _ ((R1.out.below HB2.out).below HC_1.out) Y1.out (by omega)).mono ?_
          rintro e W_2 ⟨u, rfl, hu1, hb⟩
          refine ⟨_, rfl, ?_⟩
          have U := Aside0.mk hu1
          have HC_2 := Aside0.mk (below_then HC_1.out HC_1.out.size hb)
          clear hb hu1 hHeld HC_1
          refine hK.out _ _ ⟨(blk_cell (blk_below BZ0.out HC_2.out) 0).trans rfl, (blk_cell (blk_below BZ0.out HC_2.out) 1).trans rfl, (blk_cell (blk_below BZ0.out HC_2.out) 2).trans rfl, (blk_cell (blk_below BZ0.out HC_2.out) 3).trans rfl⟩ (fun hHeld => ?_)
          clear hK K
          refine norm_ (a' := ?_) ?_ ?_
          rotate_left
          · show Act.put _ (some 102) _ = _
            simp only [Act.put, List.setIfInBounds_toArray, List.set_cons_zero, List.set_cons_succ, i64_w, i32_w]
            rfl
          refine two_ (i := 5) (j := 9) (Ni := (some 106)) (Nj := (some 14)) #[true, true, true, true, true, true, false, false, false, false, false, false] #[true, true, true, true, true, false, false, false, false, true, false, false] rfl rfl rfl rfl (two_of HT_.out (by kernel_rfl)) (by decide) (by decide) (fun K hK => ?_) (fun K hK => ?_)
          ·
            refine goes_ Try.func16 (by kernel_rfl) rfl #[u, .agg #[.complex .f64 a0' b0', .complex .f64 a1' b1', .complex .f64 a2' b2', .complex .f64 a3' b3'], .int .i64 (l1.length : Int)] (by rfl) rfl rfl (by simp [Act.eval]) ?_
            refine (join_calls u _ _ _ U.out ZZ.out (l1.length : Int) hn1 S123.out _).mono ?_
            rintro e W_3 ⟨x, rfl, hu1, hb⟩
            rw [E123.out] at hu1
            obtain ⟨p0, q0, p1, q1, p2, q2, p3, q3, rfl⟩ := hu1.agg
            refine ⟨_, rfl, ?_⟩
            have XX := Aside0.mk hu1
            have HC_3 := Aside0.mk (below_then HC_2.out HC_2.out.size hb)
            clear hb hu1 hHeld HC_2
            refine hK.out _ _ ⟨(blk_cell (blk_below BZ0.out HC_3.out) 0).trans rfl, (blk_cell (blk_below BZ0.out HC_3.out) 1).trans rfl, (blk_cell (blk_below BZ0.out HC_3.out) 2).trans rfl, (blk_cell (blk_below BZ0.out HC_3.out) 3).trans rfl⟩ (fun hHeld => ?_)
            clear hK K
            refine norm_ (a' := ?_) ?_ ?_
            rotate_left
            · show Act.put _ (some 106) _ = _
              simp only [Act.put, List.setIfInBounds_toArray, List.set_cons_zero, List.set_cons_succ, i64_w, i32_w]
              rfl
            refine pure_ (i := 6) (N := (some 100)) (v := ?_) (a' := ?_) #[true, true, true, true, true, true, true, false, false, false, false, false] rfl rfl (any_of HT_.out (by kernel_rfl)) (fun _ _ _ h => h) (Or.inl ⟨by rfl, ?_⟩) ?_ ?_
            rotate_left
            · intro w'
              go_simp
              with_reducible rfl
            rotate_left
            · simp only [Act.put, List.setIfInBounds_toArray, List.set_cons_zero, List.set_cons_succ, i64_w, i32_w]
              rfl
            refine pure_ (i := 7) (N := (some 107)) (v := ?_) (a' := ?_) #[true, true, true, true, true, true, true, true, false, false, false, false] rfl rfl (any_of HT_.out (by kernel_rfl)) (fun _ _ _ h => h) (Or.inl ⟨by rfl, ?_⟩) ?_ ?_
            rotate_left
            · intro w'
              go_simp
              with_reducible rfl
            rotate_left
            · simp only [Act.put, List.setIfInBounds_toArray, List.set_cons_zero, List.set_cons_succ, i64_w, i32_w]
              rfl
            refine pure_ (i := 8) (N := (some 108)) (v := ?_) (a' := ?_) #[true, true, true, true, true, true, true, true, true, false, false, false] rfl rfl (any_of HT_.out (by kernel_rfl)) (fun _ _ _ h => h) (Or.inl ⟨by rfl, ?_⟩) ?_ ?_
            rotate_left
            · intro w'
              go_simp
              with_reducible rfl
            rotate_left
            · simp only [Act.put, List.setIfInBounds_toArray, List.set_cons_zero, List.set_cons_succ, i64_w, i32_w]
              rfl
            refine one_ (i := 9) (N := (some 14)) #[true, true, true, true, true, true, true, true, true, true, false, false] rfl rfl (one_of HT_.out (by kernel_rfl)) (by decide) (fun K hK => ?_)
            refine value_ (w1 := W_3.alloc (.cells zero4 26)) (v := .pointer (some ⟨W_3.heap.size, 0, none⟩)) (by rfl) rfl (by go_simp; rfl) ?_
            have NX_4 := Aside0.mk (blk_new W_3 (.cells zero4 26))
            have HC_4 := Aside0.mk (HC_3.out.alloc HC_3.out.size (.cells zero4 26))
            obtain ⟨gn, hgx⟩ : ∃ gn, W_3.heap.size = gn := ⟨_, rfl⟩
            have hge := Aside0.mk (hgx ▸ HC_3.out.size)
            rw [hgx] at NX_4 ⊢
            generalize W_3.alloc (.cells zero4 26) = W_4 at NX_4 HC_4 ⊢
            clear hgx hHeld HC_3
            refine hK.out _ _ ⟨(blk_cell (blk_below BZ0.out HC_4.out) 0).trans rfl, (blk_cell (blk_below BZ0.out HC_4.out) 1).trans rfl, (blk_cell (blk_below BZ0.out HC_4.out) 2).trans rfl, (blk_cell (blk_below BZ0.out HC_4.out) 3).trans rfl⟩ (fun hHeld => ?_)
            clear hK K
            refine norm_ (a' := ?_) ?_ ?_
            rotate_left
            · show Act.put _ (some 14) _ = _
              simp only [Act.put, List.setIfInBounds_toArray, List.set_cons_zero, List.set_cons_succ, i64_w, i32_w]
              rfl
            refine one_ (i := 10) (N := none) #[true, true, true, true, true, true, true, true, true, true, true, false] rfl rfl (one_of HT_.out (by kernel_rfl)) (by decide) (fun K hK => ?_)
            rw [if_pos (by rfl)]
            refine wp_store_row 26 (.tmp 14) (.tmp 107) (by rfl) gn #[.complex .f64 p0 q0, .complex .f64 p1 q1, .complex .f64 p2 q2, .complex .f64 p3 q3] (by rfl) (by rfl) 26 zero4 NX_4.out info26 (by rfl) (cells_one _ _ _ _ _ _ _ _) ?_
            have NX_5 := Aside0.mk (setRow_heap W_4 gn zero4 #[.complex .f64 p0 q0, .complex .f64 p1 q1, .complex .f64 p2 q2, .complex .f64 p3 q3] 26 (0, 0) NX_4.out)
            have HC_5 := Aside0.mk (below_setRow HC_4.out hge.out #[.complex .f64 p0 q0, .complex .f64 p1 q1, .complex .f64 p2 q2, .complex .f64 p3 q3])
            generalize W_4.setRow gn #[.complex .f64 p0 q0, .complex .f64 p1 q1, .complex .f64 p2 q2, .complex .f64 p3 q3] = W_5 at NX_5 HC_5 ⊢
            clear hHeld HC_4 NX_4
            refine hK.out _ _ ⟨(blk_cell (blk_below BZ0.out HC_5.out) 0).trans rfl, (blk_cell (blk_below BZ0.out HC_5.out) 1).trans rfl, (blk_cell (blk_below BZ0.out HC_5.out) 2).trans rfl, (blk_cell (blk_below BZ0.out HC_5.out) 3).trans rfl⟩ (fun hHeld => ?_)
            clear hK K
            refine norm_ (a' := ?_) ?_ ?_
            rotate_left
            · show Act.put _ none _ = _
              simp only [Act.put, List.setIfInBounds_toArray, List.set_cons_zero, List.set_cons_succ, i64_w, i32_w]
              rfl
            refine pure_ (i := 11) (N := (some 9)) (v := ?_) (a' := ?_) #[true, true, true, true, true, true, true, true, true, true, true, true] rfl rfl (any_of HT_.out (by kernel_rfl)) (fun _ _ _ h => h) (Or.inl ⟨by rfl, ?_⟩) ?_ ?_
            rotate_left
            · intro w'
              go_simp
              with_reducible rfl
            rotate_left
            · simp only [Act.put, List.setIfInBounds_toArray, List.set_cons_zero, List.set_cons_succ, i64_w, i32_w]
              rfl
            refine done_ (done_of HT_.out (by kernel_rfl)) ?_
            go_wp2_with fail
            go_meet
            case rel => exact ⟨gn, rfl, rfl, ⟨p0, q0, p1, q1, p2, q2, p3, q3, XX.out, NX_5.out⟩, SX2.out.below HC_5.out, R42.out.below HC_5.out, below_then HB2.out HB2.out.size HC_5.out⟩
          ·
            refine value_ (w1 := W_2.alloc (.cells zero4 26)) (v := .pointer (some ⟨W_2.heap.size, 0, none⟩)) (by rfl) rfl (by go_simp; rfl) ?_
            have NX_6 := Aside0.mk (blk_new W_2 (.cells zero4 26))
            have HC_6 := Aside0.mk (HC_2.out.alloc HC_2.out.size (.cells zero4 26))
            obtain ⟨gn, hgx⟩ : ∃ gn, W_2.heap.size = gn := ⟨_, rfl⟩
            have hge := Aside0.mk (hgx ▸ HC_2.out.size)
            rw [hgx] at NX_6 ⊢
            generalize W_2.alloc (.cells zero4 26) = W_6 at NX_6 HC_6 ⊢
            clear hgx hHeld HC_2
            refine hK.out _ _ ⟨(blk_cell (blk_below BZ0.out HC_6.out) 0).trans rfl, (blk_cell (blk_below BZ0.out HC_6.out) 1).trans rfl, (blk_cell (blk_below BZ0.out HC_6.out) 2).trans rfl, (blk_cell (blk_below BZ0.out HC_6.out) 3).trans rfl⟩ (fun hHeld => ?_)
            clear hK K
            refine norm_ (a' := ?_) ?_ ?_
            rotate_left
            · show Act.put _ (some 14) _ = _
              simp only [Act.put, List.setIfInBounds_toArray, List.set_cons_zero, List.set_cons_succ, i64_w, i32_w]
              rfl
            refine one_ (i := 5) (N := (some 106)) #[true, true, true, true, true, true, false, false, false, true, false, false] rfl rfl (one_of HT_.out (by kernel_rfl)) (by decide) (fun K hK => ?_)
            refine goes_ Try.func16 (by kernel_rfl) rfl #[u, .agg #[.complex .f64 a0' b0', .complex .f64 a1' b1', .complex .f64 a2' b2', .complex .f64 a3' b3'], .int .i64 (l1.length : Int)] (by rfl) rfl rfl (by simp [Act.eval]) ?_
            refine (join_calls u _ _ _ U.out ZZ.out (l1.length : Int) hn1 S123.out _).mono ?_
            rintro e W_7 ⟨x, rfl, hu1, hb⟩
            rw [E123.out] at hu1
            obtain ⟨p0, q0, p1, q1, p2, q2, p3, q3, rfl⟩ := hu1.agg
            refine ⟨_, rfl, ?_⟩
            have XX := Aside0.mk hu1
            have HC_7 := Aside0.mk (below_then HC_6.out HC_6.out.size hb)
            have NX_7 := Aside0.mk (blk_below NX_6.out hb)
            clear hb hu1 hHeld HC_6 NX_6
            refine hK.out _ _ ⟨(blk_cell (blk_below BZ0.out HC_7.out) 0).trans rfl, (blk_cell (blk_below BZ0.out HC_7.out) 1).trans rfl, (blk_cell (blk_below BZ0.out HC_7.out) 2).trans rfl, (blk_cell (blk_below BZ0.out HC_7.out) 3).trans rfl⟩ (fun hHeld => ?_)
            clear hK K
            refine norm_ (a' := ?_) ?_ ?_
            rotate_left
            · show Act.put _ (some 106) _ = _
              simp only [Act.put, List.setIfInBounds_toArray, List.set_cons_zero, List.set_cons_succ, i64_w, i32_w]
              rfl
            refine pure_ (i := 6) (N := (some 100)) (v := ?_) (a' := ?_) #[true, true, true, true, true, true, true, false, false, true, false, false] rfl rfl (any_of HT_.out (by kernel_rfl)) (fun _ _ _ h => h) (Or.inl ⟨by rfl, ?_⟩) ?_ ?_
            rotate_left
            · intro w'
              go_simp
              with_reducible rfl
            rotate_left
            · simp only [Act.put, List.setIfInBounds_toArray, List.set_cons_zero, List.set_cons_succ, i64_w, i32_w]
              rfl
            refine pure_ (i := 7) (N := (some 107)) (v := ?_) (a' := ?_) #[true, true, true, true, true, true, true, true, false, true, false, false] rfl rfl (any_of HT_.out (by kernel_rfl)) (fun _ _ _ h => h) (Or.inl ⟨by rfl, ?_⟩) ?_ ?_
            rotate_left
            · intro w'
              go_simp
              with_reducible rfl
            rotate_left
            · simp only [Act.put, List.setIfInBounds_toArray, List.set_cons_zero, List.set_cons_succ, i64_w, i32_w]
              rfl
            refine pure_ (i := 8) (N := (some 108)) (v := ?_) (a' := ?_) #[true, true, true, true, true, true, true, true, true, true, false, false] rfl rfl (any_of HT_.out (by kernel_rfl)) (fun _ _ _ h => h) (Or.inl ⟨by rfl, ?_⟩) ?_ ?_
            rotate_left
            · intro w'
              go_simp
              with_reducible rfl
            rotate_left
            · simp only [Act.put, List.setIfInBounds_toArray, List.set_cons_zero, List.set_cons_succ, i64_w, i32_w]
              rfl
            refine one_ (i := 10) (N := none) #[true, true, true, true, true, true, true, true, true, true, true, false] rfl rfl (one_of HT_.out (by kernel_rfl)) (by decide) (fun K hK => ?_)
            rw [if_pos (by rfl)]
            refine wp_store_row 26 (.tmp 14) (.tmp 107) (by rfl) gn #[.complex .f64 p0 q0, .complex .f64 p1 q1, .complex .f64 p2 q2, .complex .f64 p3 q3] (by rfl) (by rfl) 26 zero4 NX_7.out info26 (by rfl) (cells_one _ _ _ _ _ _ _ _) ?_
            have NX_8 := Aside0.mk (setRow_heap W_7 gn zero4 #[.complex .f64 p0 q0, .complex .f64 p1 q1, .complex .f64 p2 q2, .complex .f64 p3 q3] 26 (0, 0) NX_7.out)
            have HC_8 := Aside0.mk (below_setRow HC_7.out hge.out #[.complex .f64 p0 q0, .complex .f64 p1 q1, .complex .f64 p2 q2, .complex .f64 p3 q3])
            generalize W_7.setRow gn #[.complex .f64 p0 q0, .complex .f64 p1 q1, .complex .f64 p2 q2, .complex .f64 p3 q3] = W_8 at NX_8 HC_8 ⊢
            clear hHeld HC_7 NX_7
            refine hK.out _ _ ⟨(blk_cell (blk_below BZ0.out HC_8.out) 0).trans rfl, (blk_cell (blk_below BZ0.out HC_8.out) 1).trans rfl, (blk_cell (blk_below BZ0.out HC_8.out) 2).trans rfl, (blk_cell (blk_below BZ0.out HC_8.out) 3).trans rfl⟩ (fun hHeld => ?_)
            clear hK K
            refine norm_ (a' := ?_) ?_ ?_
            rotate_left
            · show Act.put _ none _ = _
              simp only [Act.put, List.setIfInBounds_toArray, List.set_cons_zero, List.set_cons_succ, i64_w, i32_w]
              rfl
            refine pure_ (i := 11) (N := (some 9)) (v := ?_) (a' := ?_) #[true, true, true, true, true, true, true, true, true, true, true, true] rfl rfl (any_of HT_.out (by kernel_rfl)) (fun _ _ _ h => h) (Or.inl ⟨by rfl, ?_⟩) ?_ ?_
            rotate_left
            · intro w'
              go_simp
              with_reducible rfl
            rotate_left
            · simp only [Act.put, List.setIfInBounds_toArray, List.set_cons_zero, List.set_cons_succ, i64_w, i32_w]
              rfl
            refine done_ (done_of HT_.out (by kernel_rfl)) ?_
            go_wp2_with fail
            go_meet
            case rel => exact ⟨gn, rfl, rfl, ⟨p0, q0, p1, q1, p2, q2, p3, q3, XX.out, NX_8.out⟩, SX2.out.below HC_8.out, R42.out.below HC_8.out, below_then HB2.out HB2.out.size HC_8.out⟩
        ·
          refine value_ (w1 := WD.alloc (.cells zero4 26)) (v := .pointer (some ⟨WD.heap.size, 0, none⟩)) (by rfl) rfl (by go_simp; rfl) ?_
          have NX_9 := Aside0.mk (blk_new WD (.cells zero4 26))
          have HC_9 := Aside0.mk (HC_1.out.alloc HC_1.out.size (.cells zero4 26))
          obtain ⟨gn, hgx⟩ : ∃ gn, WD.heap.size = gn := ⟨_, rfl⟩
          have hge := Aside0.mk (hgx ▸ HC_1.out.size)
          rw [hgx] at NX_9 ⊢
          generalize WD.alloc (.cells zero4 26) = W_9 at NX_9 HC_9 ⊢
          clear hgx hHeld HC_1
          refine hK.out _ _ ⟨(blk_cell (blk_below BZ0.out HC_9.out) 0).trans rfl, (blk_cell (blk_below BZ0.out HC_9.out) 1).trans rfl, (blk_cell (blk_below BZ0.out HC_9.out) 2).trans rfl, (blk_cell (blk_below BZ0.out HC_9.out) 3).trans rfl⟩ (fun hHeld => ?_)
          clear hK K
          refine norm_ (a' := ?_) ?_ ?_
          rotate_left
          · show Act.put _ (some 14) _ = _
            simp only [Act.put, List.setIfInBounds_toArray, List.set_cons_zero, List.set_cons_succ, i64_w, i32_w]
            rfl
          refine one_ (i := 1) (N := (some 102)) #[true, true, true, true, true, false, false, false, false, true, false, false] rfl rfl (one_of HT_.out (by kernel_rfl)) (by decide) (fun K hK => ?_)
          refine goes_ Try.func8 (by kernel_rfl) rfl #[.slice A1 l1.length c1] (by rfl) rfl rfl (by simp [Act.eval]) ?_
          refine (of4_calls A1 c1 l1 _ ((R1.out.below HB2.out).below HC_9.out) Y1.out (by omega)).mono ?_
          rintro e W_10 ⟨u, rfl, hu1, hb⟩
          refine ⟨_, rfl, ?_⟩
          have U := Aside0.mk hu1
          have HC_10 := Aside0.mk (below_then HC_9.out HC_9.out.size hb)
          have NX_10 := Aside0.mk (blk_below NX_9.out hb)
          clear hb hu1 hHeld HC_9 NX_9
          refine hK.out _ _ ⟨(blk_cell (blk_below BZ0.out HC_10.out) 0).trans rfl, (blk_cell (blk_below BZ0.out HC_10.out) 1).trans rfl, (blk_cell (blk_below BZ0.out HC_10.out) 2).trans rfl, (blk_cell (blk_below BZ0.out HC_10.out) 3).trans rfl⟩ (fun hHeld => ?_)
          clear hK K
          refine norm_ (a' := ?_) ?_ ?_
          rotate_left
          · show Act.put _ (some 102) _ = _
            simp only [Act.put, List.setIfInBounds_toArray, List.set_cons_zero, List.set_cons_succ, i64_w, i32_w]
            rfl
          refine one_ (i := 5) (N := (some 106)) #[true, true, true, true, true, true, false, false, false, true, false, false] rfl rfl (one_of HT_.out (by kernel_rfl)) (by decide) (fun K hK => ?_)
          refine goes_ Try.func16 (by kernel_rfl) rfl #[u, .agg #[.complex .f64 a0' b0', .complex .f64 a1' b1', .complex .f64 a2' b2', .complex .f64 a3' b3'], .int .i64 (l1.length : Int)] (by rfl) rfl rfl (by simp [Act.eval]) ?_
          refine (join_calls u _ _ _ U.out ZZ.out (l1.length : Int) hn1 S123.out _).mono ?_
          rintro e W_11 ⟨x, rfl, hu1, hb⟩
          rw [E123.out] at hu1
          obtain ⟨p0, q0, p1, q1, p2, q2, p3, q3, rfl⟩ := hu1.agg
          refine ⟨_, rfl, ?_⟩
          have XX := Aside0.mk hu1
          have HC_11 := Aside0.mk (below_then HC_10.out HC_10.out.size hb)
          have NX_11 := Aside0.mk (blk_below NX_10.out hb)
          clear hb hu1 hHeld HC_10 NX_10
          refine hK.out _ _ ⟨(blk_cell (blk_below BZ0.out HC_11.out) 0).trans rfl, (blk_cell (blk_below BZ0.out HC_11.out) 1).trans rfl, (blk_cell (blk_below BZ0.out HC_11.out) 2).trans rfl, (blk_cell (blk_below BZ0.out HC_11.out) 3).trans rfl⟩ (fun hHeld => ?_)
          clear hK K
          refine norm_ (a' := ?_) ?_ ?_
          rotate_left
          · show Act.put _ (some 106) _ = _
            simp only [Act.put, List.setIfInBounds_toArray, List.set_cons_zero, List.set_cons_succ, i64_w, i32_w]
            rfl
          refine pure_ (i := 6) (N := (some 100)) (v := ?_) (a' := ?_) #[true, true, true, true, true, true, true, false, false, true, false, false] rfl rfl (any_of HT_.out (by kernel_rfl)) (fun _ _ _ h => h) (Or.inl ⟨by rfl, ?_⟩) ?_ ?_
          rotate_left
          · intro w'
            go_simp
            with_reducible rfl
          rotate_left
          · simp only [Act.put, List.setIfInBounds_toArray, List.set_cons_zero, List.set_cons_succ, i64_w, i32_w]
            rfl
          refine pure_ (i := 7) (N := (some 107)) (v := ?_) (a' := ?_) #[true, true, true, true, true, true, true, true, false, true, false, false] rfl rfl (any_of HT_.out (by kernel_rfl)) (fun _ _ _ h => h) (Or.inl ⟨by rfl, ?_⟩) ?_ ?_
          rotate_left
          · intro w'
            go_simp
            with_reducible rfl
          rotate_left
          · simp only [Act.put, List.setIfInBounds_toArray, List.set_cons_zero, List.set_cons_succ, i64_w, i32_w]
            rfl
          refine pure_ (i := 8) (N := (some 108)) (v := ?_) (a' := ?_) #[true, true, true, true, true, true, true, true, true, true, false, false] rfl rfl (any_of HT_.out (by kernel_rfl)) (fun _ _ _ h => h) (Or.inl ⟨by rfl, ?_⟩) ?_ ?_
          rotate_left
          · intro w'
            go_simp
            with_reducible rfl
          rotate_left
          · simp only [Act.put, List.setIfInBounds_toArray, List.set_cons_zero, List.set_cons_succ, i64_w, i32_w]
            rfl
          refine one_ (i := 10) (N := none) #[true, true, true, true, true, true, true, true, true, true, true, false] rfl rfl (one_of HT_.out (by kernel_rfl)) (by decide) (fun K hK => ?_)
          rw [if_pos (by rfl)]
          refine wp_store_row 26 (.tmp 14) (.tmp 107) (by rfl) gn #[.complex .f64 p0 q0, .complex .f64 p1 q1, .complex .f64 p2 q2, .complex .f64 p3 q3] (by rfl) (by rfl) 26 zero4 NX_11.out info26 (by rfl) (cells_one _ _ _ _ _ _ _ _) ?_
          have NX_12 := Aside0.mk (setRow_heap W_11 gn zero4 #[.complex .f64 p0 q0, .complex .f64 p1 q1, .complex .f64 p2 q2, .complex .f64 p3 q3] 26 (0, 0) NX_11.out)
          have HC_12 := Aside0.mk (below_setRow HC_11.out hge.out #[.complex .f64 p0 q0, .complex .f64 p1 q1, .complex .f64 p2 q2, .complex .f64 p3 q3])
          generalize W_11.setRow gn #[.complex .f64 p0 q0, .complex .f64 p1 q1, .complex .f64 p2 q2, .complex .f64 p3 q3] = W_12 at NX_12 HC_12 ⊢
          clear hHeld HC_11 NX_11
          refine hK.out _ _ ⟨(blk_cell (blk_below BZ0.out HC_12.out) 0).trans rfl, (blk_cell (blk_below BZ0.out HC_12.out) 1).trans rfl, (blk_cell (blk_below BZ0.out HC_12.out) 2).trans rfl, (blk_cell (blk_below BZ0.out HC_12.out) 3).trans rfl⟩ (fun hHeld => ?_)
          clear hK K
          refine norm_ (a' := ?_) ?_ ?_
          rotate_left
          · show Act.put _ none _ = _
            simp only [Act.put, List.setIfInBounds_toArray, List.set_cons_zero, List.set_cons_succ, i64_w, i32_w]
            rfl
          refine pure_ (i := 11) (N := (some 9)) (v := ?_) (a' := ?_) #[true, true, true, true, true, true, true, true, true, true, true, true] rfl rfl (any_of HT_.out (by kernel_rfl)) (fun _ _ _ h => h) (Or.inl ⟨by rfl, ?_⟩) ?_ ?_
          rotate_left
          · intro w'
            go_simp
            with_reducible rfl
          rotate_left
          · simp only [Act.put, List.setIfInBounds_toArray, List.set_cons_zero, List.set_cons_succ, i64_w, i32_w]
            rfl
          refine done_ (done_of HT_.out (by kernel_rfl)) ?_
          go_wp2_with fail
          go_meet
          case rel => exact ⟨gn, rfl, rfl, ⟨p0, q0, p1, q1, p2, q2, p3, q3, XX.out, NX_12.out⟩, SX2.out.below HC_12.out, R42.out.below HC_12.out, below_then HB2.out HB2.out.size HC_12.out⟩
      case rest =>
        obtain ⟨gy, rfl, rfl, hy, hx, hr4, hb⟩ := hcut.out
        obtain ⟨p0, q0, p1, q1, p2, q2, p3, q3, hxx, bx⟩ := hx
        obtain ⟨s0, t0, s1, t1, s2, t2, s3, t3, hyy, by_⟩ := hy
        have heq1 := fun W => (spec_eq hxx.2 hyy.2 W).trans (by rw [alike_same (fun q _ => ⟨rfl, rfl⟩)])
        have hgn1 := fun p q W => spec_guard hxx.2 hyy.2 p q W
        have XX := Aside0.mk hxx
        have BX0 := Aside0.mk bx
        have BY0 := Aside0.mk by_
        have R43 := Aside0.mk hr4
        have HB3 := Aside0.mk hb
        clear hcut hr4 hb hxx hyy bx by_ HC_0 BZ0 SX2 R42 HB2 ZZ E123 S123
        go_upto_region 15 with (fail)
        refine start_ (n := 18) (S := (fun w' => w'.cell? ⟨gx, 0, none⟩ = some (.complex .f64 p0 q0) ∧ w'.cell? ⟨gx, 1, none⟩ = some (.complex .f64 p1 q1) ∧ w'.cell? ⟨gx, 2, none⟩ = some (.complex .f64 p2 q2) ∧ w'.cell? ⟨gx, 3, none⟩ = some (.complex .f64 p3 q3) ∧ w'.cell? ⟨gy, 0, none⟩ = some (.complex .f64 s0 t0) ∧ w'.cell? ⟨gy, 1, none⟩ = some (.complex .f64 s1 t1) ∧ w'.cell? ⟨gy, 2, none⟩ = some (.complex .f64 s2 t2) ∧ w'.cell? ⟨gy, 3, none⟩ = some (.complex .f64 s3 t3))) (ds := []) #[false, false, false, false, false, false, false, false, false, false, false, false, false, false, false, false, false, false] (by kernel_rfl) rfl rfl ⟨(blk_cell BX0.out 0).trans rfl, (blk_cell BX0.out 1).trans rfl, (blk_cell BX0.out 2).trans rfl, (blk_cell BX0.out 3).trans rfl, (blk_cell BY0.out 0).trans rfl, (blk_cell BY0.out 1).trans rfl, (blk_cell BY0.out 2).trans rfl, (blk_cell BY0.out 3).trans rfl⟩ (fun hHeld => ?_); refine with_tabW whole.tab15 whole.bits15 (fun HT_ HW_ => ?_)
        have HC_1 := Aside0.mk (below_drew (Below.refl wc.heap.size wc))
        generalize wc.drew = W2 at HC_1 hHeld ⊢
        refine pure_ (i := 0) (N := (some 109)) (v := ?_) (a' := ?_) #[true, false, false, false, false, false, false, false, false, false, false, false, false, false, false, false, false, false] rfl rfl (any_of HT_.out (by kernel_rfl)) (fun _ _ _ h => h) (Or.inl ⟨by rfl, ?_⟩) ?_ ?_
        rotate_left
        · intro w'
          go_simp
          with_reducible rfl
        rotate_left
        · simp only [Act.put, List.setIfInBounds_toArray, List.set_cons_zero, List.set_cons_succ, i64_w, i32_w]
          rfl
        refine pure_ (i := 1) (N := (some 110)) (v := ?_) (a' := ?_) #[true, true, false, false, false, false, false, false, false, false, false, false, false, false, false, false, false, false] rfl rfl (any_of HT_.out (by kernel_rfl)) (fun _ _ _ h => h) (Or.inl ⟨by rfl, ?_⟩) ?_ ?_
        rotate_left
        · intro w'
          go_simp
          with_reducible rfl
        rotate_left
        · simp only [Act.put, List.setIfInBounds_toArray, List.set_cons_zero, List.set_cons_succ, i64_w, i32_w]
          rfl
        refine pure_ (i := 2) (N := (some 111)) (v := ?_) (a' := ?_) #[true, true, true, false, false, false, false, false, false, false, false, false, false, false, false, false, false, false] rfl rfl (any_of HT_.out (by kernel_rfl)) (fun _ _ _ h => h) (Or.inl ⟨by rfl, ?_⟩) ?_ ?_
        rotate_left
        · intro w'
          go_simp
          with_reducible rfl
        rotate_left
        · simp only [Act.put, List.setIfInBounds_toArray, List.set_cons_zero, List.set_cons_succ, i64_w, i32_w]
          rfl
        refine take_ (i := 3) (N := (some 112)) (v := ?_) (a' := ?_) #[true, true, true, true, false, false, false, false, false, false, false, false, false, false, false, false, false, false] rfl rfl (take_ofW HT_.out HW_.out (by kernel_rfl)) (fun _ _ _ h => h) (Or.inl ⟨by rfl, ?_⟩) hHeld ?_ ?_
        rotate_left
        · rintro w' ⟨h0, h1, h2, h3, k0, k1, k2, k3⟩
          go_simp
          with_reducible rfl
        rotate_left
        · simp only [Act.put, List.setIfInBounds_toArray, List.set_cons_zero, List.set_cons_succ, i64_w, i32_w]
          rfl
        refine take_ (i := 4) (N := (some 113)) (v := ?_) (a' := ?_) #[true, true, true, true, true, false, false, false, false, false, false, false, false, false, false, false, false, false] rfl rfl (take_ofW HT_.out HW_.out (by kernel_rfl)) (fun _ _ _ h => h) (Or.inl ⟨by rfl, ?_⟩) hHeld ?_ ?_
        rotate_left
        · rintro w' ⟨h0, h1, h2, h3, k0, k1, k2, k3⟩
          go_simp
          with_reducible rfl
        rotate_left
        · simp only [Act.put, List.setIfInBounds_toArray, List.set_cons_zero, List.set_cons_succ, i64_w, i32_w]
          rfl
        refine pure_ (i := 5) (N := (some 114)) (v := ?_) (a' := ?_) #[true, true, true, true, true, true, false, false, false, false, false, false, false, false, false, false, false, false] rfl rfl (any_of HT_.out (by kernel_rfl)) (fun _ _ _ h => h) (Or.inl ⟨by rfl, ?_⟩) ?_ ?_
        rotate_left
        · intro w'
          go_simp
          with_reducible rfl
        rotate_left
        · simp only [Act.put, List.setIfInBounds_toArray, List.set_cons_zero, List.set_cons_succ, i64_w, i32_w]
          rfl
        clear heq1 hgn1
        refine pure_ (i := 6) (N := (some 115)) (v := ?_) (a' := ?_) #[true, true, true, true, true, true, true, false, false, false, false, false, false, false, false, false, false, false] rfl rfl (any_of HT_.out (by kernel_rfl)) (fun _ _ _ h => h) (Or.inl ⟨by rfl, ?_⟩) ?_ ?_
        rotate_left
        · intro w'
          go_simp
          with_reducible rfl
        rotate_left
        · simp only [Act.put, List.setIfInBounds_toArray, List.set_cons_zero, List.set_cons_succ, i64_w, i32_w]
          rfl
        refine pure_ (i := 7) (N := (some 116)) (v := ?_) (a' := ?_) #[true, true, true, true, true, true, true, true, false, false, false, false, false, false, false, false, false, false] rfl rfl (any_of HT_.out (by kernel_rfl)) (fun _ _ _ h => h) (Or.inl ⟨by rfl, ?_⟩) ?_ ?_
        rotate_left
        · intro w'
          go_simp
          with_reducible rfl
        rotate_left
        · simp only [Act.put, List.setIfInBounds_toArray, List.set_cons_zero, List.set_cons_succ, i64_w, i32_w]
          rfl
        refine take_ (i := 8) (N := (some 117)) (v := ?_) (a' := ?_) #[true, true, true, true, true, true, true, true, true, false, false, false, false, false, false, false, false, false] rfl rfl (take_ofW HT_.out HW_.out (by kernel_rfl)) (fun _ _ _ h => h) (Or.inl ⟨by rfl, ?_⟩) hHeld ?_ ?_
        rotate_left
        · rintro w' ⟨h0, h1, h2, h3, k0, k1, k2, k3⟩
          go_simp
          with_reducible rfl
        rotate_left
        · simp only [Act.put, List.setIfInBounds_toArray, List.set_cons_zero, List.set_cons_succ, i64_w, i32_w]
          rfl
        refine pure_ (i := 10) (N := (some 119)) (v := ?_) (a' := ?_) #[true, true, true, true, true, true, true, true, true, false, true, false, false, false, false, false, false, false] rfl rfl (any_of HT_.out (by kernel_rfl)) (fun _ _ _ h => h) (Or.inl ⟨by rfl, ?_⟩) ?_ ?_
        rotate_left
        · intro w'
          go_simp
          with_reducible rfl
        rotate_left
        · simp only [Act.put, List.setIfInBounds_toArray, List.set_cons_zero, List.set_cons_succ, i64_w, i32_w]
          rfl
        refine pure_ (i := 12) (N := (some 121)) (v := ?_) (a' := ?_) #[true, true, true, true, true, true, true, true, true, false, true, false, true, false, false, false, false, false] rfl rfl (any_of HT_.out (by kernel_rfl)) (fun _ _ _ h => h) (Or.inl ⟨by rfl, ?_⟩) ?_ ?_
        rotate_left
        · intro w'
          go_simp
          with_reducible rfl
        rotate_left
        · simp only [Act.put, List.setIfInBounds_toArray, List.set_cons_zero, List.set_cons_succ, i64_w, i32_w]
          rfl
        refine one_ (i := 9) (N := (some 118)) #[true, true, true, true, true, true, true, true, true, true, true, false, true, false, false, false, false, false] rfl rfl (one_of HT_.out (by kernel_rfl)) (by decide) (fun K hK => ?_)
        refine value_ (w1 := W2.alloc (.cells #[] 5)) (v := .slice (some ⟨W2.heap.size, 0, none⟩) 0 0) (by rfl) rfl (by go_simp) ?_
        have OM := Aside0.mk (row_lit0 W2 W2 (Nat.le_refl _))
        have HN4 := Aside0.mk (below_alloc (Below.refl W2.heap.size W2) (.cells #[] 5))
        clear hHeld
        generalize W2.alloc (.cells #[] 5) = W4 at OM HN4 ⊢
        have HC_4 := Aside0.mk (below_then HC_1.out HC_1.out.size HN4.out)
        refine hK.out _ _ ⟨(blk_cell (blk_below BX0.out HC_4.out) 0).trans rfl, (blk_cell (blk_below BX0.out HC_4.out) 1).trans rfl, (blk_cell (blk_below BX0.out HC_4.out) 2).trans rfl, (blk_cell (blk_below BX0.out HC_4.out) 3).trans rfl, (blk_cell (blk_below BY0.out HC_4.out) 0).trans rfl, (blk_cell (blk_below BY0.out HC_4.out) 1).trans rfl, (blk_cell (blk_below BY0.out HC_4.out) 2).trans rfl, (blk_cell (blk_below BY0.out HC_4.out) 3).trans rfl⟩ (fun hHeld => ?_)
        clear hK K
        refine norm_ (a' := ?_) ?_ ?_
        rotate_left
        · show Act.put _ (some 118) _ = _
          simp only [Act.put, List.setIfInBounds_toArray, List.set_cons_zero, List.set_cons_succ, i64_w, i32_w]
          rfl
        refine one_ (i := 11) (N := (some 120)) #[true, true, true, true, true, true, true, true, true, true, true, true, true, false, false, false, false, false] rfl rfl (one_of HT_.out (by kernel_rfl)) (by decide) (fun K hK => ?_)
        refine Kd.R_append_rows_step (Kd.int .u8) (w0 := W2) W2.heap.size (by rfl) (.tmp 118) (.tmp 119) 22 5 (.int .u8 0) 1 rfl Try.underlying22 info5 rfl (by decide) (by omega) _ [] l4 _ _ _ (fun _ => True) (fun _ => False) (by rfl) (by rfl) OM.out (Kd.C_below (reads_row (R43.out.below HC_1.out)) HN4.out) (fun _ _ h => h) (fun _ h => h.elim) (fun _ _ => trivial) HN4.out HN4.out.size (by simp; omega) ?_
        intro v5 W5 ho hb hg hat
        have OM5 := Aside0.mk ho
        have HN5 := Aside0.mk hb
        have HC_5 := Aside0.mk (below_then HC_1.out HC_1.out.size hb)
        clear ho hb hg hat hHeld OM HN4 HC_4
        refine hK.out _ _ ⟨(blk_cell (blk_below BX0.out HC_5.out) 0).trans rfl, (blk_cell (blk_below BX0.out HC_5.out) 1).trans rfl, (blk_cell (blk_below BX0.out HC_5.out) 2).trans rfl, (blk_cell (blk_below BX0.out HC_5.out) 3).trans rfl, (blk_cell (blk_below BY0.out HC_5.out) 0).trans rfl, (blk_cell (blk_below BY0.out HC_5.out) 1).trans rfl, (blk_cell (blk_below BY0.out HC_5.out) 2).trans rfl, (blk_cell (blk_below BY0.out HC_5.out) 3).trans rfl⟩ (fun hHeld => ?_)
        clear hK K
        refine norm_ (a' := ?_) ?_ ?_
        rotate_left
        · show Act.put _ (some 120) _ = _
          simp only [Act.put, List.setIfInBounds_toArray, List.set_cons_zero, List.set_cons_succ, i64_w, i32_w]
          rfl
        refine one_ (i := 13) (N := (some 122)) #[true, true, true, true, true, true, true, true, true, true, true, true, true, true, false, false, false, false] rfl rfl (one_of HT_.out (by kernel_rfl)) (by decide) (fun K hK => ?_)
        refine Kd.R_append_rows_step (Kd.int .u8) (w0 := W2) W2.heap.size (by rfl) (.tmp 120) (.tmp 121) 22 5 (.int .u8 0) 1 rfl Try.underlying22 info5 rfl (by decide) (by omega) _ ([] ++ l4) l3 _ _ _ (fun _ => True) (fun _ => False) (by rfl) (by rfl) OM5.out (Kd.C_below (reads_row ((R3.out.below HB3.out).below HC_1.out)) HN5.out) (fun _ _ h => h) (fun _ h => h.elim) (fun _ _ => trivial) HN5.out HN5.out.size (by simp; omega) ?_
        intro v6 W6 ho hb hg hat
        obtain ⟨A5, c5, rfl, hc5, hr5⟩ := row_reads ho
        have R5 := Aside0.mk hr5
        have HC_6 := Aside0.mk (below_then HC_1.out HC_1.out.size hb)
        clear ho hb hg hat hHeld hr5 hc5 OM5 HN5 HC_5
        refine hK.out _ _ ⟨(blk_cell (blk_below BX0.out HC_6.out) 0).trans rfl, (blk_cell (blk_below BX0.out HC_6.out) 1).trans rfl, (blk_cell (blk_below BX0.out HC_6.out) 2).trans rfl, (blk_cell (blk_below BX0.out HC_6.out) 3).trans rfl, (blk_cell (blk_below BY0.out HC_6.out) 0).trans rfl, (blk_cell (blk_below BY0.out HC_6.out) 1).trans rfl, (blk_cell (blk_below BY0.out HC_6.out) 2).trans rfl, (blk_cell (blk_below BY0.out HC_6.out) 3).trans rfl⟩ (fun hHeld => ?_)
        clear hK K
        refine norm_ (a' := ?_) ?_ ?_
        rotate_left
        · show Act.put _ (some 122) _ = _
          simp only [Act.put, List.setIfInBounds_toArray, List.set_cons_zero, List.set_cons_succ, i64_w, i32_w]
          rfl
        refine one_ (i := 14) (N := (some 123)) #[true, true, true, true, true, true, true, true, true, true, true, true, true, true, true, false, false, false] rfl rfl (one_of HT_.out (by kernel_rfl)) (by decide) (fun K hK => ?_)
        refine goes_ Try.func8 (by kernel_rfl) rfl #[.slice A5 ([] ++ l4 ++ l3).length c5] (by rfl) rfl rfl (by simp [Act.eval]) ?_
        refine (of4_calls A5 c5 ([] ++ l4 ++ l3) _ R5.out (byte_append (byte_append (by simpa using byte_zeros 0) Y4.out) Y3.out) (by simp; omega)).mono ?_
        rintro e W7 ⟨u, rfl, hu1, hb⟩
        refine ⟨_, rfl, ?_⟩
        rw [List.nil_append] at hu1
        have heq1 := fun W => (spec_eq XX.out.2 hu1.2 W).trans (by rw [alike_same (fun q _ => ⟨rfl, rfl⟩)])
        have hgn1 := fun p q W => spec_guard XX.out.2 hu1.2 p q W
        have HC_7 := Aside0.mk (below_then HC_6.out HC_6.out.size hb)
        obtain ⟨x0, y0, x1, y1, x2, y2, x3, y3, rfl⟩ := hu1.agg
        clear hu1 hb HC_6 R5 hHeld
        refine hK.out _ _ ⟨(blk_cell (blk_below BX0.out HC_7.out) 0).trans rfl, (blk_cell (blk_below BX0.out HC_7.out) 1).trans rfl, (blk_cell (blk_below BX0.out HC_7.out) 2).trans rfl, (blk_cell (blk_below BX0.out HC_7.out) 3).trans rfl, (blk_cell (blk_below BY0.out HC_7.out) 0).trans rfl, (blk_cell (blk_below BY0.out HC_7.out) 1).trans rfl, (blk_cell (blk_below BY0.out HC_7.out) 2).trans rfl, (blk_cell (blk_below BY0.out HC_7.out) 3).trans rfl⟩ (fun hHeld => ?_)
        clear hK K
        refine norm_ (a' := ?_) ?_ ?_
        rotate_left
        · show Act.put _ (some 123) _ = _
          simp only [Act.put, List.setIfInBounds_toArray, List.set_cons_zero, List.set_cons_succ, i64_w, i32_w]
          rfl
        refine pure_ (i := 15) (N := (some 124)) (v := ?_) (a' := ?_) #[true, true, true, true, true, true, true, true, true, true, true, true, true, true, true, true, false, false] rfl rfl (any_of HT_.out (by kernel_rfl)) (fun _ _ _ h => h) (Or.inl ⟨by rfl, ?_⟩) ?_ ?_
        rotate_left
        · intro w'
          go_simp
          with_reducible rfl
        rotate_left
        · simp only [Act.put, List.setIfInBounds_toArray, List.set_cons_zero, List.set_cons_succ, i64_w, i32_w]
          rfl
        refine pure_ (i := 16) (N := (some 125)) (v := ?_) (a' := ?_) #[true, true, true, true, true, true, true, true, true, true, true, true, true, true, true, true, true, false] rfl rfl (any_of HT_.out (by kernel_rfl)) (fun _ _ _ h => h) (Or.inl ⟨by rfl, ?_⟩) ?_ ?_
        rotate_left
        · intro w'
          go_simp
          with_reducible rfl
        rotate_left
        · simp only [Act.put, List.setIfInBounds_toArray, List.set_cons_zero, List.set_cons_succ, i64_w, i32_w]
          rfl
        refine pure_ (i := 17) (N := (some 6)) (v := ?_) (a' := ?_) #[true, true, true, true, true, true, true, true, true, true, true, true, true, true, true, true, true, true] rfl rfl (any_of HT_.out (by kernel_rfl)) (fun _ _ _ h => h) (Or.inl ⟨by rfl, ?_⟩) ?_ ?_
        rotate_left
        · intro w'
          go_simp
          with_reducible rfl
        rotate_left
        · simp only [Act.put, List.setIfInBounds_toArray, List.set_cons_zero, List.set_cons_succ, i64_w, i32_w]
          rfl
        refine done_ (done_of HT_.out (by kernel_rfl)) ?_
        go_wp2_with fail
        go_ret
        exact ⟨rfl, below_then HB3.out HB3.out.size HC_7.out⟩
set_option maxHeartbeats 4000000 in
set_option maxRecDepth 100000 in
theorem whole_big (A1 A2 A3 : Option Addr) (c1 c2 c3 : Nat) (l1 l2 l3 : List Int) (w : World) (b1 b2 b3 : Bool) (d1 : decide ((4000 : Int) < (l1.length : Int)) = b1) (d2 : decide ((4000 : Int) < (l2.length : Int)) = b2) (d3 : decide ((4000 : Int) < (l3.length : Int)) = b3) (h : (b1 || b2 || b3) = true) :
    Calls Try.prog 6 #[.slice A1 l1.length c1, .slice A2 l2.length c2, .slice A3 l3.length c3] w fun e w' => e = .returned (.bool true) ∧ Below w.heap.size w w' := by
  go_enter Try.func6, Try.ntmps6
  go_wp2_with fail
  refine (wakes _).mono ?_
  rintro e w1 ⟨rfl, hb1⟩
  have HB1 := Aside0.mk hb1
  clear hb1
  cases b1 with
  | true => go_wp2_with fail; go_ret; exact ⟨rfl, HB1.out⟩
  | false =>
    cases b2 with
    | true => go_wp2_with fail; go_ret; exact ⟨rfl, HB1.out⟩
    | false =>
      cases b3 with
      | true => go_wp2_with fail; go_ret; exact ⟨rfl, HB1.out⟩
      | false => exact absurd h (by decide)
theorem whole_row (A1 : Option Addr) (c1 : Nat) (l1 : List Int) (A2 : Option Addr) (c2 : Nat) (l2 : List Int) (A3 : Option Addr) (c3 : Nat) (l3 : List Int) (w : World) (hr1 : ReadsInt w .u8 A1 l1.length l1) (_ : l1.length ≤ c1) (hw1 : ∀ x ∈ l1, (Lit.int .u8 x).wf = true) (_ : l1.length * 1 ≤ 140737488351232) (hr2 : ReadsInt w .u8 A2 l2.length l2) (_ : l2.length ≤ c2) (hw2 : ∀ x ∈ l2, (Lit.int .u8 x).wf = true) (_ : l2.length * 1 ≤ 140737488351232) (hr3 : ReadsInt w .u8 A3 l3.length l3) (_ : l3.length ≤ c3) (hw3 : ∀ x ∈ l3, (Lit.int .u8 x).wf = true) (_ : l3.length * 1 ≤ 140737488351232) :
    Calls Try.prog 6 #[.slice A1 l1.length c1, .slice A2 l2.length c2, .slice A3 l3.length c3] w fun e w' => e = .returned (.bool true) ∧ Below w.heap.size w w' := by
  by_cases h : l1.length ≤ 4000 ∧ l2.length ≤ 4000 ∧ l3.length ≤ 4000
  · exact whole_main A1 A2 A3 c1 c2 c3 l1 l2 l3 w hr1 hr2 hr3 (bytes_list2 hw1) (bytes_list2 hw2) (bytes_list2 hw3) h.1 h.2.1 h.2.2
  · refine whole_big A1 A2 A3 c1 c2 c3 l1 l2 l3 w _ _ _ rfl rfl rfl ?_
    simp only [Bool.or_eq_true, decide_eq_true_eq]
    omega
end Go.Proofs.Ytmjgmompcaanlaa.Turn
