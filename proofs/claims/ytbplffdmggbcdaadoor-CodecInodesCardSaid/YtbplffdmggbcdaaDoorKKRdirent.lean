/- The reference writes a name in a directory: a contract. -/
import Derived.Test.YtbplffdmggbcdaaDoorKKRname
import Derived.Test.YtbplffdmggbcdaaDoorKKPutI
namespace Go.Proofs.YtbplffdmggbcdaaDoor.Codec
open Go.RowKit Go.Proofs.YtbplffdmggbcdaaDoor.PCodecInodes Go.Proofs.YtbplffdmggbcdaaDoor.Plain Go.Proofs.YtbplffdmggbcdaaDoor.Pure Go.Proofs.YtbplffdmggbcdaaDoorW.PrintWords Go.Proofs.YtbplffdmggbcdaaDoorW.PrintLast Go.Proofs.YtbplffdmggbcdaaDoorW.PrintMore
set_option linter.unusedVariables false
set_option linter.unusedSimpArgs false

def rdirent.T7 : Bool × List (List Nat × List Nat) := (true, [([], []), ([0], [0]), ([1], [1]), ([], []), ([3], [3]), ([2, 4, 2], [2, 4]), ([5, 5], [5]), ([6, 6, 0, 1, 2, 3, 4, 5, 6], [6]), ([7, 0, 1, 2, 3, 4, 5, 6, 7], [])])
def rdirent.B7 : List Nat := [0, 1, 3, 0, 8, 31, 63, 127, 255]
theorem rdirent.tab7 : rtab .any (opsOf Tryd.f12 7) = rdirent.T7 := by kernel_rfl
theorem rdirent.bits7 : waitsOk rdirent.T7.2 rdirent.B7 = true := by kernel_rfl

theorem rpad_is (l : List Int) (n : Nat) (hn : n ≤ 5000) : ∀ (d k : Nat) (q : List Int), n - q.length = d → q.length ≤ n → d < k → skerryref06_padded.l0 k q (n : Int) = some (q ++ List.replicate (n - q.length) 0) := by
  intro d
  induction d with
  | zero =>
    intro k q hd hq hk
    obtain ⟨k, rfl⟩ : ∃ m, k = m + 1 := ⟨k - 1, by omega⟩
    simp only [skerryref06_padded.l0]
    rw [if_neg (by omega), hd, List.replicate_zero, List.append_nil]
  | succ d ih =>
    intro k q hd hq hk
    obtain ⟨k, rfl⟩ : ∃ m, k = m + 1 := ⟨k - 1, by omega⟩
    have h := ih k (q ++ [0]) (by rw [List.length_append]; simp; omega) (by rw [List.length_append]; simp; omega) (by omega)
    simp only [skerryref06_padded.l0]
    rw [if_pos (by omega), if_pos (by omega), h, List.length_append, List.length_singleton, List.append_assoc, show n - q.length = (n - (q.length + 1)) + 1 by omega, List.replicate_succ]
    rfl
set_option maxHeartbeats 4000000 in
set_option maxRecDepth 100000 in
theorem rdirent_form (x : Int) (hx : x = 0) (t : ByteArray) (ht : t.toList ≠ []) (w : World) :
    Calls Tryd.prog 12 #[.agg #[.int .i64 x, .string t]] w fun e w' => e = .returned (.tuple #[.slice none 0 0, .int .i64 4]) ∧ Below w.heap.size w w' := by
  have hu := Tryd.underlying26
  have hx1 : (x == 0) = true := beq_iff_eq.2 hx
  have b1 : t.toList.isEmpty = false := by cases hl : t.toList with | nil => exact absurd hl ht | cons _ _ => rfl
  clear hx ht
  go_enter Tryd.func12, Tryd.ntmps12
  go_wp2_with ((with_reducible refine gate_dst (N := 1) rfl ?_); refine box_event ?hg (N := 1) ?hd (cs := #[.int .i64 x, .string t]) (t := 26) ?hr ?_; (case hd => rfl); (case hg => rfl); (case hr => first | (go_simp; done) | (go_simp; rfl)); intro gb hggb w1 hbox hb; have BKgb := Aside0.mk hbox; have BHgb := Aside0.mk hb; have GEgb := Aside0.mk hggb; clear hb hbox hggb; have x0 : w1.cell? ⟨gb, 0, none⟩ = some (.int .i64 x) := (blk_cell BKgb.out 0).trans rfl; have x1 : w1.cell? ⟨gb, 1, none⟩ = some (.string t) := (blk_cell BKgb.out 1).trans rfl)
  go_ret2
  exact ⟨rfl, BHgb.out⟩
set_option maxHeartbeats 4000000 in
set_option maxRecDepth 100000 in
theorem rdirent_name (x : Int) (hx : x ≠ 0) (t : ByteArray) (ht : ¬ NameOk t) (w : World) :
    Calls Tryd.prog 12 #[.agg #[.int .i64 x, .string t]] w fun e w' => e = .returned (.tuple #[.slice none 0 0, .int .i64 16]) ∧ Below w.heap.size w w' := by
  have hu := Tryd.underlying26
  have hx1 : (x == 0) = false := beq_eq_false_iff_ne.2 hx
  have hx2 : (x != 0) = true := bne_iff_ne.2 hx
  have hn : nameOut t = 16 := by unfold nameOut; rw [if_neg ht]
  have HN := Aside0.mk (fun W => rname_calls t W)
  rw [hn] at HN
  clear ht hx hn
  go_enter Tryd.func12, Tryd.ntmps12
  go_wp2_with ((with_reducible refine gate_dst (N := 1) rfl ?_); refine box_event ?hg (N := 1) ?hd (cs := #[.int .i64 x, .string t]) (t := 26) ?hr ?_; (case hd => rfl); (case hg => rfl); (case hr => first | (go_simp; done) | (go_simp; rfl)); intro gb hggb w1 hbox hb; have BKgb := Aside0.mk hbox; have BHgb := Aside0.mk hb; have GEgb := Aside0.mk hggb; clear hb hbox hggb; have x0 : w1.cell? ⟨gb, 0, none⟩ = some (.int .i64 x) := (blk_cell BKgb.out 0).trans rfl; have x1 : w1.cell? ⟨gb, 1, none⟩ = some (.string t) := (blk_cell BKgb.out 1).trans rfl)
  ((with_reducible refine (HN.out _).mono ?_); rintro e w2 ⟨rfl, hb⟩)
  have HB2 := Aside0.mk (below_then BHgb.out BHgb.out.size hb)
  clear hb
  go_wp2
  go_ret2
  exact ⟨rfl, HB2.out⟩
set_option maxHeartbeats 4000000 in
set_option maxRecDepth 100000 in
theorem rdirent_ok (x : Int) (t : ByteArray) (hxt : (x = 0 ∧ t.toList = []) ∨ (x ≠ 0 ∧ NameOk t)) (w : World) :
    Calls Tryd.prog 12 #[.agg #[.int .i64 x, .string t]] w fun e w' => ∃ v, e = .returned (.tuple #[v, .int .i64 (dirOut x (bytesOf t)).2]) ∧ Kd.R (Kd.int .u8) 5 w' w.heap.size (fun _ => True) v (dirOut x (bytesOf t)).1 ∧ Below w.heap.size w w' := by
  have hu := Tryd.underlying26
  have hlen : t.size ≤ 13 := by
    rcases hxt with ⟨_, ht⟩ | ⟨_, ht⟩
    · rw [← bytesOf_length]; unfold bytesOf; rw [← ByteArray.toList_eq, ht]; simp
    · exact ht.2.1
  have HL := Aside0.mk hlen
  have hpad : skerryref06_padded.f 20 (leB 2 x ++ bytesOf t) 16 = some ((leB 2 x ++ bytesOf t) ++ List.replicate (16 - (leB 2 x ++ bytesOf t).length) 0) := rpad_is [] 16 (by decide) _ 20 _ rfl (by rw [List.length_append, leB_length, bytesOf_length]; omega) (by omega)
  have HPAD := Aside0.mk hpad
  have HF := Aside0.mk (fun W => fits_calls 2 (by decide) x W)
  have HN := Aside0.mk (fun W => rname_calls t W)
  obtain ⟨ro, hro⟩ : ∃ ro, dirOut x (bytesOf t) = ro := ⟨_, rfl⟩
  rw [hro]
  have hO : (Fits 2 x → ro = ((leB 2 x ++ bytesOf t) ++ List.replicate (16 - (leB 2 x ++ bytesOf t).length) 0, 0)) ∧ (¬ Fits 2 x → ro = ([], 3)) := by
    rw [← hro]
    unfold dirOut
    refine ⟨fun h => ?_, fun h => ?_⟩
    · rw [if_pos h, List.length_append, leB_length, show 16 - (2 + (bytesOf t).length) = 14 - (bytesOf t).length by omega]
    · rw [if_neg h]
  have HO := Aside0.mk hO
  have hreg : ((x == 0) = true ∧ (x != 0) = false ∧ t.toList.isEmpty = true) ∨ ((x == 0) = false ∧ (x != 0) = true ∧ nameOut t = 0) := by
    rcases hxt with ⟨hx, ht⟩ | ⟨hx, ht⟩
    · exact .inl ⟨beq_iff_eq.2 hx, bne_eq_false_iff_eq.2 hx, by rw [ht]; rfl⟩
    · exact .inr ⟨beq_eq_false_iff_ne.2 hx, bne_iff_ne.2 hx, by unfold nameOut; rw [if_pos ht]⟩
  clear hro hlen hpad hO hxt
  by_cases hf : Fits 2 x
  · have HFT := Aside0.mk hf
    have HO2 := Aside0.mk (HO.out.1 hf)
    rw [decide_eq_true hf] at HF
    clear hf HO
    rcases hreg with ⟨hx1, hx2, ht1⟩ | ⟨hx1, hx2, hn⟩
    · clear HN
      go_enter Tryd.func12, Tryd.ntmps12
      go_wp2_with ((with_reducible refine gate_dst (N := 1) rfl ?_); refine box_event ?hg (N := 1) ?hd (cs := #[.int .i64 x, .string t]) (t := 26) ?hr ?_; (case hd => rfl); (case hg => rfl); (case hr => first | (go_simp; done) | (go_simp; rfl)); intro gb hggb w2 hbox hb; have BKgb := Aside0.mk hbox; have BHgb := Aside0.mk hb; have GEgb := Aside0.mk hggb; clear hb hbox hggb; have x0 : w2.cell? ⟨gb, 0, none⟩ = some (.int .i64 x) := (blk_cell BKgb.out 0).trans rfl; have x1 : w2.cell? ⟨gb, 1, none⟩ = some (.string t) := (blk_cell BKgb.out 1).trans rfl)
      have HB2 := Aside0.mk BHgb.out
      have HG2 := Aside0.mk BKgb.out
      clear BHgb BKgb GEgb
      ((refine (HF.out w2).mono ?_); rintro e w3 ⟨rfl, hb⟩)
      have HB3 := Aside0.mk (below_then HB2.out HB2.out.size hb)
      have HG3 := Aside0.mk (blk_below HG2.out hb)
      clear hb HB2 HG2 HF x0 x1
      have x0d : w3.drew.cell? ⟨gb, 0, none⟩ = some (.int .i64 x) := (blk_cell (blk_drew HG3.out) 0).trans rfl
      have x1d : w3.drew.cell? ⟨gb, 1, none⟩ = some (.string t) := (blk_cell (blk_drew HG3.out) 1).trans rfl
      go_upto_region 7 with (fail)
      refine start_ (n := 9) (S := (fun w' => w'.cell? ⟨gb, 0, none⟩ = some (.int .i64 x) ∧ w'.cell? ⟨gb, 1, none⟩ = some (.string t))) (ds := [6]) #[false, false, false, false, false, false, false, false, false] (by kernel_rfl) rfl rfl ⟨x0d, x1d⟩ (fun hHeld => ?_); refine with_tabW rdirent.tab7 rdirent.bits7 (fun HT_ HW_ => ?_)
      have HBD := Aside0.mk (below_drew HB3.out)
      have HGD := Aside0.mk (blk_drew HG3.out)
      generalize w3.drew = wd at HBD HGD hHeld ⊢
      refine pure_ (i := 0) (N := (some 25)) (v := ?_) (a' := ?_) #[true, false, false, false, false, false, false, false, false] rfl rfl (any_of HT_.out (by kernel_rfl)) (fun _ _ _ h => h) (Or.inl ⟨by rfl, ?_⟩) ?_ ?_
      rotate_left
      · intro w'
        go_simp
        with_reducible rfl
      rotate_left
      · simp only [Act.put, List.setIfInBounds_toArray, List.set_cons_zero, List.set_cons_succ, i64_w, i32_w]
        rfl
      refine take_ (i := 1) (N := (some 26)) (v := ?_) (a' := ?_) #[true, true, false, false, false, false, false, false, false] rfl rfl (take_ofW HT_.out HW_.out (by kernel_rfl)) (fun _ _ _ h => h) (Or.inl ⟨by rfl, ?_⟩) hHeld ?_ ?_
      rotate_left
      · rintro w' ⟨z0, z1⟩
        go_simp
        with_reducible rfl
      rotate_left
      · simp only [Act.put, List.setIfInBounds_toArray, List.set_cons_zero, List.set_cons_succ, i64_w, i32_w]
        rfl
      refine pure_ (i := 3) (N := (some 28)) (v := ?_) (a' := ?_) #[true, true, false, true, false, false, false, false, false] rfl rfl (any_of HT_.out (by kernel_rfl)) (fun _ _ _ h => h) (Or.inl ⟨by rfl, ?_⟩) ?_ ?_
      rotate_left
      · intro w'
        go_simp
        with_reducible rfl
      rotate_left
      · simp only [Act.put, List.setIfInBounds_toArray, List.set_cons_zero, List.set_cons_succ, i64_w, i32_w]
        rfl
      refine take_ (i := 4) (N := (some 29)) (v := ?_) (a' := ?_) #[true, true, false, true, true, false, false, false, false] rfl rfl (take_ofW HT_.out HW_.out (by kernel_rfl)) (fun _ _ _ h => h) (Or.inl ⟨by rfl, ?_⟩) hHeld ?_ ?_
      rotate_left
      · rintro w' ⟨z0, z1⟩
        go_simp
        with_reducible rfl
      rotate_left
      · simp only [Act.put, List.setIfInBounds_toArray, List.set_cons_zero, List.set_cons_succ, i64_w, i32_w]
        rfl
      refine one_ (i := 2) (N := (some 27)) #[true, true, true, true, true, false, false, false, false] rfl rfl (one_of HT_.out (by kernel_rfl)) (by decide) (fun K hK => ?_)
      refine goes_ Tryd.func35 (by kernel_rfl) rfl #[.slice none 0 0, .int .i64 2, .int .i64 x] (by rfl) rfl rfl (by simp [Act.eval]) ?_
      ((refine (rput_calls 2 (by decide) x HFT.out (w1 := wd) (W := wd) (v := .slice none 0 0) (l := []) (Below.refl _ _) (brow_nil wd wd.heap.size) (by decide)).mono ?_); rintro e w4 ⟨v4, rfl, hr4, hb4⟩)
      rw [List.nil_append] at hr4
      refine ⟨_, rfl, ?_⟩
      have HR4 := Aside0.mk hr4
      have HB4 := Aside0.mk hb4
      have HG4 := Aside0.mk (blk_below HGD.out hb4)
      have x04 : w4.cell? ⟨gb, 0, none⟩ = some (.int .i64 x) := (blk_cell HG4.out 0).trans rfl
      have x14 : w4.cell? ⟨gb, 1, none⟩ = some (.string t) := (blk_cell HG4.out 1).trans rfl
      clear hr4 hb4 hHeld x0d x1d
      refine hK.out _ _ ⟨x04, x14⟩ (fun hHeld => ?_)
      clear hK K
      refine norm_ (a' := ?_) ?_ ?_
      rotate_left
      · show Act.put _ (some 27) _ = _
        simp only [Act.put, List.setIfInBounds_toArray, List.set_cons_zero, List.set_cons_succ, i64_w, i32_w]
        rfl
      refine one_ (i := 5) (N := (some 30)) #[true, true, true, true, true, true, false, false, false] rfl rfl (one_of HT_.out (by kernel_rfl)) (by decide) (fun K hK => ?_)
      refine step_append_str (by rfl) (.tmp 27) (.tmp 29) (by rfl) wd.heap.size v4 (leB 2 x) (by rfl) HR4.out t (by rfl) (by have := HL.out; rw [leB_length]; omega) HB4.out.size ?_
      intro v5 w5 hr5 hg5 hat5
      have HR5 := Aside0.mk hr5
      have HB5 := Aside0.mk (HB4.out.grown hg5 HB4.out.size (fun k e => (brow_lt HR4.out k e).1))
      have HG5 := Aside0.mk (blk_grown HG4.out hg5 (fun e => by have := (brow_lt HR4.out gb e.symm).1; have := blk_lt HGD.out; omega))
      have x05 : w5.cell? ⟨gb, 0, none⟩ = some (.int .i64 x) := (blk_cell HG5.out 0).trans rfl
      have x15 : w5.cell? ⟨gb, 1, none⟩ = some (.string t) := (blk_cell HG5.out 1).trans rfl
      clear hr5 hg5 hat5 hHeld x04 x14
      refine hK.out _ _ ⟨x05, x15⟩ (fun hHeld => ?_)
      clear hK K
      refine norm_ (a' := ?_) ?_ ?_
      rotate_left
      · show Act.put _ (some 30) _ = _
        simp only [Act.put, List.setIfInBounds_toArray, List.set_cons_zero, List.set_cons_succ, i64_w, i32_w]
        rfl
      refine last_ (i := 6) (N := (some 31)) #[true, true, true, true, true, true, true, false, false] rfl rfl (one_of HT_.out (by kernel_rfl)) (by decide) (fun K hK => ?_)
      refine goes_ Tryd.func40 (by kernel_rfl) rfl #[v5, .int .i64 16] (by rfl) rfl rfl (by simp [Act.eval]) ?_
      ((refine (skerryref06_padded.calls 20 (fun _ => True) v5 (leB 2 x ++ bytesOf t) 16 _ wd w5 HB5.out HR5.out HPAD.out).mono ?_); rintro e w6 ⟨v6, rfl, hr6, hb6, _⟩)
      refine ⟨_, rfl, ?_⟩
      have HR6 := Aside0.mk (Kd.R_mono hr6 (fun _ _ => trivial) : Kd.R (Kd.int .u8) 5 w6 wd.heap.size (fun _ => True) v6 _)
      have HB6 := Aside0.mk hb6
      clear hr6 hb6
      refine hK.out _ _ ?_
      clear hK K
      refine norm_ (a' := ?_) ?_ ?_
      rotate_left
      · show Act.put _ (some 31) _ = _
        simp only [Act.put, List.setIfInBounds_toArray, List.set_cons_zero, List.set_cons_succ, i64_w, i32_w]
        rfl
      refine pure_ (i := 7) (N := (some 2)) (v := ?_) (a' := ?_) #[true, true, true, true, true, true, true, true, false] rfl rfl (any_of HT_.out (by kernel_rfl)) (fun _ _ _ h => h) (Or.inl ⟨by rfl, ?_⟩) ?_ ?_
      rotate_left
      · intro w'
        go_simp
        with_reducible rfl
      rotate_left
      · simp only [Act.put, List.setIfInBounds_toArray, List.set_cons_zero, List.set_cons_succ, i64_w, i32_w]
        rfl
      refine pure_ (i := 8) (N := (some 3)) (v := ?_) (a' := ?_) #[true, true, true, true, true, true, true, true, true] rfl rfl (any_of HT_.out (by kernel_rfl)) (fun _ _ _ h => h) (Or.inl ⟨by rfl, ?_⟩) ?_ ?_
      rotate_left
      · intro w'
        go_simp
        with_reducible rfl
      rotate_left
      · simp only [Act.put, List.setIfInBounds_toArray, List.set_cons_zero, List.set_cons_succ, i64_w, i32_w]
        rfl
      refine done_ (done_of HT_.out (by kernel_rfl)) ?_
      go_wp2
      go_ret2
      rw [HO2.out]
      exact ⟨_, rfl, brow_less HR6.out HBD.out.size, below_then HBD.out HBD.out.size HB6.out⟩
    · rw [hn] at HN
      clear hn
      go_enter Tryd.func12, Tryd.ntmps12
      go_wp2_with ((with_reducible refine gate_dst (N := 1) rfl ?_); refine box_event ?hg (N := 1) ?hd (cs := #[.int .i64 x, .string t]) (t := 26) ?hr ?_; (case hd => rfl); (case hg => rfl); (case hr => first | (go_simp; done) | (go_simp; rfl)); intro gb hggb w1 hbox hb; have BKgb := Aside0.mk hbox; have BHgb := Aside0.mk hb; have GEgb := Aside0.mk hggb; clear hb hbox hggb; have x0 : w1.cell? ⟨gb, 0, none⟩ = some (.int .i64 x) := (blk_cell BKgb.out 0).trans rfl; have x1 : w1.cell? ⟨gb, 1, none⟩ = some (.string t) := (blk_cell BKgb.out 1).trans rfl)
      ((with_reducible refine (HN.out _).mono ?_); rintro e w2 ⟨rfl, hb⟩)
      have HB2 := Aside0.mk (below_then BHgb.out BHgb.out.size hb)
      have HG2 := Aside0.mk (blk_below BKgb.out hb)
      clear hb HN BHgb BKgb GEgb x0 x1
      have x0 : w2.cell? ⟨gb, 0, none⟩ = some (.int .i64 x) := (blk_cell HG2.out 0).trans rfl
      have x1 : w2.cell? ⟨gb, 1, none⟩ = some (.string t) := (blk_cell HG2.out 1).trans rfl
      go_wp2_with fail
      ((refine (HF.out w2).mono ?_); rintro e w3 ⟨rfl, hb⟩)
      have HB3 := Aside0.mk (below_then HB2.out HB2.out.size hb)
      have HG3 := Aside0.mk (blk_below HG2.out hb)
      clear hb HB2 HG2 HF x0 x1
      have x0d : w3.drew.cell? ⟨gb, 0, none⟩ = some (.int .i64 x) := (blk_cell (blk_drew HG3.out) 0).trans rfl
      have x1d : w3.drew.cell? ⟨gb, 1, none⟩ = some (.string t) := (blk_cell (blk_drew HG3.out) 1).trans rfl
      go_upto_region 7 with (fail)
      refine start_ (n := 9) (S := (fun w' => w'.cell? ⟨gb, 0, none⟩ = some (.int .i64 x) ∧ w'.cell? ⟨gb, 1, none⟩ = some (.string t))) (ds := [6]) #[false, false, false, false, false, false, false, false, false] (by kernel_rfl) rfl rfl ⟨x0d, x1d⟩ (fun hHeld => ?_); refine with_tabW rdirent.tab7 rdirent.bits7 (fun HT_ HW_ => ?_)
      have HBD := Aside0.mk (below_drew HB3.out)
      have HGD := Aside0.mk (blk_drew HG3.out)
      generalize w3.drew = wd at HBD HGD hHeld ⊢
      refine pure_ (i := 0) (N := (some 25)) (v := ?_) (a' := ?_) #[true, false, false, false, false, false, false, false, false] rfl rfl (any_of HT_.out (by kernel_rfl)) (fun _ _ _ h => h) (Or.inl ⟨by rfl, ?_⟩) ?_ ?_
      rotate_left
      · intro w'
        go_simp
        with_reducible rfl
      rotate_left
      · simp only [Act.put, List.setIfInBounds_toArray, List.set_cons_zero, List.set_cons_succ, i64_w, i32_w]
        rfl
      refine take_ (i := 1) (N := (some 26)) (v := ?_) (a' := ?_) #[true, true, false, false, false, false, false, false, false] rfl rfl (take_ofW HT_.out HW_.out (by kernel_rfl)) (fun _ _ _ h => h) (Or.inl ⟨by rfl, ?_⟩) hHeld ?_ ?_
      rotate_left
      · rintro w' ⟨z0, z1⟩
        go_simp
        with_reducible rfl
      rotate_left
      · simp only [Act.put, List.setIfInBounds_toArray, List.set_cons_zero, List.set_cons_succ, i64_w, i32_w]
        rfl
      refine pure_ (i := 3) (N := (some 28)) (v := ?_) (a' := ?_) #[true, true, false, true, false, false, false, false, false] rfl rfl (any_of HT_.out (by kernel_rfl)) (fun _ _ _ h => h) (Or.inl ⟨by rfl, ?_⟩) ?_ ?_
      rotate_left
      · intro w'
        go_simp
        with_reducible rfl
      rotate_left
      · simp only [Act.put, List.setIfInBounds_toArray, List.set_cons_zero, List.set_cons_succ, i64_w, i32_w]
        rfl
      refine take_ (i := 4) (N := (some 29)) (v := ?_) (a' := ?_) #[true, true, false, true, true, false, false, false, false] rfl rfl (take_ofW HT_.out HW_.out (by kernel_rfl)) (fun _ _ _ h => h) (Or.inl ⟨by rfl, ?_⟩) hHeld ?_ ?_
      rotate_left
      · rintro w' ⟨z0, z1⟩
        go_simp
        with_reducible rfl
      rotate_left
      · simp only [Act.put, List.setIfInBounds_toArray, List.set_cons_zero, List.set_cons_succ, i64_w, i32_w]
        rfl
      refine one_ (i := 2) (N := (some 27)) #[true, true, true, true, true, false, false, false, false] rfl rfl (one_of HT_.out (by kernel_rfl)) (by decide) (fun K hK => ?_)
      refine goes_ Tryd.func35 (by kernel_rfl) rfl #[.slice none 0 0, .int .i64 2, .int .i64 x] (by rfl) rfl rfl (by simp [Act.eval]) ?_
      ((refine (rput_calls 2 (by decide) x HFT.out (w1 := wd) (W := wd) (v := .slice none 0 0) (l := []) (Below.refl _ _) (brow_nil wd wd.heap.size) (by decide)).mono ?_); rintro e w4 ⟨v4, rfl, hr4, hb4⟩)
      rw [List.nil_append] at hr4
      refine ⟨_, rfl, ?_⟩
      have HR4 := Aside0.mk hr4
      have HB4 := Aside0.mk hb4
      have HG4 := Aside0.mk (blk_below HGD.out hb4)
      have x04 : w4.cell? ⟨gb, 0, none⟩ = some (.int .i64 x) := (blk_cell HG4.out 0).trans rfl
      have x14 : w4.cell? ⟨gb, 1, none⟩ = some (.string t) := (blk_cell HG4.out 1).trans rfl
      clear hr4 hb4 hHeld x0d x1d
      refine hK.out _ _ ⟨x04, x14⟩ (fun hHeld => ?_)
      clear hK K
      refine norm_ (a' := ?_) ?_ ?_
      rotate_left
      · show Act.put _ (some 27) _ = _
        simp only [Act.put, List.setIfInBounds_toArray, List.set_cons_zero, List.set_cons_succ, i64_w, i32_w]
        rfl
      refine one_ (i := 5) (N := (some 30)) #[true, true, true, true, true, true, false, false, false] rfl rfl (one_of HT_.out (by kernel_rfl)) (by decide) (fun K hK => ?_)
      refine step_append_str (by rfl) (.tmp 27) (.tmp 29) (by rfl) wd.heap.size v4 (leB 2 x) (by rfl) HR4.out t (by rfl) (by have := HL.out; rw [leB_length]; omega) HB4.out.size ?_
      intro v5 w5 hr5 hg5 hat5
      have HR5 := Aside0.mk hr5
      have HB5 := Aside0.mk (HB4.out.grown hg5 HB4.out.size (fun k e => (brow_lt HR4.out k e).1))
      have HG5 := Aside0.mk (blk_grown HG4.out hg5 (fun e => by have := (brow_lt HR4.out gb e.symm).1; have := blk_lt HGD.out; omega))
      have x05 : w5.cell? ⟨gb, 0, none⟩ = some (.int .i64 x) := (blk_cell HG5.out 0).trans rfl
      have x15 : w5.cell? ⟨gb, 1, none⟩ = some (.string t) := (blk_cell HG5.out 1).trans rfl
      clear hr5 hg5 hat5 hHeld x04 x14
      refine hK.out _ _ ⟨x05, x15⟩ (fun hHeld => ?_)
      clear hK K
      refine norm_ (a' := ?_) ?_ ?_
      rotate_left
      · show Act.put _ (some 30) _ = _
        simp only [Act.put, List.setIfInBounds_toArray, List.set_cons_zero, List.set_cons_succ, i64_w, i32_w]
        rfl
      refine last_ (i := 6) (N := (some 31)) #[true, true, true, true, true, true, true, false, false] rfl rfl (one_of HT_.out (by kernel_rfl)) (by decide) (fun K hK => ?_)
      refine goes_ Tryd.func40 (by kernel_rfl) rfl #[v5, .int .i64 16] (by rfl) rfl rfl (by simp [Act.eval]) ?_
      ((refine (skerryref06_padded.calls 20 (fun _ => True) v5 (leB 2 x ++ bytesOf t) 16 _ wd w5 HB5.out HR5.out HPAD.out).mono ?_); rintro e w6 ⟨v6, rfl, hr6, hb6, _⟩)
      refine ⟨_, rfl, ?_⟩
      have HR6 := Aside0.mk (Kd.R_mono hr6 (fun _ _ => trivial) : Kd.R (Kd.int .u8) 5 w6 wd.heap.size (fun _ => True) v6 _)
      have HB6 := Aside0.mk hb6
      clear hr6 hb6
      refine hK.out _ _ ?_
      clear hK K
      refine norm_ (a' := ?_) ?_ ?_
      rotate_left
      · show Act.put _ (some 31) _ = _
        simp only [Act.put, List.setIfInBounds_toArray, List.set_cons_zero, List.set_cons_succ, i64_w, i32_w]
        rfl
      refine pure_ (i := 7) (N := (some 2)) (v := ?_) (a' := ?_) #[true, true, true, true, true, true, true, true, false] rfl rfl (any_of HT_.out (by kernel_rfl)) (fun _ _ _ h => h) (Or.inl ⟨by rfl, ?_⟩) ?_ ?_
      rotate_left
      · intro w'
        go_simp
        with_reducible rfl
      rotate_left
      · simp only [Act.put, List.setIfInBounds_toArray, List.set_cons_zero, List.set_cons_succ, i64_w, i32_w]
        rfl
      refine pure_ (i := 8) (N := (some 3)) (v := ?_) (a' := ?_) #[true, true, true, true, true, true, true, true, true] rfl rfl (any_of HT_.out (by kernel_rfl)) (fun _ _ _ h => h) (Or.inl ⟨by rfl, ?_⟩) ?_ ?_
      rotate_left
      · intro w'
        go_simp
        with_reducible rfl
      rotate_left
      · simp only [Act.put, List.setIfInBounds_toArray, List.set_cons_zero, List.set_cons_succ, i64_w, i32_w]
        rfl
      refine done_ (done_of HT_.out (by kernel_rfl)) ?_
      go_wp2
      go_ret2
      rw [HO2.out]
      exact ⟨_, rfl, brow_less HR6.out HBD.out.size, below_then HBD.out HBD.out.size HB6.out⟩
  · have HO2 := Aside0.mk (HO.out.2 hf)
    rw [decide_eq_false hf] at HF
    clear hf HO HPAD
    rcases hreg with ⟨hx1, hx2, ht1⟩ | ⟨hx1, hx2, hn⟩
    · clear HN
      go_enter Tryd.func12, Tryd.ntmps12
      go_wp2_with ((with_reducible refine gate_dst (N := 1) rfl ?_); refine box_event ?hg (N := 1) ?hd (cs := #[.int .i64 x, .string t]) (t := 26) ?hr ?_; (case hd => rfl); (case hg => rfl); (case hr => first | (go_simp; done) | (go_simp; rfl)); intro gb hggb w2 hbox hb; have BKgb := Aside0.mk hbox; have BHgb := Aside0.mk hb; have GEgb := Aside0.mk hggb; clear hb hbox hggb; have x0 : w2.cell? ⟨gb, 0, none⟩ = some (.int .i64 x) := (blk_cell BKgb.out 0).trans rfl; have x1 : w2.cell? ⟨gb, 1, none⟩ = some (.string t) := (blk_cell BKgb.out 1).trans rfl)
      have HB2 := Aside0.mk BHgb.out
      have HG2 := Aside0.mk BKgb.out
      clear BHgb BKgb GEgb
      ((refine (HF.out w2).mono ?_); rintro e w3 ⟨rfl, hb⟩)
      have HB3 := Aside0.mk (below_then HB2.out HB2.out.size hb)
      have HG3 := Aside0.mk (blk_below HG2.out hb)
      clear hb HB2 HG2 HF x0 x1
      go_wp2
      go_ret2
      rw [HO2.out]
      exact ⟨_, rfl, brow_nil _ _, HB3.out⟩
    · rw [hn] at HN
      clear hn
      go_enter Tryd.func12, Tryd.ntmps12
      go_wp2_with ((with_reducible refine gate_dst (N := 1) rfl ?_); refine box_event ?hg (N := 1) ?hd (cs := #[.int .i64 x, .string t]) (t := 26) ?hr ?_; (case hd => rfl); (case hg => rfl); (case hr => first | (go_simp; done) | (go_simp; rfl)); intro gb hggb w1 hbox hb; have BKgb := Aside0.mk hbox; have BHgb := Aside0.mk hb; have GEgb := Aside0.mk hggb; clear hb hbox hggb; have x0 : w1.cell? ⟨gb, 0, none⟩ = some (.int .i64 x) := (blk_cell BKgb.out 0).trans rfl; have x1 : w1.cell? ⟨gb, 1, none⟩ = some (.string t) := (blk_cell BKgb.out 1).trans rfl)
      ((with_reducible refine (HN.out _).mono ?_); rintro e w2 ⟨rfl, hb⟩)
      have HB2 := Aside0.mk (below_then BHgb.out BHgb.out.size hb)
      have HG2 := Aside0.mk (blk_below BKgb.out hb)
      clear hb HN BHgb BKgb GEgb x0 x1
      have x0 : w2.cell? ⟨gb, 0, none⟩ = some (.int .i64 x) := (blk_cell HG2.out 0).trans rfl
      have x1 : w2.cell? ⟨gb, 1, none⟩ = some (.string t) := (blk_cell HG2.out 1).trans rfl
      go_wp2_with fail
      ((refine (HF.out w2).mono ?_); rintro e w3 ⟨rfl, hb⟩)
      have HB3 := Aside0.mk (below_then HB2.out HB2.out.size hb)
      have HG3 := Aside0.mk (blk_below HG2.out hb)
      clear hb HB2 HG2 HF x0 x1
      go_wp2
      go_ret2
      rw [HO2.out]
      exact ⟨_, rfl, brow_nil _ _, HB3.out⟩
theorem rdirent_calls (x : Int) (t : ByteArray) (w : World) :
    Calls Tryd.prog 12 #[.agg #[.int .i64 x, .string t]] w fun e w' => ∃ v, e = .returned (.tuple #[v, .int .i64 (dirAll x t).2]) ∧ Kd.R (Kd.int .u8) 5 w' w.heap.size (fun _ => True) v (dirAll x t).1 ∧ Below w.heap.size w w' := by
  by_cases hx : x = 0
  · by_cases ht : t.toList = []
    · have e : dirAll x t = dirOut x (bytesOf t) := by unfold dirAll; rw [if_neg (fun q => q.2 ht), if_neg (fun q => q.1 hx)]
      rw [e]
      exact rdirent_ok x t (.inl ⟨hx, ht⟩) w
    · have e : dirAll x t = ([], 4) := by unfold dirAll; rw [if_pos ⟨hx, ht⟩]
      rw [e]
      refine (rdirent_form x hx t ht w).mono ?_
      rintro e w' ⟨rfl, hb⟩
      exact ⟨_, rfl, brow_nil _ _, hb⟩
  · by_cases ht : NameOk t
    · have e : dirAll x t = dirOut x (bytesOf t) := by unfold dirAll; rw [if_neg (fun q => hx q.1), if_neg (fun q => q.2 ht)]
      rw [e]
      exact rdirent_ok x t (.inr ⟨hx, ht⟩) w
    · have e : dirAll x t = ([], 16) := by unfold dirAll; rw [if_neg (fun q => hx q.1), if_pos ⟨hx, ht⟩]
      rw [e]
      refine (rdirent_name x hx t ht w).mono ?_
      rintro e w' ⟨rfl, hb⟩
      exact ⟨_, rfl, brow_nil _ _, hb⟩
end Go.Proofs.YtbplffdmggbcdaaDoor.Codec
