/- A name in a directory is written: contracts. -/
import Derived.Test.YtbplffdmggbcdaaDoorKKName
import Derived.Test.YtbplffdmggbcdaaDoorWZeros
namespace Go.Proofs.YtbplffdmggbcdaaDoor.Codec
open Go.RowKit Go.Proofs.YtbplffdmggbcdaaDoor.PCodecKeeps Go.Proofs.YtbplffdmggbcdaaDoor.Plain Go.Proofs.YtbplffdmggbcdaaDoor.Pure Go.Proofs.YtbplffdmggbcdaaDoorW.PrintWords Go.Proofs.YtbplffdmggbcdaaDoorW.PrintLast Go.Proofs.YtbplffdmggbcdaaDoorW.PrintMore
set_option linter.unusedVariables false
set_option linter.unusedSimpArgs false

def whole.T3 : Bool × List (List Nat × List Nat) := (true, [([], []), ([0], [0]), ([1], [1]), ([2], [2]), ([], []), ([], []), ([5], [5]), ([6], [6]), ([7], [7]), ([8], [8]), ([4, 9], [4, 9]), ([3, 10], [3, 10]), ([11, 11, 0, 1, 2, 3, 4, 5, 6, 7, 8, 9, 10, 11], [11]), ([12, 0, 1, 2, 3, 4, 5, 6, 7, 8, 9, 10, 11, 12], [])])
def whole.B3 : List Nat := [0, 1, 3, 7, 0, 0, 32, 96, 224, 480, 1008, 2047, 4095, 8191]
theorem whole.tab3 : rtab .any (opsOf Tryd.f33 3) = whole.T3 := by kernel_rfl
theorem whole.bits3 : waitsOk whole.T3.2 whole.B3 = true := by kernel_rfl

set_option maxHeartbeats 4000000 in
set_option maxRecDepth 100000 in
theorem whole_calls (n : Nat) {w : World} {base WP : Nat} {v : Value} {s : List Int × Int} (H : Writer w base WP v s) (he : s.2 = 0) (hbase : base ≤ w.heap.size) (hl : s.1.length ≤ n) (hn : n ≤ 70368744177664) :
    Calls Tryd.prog 33 #[.pointer (some ⟨WP, 0, none⟩), .int .i64 n] w fun e w' => ∃ v', e = .returned (.tuple #[v', .int .i64 0]) ∧ Kd.R (Kd.int .u8) 5 w' base (fun _ => True) v' (s.1 ++ List.replicate (n - s.1.length) 0) ∧ Wrote w w' WP v v' := by
  obtain ⟨A, c, rfl, hcap, _⟩ := brow_reads H.row
  have hu3 := Tryd.underlying72
  have HH := Aside0.mk H
  have HBS := Aside0.mk hbase
  have HL := Aside0.mk (And.intro hl hn)
  have x1 : w.cell? ⟨WP, 1, none⟩ = some (.int .i64 0) := by rw [← he]; exact (blk_cell H.blk 1).trans rfl
  have x0 : w.cell? ⟨WP, 0, none⟩ = some (.slice A s.1.length c) := (blk_cell H.blk 0).trans rfl
  obtain ⟨d, hd⟩ : ∃ d, n - s.1.length = d := ⟨_, rfl⟩
  rw [hd]
  have hw : IntKind.i64.wrap ((n : Int) - (s.1.length : Int)) = (d : Int) := by rw [IntKind.wrap_i64]; omega
  have hdl : s.1.length + d ≤ 70368744177664 := by omega
  clear H hbase hl hn he hd
  go_enter Tryd.func33, Tryd.ntmps33
  go_upto_region 3 with (fail)
  refine start_ (n := 14) (S := (fun w' => w'.cell? ⟨WP, 0, none⟩ = some (.slice A s.1.length c))) (ds := [11]) #[false, false, false, false, false, false, false, false, false, false, false, false, false, false] (by kernel_rfl) rfl rfl x0 (fun hHeld => ?_); refine with_tabW whole.tab3 whole.bits3 (fun HT_ HW_ => ?_)
  have HD := Aside0.mk (HH.out.later (below_drew (Below.refl w.heap.size w)))
  have HBD := Aside0.mk (below_drew (Below.refl w.heap.size w))
  have HBS2 : Aside0 (base ≤ w.drew.heap.size) := HBS
  generalize w.drew = wd at HD HBD HBS2 hHeld ⊢
  refine pure_ (i := 0) (N := (some 15)) (v := ?_) (a' := ?_) #[true, false, false, false, false, false, false, false, false, false, false, false, false, false] rfl rfl (any_of HT_.out (by kernel_rfl)) (fun _ _ _ h => h) (Or.inl ⟨by rfl, ?_⟩) ?_ ?_
  rotate_left
  · intro w'
    go_simp
    with_reducible rfl
  rotate_left
  · simp only [Act.put, List.setIfInBounds_toArray, List.set_cons_zero, List.set_cons_succ, i64_w, i32_w]
    rfl
  refine pure_ (i := 1) (N := (some 16)) (v := ?_) (a' := ?_) #[true, true, false, false, false, false, false, false, false, false, false, false, false, false] rfl rfl (any_of HT_.out (by kernel_rfl)) (fun _ _ _ h => h) (Or.inl ⟨by rfl, ?_⟩) ?_ ?_
  rotate_left
  · intro w'
    go_simp
    with_reducible rfl
  rotate_left
  · simp only [Act.put, List.setIfInBounds_toArray, List.set_cons_zero, List.set_cons_succ, i64_w, i32_w]
    rfl
  refine pure_ (i := 2) (N := (some 17)) (v := ?_) (a' := ?_) #[true, true, true, false, false, false, false, false, false, false, false, false, false, false] rfl rfl (any_of HT_.out (by kernel_rfl)) (fun _ _ _ h => h) (Or.inl ⟨by rfl, ?_⟩) ?_ ?_
  rotate_left
  · intro w'
    go_simp
    with_reducible rfl
  rotate_left
  · simp only [Act.put, List.setIfInBounds_toArray, List.set_cons_zero, List.set_cons_succ, i64_w, i32_w]
    rfl
  refine take_ (i := 3) (N := (some 18)) (v := ?_) (a' := ?_) #[true, true, true, true, false, false, false, false, false, false, false, false, false, false] rfl rfl (take_ofW HT_.out HW_.out (by kernel_rfl)) (fun _ _ _ h => h) (Or.inl ⟨by rfl, ?_⟩) hHeld ?_ ?_
  rotate_left
  · rintro w' z0
    go_simp
    with_reducible rfl
  rotate_left
  · simp only [Act.put, List.setIfInBounds_toArray, List.set_cons_zero, List.set_cons_succ, i64_w, i32_w]
    rfl
  refine pure_ (i := 4) (N := (some 19)) (v := ?_) (a' := ?_) #[true, true, true, true, true, false, false, false, false, false, false, false, false, false] rfl rfl (any_of HT_.out (by kernel_rfl)) (fun _ _ _ h => h) (Or.inl ⟨by rfl, ?_⟩) ?_ ?_
  rotate_left
  · intro w'
    go_simp
    with_reducible rfl
  rotate_left
  · simp only [Act.put, List.setIfInBounds_toArray, List.set_cons_zero, List.set_cons_succ, i64_w, i32_w]
    rfl
  refine pure_ (i := 5) (N := (some 20)) (v := ?_) (a' := ?_) #[true, true, true, true, true, true, false, false, false, false, false, false, false, false] rfl rfl (any_of HT_.out (by kernel_rfl)) (fun _ _ _ h => h) (Or.inl ⟨by rfl, ?_⟩) ?_ ?_
  rotate_left
  · intro w'
    go_simp
    with_reducible rfl
  rotate_left
  · simp only [Act.put, List.setIfInBounds_toArray, List.set_cons_zero, List.set_cons_succ, i64_w, i32_w]
    rfl
  refine pure_ (i := 6) (N := (some 21)) (v := ?_) (a' := ?_) #[true, true, true, true, true, true, true, false, false, false, false, false, false, false] rfl rfl (any_of HT_.out (by kernel_rfl)) (fun _ _ _ h => h) (Or.inl ⟨by rfl, ?_⟩) ?_ ?_
  rotate_left
  · intro w'
    go_simp
    with_reducible rfl
  rotate_left
  · simp only [Act.put, List.setIfInBounds_toArray, List.set_cons_zero, List.set_cons_succ, i64_w, i32_w]
    rfl
  refine pure_ (i := 7) (N := (some 22)) (v := ?_) (a' := ?_) #[true, true, true, true, true, true, true, true, false, false, false, false, false, false] rfl rfl (any_of HT_.out (by kernel_rfl)) (fun _ _ _ h => h) (Or.inl ⟨by rfl, ?_⟩) ?_ ?_
  rotate_left
  · intro w'
    go_simp
    with_reducible rfl
  rotate_left
  · simp only [Act.put, List.setIfInBounds_toArray, List.set_cons_zero, List.set_cons_succ, i64_w, i32_w]
    rfl
  refine take_ (i := 8) (N := (some 23)) (v := ?_) (a' := ?_) #[true, true, true, true, true, true, true, true, true, false, false, false, false, false] rfl rfl (take_ofW HT_.out HW_.out (by kernel_rfl)) (fun _ _ _ h => h) (Or.inl ⟨by rfl, ?_⟩) hHeld ?_ ?_
  rotate_left
  · rintro w' z0
    go_simp
    with_reducible rfl
  rotate_left
  · simp only [Act.put, List.setIfInBounds_toArray, List.set_cons_zero, List.set_cons_succ, i64_w, i32_w]
    rfl
  refine pure_ (i := 9) (N := (some 24)) (v := ?_) (a' := ?_) #[true, true, true, true, true, true, true, true, true, true, false, false, false, false] rfl rfl (any_of HT_.out (by kernel_rfl)) (fun _ _ _ h => h) (Or.inl ⟨by rfl, ?_⟩) ?_ ?_
  rotate_left
  · intro w'
    go_simp
    with_reducible rfl
  rotate_left
  · simp only [Act.put, List.setIfInBounds_toArray, List.set_cons_zero, List.set_cons_succ, i64_w, i32_w]
    rfl
  refine pure_ (i := 10) (N := (some 25)) (v := ?_) (a' := ?_) #[true, true, true, true, true, true, true, true, true, true, true, false, false, false] rfl rfl (any_of HT_.out (by kernel_rfl)) (fun _ _ _ h => h) (Or.inl ⟨by rfl, ?_⟩) ?_ ?_
  rotate_left
  · intro w'
    go_simp
    with_reducible rfl
  rotate_left
  · simp only [Act.put, List.setIfInBounds_toArray, List.set_cons_zero, List.set_cons_succ, i64_w, i32_w]
    rfl
  refine last_ (i := 11) (N := (some 26)) #[true, true, true, true, true, true, true, true, true, true, true, true, false, false] rfl rfl (one_of HT_.out (by kernel_rfl)) (by decide) (fun K hK => ?_)
  refine Kd.R_append_zeros_step (Kd.int .u8) (w0 := wd) base (by rfl) (.tmp 18) (.tmp 25) 27 3 5 (.int .u8 0) 1 (by rfl) Tryd.underlying27 Tryd.underlying3 info5 rfl (by decide) (by omega) _ s.1 (0 : Int) (d : Int) (fun _ => True) (by rfl) (by rfl) rfl (fun _ _ => trivial) HD.out.row (by omega) (Below.refl _ _) HBS2.out (by have := HL.out; simp; omega) ?_
  intro v2 w2 hr2 _ hg2 hat2
  have HR2 := Aside0.mk hr2
  have HQ2 : Aside0 (Wrote wd w2 WP (.slice A s.1.length c) v2) := ⟨⟨hg2.os, hg2.tape, hg2.output, hg2.size, fun g hgl hw hv => hg2.block g hgl fun e => hv e.symm, hat2⟩⟩
  obtain ⟨A2, k2, hv2, _, _⟩ := brow_reads hr2
  obtain ⟨L2, hL2⟩ : ∃ L2, (s.1 ++ List.replicate ((d : Int)).toNat (0 : Int)).length = L2 := ⟨_, rfl⟩
  rw [hL2] at hv2
  clear hL2
  subst hv2
  clear hr2 hg2 hat2 hHeld x0
  refine hK.out _ _ ?_
  clear hK K
  refine norm_ (a' := ?_) ?_ ?_
  rotate_left
  · show Act.put _ (some 26) _ = _
    simp only [Act.put, List.setIfInBounds_toArray, List.set_cons_zero, List.set_cons_succ, i64_w, i32_w]
    rfl
  refine pure_ (i := 12) (N := (some 4)) (v := ?_) (a' := ?_) #[true, true, true, true, true, true, true, true, true, true, true, true, true, false] rfl rfl (any_of HT_.out (by kernel_rfl)) (fun _ _ _ h => h) (Or.inl ⟨by rfl, ?_⟩) ?_ ?_
  rotate_left
  · intro w'
    go_simp
    with_reducible rfl
  rotate_left
  · simp only [Act.put, List.setIfInBounds_toArray, List.set_cons_zero, List.set_cons_succ, i64_w, i32_w]
    rfl
  refine pure_ (i := 13) (N := (some 5)) (v := ?_) (a' := ?_) #[true, true, true, true, true, true, true, true, true, true, true, true, true, true] rfl rfl (any_of HT_.out (by kernel_rfl)) (fun _ _ _ h => h) (Or.inl ⟨by rfl, ?_⟩) ?_ ?_
  rotate_left
  · intro w'
    go_simp
    with_reducible rfl
  rotate_left
  · simp only [Act.put, List.setIfInBounds_toArray, List.set_cons_zero, List.set_cons_succ, i64_w, i32_w]
    rfl
  refine done_ (done_of HT_.out (by kernel_rfl)) ?_
  go_wp2
  go_ret2
  have h := HR2.out
  simp only [Int.toNat_natCast] at h
  exact ⟨_, rfl, h, (Wrote.of_below WP (.slice A s.1.length c) HBD.out).trans HQ2.out⟩
set_option maxHeartbeats 4000000 in
set_option maxRecDepth 100000 in
theorem whole_err (n : Nat) {w : World} {base WP : Nat} {v : Value} {s : List Int × Int} (H : Writer w base WP v s) (he : s.2 ≠ 0) :
    Calls Tryd.prog 33 #[.pointer (some ⟨WP, 0, none⟩), .int .i64 n] w fun e w' => e = .returned (.tuple #[.slice none 0 0, .int .i64 s.2]) ∧ Below w.heap.size w w' := by
  have hu3 := Tryd.underlying72
  have xe : w.cell? ⟨WP, 1, none⟩ = some (.int .i64 s.2) := (blk_cell H.blk 1).trans rfl
  obtain ⟨e, he2⟩ : ∃ e, s.2 = e := ⟨_, rfl⟩
  rw [he2] at he xe ⊢
  have hb : (e != 0) = true := bne_iff_ne.2 he
  clear H he he2
  go_enter Tryd.func33, Tryd.ntmps33
  go_wp2
  go_quiet (fail)
  go_wp2
  go_ret2
  exact ⟨rfl, below_drewN (Below.refl _ _) nq⟩
def dirent.T7 : Bool × List (List Nat × List Nat) := (true, [([], []), ([], []), ([1], [1]), ([2], [2]), ([3], [3]), ([], []), ([5], [5]), ([4, 6], [4, 6]), ([0, 0, 1, 2, 3, 4, 5, 6, 7], [0]), ([8, 0, 1, 2, 3, 4, 5, 6, 7], [8]), ([9, 7, 7, 0, 1, 2, 3, 4, 5, 6, 7], [7, 9])])
def dirent.B7 : List Nat := [0, 0, 2, 6, 14, 0, 32, 126, 255, 511, 1023]
theorem dirent.tab7 : rtab .any (opsOf Tryd.f11 7) = dirent.T7 := by kernel_rfl
theorem dirent.bits7 : waitsOk dirent.T7.2 dirent.B7 = true := by kernel_rfl

set_option maxHeartbeats 4000000 in
set_option maxRecDepth 100000 in
theorem dirent_ok (x : Int) (hx : x ≠ 0) (t : ByteArray) (ht : NameOk t) (w : World) :
    Calls Tryd.prog 11 #[.agg #[.int .i64 x, .string t]] w fun e w' => ∃ v, e = .returned (.tuple #[v, .int .i64 (dirOut x (bytesOf t)).2]) ∧ Kd.R (Kd.int .u8) 5 w' w.heap.size (fun _ => True) v (dirOut x (bytesOf t)).1 ∧ Below w.heap.size w w' := by
  have hu := Tryd.underlying26
  have hu3 := Tryd.underlying72
  have hx1 : (x == 0) = false := beq_eq_false_iff_ne.2 hx
  have hx2 : (x != 0) = true := bne_iff_ne.2 hx
  have HN := Aside0.mk (fun W => name_ok t ht W)
  have hlen : t.size ≤ 13 := ht.2.1
  have HL := Aside0.mk hlen
  have hO : dirOut x (bytesOf t) = if Fits 2 x then (leB 2 x ++ bytesOf t ++ List.replicate (14 - (bytesOf t).length) 0, 0) else ([], 3) := rfl
  obtain ⟨ro, hro⟩ : ∃ ro, dirOut x (bytesOf t) = ro := ⟨_, rfl⟩
  rw [hro] at hO ⊢
  have HO := Aside0.mk hO
  clear ht hx hlen hro hO
  go_enter Tryd.func11, Tryd.ntmps11
  go_wp2_with ((with_reducible refine gate_dst (N := 1) rfl ?_); refine box_event ?hg (N := 1) ?hd (cs := #[.int .i64 x, .string t]) (t := 26) ?hr ?_; (case hd => rfl); (case hg => rfl); (case hr => first | (go_simp; done) | (go_simp; rfl)); intro gb hggb w1 hbox hb; have BKgb := Aside0.mk hbox; have BHgb := Aside0.mk hb; have GEgb := Aside0.mk hggb; clear hb hbox hggb; obtain ⟨x0, x1⟩ := cl2 BKgb)
  ((with_reducible refine (HN.out _).mono ?_); rintro e w2 ⟨rfl, hb⟩)
  have HB2 := Aside0.mk (below_then BHgb.out BHgb.out.size hb)
  have HGB2 := Aside0.mk (blk_below BKgb.out hb)
  have HGT : Aside0 (gb < w2.heap.size) := ⟨blk_lt HGB2.out⟩
  have HS2 := Aside0.mk HB2.out.size
  clear hb BKgb BHgb GEgb x0 x1
  obtain ⟨x0, x1⟩ := cl2 HGB2
  go_upto_region 6 with (((with_reducible refine gate_dst (N := 25) rfl ?_); refine box_event ?hg (N := 25) ?hd (cs := #[.slice none 0 0, .int .i64 0]) (t := 72) ?hr ?_; (case hd => rfl); (case hg => rfl); (case hr => first | (go_simp; done) | (go_simp; rfl)); intro WP hgWP w3 hbox hb; have BKWP := Aside0.mk hbox; have BHWP := Aside0.mk hb; have GEWP := Aside0.mk hgWP; clear hb hbox hgWP))
  have HB3 := Aside0.mk (below_then HB2.out HB2.out.size BHWP.out)
  have HG3 := Aside0.mk (blk_below HGB2.out BHWP.out)
  have hWP := GEWP.out
  have HLT : Aside0 (gb < WP) := ⟨by have := HGT.out; omega⟩
  have HGE : Aside0 (w.heap.size ≤ WP) := ⟨by have := HS2.out; omega⟩
  have HWR := Aside0.mk (Writer.new BKWP.out)
  have HBS3 : Aside0 (WP ≤ w3.heap.size) := ⟨Nat.le_of_lt (blk_lt HWR.out.blk)⟩
  clear hWP BKWP BHWP GEWP HGT HB2 HGB2 x0 x1
  have x0 : w3.cell? ⟨gb, 0, none⟩ = some (.int .i64 x) := (blk_cell HG3.out 0).trans rfl
  go_wp2_with fail
  have hC : Calls Tryd.prog 32 #[.pointer (some ⟨WP, 0, none⟩), .int .i64 2, .int .i64 x] w3 (fun e w' => e = .returned (.tuple #[]) ∧ ∃ v', Writer w' WP WP v' (wnum 2 ([], 0) x) ∧ Wrote w3 w' WP (.slice none 0 0) v') := number_calls 2 (by decide) x HWR.out HBS3.out (by simp)
  have HC := Aside0.mk hC
  clear hC
  ((with_reducible refine HC.out.mono ?_); rintro e w5 ⟨rfl, v, hw5, hq5⟩)
  have hw : wnum 2 ([], 0) x = Put 2 x := by unfold wnum; simp
  rw [hw] at hw5
  obtain ⟨r, hr⟩ : ∃ r, Put 2 x = r := ⟨_, rfl⟩
  have hrl := Put_length 2 x
  have hcs := Put_cases 2 x
  rw [hr] at hw5 hrl hcs
  have HRL := Aside0.mk hrl
  have HCS := Aside0.mk hcs
  have HB5 := Aside0.mk (hq5.below HGE.out (fun k e => by simp [Value.ownBlock] at e) HB3.out HB3.out.size)
  have HGB := Aside0.mk (blk_wrote HG3.out hq5 (by have := HLT.out; omega) (by simp [Value.ownBlock]))
  have HLB5 : Aside0 (WP ≤ w5.heap.size) := ⟨Nat.le_of_lt (blk_lt hw5.blk)⟩
  have HW := Aside0.mk hw5
  clear hw5 hq5 HC HB3 HG3 HWR HBS3 HS2 hw hr hrl hcs x0
  have xv : w5.drew.cell? ⟨WP, 0, none⟩ = some v := (blk_cell (blk_drew HW.out.blk) 0).trans rfl
  have xt : w5.drew.cell? ⟨gb, 1, none⟩ = some (.string t) := (blk_cell (blk_drew HGB.out) 1).trans rfl
  go_upto_region 7 with (fail)
  refine start_ (n := 11) (S := (fun w' => w'.cell? ⟨WP, 0, none⟩ = some v ∧ w'.cell? ⟨gb, 1, none⟩ = some (.string t))) (ds := [10]) #[false, false, false, false, false, false, false, false, false, false, false] (by kernel_rfl) rfl rfl ⟨xv, xt⟩ (fun hHeld => ?_); refine with_tabW dirent.tab7 dirent.bits7 (fun HT_ HW_ => ?_)
  have HD := Aside0.mk (HW.out.later (below_drew (Below.refl w5.heap.size w5)))
  have HBD := Aside0.mk (below_drew HB5.out)
  have HGBd := Aside0.mk (blk_drew HGB.out)
  have HLB : Aside0 (WP ≤ w5.drew.heap.size) := HLB5
  generalize w5.drew = wd at HD HBD hHeld HGBd HLB ⊢
  refine pure_ (i := 0) (N := (some 30)) (v := ?_) (a' := ?_) #[true, false, false, false, false, false, false, false, false, false, false] rfl rfl (any_of HT_.out (by kernel_rfl)) (fun _ _ _ h => h) (Or.inl ⟨by rfl, ?_⟩) ?_ ?_
  rotate_left
  · intro w'
    go_simp
    with_reducible rfl
  rotate_left
  · simp only [Act.put, List.setIfInBounds_toArray, List.set_cons_zero, List.set_cons_succ, i64_w, i32_w]
    rfl
  refine pure_ (i := 1) (N := (some 31)) (v := ?_) (a' := ?_) #[true, true, false, false, false, false, false, false, false, false, false] rfl rfl (any_of HT_.out (by kernel_rfl)) (fun _ _ _ h => h) (Or.inl ⟨by rfl, ?_⟩) ?_ ?_
  rotate_left
  · intro w'
    go_simp
    with_reducible rfl
  rotate_left
  · simp only [Act.put, List.setIfInBounds_toArray, List.set_cons_zero, List.set_cons_succ, i64_w, i32_w]
    rfl
  refine pure_ (i := 2) (N := (some 32)) (v := ?_) (a' := ?_) #[true, true, true, false, false, false, false, false, false, false, false] rfl rfl (any_of HT_.out (by kernel_rfl)) (fun _ _ _ h => h) (Or.inl ⟨by rfl, ?_⟩) ?_ ?_
  rotate_left
  · intro w'
    go_simp
    with_reducible rfl
  rotate_left
  · simp only [Act.put, List.setIfInBounds_toArray, List.set_cons_zero, List.set_cons_succ, i64_w, i32_w]
    rfl
  refine pure_ (i := 3) (N := (some 33)) (v := ?_) (a' := ?_) #[true, true, true, true, false, false, false, false, false, false, false] rfl rfl (any_of HT_.out (by kernel_rfl)) (fun _ _ _ h => h) (Or.inl ⟨by rfl, ?_⟩) ?_ ?_
  rotate_left
  · intro w'
    go_simp
    with_reducible rfl
  rotate_left
  · simp only [Act.put, List.setIfInBounds_toArray, List.set_cons_zero, List.set_cons_succ, i64_w, i32_w]
    rfl
  refine take_ (i := 4) (N := (some 34)) (v := ?_) (a' := ?_) #[true, true, true, true, true, false, false, false, false, false, false] rfl rfl (take_ofW HT_.out HW_.out (by kernel_rfl)) (fun _ _ _ h => h) (Or.inl ⟨by rfl, ?_⟩) hHeld ?_ ?_
  rotate_left
  · rintro w' ⟨z0, z1⟩
    go_simp
    with_reducible rfl
  rotate_left
  · simp only [Act.put, List.setIfInBounds_toArray, List.set_cons_zero, List.set_cons_succ, i64_w, i32_w]
    rfl
  refine pure_ (i := 5) (N := (some 35)) (v := ?_) (a' := ?_) #[true, true, true, true, true, true, false, false, false, false, false] rfl rfl (any_of HT_.out (by kernel_rfl)) (fun _ _ _ h => h) (Or.inl ⟨by rfl, ?_⟩) ?_ ?_
  rotate_left
  · intro w'
    go_simp
    with_reducible rfl
  rotate_left
  · simp only [Act.put, List.setIfInBounds_toArray, List.set_cons_zero, List.set_cons_succ, i64_w, i32_w]
    rfl
  refine take_ (i := 6) (N := (some 36)) (v := ?_) (a' := ?_) #[true, true, true, true, true, true, true, false, false, false, false] rfl rfl (take_ofW HT_.out HW_.out (by kernel_rfl)) (fun _ _ _ h => h) (Or.inl ⟨by rfl, ?_⟩) hHeld ?_ ?_
  rotate_left
  · rintro w' ⟨z0, z1⟩
    go_simp
    with_reducible rfl
  rotate_left
  · simp only [Act.put, List.setIfInBounds_toArray, List.set_cons_zero, List.set_cons_succ, i64_w, i32_w]
    rfl
  refine one_ (i := 7) (N := (some 37)) #[true, true, true, true, true, true, true, true, false, false, false] rfl rfl (one_of HT_.out (by kernel_rfl)) (by decide) (fun K hK => ?_)
  refine step_append_str (by rfl) (.tmp 34) (.tmp 36) (by rfl) WP v r.1 (by rfl) HD.out.row t (by rfl) (by have := HL.out; have := HRL.out; omega) HLB.out ?_
  intro v6 w6 ho6 hg6 hat6
  have HM := Aside0.mk (HD.out.more ho6 hg6 hat6)
  have HB6 := Aside0.mk (HBD.out.grown hg6 HBD.out.size (fun k e => Nat.le_trans HGE.out (brow_lt HD.out.row k e).1))
  have xv6 : w6.cell? ⟨WP, 0, none⟩ = some v := (blk_cell HM.out.2.2 0).trans rfl
  have fv6 := blk_frozen HM.out.2.2 0
  have xt6 : w6.cell? ⟨gb, 1, none⟩ = some (.string t) := (blk_cell (blk_grown HGBd.out hg6 (fun e => by have := (brow_lt HD.out.row gb e.symm).1; have := HLT.out; omega)) 1).trans rfl
  obtain ⟨A6, k6, hv6, _, _⟩ := brow_reads ho6
  obtain ⟨L2, hL2⟩ : ∃ L2, (r.1 ++ bytesOf t).length = L2 := ⟨_, rfl⟩
  rw [hL2] at hv6
  clear hL2
  subst hv6
  clear ho6 hg6 hat6 hHeld xv xt
  refine hK.out _ _ ⟨xv6, xt6⟩ (fun hHeld => ?_)
  clear hK K
  refine norm_ (a' := ?_) ?_ ?_
  rotate_left
  · show Act.put _ (some 37) _ = _
    simp only [Act.put, List.setIfInBounds_toArray, List.set_cons_zero, List.set_cons_succ, i64_w, i32_w]
    rfl
  refine pure_ (i := 8) (N := (some 38)) (v := ?_) (a' := ?_) #[true, true, true, true, true, true, true, true, true, false, false] rfl rfl (any_of HT_.out (by kernel_rfl)) (fun _ _ _ h => h) (Or.inl ⟨by rfl, ?_⟩) ?_ ?_
  rotate_left
  · intro w'
    go_simp
    with_reducible rfl
  rotate_left
  · simp only [Act.put, List.setIfInBounds_toArray, List.set_cons_zero, List.set_cons_succ, i64_w, i32_w]
    rfl
  refine pure_ (i := 9) (N := (some 39)) (v := ?_) (a' := ?_) #[true, true, true, true, true, true, true, true, true, true, false] rfl rfl (any_of HT_.out (by kernel_rfl)) (fun _ _ _ h => h) (Or.inl ⟨by rfl, ?_⟩) ?_ ?_
  rotate_left
  · intro w'
    go_simp
    with_reducible rfl
  rotate_left
  · simp only [Act.put, List.setIfInBounds_toArray, List.set_cons_zero, List.set_cons_succ, i64_w, i32_w]
    rfl
  refine last_ (i := 10) (N := none) #[true, true, true, true, true, true, true, true, true, true, true] rfl rfl (one_of HT_.out (by kernel_rfl)) (by decide) (fun K hK => ?_)
  refine skip_ (w1 := ?_) (by rfl) rfl ?_ ?_
  rotate_left
  · go_simp
    rfl
  refine hK.out _ _ ?_
  clear hK K
  refine done_ (done_of HT_.out (by kernel_rfl)) ?_
  have HW7 := Aside0.mk HM.out.1
  have hsz7 : WP ≤ (w6.setCell ⟨WP, 0, none⟩ (.slice A6 L2 k6)).heap.size := Nat.le_of_lt (blk_lt HW7.out.blk)
  have HSZ7 := Aside0.mk hsz7
  have HB7 := Aside0.mk (HM.out.2.1.below HGE.out (fun k e => Nat.le_trans HGE.out (brow_lt HD.out.row k e).1) HBD.out HBD.out.size)
  clear hsz7 HM HB6 xv6 fv6 xt6
  generalize w6.setCell ⟨WP, 0, none⟩ (.slice A6 L2 k6) = w7 at HW7 HSZ7 HB7 ⊢
  go_wp2_with fail
  rcases HCS.out with ⟨hf, e⟩ | ⟨hf, e⟩
  · have ho : ro = (leB 2 x ++ bytesOf t ++ List.replicate (14 - (bytesOf t).length) 0, 0) := by rw [HO.out, if_pos hf]
    have hlen : (r.1 ++ bytesOf t).length = 2 + t.size := by rw [e, List.length_append, leB_length, bytesOf_length]
    have hC : Calls Tryd.prog 33 #[.pointer (some ⟨WP, 0, none⟩), .int .i64 16] w7 (fun e w' => ∃ v', e = .returned (.tuple #[v', .int .i64 0]) ∧ Kd.R (Kd.int .u8) 5 w' WP (fun _ => True) v' ((r.1 ++ bytesOf t) ++ List.replicate (16 - (r.1 ++ bytesOf t).length) 0) ∧ Wrote w7 w' WP (.slice A6 L2 k6) v') := whole_calls 16 HW7.out (by rw [e]) HSZ7.out (by have := HL.out; simp only [hlen]; omega) (by omega)
    have hq : ((r.1 ++ bytesOf t) ++ List.replicate (16 - (r.1 ++ bytesOf t).length) (0 : Int)) = ro.1 := by
      rw [ho, hlen, e, bytesOf_length, show 16 - (2 + t.size) = 14 - t.size by omega]
    rw [hq] at hC
    have HC := Aside0.mk hC
    have HO2 := Aside0.mk ho
    clear hC ho hf e hlen hq
    ((with_reducible refine HC.out.mono ?_); rintro e w8 ⟨v8, rfl, hr8, hq8⟩)
    have HR8 := Aside0.mk (brow_less hr8 HGE.out)
    have HB8 := Aside0.mk (hq8.below HGE.out (fun k e => Nat.le_trans HGE.out (brow_lt HW7.out.row k e).1) HB7.out HB7.out.size)
    have he2 : ro.2 = 0 := by rw [HO2.out]
    have HE2 := Aside0.mk he2
    clear hr8 hq8 HC he2
    go_wp2
    go_ret2
    rw [HE2.out]
    exact ⟨_, rfl, HR8.out, HB8.out⟩
  · have ho : ro = ([], 3) := by rw [HO.out, if_neg hf]
    have hC : Calls Tryd.prog 33 #[.pointer (some ⟨WP, 0, none⟩), .int .i64 16] w7 (fun e w' => e = .returned (.tuple #[.slice none 0 0, .int .i64 r.2]) ∧ Below w7.heap.size w7 w') := whole_err (s := (r.1 ++ bytesOf t, r.2)) 16 HW7.out (show r.2 ≠ 0 by rw [e]; decide)
    have he2 : r.2 = 3 := by rw [e]
    rw [he2] at hC
    have HC := Aside0.mk hC
    have HO2 := Aside0.mk ho
    clear hC ho hf e he2
    ((with_reducible refine HC.out.mono ?_); rintro e w8 ⟨rfl, hb8⟩)
    have HB8 := Aside0.mk (below_then HB7.out HB7.out.size hb8)
    clear hb8 HC
    go_wp2
    go_ret2
    rw [HO2.out]
    exact ⟨_, rfl, brow_nil _ _, HB8.out⟩
end Go.Proofs.YtbplffdmggbcdaaDoor.Codec
