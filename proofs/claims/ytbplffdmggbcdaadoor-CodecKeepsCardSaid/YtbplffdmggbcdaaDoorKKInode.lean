/- An inode is written: a contract. -/
import Derived.Test.YtbplffdmggbcdaaDoorKKDirent
import Derived.Test.YtbplffdmggbcdaaDoorKKIneq
namespace Go.Proofs.YtbplffdmggbcdaaDoor.Codec
open Go.RowKit Go.Proofs.YtbplffdmggbcdaaDoor.PCodecKeeps Go.Proofs.YtbplffdmggbcdaaDoor.Plain Go.Proofs.YtbplffdmggbcdaaDoor.Pure Go.Proofs.YtbplffdmggbcdaaDoorW.PrintWords Go.Proofs.YtbplffdmggbcdaaDoorW.PrintLast Go.Proofs.YtbplffdmggbcdaaDoorW.PrintMore
set_option linter.unusedVariables false
set_option linter.unusedSimpArgs false

/-- What a writer holds behind an inode's numbers. -/
def inoNums (p0 p1 p2 p3 p4 p5 p6 p7 p8 p9 p10 p11 p12 : Int) : List Int × Int := wnums 2 (wnums 2 (wnum 4 (wnum 2 (wnums 1 ([], 0) [p0, 0]) p1) p2) [p3, p4, p5, p6, p7, p8, p9, p10]) [p11, p12]
/-- Is an inode's kind odd? -/
def inoOdd (p0 p1 p2 p3 p4 p5 p6 p7 p8 p9 p10 p11 p12 : Int) : Prop := p0 < 0 ∨ 2 < p0 ∨ (p0 = 0 ∧ allZ [p0, p1, p2, p3, p4, p5, p6, p7, p8, p9, p10, p11, p12] = false)
instance (p0 p1 p2 p3 p4 p5 p6 p7 p8 p9 p10 p11 p12 : Int) : Decidable (inoOdd p0 p1 p2 p3 p4 p5 p6 p7 p8 p9 p10 p11 p12) := by unfold inoOdd; infer_instance
/-- An inode's bytes, or its error. -/
def inoOut (p0 p1 p2 p3 p4 p5 p6 p7 p8 p9 p10 p11 p12 : Int) : List Int × Int :=
  if inoOdd p0 p1 p2 p3 p4 p5 p6 p7 p8 p9 p10 p11 p12 then ([], 4) else if (inoNums p0 p1 p2 p3 p4 p5 p6 p7 p8 p9 p10 p11 p12).2 = 0 then ((inoNums p0 p1 p2 p3 p4 p5 p6 p7 p8 p9 p10 p11 p12).1 ++ List.replicate (32 - (inoNums p0 p1 p2 p3 p4 p5 p6 p7 p8 p9 p10 p11 p12).1.length) 0, 0) else ([], 3)
theorem wnum_err (n : Nat) {s : List Int × Int} (v : Int) (h : s.2 = 0 ∨ s.2 = 3) : (wnum n s v).2 = 0 ∨ (wnum n s v).2 = 3 := wnums_err n [v] h
theorem inoNums_err (p0 p1 p2 p3 p4 p5 p6 p7 p8 p9 p10 p11 p12 : Int) : (inoNums p0 p1 p2 p3 p4 p5 p6 p7 p8 p9 p10 p11 p12).2 = 0 ∨ (inoNums p0 p1 p2 p3 p4 p5 p6 p7 p8 p9 p10 p11 p12).2 = 3 := wnums_err 2 _ (wnums_err 2 _ (wnum_err 4 _ (wnum_err 2 _ (wnums_err 1 _ (.inl rfl)))))
theorem inoNums_length (p0 p1 p2 p3 p4 p5 p6 p7 p8 p9 p10 p11 p12 : Int) : (inoNums p0 p1 p2 p3 p4 p5 p6 p7 p8 p9 p10 p11 p12).1.length ≤ 28 := by
  have h1 := wnums_length 2 [p11, p12] (wnums 2 (wnum 4 (wnum 2 (wnums 1 ([], 0) [p0, 0]) p1) p2) [p3, p4, p5, p6, p7, p8, p9, p10])
  have h2 := wnums_length 2 [p3, p4, p5, p6, p7, p8, p9, p10] (wnum 4 (wnum 2 (wnums 1 ([], 0) [p0, 0]) p1) p2)
  have h3 := wnum_length 4 (wnum 2 (wnums 1 ([], 0) [p0, 0]) p1) p2
  have h4 := wnum_length 2 (wnums 1 ([], 0) [p0, 0]) p1
  have h5 := wnums_length 1 [p0, 0] ([], 0)
  unfold inoNums
  simp only [List.length_cons, List.length_nil] at h1 h2 h3 h4 h5
  omega
set_option maxHeartbeats 4000000 in
set_option maxRecDepth 100000 in
theorem inode_odd (p0 p1 p2 p3 p4 p5 p6 p7 p8 p9 p10 p11 p12 : Int) (h : inoOdd p0 p1 p2 p3 p4 p5 p6 p7 p8 p9 p10 p11 p12) (w : World) :
    Calls Tryd.prog 7 #[.agg #[.int .i64 p0, .int .i64 p1, .int .i64 p2, .int .i64 p3, .int .i64 p4, .int .i64 p5, .int .i64 p6, .int .i64 p7, .int .i64 p8, .int .i64 p9, .int .i64 p10, .int .i64 p11, .int .i64 p12]] w fun e w' => e = .returned (.tuple #[.slice none 0 0, .int .i64 4]) ∧ Below w.heap.size w w' := by
  have hu := Tryd.underlying24
  have u22 := Tryd.underlying22
  have hneq := ino_neq p0 p1 p2 p3 p4 p5 p6 p7 p8 p9 p10 p11 p12
  rcases h with h | h | ⟨h, hz⟩
  · have d1 : decide (p0 < 0) = true := decide_eq_true h
    clear h hneq
    go_enter Tryd.func7, Tryd.ntmps7
    go_wp2_with ((with_reducible refine gate_dst (N := 1) rfl ?_); refine box_event ?hg (N := 1) ?hd (cs := #[.int .i64 p0, .int .i64 p1, .int .i64 p2, .int .i64 p3, .int .i64 p4, .int .i64 p5, .int .i64 p6, .int .i64 p7, .int .i64 p8, .int .i64 p9, .int .i64 p10, .int .i64 p11, .int .i64 p12]) (t := 24) ?hr ?_; (case hd => rfl); (case hg => rfl); (case hr => first | (go_simp; done) | (go_simp; rfl)); intro gb hggb w1 hbox hb; have BKgb := Aside0.mk hbox; have BHgb := Aside0.mk hb; have GEgb := Aside0.mk hggb; clear hb hbox hggb; obtain ⟨x0, x1, x2, x3, x4, x5, x6, x7, x8, x9, x10, x11, x12⟩ := cl13 BKgb)
    go_ret2
    exact ⟨rfl, BHgb.out⟩
  · have d1 : decide (p0 < 0) = false := decide_eq_false (by omega)
    have d2 : decide (2 < p0) = true := decide_eq_true h
    clear h hneq
    go_enter Tryd.func7, Tryd.ntmps7
    go_wp2_with ((with_reducible refine gate_dst (N := 1) rfl ?_); refine box_event ?hg (N := 1) ?hd (cs := #[.int .i64 p0, .int .i64 p1, .int .i64 p2, .int .i64 p3, .int .i64 p4, .int .i64 p5, .int .i64 p6, .int .i64 p7, .int .i64 p8, .int .i64 p9, .int .i64 p10, .int .i64 p11, .int .i64 p12]) (t := 24) ?hr ?_; (case hd => rfl); (case hg => rfl); (case hr => first | (go_simp; done) | (go_simp; rfl)); intro gb hggb w1 hbox hb; have BKgb := Aside0.mk hbox; have BHgb := Aside0.mk hb; have GEgb := Aside0.mk hggb; clear hb hbox hggb; obtain ⟨x0, x1, x2, x3, x4, x5, x6, x7, x8, x9, x10, x11, x12⟩ := cl13 BKgb)
    go_ret2
    exact ⟨rfl, BHgb.out⟩
  · have d1 : decide (p0 < 0) = false := decide_eq_false (by omega)
    have d2 : decide (2 < p0) = false := decide_eq_false (by omega)
    have d3 : (p0 == 0) = true := beq_iff_eq.2 h
    rw [hz] at hneq
    simp only [Bool.not_false] at hneq
    clear h hz
    go_enter Tryd.func7, Tryd.ntmps7
    go_wp2_with ((with_reducible refine gate_dst (N := 1) rfl ?_); refine box_event ?hg (N := 1) ?hd (cs := #[.int .i64 p0, .int .i64 p1, .int .i64 p2, .int .i64 p3, .int .i64 p4, .int .i64 p5, .int .i64 p6, .int .i64 p7, .int .i64 p8, .int .i64 p9, .int .i64 p10, .int .i64 p11, .int .i64 p12]) (t := 24) ?hr ?_; (case hd => rfl); (case hg => rfl); (case hr => first | (go_simp; done) | (go_simp; rfl)); intro gb hggb w1 hbox hb; have BKgb := Aside0.mk hbox; have BHgb := Aside0.mk hb; have GEgb := Aside0.mk hggb; clear hb hbox hggb; obtain ⟨x0, x1, x2, x3, x4, x5, x6, x7, x8, x9, x10, x11, x12⟩ := cl13 BKgb)
    go_ret2
    exact ⟨rfl, BHgb.out⟩
set_option maxHeartbeats 4000000 in
set_option maxRecDepth 100000 in
theorem inode_calls (p0 p1 p2 p3 p4 p5 p6 p7 p8 p9 p10 p11 p12 : Int) (w : World) :
    Calls Tryd.prog 7 #[.agg #[.int .i64 p0, .int .i64 p1, .int .i64 p2, .int .i64 p3, .int .i64 p4, .int .i64 p5, .int .i64 p6, .int .i64 p7, .int .i64 p8, .int .i64 p9, .int .i64 p10, .int .i64 p11, .int .i64 p12]] w fun e w' => ∃ v, e = .returned (.tuple #[v, .int .i64 (inoOut p0 p1 p2 p3 p4 p5 p6 p7 p8 p9 p10 p11 p12).2]) ∧ Kd.R (Kd.int .u8) 5 w' w.heap.size (fun _ => True) v (inoOut p0 p1 p2 p3 p4 p5 p6 p7 p8 p9 p10 p11 p12).1 ∧ Below w.heap.size w w' := by
  by_cases hodd : inoOdd p0 p1 p2 p3 p4 p5 p6 p7 p8 p9 p10 p11 p12
  · have e : inoOut p0 p1 p2 p3 p4 p5 p6 p7 p8 p9 p10 p11 p12 = ([], 4) := by unfold inoOut; rw [if_pos hodd]
    rw [e]
    refine (inode_odd p0 p1 p2 p3 p4 p5 p6 p7 p8 p9 p10 p11 p12 hodd w).mono ?_
    rintro e w' ⟨rfl, hb⟩
    exact ⟨_, rfl, brow_nil _ _, hb⟩
  have hu := Tryd.underlying24
  have u22 := Tryd.underlying22
  have hneq := ino_neq p0 p1 p2 p3 p4 p5 p6 p7 p8 p9 p10 p11 p12
  have hu3 := Tryd.underlying72
  have herr := inoNums_err p0 p1 p2 p3 p4 p5 p6 p7 p8 p9 p10 p11 p12
  have hrl := inoNums_length p0 p1 p2 p3 p4 p5 p6 p7 p8 p9 p10 p11 p12
  have hO : inoOut p0 p1 p2 p3 p4 p5 p6 p7 p8 p9 p10 p11 p12 = if (inoNums p0 p1 p2 p3 p4 p5 p6 p7 p8 p9 p10 p11 p12).2 = 0 then ((inoNums p0 p1 p2 p3 p4 p5 p6 p7 p8 p9 p10 p11 p12).1 ++ List.replicate (32 - (inoNums p0 p1 p2 p3 p4 p5 p6 p7 p8 p9 p10 p11 p12).1.length) 0, 0) else ([], 3) := by unfold inoOut; rw [if_neg hodd]
  obtain ⟨ro, hro⟩ : ∃ ro, inoOut p0 p1 p2 p3 p4 p5 p6 p7 p8 p9 p10 p11 p12 = ro := ⟨_, rfl⟩
  obtain ⟨r, hr⟩ : ∃ r, inoNums p0 p1 p2 p3 p4 p5 p6 p7 p8 p9 p10 p11 p12 = r := ⟨_, rfl⟩
  rw [hro] at hO ⊢
  rw [hr] at herr hrl hO
  have HR0 : Aside0 (wnums 2 (wnums 2 (wnum 4 (wnum 2 (wnums 1 ([], 0) [p0, 0]) p1) p2) [p3, p4, p5, p6, p7, p8, p9, p10]) [p11, p12] = r) := ⟨hr⟩
  have HE := Aside0.mk herr
  have HRL := Aside0.mk hrl
  have HO := Aside0.mk hO
  have d1 : decide (p0 < 0) = false := decide_eq_false (fun h => hodd (.inl h))
  have d2 : decide (2 < p0) = false := decide_eq_false (fun h => hodd (.inr (.inl h)))
  have hc : ((p0 == 0) = false ∨ ((p0 == 0) = true ∧ allZ [p0, p1, p2, p3, p4, p5, p6, p7, p8, p9, p10, p11, p12] = true)) := by
    by_cases h : p0 = 0
    · right
      refine ⟨beq_iff_eq.2 h, ?_⟩
      cases hz : allZ [p0, p1, p2, p3, p4, p5, p6, p7, p8, p9, p10, p11, p12] with
      | true => rfl
      | false => exact absurd (.inr (.inr ⟨h, hz⟩)) hodd
    · exact .inl (beq_eq_false_iff_ne.2 h)
  have HN := Aside0.mk hneq
  clear hro hr herr hrl hO hodd hneq
  have hreg : (p0 == 0) = false ∨ ((p0 == 0) = true ∧ ∀ w, (binOp .neq 24 (.agg #[.int .i64 p0, .int .i64 p1, .int .i64 p2, .int .i64 p3, .int .i64 p4, .int .i64 p5, .int .i64 p6, .int .i64 p7, .int .i64 p8, .int .i64 p9, .int .i64 p10, .int .i64 p11, .int .i64 p12]) (.agg #[.int .i64 0, .int .i64 0, .int .i64 0, .int .i64 0, .int .i64 0, .int .i64 0, .int .i64 0, .int .i64 0, .int .i64 0, .int .i64 0, .int .i64 0, .int .i64 0, .int .i64 0])).run Tryd.prog w = .ok (.bool false) w) := by
    rcases hc with h | ⟨h, hz⟩
    · exact .inl h
    · exact .inr ⟨h, fun w => by rw [HN.out w, hz]; rfl⟩
  clear hc HN
  rcases hreg with d3 | ⟨d3, hneq⟩
  all_goals
    go_enter Tryd.func7, Tryd.ntmps7
    go_upto_region 4 with (first | ((with_reducible refine gate_dst (N := 1) rfl ?_); refine box_event ?hg (N := 1) ?hd (cs := #[.int .i64 p0, .int .i64 p1, .int .i64 p2, .int .i64 p3, .int .i64 p4, .int .i64 p5, .int .i64 p6, .int .i64 p7, .int .i64 p8, .int .i64 p9, .int .i64 p10, .int .i64 p11, .int .i64 p12]) (t := 24) ?hr ?_; (case hd => rfl); (case hg => rfl); (case hr => first | (go_simp; done) | (go_simp; rfl)); intro gb hggb w1 hbox hb; have BKgb := Aside0.mk hbox; have BHgb := Aside0.mk hb; have GEgb := Aside0.mk hggb; clear hb hbox hggb; obtain ⟨x0, x1, x2, x3, x4, x5, x6, x7, x8, x9, x10, x11, x12⟩ := cl13 BKgb) | ((with_reducible refine gate_dst (N := 24) rfl ?_); refine box_event ?hg (N := 24) ?hd (cs := #[.slice none 0 0, .int .i64 0]) (t := 72) ?hr ?_; (case hd => rfl); (case hg => rfl); (case hr => first | (go_simp; done) | (go_simp; rfl)); intro WP hgWP w2 hbox hb; have BKWP := Aside0.mk hbox; have BHWP := Aside0.mk hb; have GEWP := Aside0.mk hgWP; clear hb hbox hgWP))
    have HGT : Aside0 (gb < w1.heap.size) := ⟨blk_lt BKgb.out⟩
    have HB2 := Aside0.mk (below_then BHgb.out BHgb.out.size BHWP.out)
    have hWP := GEWP.out
    have HLT : Aside0 (gb < WP) := ⟨by have := HGT.out; omega⟩
    have HGE : Aside0 (w.heap.size ≤ WP) := ⟨by have := BHgb.out.size; omega⟩
    have HG2 := Aside0.mk (blk_below BKgb.out BHWP.out)
    have HWR := Aside0.mk (Writer.new BKWP.out)
    have HL2 : Aside0 (WP ≤ w2.heap.size) := ⟨Nat.le_of_lt (blk_lt BKWP.out)⟩
    clear hWP BKgb BHgb GEgb BKWP BHWP GEWP HGT x0 x1 x2 x3 x4 x5 x6 x7 x8 x9 x10 x11 x12
    try clear hneq
    obtain ⟨x0, x1, x2, x3, x4, x5, x6, x7, x8, x9, x10, x11, x12⟩ := cl13 HG2
    go_wp2_with fail
    have HB4a := Aside0.mk (HB2.out.alloc HB2.out.size (.cells #[.int .i64 p0, .int .i64 0] 3))
    have HW4a := Aside0.mk (HWR.out.later (below_alloc (Below.refl w2.heap.size w2) (.cells #[.int .i64 p0, .int .i64 0] 3)))
    have HG4a := Aside0.mk (blk_alloc HG2.out (.cells #[.int .i64 p0, .int .i64 0] 3))
    have HL4a : Aside0 (WP ≤ (w2.alloc (.cells #[.int .i64 p0, .int .i64 0] 3)).heap.size) := ⟨by have := HL2.out; simp; omega⟩
    have HLX : Aside0 (WP < w2.heap.size) := ⟨blk_lt HWR.out.blk⟩
    have hC : Calls Tryd.prog 31 #[.pointer (some ⟨WP, 0, none⟩), .int .i64 1, .slice (some ⟨w2.heap.size, 0, none⟩) 2 2] (w2.alloc (.cells #[.int .i64 p0, .int .i64 0] 3)) (fun e w' => e = .returned (.tuple #[]) ∧ ∃ v', Writer w' WP WP v' (wnums 1 ([], 0) [p0, 0]) ∧ Wrote (w2.alloc (.cells #[.int .i64 p0, .int .i64 0] 3)) w' WP (.slice none 0 0) v') := by
      refine numbers_calls 1 (by decide) (some ⟨w2.heap.size, 0, none⟩) 2 [p0, 0] HW4a.out HL4a.out ?_ (lit_reads w2 [p0, 0] (by simp)) (fun ad e _ => by cases e; exact ⟨by have := HLX.out; show w2.heap.size ≠ WP; omega, fun e => by have := (brow_lt HWR.out.row w2.heap.size e).2; omega⟩)
      have h1 := wnums_length 2 [p3, p4, p5, p6, p7, p8, p9, p10] (wnum 4 (wnum 2 (wnums 1 ([], 0) [p0, 0]) p1) p2)
      have h2 := wnum_length 4 (wnum 2 (wnums 1 ([], 0) [p0, 0]) p1) p2
      have h3 := wnum_length 2 (wnums 1 ([], 0) [p0, 0]) p1
      have h4 := wnums_length 1 [p0, 0] ([], 0)
      simp only [List.length_cons, List.length_nil] at h1 h2 h3 h4 ⊢
      omega
    have HC := Aside0.mk hC
    clear hC
    ((with_reducible refine HC.out.mono ?_); rintro e w4 ⟨rfl, v4, hw, hq⟩)
    have HB4 := Aside0.mk (hq.below HGE.out (fun k e => by simp [Value.ownBlock] at e) HB4a.out HB4a.out.size)
    have HG4 := Aside0.mk (blk_wrote HG4a.out hq (by have := HLT.out; omega) (by simp [Value.ownBlock]))
    have HL4 : Aside0 (WP ≤ w4.heap.size) := ⟨Nat.le_of_lt (blk_lt hw.blk)⟩
    have HW4 := Aside0.mk hw
    clear hw hq HC x0 x1 x2 x3 x4 x5 x6 x7 x8 x9 x10 x11 x12 HLX
    obtain ⟨x0, x1, x2, x3, x4, x5, x6, x7, x8, x9, x10, x11, x12⟩ := cl13 HG4
    go_wp2_with fail
    have hC : Calls Tryd.prog 32 #[.pointer (some ⟨WP, 0, none⟩), .int .i64 2, .int .i64 p1] w4 (fun e w' => e = .returned (.tuple #[]) ∧ ∃ v', Writer w' WP WP v' (wnum 2 (wnums 1 ([], 0) [p0, 0]) p1) ∧ Wrote w4 w' WP v4 v') := by
      refine number_calls 2 (by decide) p1 HW4.out HL4.out ?_
      have h1 := wnums_length 2 [p3, p4, p5, p6, p7, p8, p9, p10] (wnum 4 (wnum 2 (wnums 1 ([], 0) [p0, 0]) p1) p2)
      have h2 := wnum_length 4 (wnum 2 (wnums 1 ([], 0) [p0, 0]) p1) p2
      have h3 := wnum_length 2 (wnums 1 ([], 0) [p0, 0]) p1
      have h4 := wnums_length 1 [p0, 0] ([], 0)
      simp only [List.length_cons, List.length_nil] at h1 h2 h3 h4 ⊢
      omega
    have HC := Aside0.mk hC
    clear hC
    ((with_reducible refine HC.out.mono ?_); rintro e w5 ⟨rfl, v5, hw, hq⟩)
    have HB5 := Aside0.mk (hq.below HGE.out (fun k e => Nat.le_trans HGE.out (brow_lt HW4.out.row k e).1) HB4.out HB4.out.size)
    have HG5 := Aside0.mk (blk_wrote HG4.out hq (by have := HLT.out; omega) (fun e => by have := (brow_lt HW4.out.row gb e).1; have := HLT.out; omega))
    have HL5 : Aside0 (WP ≤ w5.heap.size) := ⟨Nat.le_of_lt (blk_lt hw.blk)⟩
    have HW5 := Aside0.mk hw
    clear hw hq HC x0 x1 x2 x3 x4 x5 x6 x7 x8 x9 x10 x11 x12
    obtain ⟨x0, x1, x2, x3, x4, x5, x6, x7, x8, x9, x10, x11, x12⟩ := cl13 HG5
    go_wp2_with fail
    have hC : Calls Tryd.prog 32 #[.pointer (some ⟨WP, 0, none⟩), .int .i64 4, .int .i64 p2] w5 (fun e w' => e = .returned (.tuple #[]) ∧ ∃ v', Writer w' WP WP v' (wnum 4 (wnum 2 (wnums 1 ([], 0) [p0, 0]) p1) p2) ∧ Wrote w5 w' WP v5 v') := by
      refine number_calls 4 (by decide) p2 HW5.out HL5.out ?_
      have h1 := wnums_length 2 [p3, p4, p5, p6, p7, p8, p9, p10] (wnum 4 (wnum 2 (wnums 1 ([], 0) [p0, 0]) p1) p2)
      have h2 := wnum_length 4 (wnum 2 (wnums 1 ([], 0) [p0, 0]) p1) p2
      have h3 := wnum_length 2 (wnums 1 ([], 0) [p0, 0]) p1
      have h4 := wnums_length 1 [p0, 0] ([], 0)
      simp only [List.length_cons, List.length_nil] at h1 h2 h3 h4 ⊢
      omega
    have HC := Aside0.mk hC
    clear hC
    ((with_reducible refine HC.out.mono ?_); rintro e w6 ⟨rfl, v6, hw, hq⟩)
    have HB6 := Aside0.mk (hq.below HGE.out (fun k e => Nat.le_trans HGE.out (brow_lt HW5.out.row k e).1) HB5.out HB5.out.size)
    have HG6 := Aside0.mk (blk_wrote HG5.out hq (by have := HLT.out; omega) (fun e => by have := (brow_lt HW5.out.row gb e).1; have := HLT.out; omega))
    have HL6 : Aside0 (WP ≤ w6.heap.size) := ⟨Nat.le_of_lt (blk_lt hw.blk)⟩
    have HW6 := Aside0.mk hw
    clear hw hq HC x0 x1 x2 x3 x4 x5 x6 x7 x8 x9 x10 x11 x12
    obtain ⟨x0, x1, x2, x3, x4, x5, x6, x7, x8, x9, x10, x11, x12⟩ := cl13 HG6
    go_wp2_with fail
    have hC : Calls Tryd.prog 31 #[.pointer (some ⟨WP, 0, none⟩), .int .i64 2, .slice (some ⟨gb, 3, none⟩) 8 8] w6 (fun e w' => e = .returned (.tuple #[]) ∧ ∃ v', Writer w' WP WP v' (wnums 2 (wnum 4 (wnum 2 (wnums 1 ([], 0) [p0, 0]) p1) p2) [p3, p4, p5, p6, p7, p8, p9, p10]) ∧ Wrote w6 w' WP v6 v') := by
      refine numbers_calls 2 (by decide) (some ⟨gb, 3, none⟩) 8 [p3, p4, p5, p6, p7, p8, p9, p10] HW6.out HL6.out ?_ (box_reads HG6.out [p3, p4, p5, p6, p7, p8, p9, p10] (by simp) (by
          intro j hj
          simp at hj
          obtain rfl | rfl | rfl | rfl | rfl | rfl | rfl | rfl : j = 0 ∨ j = 1 ∨ j = 2 ∨ j = 3 ∨ j = 4 ∨ j = 5 ∨ j = 6 ∨ j = 7 := (by omega)
          all_goals rfl)) (fun ad e _ => by cases e; exact ⟨by have := HLT.out; show gb ≠ WP; omega, fun e => by have := (brow_lt HW6.out.row gb e).1; have := HLT.out; omega⟩)
      have h1 := wnums_length 2 [p3, p4, p5, p6, p7, p8, p9, p10] (wnum 4 (wnum 2 (wnums 1 ([], 0) [p0, 0]) p1) p2)
      have h2 := wnum_length 4 (wnum 2 (wnums 1 ([], 0) [p0, 0]) p1) p2
      have h3 := wnum_length 2 (wnums 1 ([], 0) [p0, 0]) p1
      have h4 := wnums_length 1 [p0, 0] ([], 0)
      simp only [List.length_cons, List.length_nil] at h1 h2 h3 h4 ⊢
      omega
    have HC := Aside0.mk hC
    clear hC
    ((with_reducible refine HC.out.mono ?_); rintro e w7 ⟨rfl, v7, hw, hq⟩)
    have HB7 := Aside0.mk (hq.below HGE.out (fun k e => Nat.le_trans HGE.out (brow_lt HW6.out.row k e).1) HB6.out HB6.out.size)
    have HG7 := Aside0.mk (blk_wrote HG6.out hq (by have := HLT.out; omega) (fun e => by have := (brow_lt HW6.out.row gb e).1; have := HLT.out; omega))
    have HL7 : Aside0 (WP ≤ w7.heap.size) := ⟨Nat.le_of_lt (blk_lt hw.blk)⟩
    have HW7 := Aside0.mk hw
    clear hw hq HC x0 x1 x2 x3 x4 x5 x6 x7 x8 x9 x10 x11 x12
    obtain ⟨x0, x1, x2, x3, x4, x5, x6, x7, x8, x9, x10, x11, x12⟩ := cl13 HG7
    go_wp2_with fail
    have HB8a := Aside0.mk (HB7.out.alloc HB7.out.size (.cells #[.int .i64 p11, .int .i64 p12] 3))
    have HW8a := Aside0.mk (HW7.out.later (below_alloc (Below.refl w7.heap.size w7) (.cells #[.int .i64 p11, .int .i64 p12] 3)))
    have HG8a := Aside0.mk (blk_alloc HG7.out (.cells #[.int .i64 p11, .int .i64 p12] 3))
    have HL8a : Aside0 (WP ≤ (w7.alloc (.cells #[.int .i64 p11, .int .i64 p12] 3)).heap.size) := ⟨by have := HL7.out; simp; omega⟩
    have HLX : Aside0 (WP < w7.heap.size) := ⟨blk_lt HW7.out.blk⟩
    have hC : Calls Tryd.prog 31 #[.pointer (some ⟨WP, 0, none⟩), .int .i64 2, .slice (some ⟨w7.heap.size, 0, none⟩) 2 2] (w7.alloc (.cells #[.int .i64 p11, .int .i64 p12] 3)) (fun e w' => e = .returned (.tuple #[]) ∧ ∃ v', Writer w' WP WP v' (wnums 2 (wnums 2 (wnum 4 (wnum 2 (wnums 1 ([], 0) [p0, 0]) p1) p2) [p3, p4, p5, p6, p7, p8, p9, p10]) [p11, p12]) ∧ Wrote (w7.alloc (.cells #[.int .i64 p11, .int .i64 p12] 3)) w' WP v7 v') := by
      refine numbers_calls 2 (by decide) (some ⟨w7.heap.size, 0, none⟩) 2 [p11, p12] HW8a.out HL8a.out ?_ (lit_reads w7 [p11, p12] (by simp)) (fun ad e _ => by cases e; exact ⟨by have := HLX.out; show w7.heap.size ≠ WP; omega, fun e => by have := (brow_lt HW7.out.row w7.heap.size e).2; omega⟩)
      have h1 := wnums_length 2 [p3, p4, p5, p6, p7, p8, p9, p10] (wnum 4 (wnum 2 (wnums 1 ([], 0) [p0, 0]) p1) p2)
      have h2 := wnum_length 4 (wnum 2 (wnums 1 ([], 0) [p0, 0]) p1) p2
      have h3 := wnum_length 2 (wnums 1 ([], 0) [p0, 0]) p1
      have h4 := wnums_length 1 [p0, 0] ([], 0)
      simp only [List.length_cons, List.length_nil] at h1 h2 h3 h4 ⊢
      omega
    have HC := Aside0.mk hC
    clear hC
    ((with_reducible refine HC.out.mono ?_); rintro e w8 ⟨rfl, v8, hw, hq⟩)
    have HB8 := Aside0.mk (hq.below HGE.out (fun k e => Nat.le_trans HGE.out (brow_lt HW8a.out.row k e).1) HB8a.out HB8a.out.size)
    have HG8 := Aside0.mk (blk_wrote HG8a.out hq (by have := HLT.out; omega) (fun e => by have := (brow_lt HW8a.out.row gb e).1; have := HLT.out; omega))
    have HL8 : Aside0 (WP ≤ w8.heap.size) := ⟨Nat.le_of_lt (blk_lt hw.blk)⟩
    have HW8 := Aside0.mk hw
    clear hw hq HC x0 x1 x2 x3 x4 x5 x6 x7 x8 x9 x10 x11 x12 HLX
    obtain ⟨x0, x1, x2, x3, x4, x5, x6, x7, x8, x9, x10, x11, x12⟩ := cl13 HG8
    have HWZ := HW8.out
    rw [HR0.out] at HWZ
    have HW := Aside0.mk HWZ
    clear HWZ HW8
    go_wp2_with fail
    rcases HE.out with he | he
    · have ho : ro = (r.1 ++ List.replicate (32 - r.1.length) 0, 0) := by rw [HO.out, if_pos he]
      have hC : Calls Tryd.prog 33 #[.pointer (some ⟨WP, 0, none⟩), .int .i64 32] w8 (fun e w' => ∃ v', e = .returned (.tuple #[v', .int .i64 0]) ∧ Kd.R (Kd.int .u8) 5 w' WP (fun _ => True) v' (r.1 ++ List.replicate (32 - r.1.length) 0) ∧ Wrote w8 w' WP v8 v') := whole_calls 32 HW.out he HL8.out (by have := HRL.out; omega) (by decide)
      have HC := Aside0.mk hC
      have HO2 := Aside0.mk ho
      clear hC ho he
      ((with_reducible refine HC.out.mono ?_); rintro e w9 ⟨v9, rfl, hr9, hq9⟩)
      have HR9 := Aside0.mk (brow_less hr9 HGE.out)
      have HB9 := Aside0.mk (hq9.below HGE.out (fun k e => Nat.le_trans HGE.out (brow_lt HW.out.row k e).1) HB8.out HB8.out.size)
      clear hr9 hq9 HC
      go_wp2
      go_ret2
      rw [HO2.out]
      exact ⟨_, rfl, HR9.out, HB9.out⟩
    · have ho : ro = ([], 3) := by rw [HO.out, if_neg (by rw [he]; decide)]
      have hC : Calls Tryd.prog 33 #[.pointer (some ⟨WP, 0, none⟩), .int .i64 32] w8 (fun e w' => e = .returned (.tuple #[.slice none 0 0, .int .i64 r.2]) ∧ Below w8.heap.size w8 w') := whole_err 32 HW.out (by rw [he]; decide)
      rw [he] at hC
      have HC := Aside0.mk hC
      have HO2 := Aside0.mk ho
      clear hC ho he
      ((with_reducible refine HC.out.mono ?_); rintro e w9 ⟨rfl, hb9⟩)
      have HB9 := Aside0.mk (below_then HB8.out HB8.out.size hb9)
      clear hb9 HC
      go_wp2
      go_ret2
      rw [HO2.out]
      exact ⟨_, rfl, brow_nil _ _, HB9.out⟩
end Go.Proofs.YtbplffdmggbcdaaDoor.Codec
