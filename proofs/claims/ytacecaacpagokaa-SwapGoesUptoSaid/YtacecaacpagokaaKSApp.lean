/- swap.Append: a contract. -/
import Derived.Test.YtacecaacpagokaaKSScan
namespace Go.Proofs.Ytacecaacpagokaa.Swap
open Go.RowKit Go.Proofs.Ytacecaacpagokaa.PSwapGoes Go.Proofs.Ytacecaacpagokaa.Plain Go.Proofs.Ytacecaacpagokaa.Pure Go.Proofs.Ytacecaacpagokaa.Codec Go.Proofs.Ytacecaacpagokaa.Turn Go.Proofs.Ytacecaacpagokaa.PlainFloat Go.Proofs.YtacecaacpagokaaW.PrintWords Go.Proofs.YtacecaacpagokaaW.PrintLast Go.Proofs.YtacecaacpagokaaW.PrintMore
set_option linter.unusedVariables false
set_option linter.unusedSimpArgs false
attribute [local go_sem] run_store_complex max2_int min2_int max_two min_two max_three min_three
/-- The record of an edit, or an error. -/
def recOf (base : Int) (t : Tl) (x : S46) : List Int × Int :=
  match (sealOf t (bytesOf x.f2)).map (· % 65536) with
  | [a, b, c, d] => recOut base (t.q + 1) a b c d x.f0 x.f1 (bytesOf x.f2)
  | _ => ([], 3)
theorem recOut_len (b q s0 s1 s2 s3 a n : Int) (l : List Int) : (recOut b q s0 s1 s2 s3 a n l).1.length ≤ 65541 := by
  unfold recOut
  split
  · split
    · rw [frm_length]; omega
    · simp
  · simp
/-- The error of an edit that is appended. -/
def appErr (block base : Int) (t : Tl) (x : S46) : Int := if block - 30 < (x.f2.size : Int) ∨ 4294967295 ≤ t.q then 5 else (recOf base t x).2
def placeOf (block : Int) (t : Tl) (n : Int) : Int := if block < t.a % block + n then nx t.a block else t.a
/-- The end behind an edit. -/
def appTl (block base : Int) (t : Tl) (x : S46) : Tl := ⟨placeOf block t ((recOf base t x).1.length : Int) + ((recOf base t x).1.length : Int), t.q + 1, t.b + (x.f2.size : Int), sealOf t (bytesOf x.f2)⟩
/-- What an end must be that is appended at. -/
structure AppOk (t : Tl) (x : S46) : Prop where
  a : 0 ≤ t.a ∧ t.a ≤ 1099511627776
  q : 0 ≤ t.q ∧ t.q ≤ 1099511627776
  b : 0 ≤ t.b ∧ t.b ≤ 1099511627776
  z : x.f2.size ≤ 4194304
  S : Sums4 (sealOf t (bytesOf x.f2))
/-- What is answered. -/
def AppEnds (block base : Int) (t : Tl) (x : S46) (w : World) (e : Ending) (w' : World) : Prop :=
  ((appErr block base t x ≠ 0 ∧ e = .returned (.tuple #[.int .i64 0, .slice none 0 0, .agg #[.int .i64 0, .int .i64 0, .int .i64 0, .complex .f64 0 0, .complex .f64 0 0, .complex .f64 0 0, .complex .f64 0 0], .int .i64 (appErr block base t x)])) ∨
   (appErr block base t x = 0 ∧ ∃ v c0 d0 c1 d1 c2 d2 c3 d3, Of4 (.agg #[.complex .f64 c0 d0, .complex .f64 c1 d1, .complex .f64 c2 d2, .complex .f64 c3 d3]) (sealOf t (bytesOf x.f2)) ∧ Kd.R (Kd.int .u8) 5 w' w.heap.size (fun _ => True) v (recOf base t x).1 ∧
     e = .returned (.tuple #[.int .i64 (placeOf block t ((recOf base t x).1.length : Int)), v, .agg #[.int .i64 (appTl block base t x).a, .int .i64 (t.q + 1), .int .i64 (t.b + (x.f2.size : Int)), .complex .f64 c0 d0, .complex .f64 c1 d1, .complex .f64 c2 d2, .complex .f64 c3 d3], .int .i64 0]))) ∧ Below w.heap.size w w'
set_option maxHeartbeats 8000000 in
set_option maxRecDepth 100000 in
theorem app_ok (block base : Int) (t : Tl) (x : S46) (a0 b0 a1 b1 a2 b2 a3 b3 : Nat) (w : World) (hof : Of4 (.agg #[.complex .f64 a0 b0, .complex .f64 a1 b1, .complex .f64 a2 b2, .complex .f64 a3 b3]) t.S) (hx : AppOk t x) (hf : swap_file.f block base = some (block - 30, 0)) (hk : 64 ≤ block ∧ block ≤ 4096) :
    Calls Try.prog 14 #[.agg #[.int .i64 t.a, .int .i64 t.q, .int .i64 t.b, .complex .f64 a0 b0, .complex .f64 a1 b1, .complex .f64 a2 b2, .complex .f64 a3 b3], .int .i64 block, .int .i64 base, .agg #[.int .i64 x.f0, .int .i64 x.f1, .string x.f2]] w (AppEnds block base t x w) := by
  have hu := Try.underlying29
  have hu2 := Try.underlying27
  have hu3 := Try.underlying56
  have hu4 := Try.underlying58
  have hu5 := Try.underlying46
  have HF := Aside0.mk (fun W => swap_file.calls block base (block - 30) 0 W hf)
  have HK := Aside0.mk hk
  have HX := Aside0.mk hx
  have HO := Aside0.mk hof
  obtain ⟨m1, hm1⟩ : ∃ m1, (if t.q < t.a then t.q else t.a) = m1 := ⟨_, rfl⟩
  obtain ⟨m2, hm2⟩ : ∃ m2, (if t.b < m1 then t.b else m1) = m2 := ⟨_, rfl⟩
  obtain ⟨n1, hn1⟩ : ∃ n1, (if t.a < t.q then t.q else t.a) = n1 := ⟨_, rfl⟩
  obtain ⟨n2, hn2⟩ : ∃ n2, (if n1 < t.b then t.b else n1) = n2 := ⟨_, rfl⟩
  have ha := hx.a
  have hq := hx.q
  have hb := hx.b
  have dm : decide (m2 < 0) = false := by
    refine decide_eq_false ?_
    rw [← hm2, ← hm1]
    split <;> (try split) <;> omega
  have dn : decide (1099511627776 < n2) = false := by
    refine decide_eq_false ?_
    rw [← hn2, ← hn1]
    split <;> (try split) <;> omega
  clear hof hx hf hk ha hq hb
  unfold AppEnds
  go_enter Try.func14, Try.ntmps14
  go_wp2_with fail
  have N0 : (((w.alloc (.cells #[.int .i64 t.a, .int .i64 t.q, .int .i64 t.b, .complex .f64 a0 b0, .complex .f64 a1 b1, .complex .f64 a2 b2, .complex .f64 a3 b3] 29)).alloc (.cells #[.int .i64 x.f0, .int .i64 x.f1, .string x.f2] 46)).alloc (.cells #[.int .i64 0, .int .i64 0, .int .i64 0, .complex .f64 0 0, .complex .f64 0 0, .complex .f64 0 0, .complex .f64 0 0] 29)).heap[w.heap.size]? = some (.cells #[.int .i64 t.a, .int .i64 t.q, .int .i64 t.b, .complex .f64 a0 b0, .complex .f64 a1 b1, .complex .f64 a2 b2, .complex .f64 a3 b3] 29 (0, 0)) := blk_alloc (blk_alloc (blk_new w _) _) _
  have N1 : (((w.alloc (.cells #[.int .i64 t.a, .int .i64 t.q, .int .i64 t.b, .complex .f64 a0 b0, .complex .f64 a1 b1, .complex .f64 a2 b2, .complex .f64 a3 b3] 29)).alloc (.cells #[.int .i64 x.f0, .int .i64 x.f1, .string x.f2] 46)).alloc (.cells #[.int .i64 0, .int .i64 0, .int .i64 0, .complex .f64 0 0, .complex .f64 0 0, .complex .f64 0 0, .complex .f64 0 0] 29)).heap[w.heap.size + 1]? = some (.cells #[.int .i64 x.f0, .int .i64 x.f1, .string x.f2] 46 (0, 0)) := by
    refine blk_alloc ?_ _
    have := blk_new (w.alloc (.cells #[.int .i64 t.a, .int .i64 t.q, .int .i64 t.b, .complex .f64 a0 b0, .complex .f64 a1 b1, .complex .f64 a2 b2, .complex .f64 a3 b3] 29)) (.cells #[.int .i64 x.f0, .int .i64 x.f1, .string x.f2] 46)
    simpa using this
  have N2 : (((w.alloc (.cells #[.int .i64 t.a, .int .i64 t.q, .int .i64 t.b, .complex .f64 a0 b0, .complex .f64 a1 b1, .complex .f64 a2 b2, .complex .f64 a3 b3] 29)).alloc (.cells #[.int .i64 x.f0, .int .i64 x.f1, .string x.f2] 46)).alloc (.cells #[.int .i64 0, .int .i64 0, .int .i64 0, .complex .f64 0 0, .complex .f64 0 0, .complex .f64 0 0, .complex .f64 0 0] 29)).heap[w.heap.size + 1 + 1]? = some (.cells #[.int .i64 0, .int .i64 0, .int .i64 0, .complex .f64 0 0, .complex .f64 0 0, .complex .f64 0 0, .complex .f64 0 0] 29 (0, 0)) := by
    have := blk_new ((w.alloc (.cells #[.int .i64 t.a, .int .i64 t.q, .int .i64 t.b, .complex .f64 a0 b0, .complex .f64 a1 b1, .complex .f64 a2 b2, .complex .f64 a3 b3] 29)).alloc (.cells #[.int .i64 x.f0, .int .i64 x.f1, .string x.f2] 46)) (.cells #[.int .i64 0, .int .i64 0, .int .i64 0, .complex .f64 0 0, .complex .f64 0 0, .complex .f64 0 0, .complex .f64 0 0] 29)
    simpa using this
  have HB : Aside0 (Below w.heap.size w (((w.alloc (.cells #[.int .i64 t.a, .int .i64 t.q, .int .i64 t.b, .complex .f64 a0 b0, .complex .f64 a1 b1, .complex .f64 a2 b2, .complex .f64 a3 b3] 29)).alloc (.cells #[.int .i64 x.f0, .int .i64 x.f1, .string x.f2] 46)).alloc (.cells #[.int .i64 0, .int .i64 0, .int .i64 0, .complex .f64 0 0, .complex .f64 0 0, .complex .f64 0 0, .complex .f64 0 0] 29))) := ⟨(((Below.refl _ _).alloc (Nat.le_refl _) _).alloc (by simp) _).alloc (by simp; omega) _⟩
  have M0 := Aside0.mk N0
  have M1 := Aside0.mk N1
  have M2 := Aside0.mk N2
  clear N0 N1 N2
  generalize ((w.alloc (.cells #[.int .i64 t.a, .int .i64 t.q, .int .i64 t.b, .complex .f64 a0 b0, .complex .f64 a1 b1, .complex .f64 a2 b2, .complex .f64 a3 b3] 29)).alloc (.cells #[.int .i64 x.f0, .int .i64 x.f1, .string x.f2] 46)).alloc (.cells #[.int .i64 0, .int .i64 0, .int .i64 0, .complex .f64 0 0, .complex .f64 0 0, .complex .f64 0 0, .complex .f64 0 0] 29) = w0 at M0 M1 M2 HB ⊢
  refine (HF.out _).mono ?_
  rintro e w1 ⟨rfl, hd⟩
  have hb := hd.below
  replace M0 := Aside0.mk (blk_below M0.out hb)
  replace M1 := Aside0.mk (blk_below M1.out hb)
  replace M2 := Aside0.mk (blk_below M2.out hb)
  replace HB := Aside0.mk (below_then HB.out HB.out.size hb)
  clear hb hd HF
  have k0 : w1.cell? ⟨w.heap.size, 0, none⟩ = some (.int .i64 t.a) := (blk_cell M0.out 0).trans rfl
  have k1 : w1.cell? ⟨w.heap.size, 1, none⟩ = some (.int .i64 t.q) := (blk_cell M0.out 1).trans rfl
  have k2 : w1.cell? ⟨w.heap.size, 2, none⟩ = some (.int .i64 t.b) := (blk_cell M0.out 2).trans rfl
  have k3 : w1.cell? ⟨w.heap.size, 3, none⟩ = some (.complex .f64 a0 b0) := (blk_cell M0.out 3).trans rfl
  have k4 : w1.cell? ⟨w.heap.size, 4, none⟩ = some (.complex .f64 a1 b1) := (blk_cell M0.out 4).trans rfl
  have k5 : w1.cell? ⟨w.heap.size, 5, none⟩ = some (.complex .f64 a2 b2) := (blk_cell M0.out 5).trans rfl
  have k6 : w1.cell? ⟨w.heap.size, 6, none⟩ = some (.complex .f64 a3 b3) := (blk_cell M0.out 6).trans rfl
  go_wp2_with fail
  refine (check_calls _ t.S HO.out _).mono ?_
  rintro e w2 ⟨rfl, hb⟩
  replace M0 := Aside0.mk (blk_below M0.out hb)
  replace M1 := Aside0.mk (blk_below M1.out hb)
  replace M2 := Aside0.mk (blk_below M2.out hb)
  replace HB := Aside0.mk (below_then HB.out HB.out.size hb)
  clear hb k0 k1 k2 k3 k4 k5 k6
  have k0 : w2.cell? ⟨w.heap.size, 0, none⟩ = some (.int .i64 t.a) := (blk_cell M0.out 0).trans rfl
  have k1 : w2.cell? ⟨w.heap.size, 1, none⟩ = some (.int .i64 t.q) := (blk_cell M0.out 1).trans rfl
  have k2 : w2.cell? ⟨w.heap.size, 2, none⟩ = some (.int .i64 t.b) := (blk_cell M0.out 2).trans rfl
  have k3 : w2.cell? ⟨w.heap.size, 3, none⟩ = some (.complex .f64 a0 b0) := (blk_cell M0.out 3).trans rfl
  have k4 : w2.cell? ⟨w.heap.size, 4, none⟩ = some (.complex .f64 a1 b1) := (blk_cell M0.out 4).trans rfl
  have k5 : w2.cell? ⟨w.heap.size, 5, none⟩ = some (.complex .f64 a2 b2) := (blk_cell M0.out 5).trans rfl
  have k6 : w2.cell? ⟨w.heap.size, 6, none⟩ = some (.complex .f64 a3 b3) := (blk_cell M0.out 6).trans rfl
  have e0 : w2.cell? ⟨w.heap.size + 1, 0, none⟩ = some (.int .i64 x.f0) := (blk_cell M1.out 0).trans rfl
  have e1 : w2.cell? ⟨w.heap.size + 1, 1, none⟩ = some (.int .i64 x.f1) := (blk_cell M1.out 1).trans rfl
  have e2 : w2.cell? ⟨w.heap.size + 1, 2, none⟩ = some (.string x.f2) := (blk_cell M1.out 2).trans rfl
  have HSE := Aside0.mk (seal_ok t.a t.q t.b a0 b0 a1 b1 a2 b2 a3 b3 t.S x.f2 w2 HO.out HX.out.b.1 HX.out.z HX.out.S)
  go_wp2_with fail
  refine HSE.out.mono ?_
  rintro e w3 ⟨c0, d0, c1, d1, c2, d2, c3, d3, s0, s1, s2, s3, hs0, hof5, rfl, hb⟩
  replace M0 := Aside0.mk (blk_below M0.out hb)
  replace M1 := Aside0.mk (blk_below M1.out hb)
  replace M2 := Aside0.mk (blk_below M2.out hb)
  replace HB := Aside0.mk (below_then HB.out HB.out.size hb)
  have HS0 := Aside0.mk (show sealOf t (bytesOf x.f2) = [s0, s1, s2, s3] from hs0)
  have HO5 := Aside0.mk hof5
  clear hb hs0 hof5 HSE k0 k1 k2 k3 k4 k5 k6 e0 e1 e2
  go_upto_region 7 with (fail)
  have N3 : ((w3.alloc (.cells #[.complex .f64 c0 d0, .complex .f64 c1 d1, .complex .f64 c2 d2, .complex .f64 c3 d3] 27)).alloc (.cells #[.int .i64 (s0 % 65536), .int .i64 (s1 % 65536), .int .i64 (s2 % 65536), .int .i64 (s3 % 65536)] 56)).heap[w3.heap.size]? = some (.cells #[.complex .f64 c0 d0, .complex .f64 c1 d1, .complex .f64 c2 d2, .complex .f64 c3 d3] 27 (0, 0)) := blk_alloc (blk_new w3 _) _
  have N4 : ((w3.alloc (.cells #[.complex .f64 c0 d0, .complex .f64 c1 d1, .complex .f64 c2 d2, .complex .f64 c3 d3] 27)).alloc (.cells #[.int .i64 (s0 % 65536), .int .i64 (s1 % 65536), .int .i64 (s2 % 65536), .int .i64 (s3 % 65536)] 56)).heap[w3.heap.size + 1]? = some (.cells #[.int .i64 (s0 % 65536), .int .i64 (s1 % 65536), .int .i64 (s2 % 65536), .int .i64 (s3 % 65536)] 56 (0, 0)) := by
    have := blk_new (w3.alloc (.cells #[.complex .f64 c0 d0, .complex .f64 c1 d1, .complex .f64 c2 d2, .complex .f64 c3 d3] 27)) (.cells #[.int .i64 (s0 % 65536), .int .i64 (s1 % 65536), .int .i64 (s2 % 65536), .int .i64 (s3 % 65536)] 56)
    simpa using this
  have hb : Below w3.heap.size w3 ((w3.alloc (.cells #[.complex .f64 c0 d0, .complex .f64 c1 d1, .complex .f64 c2 d2, .complex .f64 c3 d3] 27)).alloc (.cells #[.int .i64 (s0 % 65536), .int .i64 (s1 % 65536), .int .i64 (s2 % 65536), .int .i64 (s3 % 65536)] 56)) := ((Below.refl _ _).alloc (Nat.le_refl _) _).alloc (by simp) _
  replace M0 := Aside0.mk (blk_below M0.out hb)
  replace M1 := Aside0.mk (blk_below M1.out hb)
  replace M2 := Aside0.mk (blk_below M2.out hb)
  replace HB := Aside0.mk (below_then HB.out HB.out.size hb)
  have M3 := Aside0.mk N3
  have M4 := Aside0.mk N4
  clear hb N3 N4
  generalize (w3.alloc (.cells #[.complex .f64 c0 d0, .complex .f64 c1 d1, .complex .f64 c2 d2, .complex .f64 c3 d3] 27)).alloc (.cells #[.int .i64 (s0 % 65536), .int .i64 (s1 % 65536), .int .i64 (s2 % 65536), .int .i64 (s3 % 65536)] 56) = w4 at M0 M1 M2 M3 M4 HB ⊢
  generalize w3.heap.size = gF at M3 M4 ⊢
  obtain ⟨t0, ht0⟩ : ∃ z, s0 % 65536 = z := ⟨_, rfl⟩
  obtain ⟨t1, ht1⟩ : ∃ z, s1 % 65536 = z := ⟨_, rfl⟩
  obtain ⟨t2, ht2⟩ : ∃ z, s2 % 65536 = z := ⟨_, rfl⟩
  obtain ⟨t3, ht3⟩ : ∃ z, s3 % 65536 = z := ⟨_, rfl⟩
  rw [ht0, ht1, ht2, ht3] at M4
  have HRO : Aside0 (recOf base t x = recOut base (t.q + 1) t0 t1 t2 t3 x.f0 x.f1 (bytesOf x.f2)) := ⟨by unfold recOf; rw [HS0.out]; simp only [List.map_cons, List.map_nil]; rw [ht0, ht1, ht2, ht3]⟩
  clear ht0 ht1 ht2 ht3
  have hq2 := HX.out.q
  have wq : wrap64 (t.q + 1) = t.q + 1 := w64 (by omega) (by omega)
  have wq2 : IntKind.i64.wrap (t.q + 1) = t.q + 1 := by rw [IntKind.wrap_i64]; omega
  clear hq2
  have k0 : w4.cell? ⟨w.heap.size, 0, none⟩ = some (.int .i64 t.a) := (blk_cell M0.out 0).trans rfl
  have k1 : w4.cell? ⟨w.heap.size, 1, none⟩ = some (.int .i64 t.q) := (blk_cell M0.out 1).trans rfl
  have k2 : w4.cell? ⟨w.heap.size, 2, none⟩ = some (.int .i64 t.b) := (blk_cell M0.out 2).trans rfl
  have k3 : w4.cell? ⟨w.heap.size, 3, none⟩ = some (.complex .f64 a0 b0) := (blk_cell M0.out 3).trans rfl
  have k4 : w4.cell? ⟨w.heap.size, 4, none⟩ = some (.complex .f64 a1 b1) := (blk_cell M0.out 4).trans rfl
  have k5 : w4.cell? ⟨w.heap.size, 5, none⟩ = some (.complex .f64 a2 b2) := (blk_cell M0.out 5).trans rfl
  have k6 : w4.cell? ⟨w.heap.size, 6, none⟩ = some (.complex .f64 a3 b3) := (blk_cell M0.out 6).trans rfl
  have e0 : w4.cell? ⟨w.heap.size + 1, 0, none⟩ = some (.int .i64 x.f0) := (blk_cell M1.out 0).trans rfl
  have e1 : w4.cell? ⟨w.heap.size + 1, 1, none⟩ = some (.int .i64 x.f1) := (blk_cell M1.out 1).trans rfl
  have e2 : w4.cell? ⟨w.heap.size + 1, 2, none⟩ = some (.string x.f2) := (blk_cell M1.out 2).trans rfl
  have HB4 := HB
  by_cases ca : block - 30 < (x.f2.size : Int) ∨ 4294967295 ≤ t.q
  · have HE : Aside0 (appErr block base t x = 5) := ⟨by unfold appErr; rw [if_pos ca]⟩
    by_cases cc1 : block - 30 < (x.f2.size : Int)
    · have dd1 : decide (block - 30 < (x.f2.size : Int)) = true := decide_eq_true cc1
      clear ca cc1
      have z0 : w4.cell? ⟨w.heap.size + 1 + 1, 0, none⟩ = some (.int .i64 0) := (blk_cell M2.out 0).trans rfl
      have z1 : w4.cell? ⟨w.heap.size + 1 + 1, 1, none⟩ = some (.int .i64 0) := (blk_cell M2.out 1).trans rfl
      have z2 : w4.cell? ⟨w.heap.size + 1 + 1, 2, none⟩ = some (.int .i64 0) := (blk_cell M2.out 2).trans rfl
      have z3 : w4.cell? ⟨w.heap.size + 1 + 1, 3, none⟩ = some (.complex .f64 0 0) := (blk_cell M2.out 3).trans rfl
      have z4 : w4.cell? ⟨w.heap.size + 1 + 1, 4, none⟩ = some (.complex .f64 0 0) := (blk_cell M2.out 4).trans rfl
      have z5 : w4.cell? ⟨w.heap.size + 1 + 1, 5, none⟩ = some (.complex .f64 0 0) := (blk_cell M2.out 5).trans rfl
      have z6 : w4.cell? ⟨w.heap.size + 1 + 1, 6, none⟩ = some (.complex .f64 0 0) := (blk_cell M2.out 6).trans rfl
      have f0 := blk_frozen M2.out 0
      have f1 := blk_frozen M2.out 1
      have f2 := blk_frozen M2.out 2
      have f3 := blk_frozen M2.out 3
      have f4 := blk_frozen M2.out 4
      have f5 := blk_frozen M2.out 5
      have f6 := blk_frozen M2.out 6
      go_wp2_with fail
      refine bodyPost_ret (results_ttct (fn := Try.f14) rfl _ _ (w.heap.size + 1 + 1) 29 #[.int .i64 0, .int .i64 0, .int .i64 0, .complex .f64 0 0, .complex .f64 0 0, .complex .f64 0 0, .complex .f64 0 0] (0, 0) _ rfl (put7 M2.out (.int .i64 0) (.int .i64 0) (.int .i64 0) (.complex .f64 0 0) (.complex .f64 0 0) (.complex .f64 0 0) (.complex .f64 0 0)) hu rfl (by kernel_rfl)) rfl ?_
      refine ⟨.inl ⟨by rw [HE.out]; decide, by rw [HE.out]; rfl⟩, below_set' (below_set' (below_set' (below_set' (below_set' (below_set' (below_set' HB.out (by simp; omega) _) (by simp; omega) _) (by simp; omega) _) (by simp; omega) _) (by simp; omega) _) (by simp; omega) _) (by simp; omega) _⟩
    · have dd1 : decide (block - 30 < (x.f2.size : Int)) = false := decide_eq_false cc1
      have dd2 : decide (4294967295 ≤ t.q) = true := decide_eq_true (ca.elim (fun q => absurd q cc1) id)
      clear ca cc1
      have z0 : w4.cell? ⟨w.heap.size + 1 + 1, 0, none⟩ = some (.int .i64 0) := (blk_cell M2.out 0).trans rfl
      have z1 : w4.cell? ⟨w.heap.size + 1 + 1, 1, none⟩ = some (.int .i64 0) := (blk_cell M2.out 1).trans rfl
      have z2 : w4.cell? ⟨w.heap.size + 1 + 1, 2, none⟩ = some (.int .i64 0) := (blk_cell M2.out 2).trans rfl
      have z3 : w4.cell? ⟨w.heap.size + 1 + 1, 3, none⟩ = some (.complex .f64 0 0) := (blk_cell M2.out 3).trans rfl
      have z4 : w4.cell? ⟨w.heap.size + 1 + 1, 4, none⟩ = some (.complex .f64 0 0) := (blk_cell M2.out 4).trans rfl
      have z5 : w4.cell? ⟨w.heap.size + 1 + 1, 5, none⟩ = some (.complex .f64 0 0) := (blk_cell M2.out 5).trans rfl
      have z6 : w4.cell? ⟨w.heap.size + 1 + 1, 6, none⟩ = some (.complex .f64 0 0) := (blk_cell M2.out 6).trans rfl
      have f0 := blk_frozen M2.out 0
      have f1 := blk_frozen M2.out 1
      have f2 := blk_frozen M2.out 2
      have f3 := blk_frozen M2.out 3
      have f4 := blk_frozen M2.out 4
      have f5 := blk_frozen M2.out 5
      have f6 := blk_frozen M2.out 6
      go_wp2_with fail
      refine bodyPost_ret (results_ttct (fn := Try.f14) rfl _ _ (w.heap.size + 1 + 1) 29 #[.int .i64 0, .int .i64 0, .int .i64 0, .complex .f64 0 0, .complex .f64 0 0, .complex .f64 0 0, .complex .f64 0 0] (0, 0) _ rfl (put7 M2.out (.int .i64 0) (.int .i64 0) (.int .i64 0) (.complex .f64 0 0) (.complex .f64 0 0) (.complex .f64 0 0) (.complex .f64 0 0)) hu rfl (by kernel_rfl)) rfl ?_
      refine ⟨.inl ⟨by rw [HE.out]; decide, by rw [HE.out]; rfl⟩, below_set' (below_set' (below_set' (below_set' (below_set' (below_set' (below_set' HB.out (by simp; omega) _) (by simp; omega) _) (by simp; omega) _) (by simp; omega) _) (by simp; omega) _) (by simp; omega) _) (by simp; omega) _⟩
  · have dd1 : decide (block - 30 < (x.f2.size : Int)) = false := decide_eq_false (fun q => ca (.inl q))
    have dd2 : decide (4294967295 ≤ t.q) = false := decide_eq_false (fun q => ca (.inr q))
    have HE : Aside0 (appErr block base t x = (recOf base t x).2) := ⟨by unfold appErr; rw [if_neg ca]⟩
    have q0 : w4.cell? ⟨gF + 1, 0, none⟩ = some (.int .i64 t0) := (blk_cell M4.out 0).trans rfl
    have q1 : w4.cell? ⟨gF + 1, 1, none⟩ = some (.int .i64 t1) := (blk_cell M4.out 1).trans rfl
    have q2 : w4.cell? ⟨gF + 1, 2, none⟩ = some (.int .i64 t2) := (blk_cell M4.out 2).trans rfl
    have q3 : w4.cell? ⟨gF + 1, 3, none⟩ = some (.int .i64 t3) := (blk_cell M4.out 3).trans rfl
    have HRC := Aside0.mk (record_calls base (t.q + 1) t0 t1 t2 t3 x.f0 x.f1 x.f2 (by have := HX.out.z; omega) w4)
    rw [← HRO.out] at HRC
    clear ca
    go_wp2_with fail
    refine HRC.out.mono ?_
    have HLOW : Aside0 (w.heap.size + 3 ≤ w4.heap.size) := ⟨by have := blk_lt M2.out; omega⟩
    rintro e w5 ⟨v, rfl, hrow, hb⟩
    replace M0 := Aside0.mk (blk_below M0.out hb)
    replace M1 := Aside0.mk (blk_below M1.out hb)
    replace M2 := Aside0.mk (blk_below M2.out hb)
    replace M3 := Aside0.mk (blk_below M3.out hb)
    replace HB := Aside0.mk (below_then HB.out HB.out.size hb)
    have HG4 := Aside0.mk (fun g hg => (brow_lt hrow g hg).1)
    have HROW := Aside0.mk (brow_less hrow (show w.heap.size ≤ w4.heap.size from HB4.out.size))
    clear hb hrow HRC M4 k0 k1 k2 k3 k4 k5 k6 e0 e1 e2 q0 q1 q2 q3
    by_cases cr : (recOf base t x).2 = 0
    rotate_left
    · have nz : ((recOf base t x).2 != 0) = true := bne_iff_ne.2 cr
      have HER := Aside0.mk cr
      obtain ⟨er, her⟩ : ∃ er, (recOf base t x).2 = er := ⟨_, rfl⟩
      rw [her] at nz HE HER ⊢
      clear cr her
      have z0 : w5.cell? ⟨w.heap.size + 1 + 1, 0, none⟩ = some (.int .i64 0) := (blk_cell M2.out 0).trans rfl
      have z1 : w5.cell? ⟨w.heap.size + 1 + 1, 1, none⟩ = some (.int .i64 0) := (blk_cell M2.out 1).trans rfl
      have z2 : w5.cell? ⟨w.heap.size + 1 + 1, 2, none⟩ = some (.int .i64 0) := (blk_cell M2.out 2).trans rfl
      have z3 : w5.cell? ⟨w.heap.size + 1 + 1, 3, none⟩ = some (.complex .f64 0 0) := (blk_cell M2.out 3).trans rfl
      have z4 : w5.cell? ⟨w.heap.size + 1 + 1, 4, none⟩ = some (.complex .f64 0 0) := (blk_cell M2.out 4).trans rfl
      have z5 : w5.cell? ⟨w.heap.size + 1 + 1, 5, none⟩ = some (.complex .f64 0 0) := (blk_cell M2.out 5).trans rfl
      have z6 : w5.cell? ⟨w.heap.size + 1 + 1, 6, none⟩ = some (.complex .f64 0 0) := (blk_cell M2.out 6).trans rfl
      have f0 := blk_frozen M2.out 0
      have f1 := blk_frozen M2.out 1
      have f2 := blk_frozen M2.out 2
      have f3 := blk_frozen M2.out 3
      have f4 := blk_frozen M2.out 4
      have f5 := blk_frozen M2.out 5
      have f6 := blk_frozen M2.out 6
      go_wp2_with fail
      refine bodyPost_ret (results_ttct (fn := Try.f14) rfl _ _ (w.heap.size + 1 + 1) 29 #[.int .i64 0, .int .i64 0, .int .i64 0, .complex .f64 0 0, .complex .f64 0 0, .complex .f64 0 0, .complex .f64 0 0] (0, 0) _ rfl (put7 M2.out (.int .i64 0) (.int .i64 0) (.int .i64 0) (.complex .f64 0 0) (.complex .f64 0 0) (.complex .f64 0 0) (.complex .f64 0 0)) hu rfl (by kernel_rfl)) rfl ?_
      refine ⟨.inl ⟨by rw [HE.out]; exact HER.out, by rw [HE.out]; rfl⟩, below_set' (below_set' (below_set' (below_set' (below_set' (below_set' (below_set' HB.out (by simp; omega) _) (by simp; omega) _) (by simp; omega) _) (by simp; omega) _) (by simp; omega) _) (by simp; omega) _) (by simp; omega) _⟩
    · have nz : ((recOf base t x).2 != 0) = false := bne_eq_false_iff_eq.2 cr
      have HE0 : Aside0 (appErr block base t x = 0) := ⟨by rw [HE.out]; exact cr⟩
      obtain ⟨A5, kA5, rfl, hk5, _⟩ := brow_reads HROW.out
      obtain ⟨n, hn⟩ : ∃ n, (recOf base t x).1.length = n := ⟨_, rfl⟩
      have hnl : n ≤ 65541 := by rw [← hn, HRO.out]; exact recOut_len _ _ _ _ _ _ _ _ _
      have HN := Aside0.mk hn
      rw [hn] at HROW HG4 ⊢
      have HDJ : Aside0 (∀ g, (Value.slice A5 n kA5).ownBlock = some g → w.heap.size + 3 ≤ g) := ⟨fun g hg => Nat.le_trans HLOW.out (HG4.out g hg)⟩
      rw [cr]
      have hk0 := HK.out
      have hax := HX.out.a
      have hbx := HX.out.b
      have hzx := HX.out.z
      have hbz : (block == 0) = false := beq_eq_false_iff_ne.2 (by omega)
      have hbz2 : ¬ block = 0 := by omega
      have htm : Int.tmod t.a block = t.a % block := Int.tmod_eq_emod_of_nonneg hax.1
      have hm0 := Int.emod_nonneg t.a (show block ≠ 0 by omega)
      have hm1' := Int.emod_lt_of_pos t.a (show 0 < block by omega)
      have ws : wrap64 (t.a % block + (n : Int)) = t.a % block + (n : Int) := w64 (by omega) (by omega)
      have ws2 : IntKind.i64.wrap (t.a % block + (n : Int)) = t.a % block + (n : Int) := by rw [IntKind.wrap_i64]; omega
      have hnp := nx_pos (a := t.a) (block := block) (by omega)
      have hnx : swap_next.f t.a block = some (nx t.a block) := by
        unfold swap_next.f nx
        have e1 : wrap64 (t.a - t.a % block) = t.a - t.a % block := w64 (by omega) (by omega)
        rw [if_neg (by omega), Int.tmod_eq_emod_of_nonneg hax.1, e1, w64 (by omega) (by omega)]
      have HNX := Aside0.mk (fun W => swap_next.calls t.a block (nx t.a block) W hnx)
      have HAR := Aside0.mk (And.intro hk0 (And.intro hax (And.intro hbx (And.intro hzx (And.intro hnl hnp)))))
      have k0 : w5.cell? ⟨w.heap.size, 0, none⟩ = some (.int .i64 t.a) := (blk_cell M0.out 0).trans rfl
      have k1 : w5.cell? ⟨w.heap.size, 1, none⟩ = some (.int .i64 t.q) := (blk_cell M0.out 1).trans rfl
      have k2 : w5.cell? ⟨w.heap.size, 2, none⟩ = some (.int .i64 t.b) := (blk_cell M0.out 2).trans rfl
      have k3 : w5.cell? ⟨w.heap.size, 3, none⟩ = some (.complex .f64 a0 b0) := (blk_cell M0.out 3).trans rfl
      have k4 : w5.cell? ⟨w.heap.size, 4, none⟩ = some (.complex .f64 a1 b1) := (blk_cell M0.out 4).trans rfl
      have k5 : w5.cell? ⟨w.heap.size, 5, none⟩ = some (.complex .f64 a2 b2) := (blk_cell M0.out 5).trans rfl
      have k6 : w5.cell? ⟨w.heap.size, 6, none⟩ = some (.complex .f64 a3 b3) := (blk_cell M0.out 6).trans rfl
      have e0 : w5.cell? ⟨w.heap.size + 1, 0, none⟩ = some (.int .i64 x.f0) := (blk_cell M1.out 0).trans rfl
      have e1 : w5.cell? ⟨w.heap.size + 1, 1, none⟩ = some (.int .i64 x.f1) := (blk_cell M1.out 1).trans rfl
      have e2 : w5.cell? ⟨w.heap.size + 1, 2, none⟩ = some (.string x.f2) := (blk_cell M1.out 2).trans rfl
      have y0 : w5.cell? ⟨gF, 0, none⟩ = some (.complex .f64 c0 d0) := (blk_cell M3.out 0).trans rfl
      have y1 : w5.cell? ⟨gF, 1, none⟩ = some (.complex .f64 c1 d1) := (blk_cell M3.out 1).trans rfl
      have y2 : w5.cell? ⟨gF, 2, none⟩ = some (.complex .f64 c2 d2) := (blk_cell M3.out 2).trans rfl
      have y3 : w5.cell? ⟨gF, 3, none⟩ = some (.complex .f64 c3 d3) := (blk_cell M3.out 3).trans rfl
      clear cr HE hn hnl hk0 hax hbx hzx hm0 hm1' hnx hnp
      by_cases cp : block < t.a % block + (n : Int)
      · have dp : decide (block < t.a % block + (n : Int)) = true := decide_eq_true cp
        have HPL : Aside0 (placeOf block t (n : Int) = nx t.a block) := ⟨by unfold placeOf; rw [if_pos cp]⟩
        have wp_ : wrap64 (nx t.a block + (n : Int)) = nx t.a block + (n : Int) := w64 (by have := HAR.out; omega) (by have := HAR.out; omega)
        obtain ⟨pl, hpl⟩ : ∃ pl, nx t.a block = pl := ⟨_, rfl⟩
        rw [hpl] at wp_ HPL HNX
        clear cp hpl
        go_wp2_with fail
        refine (HNX.out _).mono ?_
        rintro e w6 ⟨rfl, hd⟩
        have hb := hd.below
        replace M0 := Aside0.mk (blk_below M0.out hb)
        replace M1 := Aside0.mk (blk_below M1.out hb)
        replace M2 := Aside0.mk (blk_below M2.out hb)
        replace M3 := Aside0.mk (blk_below M3.out hb)
        replace HB := Aside0.mk (below_then HB.out HB.out.size hb)
        replace HROW := Aside0.mk (brow_keep HROW.out (fun g hg => hb.block g (brow_lt HROW.out g hg).2))
        clear hb hd k0 k1 k2 k3 k4 k5 k6 e0 e1 e2 y0 y1 y2 y3
        have k0 : w6.cell? ⟨w.heap.size, 0, none⟩ = some (.int .i64 t.a) := (blk_cell M0.out 0).trans rfl
        have k1 : w6.cell? ⟨w.heap.size, 1, none⟩ = some (.int .i64 t.q) := (blk_cell M0.out 1).trans rfl
        have k2 : w6.cell? ⟨w.heap.size, 2, none⟩ = some (.int .i64 t.b) := (blk_cell M0.out 2).trans rfl
        have k3 : w6.cell? ⟨w.heap.size, 3, none⟩ = some (.complex .f64 a0 b0) := (blk_cell M0.out 3).trans rfl
        have k4 : w6.cell? ⟨w.heap.size, 4, none⟩ = some (.complex .f64 a1 b1) := (blk_cell M0.out 4).trans rfl
        have k5 : w6.cell? ⟨w.heap.size, 5, none⟩ = some (.complex .f64 a2 b2) := (blk_cell M0.out 5).trans rfl
        have k6 : w6.cell? ⟨w.heap.size, 6, none⟩ = some (.complex .f64 a3 b3) := (blk_cell M0.out 6).trans rfl
        have e0 : w6.cell? ⟨w.heap.size + 1, 0, none⟩ = some (.int .i64 x.f0) := (blk_cell M1.out 0).trans rfl
        have e1 : w6.cell? ⟨w.heap.size + 1, 1, none⟩ = some (.int .i64 x.f1) := (blk_cell M1.out 1).trans rfl
        have e2 : w6.cell? ⟨w.heap.size + 1, 2, none⟩ = some (.string x.f2) := (blk_cell M1.out 2).trans rfl
        have y0 : w6.cell? ⟨gF, 0, none⟩ = some (.complex .f64 c0 d0) := (blk_cell M3.out 0).trans rfl
        have y1 : w6.cell? ⟨gF, 1, none⟩ = some (.complex .f64 c1 d1) := (blk_cell M3.out 1).trans rfl
        have y2 : w6.cell? ⟨gF, 2, none⟩ = some (.complex .f64 c2 d2) := (blk_cell M3.out 2).trans rfl
        have y3 : w6.cell? ⟨gF, 3, none⟩ = some (.complex .f64 c3 d3) := (blk_cell M3.out 3).trans rfl
        go_wp2_with fail
        refine (behind_calls t.a t.q t.b (pl + (n : Int)) a0 b0 a1 b1 a2 b2 a3 b3 c0 d0 c1 d1 c2 d2 c3 d3 x.f2 w6 (by have := HX.out.q; omega) (by have := HX.out.b; omega) (by have := HX.out.z; omega)).mono ?_
        rintro e w7 ⟨rfl, hb⟩
        replace M0 := Aside0.mk (blk_below M0.out hb)
        replace M1 := Aside0.mk (blk_below M1.out hb)
        replace M2 := Aside0.mk (blk_below M2.out hb)
        replace M3 := Aside0.mk (blk_below M3.out hb)
        replace HB := Aside0.mk (below_then HB.out HB.out.size hb)
        replace HROW := Aside0.mk (brow_keep HROW.out (fun g hg => hb.block g (brow_lt HROW.out g hg).2))
        clear hb k0 k1 k2 k3 k4 k5 k6 e0 e1 e2 y0 y1 y2 y3 wp_
        have z0 : w7.cell? ⟨w.heap.size + 1 + 1, 0, none⟩ = some (.int .i64 0) := (blk_cell M2.out 0).trans rfl
        have z1 : w7.cell? ⟨w.heap.size + 1 + 1, 1, none⟩ = some (.int .i64 0) := (blk_cell M2.out 1).trans rfl
        have z2 : w7.cell? ⟨w.heap.size + 1 + 1, 2, none⟩ = some (.int .i64 0) := (blk_cell M2.out 2).trans rfl
        have z3 : w7.cell? ⟨w.heap.size + 1 + 1, 3, none⟩ = some (.complex .f64 0 0) := (blk_cell M2.out 3).trans rfl
        have z4 : w7.cell? ⟨w.heap.size + 1 + 1, 4, none⟩ = some (.complex .f64 0 0) := (blk_cell M2.out 4).trans rfl
        have z5 : w7.cell? ⟨w.heap.size + 1 + 1, 5, none⟩ = some (.complex .f64 0 0) := (blk_cell M2.out 5).trans rfl
        have z6 : w7.cell? ⟨w.heap.size + 1 + 1, 6, none⟩ = some (.complex .f64 0 0) := (blk_cell M2.out 6).trans rfl
        have f0 := blk_frozen M2.out 0
        have f1 := blk_frozen M2.out 1
        have f2 := blk_frozen M2.out 2
        have f3 := blk_frozen M2.out 3
        have f4 := blk_frozen M2.out 4
        have f5 := blk_frozen M2.out 5
        have f6 := blk_frozen M2.out 6
        go_wp2_with fail
        refine bodyPost_ret (results_ttct (fn := Try.f14) rfl _ _ (w.heap.size + 1 + 1) 29 #[.int .i64 (pl + (n : Int)), .int .i64 (t.q + 1), .int .i64 (t.b + (x.f2.size : Int)), .complex .f64 c0 d0, .complex .f64 c1 d1, .complex .f64 c2 d2, .complex .f64 c3 d3] (0, 0) _ rfl (put7 M2.out (.int .i64 (pl + (n : Int))) (.int .i64 (t.q + 1)) (.int .i64 (t.b + (x.f2.size : Int))) (.complex .f64 c0 d0) (.complex .f64 c1 d1) (.complex .f64 c2 d2) (.complex .f64 c3 d3)) hu rfl (by kernel_rfl)) rfl ?_
        have hta : (appTl block base t x).a = pl + (n : Int) := by unfold appTl; simp only; rw [HN.out, HPL.out]
        refine ⟨.inr ⟨HE0.out, .slice A5 n kA5, c0, d0, c1, d1, c2, d2, c3, d3, ?_, ?_, ?_⟩, below_set' (below_set' (below_set' (below_set' (below_set' (below_set' (below_set' HB.out (by simp; omega) _) (by simp; omega) _) (by simp; omega) _) (by simp; omega) _) (by simp; omega) _) (by simp; omega) _) (by simp; omega) _⟩
        · rw [HS0.out]; exact HO5.out
        · have h := HROW.out
          refine brow_keep h (fun g hg => far7 rfl ?_ _ _ _ _ _ _ _)
          intro e
          have := HDJ.out g hg
          omega
        · rw [hta, HN.out, HPL.out]
          rfl
      · have dp : decide (block < t.a % block + (n : Int)) = false := decide_eq_false cp
        have HPL : Aside0 (placeOf block t (n : Int) = t.a) := ⟨by unfold placeOf; rw [if_neg cp]⟩
        clear cp
        have wp_ : wrap64 (t.a + (n : Int)) = t.a + (n : Int) := w64 (by have := HAR.out; omega) (by have := HAR.out; omega)
        go_wp2_with fail
        refine (behind_calls t.a t.q t.b (t.a + (n : Int)) a0 b0 a1 b1 a2 b2 a3 b3 c0 d0 c1 d1 c2 d2 c3 d3 x.f2 w5 (by have := HX.out.q; omega) (by have := HX.out.b; omega) (by have := HX.out.z; omega)).mono ?_
        rintro e w6 ⟨rfl, hb⟩
        replace M0 := Aside0.mk (blk_below M0.out hb)
        replace M1 := Aside0.mk (blk_below M1.out hb)
        replace M2 := Aside0.mk (blk_below M2.out hb)
        replace M3 := Aside0.mk (blk_below M3.out hb)
        replace HB := Aside0.mk (below_then HB.out HB.out.size hb)
        replace HROW := Aside0.mk (brow_keep HROW.out (fun g hg => hb.block g (brow_lt HROW.out g hg).2))
        clear hb k0 k1 k2 k3 k4 k5 k6 e0 e1 e2 y0 y1 y2 y3 wp_
        have z0 : w6.cell? ⟨w.heap.size + 1 + 1, 0, none⟩ = some (.int .i64 0) := (blk_cell M2.out 0).trans rfl
        have z1 : w6.cell? ⟨w.heap.size + 1 + 1, 1, none⟩ = some (.int .i64 0) := (blk_cell M2.out 1).trans rfl
        have z2 : w6.cell? ⟨w.heap.size + 1 + 1, 2, none⟩ = some (.int .i64 0) := (blk_cell M2.out 2).trans rfl
        have z3 : w6.cell? ⟨w.heap.size + 1 + 1, 3, none⟩ = some (.complex .f64 0 0) := (blk_cell M2.out 3).trans rfl
        have z4 : w6.cell? ⟨w.heap.size + 1 + 1, 4, none⟩ = some (.complex .f64 0 0) := (blk_cell M2.out 4).trans rfl
        have z5 : w6.cell? ⟨w.heap.size + 1 + 1, 5, none⟩ = some (.complex .f64 0 0) := (blk_cell M2.out 5).trans rfl
        have z6 : w6.cell? ⟨w.heap.size + 1 + 1, 6, none⟩ = some (.complex .f64 0 0) := (blk_cell M2.out 6).trans rfl
        have f0 := blk_frozen M2.out 0
        have f1 := blk_frozen M2.out 1
        have f2 := blk_frozen M2.out 2
        have f3 := blk_frozen M2.out 3
        have f4 := blk_frozen M2.out 4
        have f5 := blk_frozen M2.out 5
        have f6 := blk_frozen M2.out 6
        go_wp2_with fail
        refine bodyPost_ret (results_ttct (fn := Try.f14) rfl _ _ (w.heap.size + 1 + 1) 29 #[.int .i64 (t.a + (n : Int)), .int .i64 (t.q + 1), .int .i64 (t.b + (x.f2.size : Int)), .complex .f64 c0 d0, .complex .f64 c1 d1, .complex .f64 c2 d2, .complex .f64 c3 d3] (0, 0) _ rfl (put7 M2.out (.int .i64 (t.a + (n : Int))) (.int .i64 (t.q + 1)) (.int .i64 (t.b + (x.f2.size : Int))) (.complex .f64 c0 d0) (.complex .f64 c1 d1) (.complex .f64 c2 d2) (.complex .f64 c3 d3)) hu rfl (by kernel_rfl)) rfl ?_
        have hta : (appTl block base t x).a = t.a + (n : Int) := by unfold appTl; simp only; rw [HN.out, HPL.out]
        refine ⟨.inr ⟨HE0.out, .slice A5 n kA5, c0, d0, c1, d1, c2, d2, c3, d3, ?_, ?_, ?_⟩, below_set' (below_set' (below_set' (below_set' (below_set' (below_set' (below_set' HB.out (by simp; omega) _) (by simp; omega) _) (by simp; omega) _) (by simp; omega) _) (by simp; omega) _) (by simp; omega) _) (by simp; omega) _⟩
        · rw [HS0.out]; exact HO5.out
        · have h := HROW.out
          refine brow_keep h (fun g hg => far7 rfl ?_ _ _ _ _ _ _ _)
          intro e
          have := HDJ.out g hg
          omega
        · rw [hta, HN.out, HPL.out]
          rfl
end Go.Proofs.Ytacecaacpagokaa.Swap
