/- Texts of this claim, merged. -/
import Derived.Test.YtacecaacpagokaaKKUnrec
import Derived.Test.YtacecaacpagokaaKKRecord
import Derived.Test.YtacecaacpagokaaKTWholePlain
import Derived.Lib.ConvBytes
import Derived.Laws.CopyOwn
import Derived.Scope
import Derived.WalkMore
import Derived.ScopeJumps
import Derived.ChangeKeysEq
namespace Go.Proofs.Ytacecaacpagokaa.Swap
open Go.RowKit Go.Proofs.Ytacecaacpagokaa.PSwapGoes Go.Proofs.Ytacecaacpagokaa.Plain Go.Proofs.Ytacecaacpagokaa.Pure Go.Proofs.Ytacecaacpagokaa.Codec Go.Proofs.Ytacecaacpagokaa.Turn Go.Proofs.Ytacecaacpagokaa.PlainFloat Go.Proofs.YtacecaacpagokaaW.PrintWords Go.Proofs.YtacecaacpagokaaW.PrintLast Go.Proofs.YtacecaacpagokaaW.PrintMore
set_option linter.unusedVariables false
set_option linter.unusedSimpArgs false
attribute [local go_sem] run_store_complex
section
variable {P : Program}
theorem results_cct {fn : Func} {p p' u : Tmp} {ty ty' : TypeId} (h : fn.results = #[.cell p ty, .cell p' ty', .tmp u]) (tmps : Array Value) (w : World) (g g' : Nat) (t t' : TypeId) (cs cs' : Array Value) (fr fr' : Nat × Nat) (d d' : TypeDesc)
    (hp : tmps.getD p undef = .pointer (some ⟨g, 0, none⟩)) (hg : w.heap[g]? = some (.cells cs t fr))
    (hu : P.underlying ty = some d) (hd : (match d with | .struct _ | .array _ _ => true | _ => false) = true) (hi : (P.info? ty).map (·.size) = some cs.size)
    (hp' : tmps.getD p' undef = .pointer (some ⟨g', 0, none⟩)) (hg' : w.heap[g']? = some (.cells cs' t' fr'))
    (hu' : P.underlying ty' = some d') (hd' : (match d' with | .struct _ | .array _ _ => true | _ => false) = true) (hi' : (P.info? ty').map (·.size) = some cs'.size) :
    (results fn tmps).run P w = .ok (.tuple #[.agg cs, .agg cs', tmps.getD u undef]) w := by
  have h1 : tmps[p]?.getD undef = .pointer (some ⟨g, 0, none⟩) := by simpa using hp
  have h2 : tmps[p']?.getD undef = .pointer (some ⟨g', 0, none⟩) := by simpa using hp'
  simp [results, h, h1, h2, asAddr, run_loadVar_row w g t ty cs fr d hg hu hd hi, run_loadVar_row w g' t' ty' cs' fr' d' hg' hu' hd' hi']
theorem results_tct {fn : Func} {p u v : Tmp} {ty : TypeId} (h : fn.results = #[.tmp u, .cell p ty, .tmp v]) (tmps : Array Value) (w : World) (g : Nat) (t : TypeId) (cs : Array Value) (fr : Nat × Nat) (d : TypeDesc)
    (hp : tmps.getD p undef = .pointer (some ⟨g, 0, none⟩)) (hg : w.heap[g]? = some (.cells cs t fr))
    (hu : P.underlying ty = some d) (hd : (match d with | .struct _ | .array _ _ => true | _ => false) = true) (hi : (P.info? ty).map (·.size) = some cs.size) :
    (results fn tmps).run P w = .ok (.tuple #[tmps.getD u undef, .agg cs, tmps.getD v undef]) w := by
  have hp' : tmps[p]?.getD undef = .pointer (some ⟨g, 0, none⟩) := by simpa using hp
  simp [results, h, hp', asAddr, run_loadVar_row w g t ty cs fr d hg hu hd hi]
theorem results_ttct {fn : Func} {p u v x : Tmp} {ty : TypeId} (h : fn.results = #[.tmp u, .tmp x, .cell p ty, .tmp v]) (tmps : Array Value) (w : World) (g : Nat) (t : TypeId) (cs : Array Value) (fr : Nat × Nat) (d : TypeDesc)
    (hp : tmps.getD p undef = .pointer (some ⟨g, 0, none⟩)) (hg : w.heap[g]? = some (.cells cs t fr))
    (hu : P.underlying ty = some d) (hd : (match d with | .struct _ | .array _ _ => true | _ => false) = true) (hi : (P.info? ty).map (·.size) = some cs.size) :
    (results fn tmps).run P w = .ok (.tuple #[tmps.getD u undef, tmps.getD x undef, .agg cs, tmps.getD v undef]) w := by
  have hp' : tmps[p]?.getD undef = .pointer (some ⟨g, 0, none⟩) := by simpa using hp
  simp [results, h, hp', asAddr, run_loadVar_row w g t ty cs fr d hg hu hd hi]
end
set_option maxHeartbeats 4000000 in
set_option maxRecDepth 100000 in
theorem behind_calls (at_ seq by_ p : Int) (a0 b0 a1 b1 a2 b2 a3 b3 c0 d0 c1 d1 c2 d2 c3 d3 : Nat) (t : ByteArray) (w : World) (h1 : -9223372036854775808 ≤ seq ∧ seq < 9223372036854775807) (h2 : 0 ≤ by_ ∧ by_ ≤ 4611686018427387904) (h3 : t.size ≤ 4611686018427387903) :
    Calls Try.prog 22 #[.agg #[.int .i64 at_, .int .i64 seq, .int .i64 by_, .complex .f64 a0 b0, .complex .f64 a1 b1, .complex .f64 a2 b2, .complex .f64 a3 b3], .int .i64 p, .string t, .agg #[.complex .f64 c0 d0, .complex .f64 c1 d1, .complex .f64 c2 d2, .complex .f64 c3 d3]] w fun e w' => e = .returned (.agg #[.int .i64 p, .int .i64 (seq + 1), .int .i64 (by_ + (t.size : Int)), .complex .f64 c0 d0, .complex .f64 c1 d1, .complex .f64 c2 d2, .complex .f64 c3 d3]) ∧ Below w.heap.size w w' := by
  have hu := Try.underlying29
  have hu2 := Try.underlying27
  have w1 : wrap64 (seq + 1) = seq + 1 := by unfold wrap64; omega
  have w2 : wrap64 (by_ + (t.size : Int)) = by_ + (t.size : Int) := by unfold wrap64; omega
  have v1 : IntKind.i64.wrap (seq + 1) = seq + 1 := by rw [IntKind.wrap_i64]; omega
  have v2 : IntKind.i64.wrap (by_ + (t.size : Int)) = by_ + (t.size : Int) := by rw [IntKind.wrap_i64]; omega
  clear h1 h2 h3
  go_enter Try.func22, Try.ntmps22
  go_wp2
  refine bodyPost_ret (results_cell_row (fn := Try.f22) rfl _ _ (w.heap.size + 1 + 1) 29 #[.int .i64 p, .int .i64 (seq + 1), .int .i64 (by_ + (t.size : Int)), .complex .f64 c0 d0, .complex .f64 c1 d1, .complex .f64 c2 d2, .complex .f64 c3 d3] (0, 0) _ rfl ?_ Try.underlying29 rfl (by kernel_rfl)) rfl ?_
  · have := blk_new ((w.alloc (.cells #[.int .i64 at_, .int .i64 seq, .int .i64 by_, .complex .f64 a0 b0, .complex .f64 a1 b1, .complex .f64 a2 b2, .complex .f64 a3 b3] 29)).alloc (.cells #[.complex .f64 c0 d0, .complex .f64 c1 d1, .complex .f64 c2 d2, .complex .f64 c3 d3] 27)) (.cells #[.int .i64 p, .int .i64 (seq + 1), .int .i64 (by_ + (t.size : Int)), .complex .f64 c0 d0, .complex .f64 c1 d1, .complex .f64 c2 d2, .complex .f64 c3 d3] 29)
    simpa using this
  · exact ⟨rfl, (((Below.refl _ _).alloc (Nat.le_refl _) _).alloc (by simp) _).alloc (by simp; omega) _⟩
end Go.Proofs.Ytacecaacpagokaa.Swap

namespace Go.Proofs.Ytacecaacpagokaa.Swap
open Go.RowKit Go.Proofs.Ytacecaacpagokaa.PSwapGoes Go.Proofs.Ytacecaacpagokaa.Plain Go.Proofs.Ytacecaacpagokaa.Pure Go.Proofs.Ytacecaacpagokaa.Codec Go.Proofs.Ytacecaacpagokaa.Turn Go.Proofs.Ytacecaacpagokaa.PlainFloat Go.Proofs.YtacecaacpagokaaW.PrintWords Go.Proofs.YtacecaacpagokaaW.PrintLast Go.Proofs.YtacecaacpagokaaW.PrintMore
set_option linter.unusedVariables false
set_option linter.unusedSimpArgs false
attribute [local go_sem] run_store_complex
theorem bytesOf_length (t : ByteArray) : (bytesOf t).length = t.size := by unfold bytesOf; rw [List.length_map]; rfl
/-- A text becomes a row of its bytes. -/
theorem str_conv (t : ByteArray) (W : World) : (Go.convert 9 22 (.string t)).run Try.prog W = .ok (.slice (some ⟨W.heap.size, 0, none⟩) t.size (grownCap W t.size 0 5)) (Lib.bytesWorld W 5 t) := Lib.run_convert_string_bytes W 9 22 5 t Try.underlying9 Try.underlying22 Try.underlying5
theorem str_below (t : ByteArray) (W : World) : Below W.heap.size W (Lib.bytesWorld W 5 t) := ⟨rfl, rfl, rfl, by rw [Lib.bytesWorld_size]; omega, fun k hk => Lib.bytesWorld_at_old W 5 t k hk⟩
theorem str_reads (t : ByteArray) (W : World) (h : t.size ≤ 9223372036854775807) : ReadsInt (Lib.bytesWorld W 5 t) .u8 (some ⟨W.heap.size, 0, none⟩) (bytesOf t).length (bytesOf t) := by
  refine ⟨rfl, by rw [bytesOf_length]; exact h, fun _ => ⟨_, rfl, fun j hj => ?_⟩⟩
  rw [bytesOf_length] at hj
  have e : (⟨W.heap.size, 0, none⟩ : Addr).add j = ⟨W.heap.size, j, none⟩ := by unfold Addr.add; split <;> simp_all
  rw [e, Lib.bytesWorld_cell W 5 t j hj]
  have hj2 : j < t.data.toList.length := hj
  simp [bytesOf, List.getD_eq_getElem?_getD, List.getElem?_eq_getElem hj2]
theorem bytes_list (t : ByteArray) : ByteList (bytesOf t) := by
  intro i
  have h := bytesOf_bytes t
  unfold rd
  rw [List.getD_eq_getElem?_getD]
  cases hq : (bytesOf t)[i.toNat]? with
  | none => exact ⟨by decide, by decide⟩
  | some x => have := h x (List.mem_of_getElem? hq); exact ⟨by simp; omega, by simp; omega⟩
theorem cells_one (p0 q0 p1 q1 p2 q2 p3 q3 : Nat) : #[Value.complex .f64 p0 q0, .complex .f64 p1 q1, .complex .f64 p2 q2, .complex .f64 p3 q3].all (·.oneCell') = true := by simp [Value.oneCell']
theorem and16 (n : Int) : Go.bits .and .i64 n 65535 = n % 65536 := by
  simp only [Go.bits]
  have e : (BitVec.ofInt IntKind.i64.bits n &&& BitVec.ofInt IntKind.i64.bits 65535).toNat = (n % 65536).toNat := by
    have h3 : (BitVec.ofInt IntKind.i64.bits 65535).toNat = 2 ^ 16 - 1 := by decide
    rw [BitVec.toNat_and, h3, Nat.and_two_pow_sub_one_eq_mod, BitVec.toNat_ofInt]
    show (n % (2 ^ 64 : Nat)).toNat % 65536 = (n % 65536).toNat
    omega
  rw [e, IntKind.wrap_i64]
  omega
theorem ints_one (a b c d : Int) : #[Value.int .i64 a, .int .i64 b, .int .i64 c, .int .i64 d].all (·.oneCell') = true := by simp [Value.oneCell']
theorem info4i : (Try.prog.info? 56).map (·.size) = some 4 := by kernel_rfl
theorem info4c : (Try.prog.info? 27).map (·.size) = some 4 := by kernel_rfl

def sealR.T1 : Bool × List (List Nat × List Nat) := (true, [([], []), ([0], [0]), ([], []), ([2], [2]), ([3], [3]), ([], []), ([5], [5]), ([1, 4, 6, 4], [1, 4, 6]), ([7], [7]), ([8], [8]), ([8], [8]), ([9, 7, 0, 1, 2, 3, 4, 5, 6, 7, 8, 9], [9]), ([10, 11, 0, 1, 2, 3, 4, 5, 6, 7, 8, 9, 10, 11], [10])])
def sealR.B1 : List Nat := [0, 1, 0, 4, 12, 0, 32, 127, 255, 511, 511, 1023, 4095]
theorem sealR.tab1 : rtab .any (opsOf Try.f21 1) = sealR.T1 := by kernel_rfl
theorem sealR.bits1 : waitsOk sealR.T1.2 sealR.B1 = true := by kernel_rfl

def sealR.T10 : Bool × List (List Nat × List Nat) := (true, [([], []), ([], []), ([0, 0], [0]), ([1, 2, 0, 1, 2], [1]), ([3, 0, 1, 2, 3], [])])
def sealR.B10 : List Nat := [0, 0, 1, 7, 15]
theorem sealR.tab10 : rtab .any (opsOf Try.f21 10) = sealR.T10 := by kernel_rfl
theorem sealR.bits10 : waitsOk sealR.T10.2 sealR.B10 = true := by kernel_rfl

set_option maxHeartbeats 4000000 in
set_option maxRecDepth 100000 in
theorem seal_ok (at_ seq by_ : Int) (a0 b0 a1 b1 a2 b2 a3 b3 : Nat) (S : List Int) (t : ByteArray) (w : World) (hS : Of4 (.agg #[.complex .f64 a0 b0, .complex .f64 a1 b1, .complex .f64 a2 b2, .complex .f64 a3 b3]) S) (hb : 0 ≤ by_) (ht : t.size ≤ 4194304) (hp : Sums4 (plus S (rot by_ (four (bytesOf t))))) :
    Calls Try.prog 21 #[.agg #[.int .i64 at_, .int .i64 seq, .int .i64 by_, .complex .f64 a0 b0, .complex .f64 a1 b1, .complex .f64 a2 b2, .complex .f64 a3 b3], .string t] w fun e w' => ∃ c0 d0 c1 d1 c2 d2 c3 d3 s0 s1 s2 s3, plus S (rot by_ (four (bytesOf t))) = [s0, s1, s2, s3] ∧ Of4 (.agg #[.complex .f64 c0 d0, .complex .f64 c1 d1, .complex .f64 c2 d2, .complex .f64 c3 d3]) [s0, s1, s2, s3] ∧ e = .returned (.tuple #[.agg #[.complex .f64 c0 d0, .complex .f64 c1 d1, .complex .f64 c2 d2, .complex .f64 c3 d3], .agg #[.int .i64 (s0 % 65536), .int .i64 (s1 % 65536), .int .i64 (s2 % 65536), .int .i64 (s3 % 65536)], .int .i64 0]) ∧ Below w.heap.size w w' := by
  have hu := Try.underlying29
  have hu2 := Try.underlying27
  have hu3 := Try.underlying56
  have hcv := fun W => str_conv t W
  have HS := Aside0.mk hS
  have HP := Aside0.mk (And.intro hb (And.intro ht hp))
  clear hS hb ht hp
  go_enter Try.func21, Try.ntmps21
  go_wp2_with fail

  have N0 : (((w.alloc (.cells #[.int .i64 at_, .int .i64 seq, .int .i64 by_, .complex .f64 a0 b0, .complex .f64 a1 b1, .complex .f64 a2 b2, .complex .f64 a3 b3] 29)).alloc (.cells #[.complex .f64 0 0, .complex .f64 0 0, .complex .f64 0 0, .complex .f64 0 0] 27)).alloc (.cells #[.int .i64 0, .int .i64 0, .int .i64 0, .int .i64 0] 56)).heap[w.heap.size]? = some (.cells #[.int .i64 at_, .int .i64 seq, .int .i64 by_, .complex .f64 a0 b0, .complex .f64 a1 b1, .complex .f64 a2 b2, .complex .f64 a3 b3] 29 (0, 0)) := blk_alloc (blk_alloc (blk_new w _) _) _
  have N1 : (((w.alloc (.cells #[.int .i64 at_, .int .i64 seq, .int .i64 by_, .complex .f64 a0 b0, .complex .f64 a1 b1, .complex .f64 a2 b2, .complex .f64 a3 b3] 29)).alloc (.cells #[.complex .f64 0 0, .complex .f64 0 0, .complex .f64 0 0, .complex .f64 0 0] 27)).alloc (.cells #[.int .i64 0, .int .i64 0, .int .i64 0, .int .i64 0] 56)).heap[w.heap.size + 1]? = some (.cells #[.complex .f64 0 0, .complex .f64 0 0, .complex .f64 0 0, .complex .f64 0 0] 27 (0, 0)) := by
    refine blk_alloc ?_ _
    have := blk_new (w.alloc (.cells #[.int .i64 at_, .int .i64 seq, .int .i64 by_, .complex .f64 a0 b0, .complex .f64 a1 b1, .complex .f64 a2 b2, .complex .f64 a3 b3] 29)) (.cells #[.complex .f64 0 0, .complex .f64 0 0, .complex .f64 0 0, .complex .f64 0 0] 27)
    simpa using this
  have N2 : (((w.alloc (.cells #[.int .i64 at_, .int .i64 seq, .int .i64 by_, .complex .f64 a0 b0, .complex .f64 a1 b1, .complex .f64 a2 b2, .complex .f64 a3 b3] 29)).alloc (.cells #[.complex .f64 0 0, .complex .f64 0 0, .complex .f64 0 0, .complex .f64 0 0] 27)).alloc (.cells #[.int .i64 0, .int .i64 0, .int .i64 0, .int .i64 0] 56)).heap[w.heap.size + 1 + 1]? = some (.cells #[.int .i64 0, .int .i64 0, .int .i64 0, .int .i64 0] 56 (0, 0)) := by
    have := blk_new ((w.alloc (.cells #[.int .i64 at_, .int .i64 seq, .int .i64 by_, .complex .f64 a0 b0, .complex .f64 a1 b1, .complex .f64 a2 b2, .complex .f64 a3 b3] 29)).alloc (.cells #[.complex .f64 0 0, .complex .f64 0 0, .complex .f64 0 0, .complex .f64 0 0] 27)) (.cells #[.int .i64 0, .int .i64 0, .int .i64 0, .int .i64 0] 56)
    simpa using this
  have HB : Aside0 (Below w.heap.size w (((w.alloc (.cells #[.int .i64 at_, .int .i64 seq, .int .i64 by_, .complex .f64 a0 b0, .complex .f64 a1 b1, .complex .f64 a2 b2, .complex .f64 a3 b3] 29)).alloc (.cells #[.complex .f64 0 0, .complex .f64 0 0, .complex .f64 0 0, .complex .f64 0 0] 27)).alloc (.cells #[.int .i64 0, .int .i64 0, .int .i64 0, .int .i64 0] 56))) := ⟨(((Below.refl _ _).alloc (Nat.le_refl _) _).alloc (by simp) _).alloc (by simp; omega) _⟩
  have HZ : Aside0 ((((w.alloc (.cells #[.int .i64 at_, .int .i64 seq, .int .i64 by_, .complex .f64 a0 b0, .complex .f64 a1 b1, .complex .f64 a2 b2, .complex .f64 a3 b3] 29)).alloc (.cells #[.complex .f64 0 0, .complex .f64 0 0, .complex .f64 0 0, .complex .f64 0 0] 27)).alloc (.cells #[.int .i64 0, .int .i64 0, .int .i64 0, .int .i64 0] 56)).heap.size = w.heap.size + 1 + 1 + 1) := ⟨by simp⟩
  have M0 := Aside0.mk N0
  have M1 := Aside0.mk N1
  have M2 := Aside0.mk N2
  clear N0 N1 N2
  generalize ((w.alloc (.cells #[.int .i64 at_, .int .i64 seq, .int .i64 by_, .complex .f64 a0 b0, .complex .f64 a1 b1, .complex .f64 a2 b2, .complex .f64 a3 b3] 29)).alloc (.cells #[.complex .f64 0 0, .complex .f64 0 0, .complex .f64 0 0, .complex .f64 0 0] 27)).alloc (.cells #[.int .i64 0, .int .i64 0, .int .i64 0, .int .i64 0] 56) = w1 at M0 M1 M2 HB HZ ⊢
  refine start_ (n := 13) (S := (fun w' => w'.heap[w.heap.size]? = some (.cells #[.int .i64 at_, .int .i64 seq, .int .i64 by_, .complex .f64 a0 b0, .complex .f64 a1 b1, .complex .f64 a2 b2, .complex .f64 a3 b3] 29 (0, 0)))) (ds := [11]) #[false, false, false, false, false, false, false, false, false, false, false, false, false] (by kernel_rfl) rfl rfl (blk_drew M0.out) (fun hHeld => ?_); refine with_tabW sealR.tab1 sealR.bits1 (fun HT_ HW_ => ?_)
  have HBD := Aside0.mk (below_drew HB.out)
  have D1 := Aside0.mk (blk_drew M1.out)
  have D2 := Aside0.mk (blk_drew M2.out)
  have HZD : Aside0 (w1.drew.heap.size = w.heap.size + 1 + 1 + 1) := ⟨HZ.out⟩
  clear M0 M1 M2 HB HZ
  generalize w1.drew = wd at HBD D1 D2 HZD hHeld ⊢
  refine pure_ (i := 0) (N := (some 9)) (v := ?_) (a' := ?_) #[true, false, false, false, false, false, false, false, false, false, false, false, false] rfl rfl (any_of HT_.out (by kernel_rfl)) (fun _ _ _ h => h) (Or.inl ⟨by rfl, ?_⟩) ?_ ?_
  rotate_left
  · intro w'
    go_simp
    with_reducible rfl
  rotate_left
  · simp only [Act.put, List.setIfInBounds_toArray, List.set_cons_zero, List.set_cons_succ, i64_w, i32_w]
    rfl
  refine pure_ (i := 2) (N := (some 11)) (v := ?_) (a' := ?_) #[true, false, true, false, false, false, false, false, false, false, false, false, false] rfl rfl (any_of HT_.out (by kernel_rfl)) (fun _ _ _ h => h) (Or.inl ⟨by rfl, ?_⟩) ?_ ?_
  rotate_left
  · intro w'
    go_simp
    with_reducible rfl
  rotate_left
  · simp only [Act.put, List.setIfInBounds_toArray, List.set_cons_zero, List.set_cons_succ, i64_w, i32_w]
    rfl
  refine pure_ (i := 5) (N := (some 14)) (v := ?_) (a' := ?_) #[true, false, true, false, false, true, false, false, false, false, false, false, false] rfl rfl (any_of HT_.out (by kernel_rfl)) (fun _ _ _ h => h) (Or.inl ⟨by rfl, ?_⟩) ?_ ?_
  rotate_left
  · intro w'
    go_simp
    with_reducible rfl
  rotate_left
  · simp only [Act.put, List.setIfInBounds_toArray, List.set_cons_zero, List.set_cons_succ, i64_w, i32_w]
    rfl
  refine take_ (i := 1) (N := (some 10)) (v := ?_) (a' := ?_) #[true, true, true, false, false, true, false, false, false, false, false, false, false] rfl rfl (take_ofW HT_.out HW_.out (by kernel_rfl)) (fun _ _ _ h => h) (Or.inl ⟨by rfl, ?_⟩) hHeld ?_ ?_
  rotate_left
  · intro w' hbk
    have k3 : w'.cell? ⟨w.heap.size, 3, none⟩ = some (.complex .f64 a0 b0) := (blk_cell hbk 3).trans rfl
    have k4 : w'.cell? ⟨w.heap.size, 4, none⟩ = some (.complex .f64 a1 b1) := (blk_cell hbk 4).trans rfl
    have k5 : w'.cell? ⟨w.heap.size, 5, none⟩ = some (.complex .f64 a2 b2) := (blk_cell hbk 5).trans rfl
    have k6 : w'.cell? ⟨w.heap.size, 6, none⟩ = some (.complex .f64 a3 b3) := (blk_cell hbk 6).trans rfl
    clear hbk
    go_simp
    with_reducible rfl
  rotate_left
  · simp only [Act.put, List.setIfInBounds_toArray, List.set_cons_zero, List.set_cons_succ, i64_w, i32_w]
    rfl
  refine take_ (i := 6) (N := (some 15)) (v := ?_) (a' := ?_) #[true, true, true, false, false, true, true, false, false, false, false, false, false] rfl rfl (take_ofW HT_.out HW_.out (by kernel_rfl)) (fun _ _ _ h => h) (Or.inl ⟨by rfl, ?_⟩) hHeld ?_ ?_
  rotate_left
  · intro w' hbk
    have k2 : w'.cell? ⟨w.heap.size, 2, none⟩ = some (.int .i64 by_) := (blk_cell hbk 2).trans rfl
    clear hbk
    go_simp
    with_reducible rfl
  rotate_left
  · simp only [Act.put, List.setIfInBounds_toArray, List.set_cons_zero, List.set_cons_succ, i64_w, i32_w]
    rfl
  refine one_ (i := 3) (N := (some 12)) #[true, true, true, true, false, true, true, false, false, false, false, false, false] rfl rfl (one_of HT_.out (by kernel_rfl)) (by decide) (fun K hK => ?_)
  refine value_ (w1 := Lib.bytesWorld wd 5 t) (v := .slice (some ⟨wd.heap.size, 0, none⟩) t.size (grownCap wd t.size 0 5)) (by rfl) rfl (by go_simp) ?_
  have HR2 := Aside0.mk (str_reads t wd (by have := HP.out.2.1; omega))
  have hb := str_below t wd
  have HB2 := Aside0.mk (below_then HBD.out HBD.out.size hb)
  have E1 := Aside0.mk (blk_below D1.out hb)
  have E2 := Aside0.mk (blk_below D2.out hb)
  have hh := blk_below hHeld hb
  have HZ2 : Aside0 (w.heap.size + 1 + 1 + 1 ≤ (Lib.bytesWorld wd 5 t).heap.size) := ⟨by have := HZD.out; have := hb.size; omega⟩
  obtain ⟨A2, hA2⟩ : ∃ A, (some ⟨wd.heap.size, 0, none⟩ : Option Addr) = A := ⟨_, rfl⟩
  obtain ⟨k2, hk2⟩ : ∃ k, grownCap wd t.size 0 5 = k := ⟨_, rfl⟩
  rw [hA2] at HR2 ⊢
  rw [hk2]
  clear hb hHeld HBD D1 D2 hA2 hk2
  generalize Lib.bytesWorld wd 5 t = w2 at HR2 HB2 E1 E2 HZ2 hh ⊢
  refine hK.out _ _ hh (fun hHeld => ?_)
  clear hK K hh hcv
  refine norm_ (a' := ?_) ?_ ?_
  rotate_left
  · show Act.put _ (some 12) _ = _
    simp only [Act.put, List.setIfInBounds_toArray, List.set_cons_zero, List.set_cons_succ, i64_w, i32_w]
    rfl
  refine one_ (i := 4) (N := (some 13)) #[true, true, true, true, true, true, true, false, false, false, false, false, false] rfl rfl (one_of HT_.out (by kernel_rfl)) (by decide) (fun K hK => ?_)
  have hof := of4_calls A2 k2 (bytesOf t) w2 HR2.out (bytes_list t) (by rw [bytesOf_length]; exact HP.out.2.1)
  rw [bytesOf_length] at hof
  refine goes_ Try.func33 (by kernel_rfl) rfl #[.slice A2 t.size k2] (by rfl) rfl rfl (by simp [Act.eval]) ?_
  refine hof.mono ?_
  rintro e w3 ⟨u, rfl, hu4, hb⟩
  refine ⟨_, rfl, ?_⟩
  have HB3 := Aside0.mk (below_then HB2.out HB2.out.size hb)
  have F1 := Aside0.mk (blk_below E1.out hb)
  have F2 := Aside0.mk (blk_below E2.out hb)
  have hh := blk_below hHeld hb
  have HZ3 : Aside0 (w.heap.size + 1 + 1 + 1 ≤ w3.heap.size) := ⟨Nat.le_trans HZ2.out hb.size⟩
  have HU := Aside0.mk hu4
  clear hb hHeld HB2 E1 E2 hu4 HR2 HZ2 hof
  refine hK.out _ _ hh (fun hHeld => ?_)
  clear hK K hh
  refine norm_ (a' := ?_) ?_ ?_
  rotate_left
  · show Act.put _ (some 13) _ = _
    simp only [Act.put, List.setIfInBounds_toArray, List.set_cons_zero, List.set_cons_succ, i64_w, i32_w]
    rfl
  refine one_ (i := 7) (N := (some 16)) #[true, true, true, true, true, true, true, true, false, false, false, false, false] rfl rfl (one_of HT_.out (by kernel_rfl)) (by decide) (fun K hK => ?_)
  refine goes_ Try.func32 (by kernel_rfl) rfl #[.agg #[.complex .f64 a0 b0, .complex .f64 a1 b1, .complex .f64 a2 b2, .complex .f64 a3 b3], u, .int .i64 by_] (by rfl) rfl rfl (by simp [Act.eval]) ?_
  refine (join_calls _ u S _ HS.out HU.out by_ HP.out.1 HP.out.2.2 _).mono ?_
  rintro e w4 ⟨z, rfl, hz, hb⟩
  refine ⟨_, rfl, ?_⟩
  have HB4 := Aside0.mk (below_then HB3.out HB3.out.size hb)
  have G1 := Aside0.mk (blk_below F1.out hb)
  have G2 := Aside0.mk (blk_below F2.out hb)
  have hh := blk_below hHeld hb
  have HZ4 : Aside0 (w.heap.size + 1 + 1 + 1 ≤ w4.heap.size) := ⟨Nat.le_trans HZ3.out hb.size⟩
  obtain ⟨s0, s1, s2, s3, hl4⟩ := list4 hz.1.1
  have HL4 := Aside0.mk hl4
  obtain ⟨c0, d0, c1, d1, c2, d2, c3, d3, rfl⟩ := hz.agg
  rw [hl4] at hz
  have HZZ := Aside0.mk hz
  clear hb hHeld HB3 F1 F2 hz hl4 HU HZ3
  refine hK.out _ _ hh (fun hHeld => ?_)
  clear hK K hh
  refine norm_ (a' := ?_) ?_ ?_
  rotate_left
  · show Act.put _ (some 16) _ = _
    simp only [Act.put, List.setIfInBounds_toArray, List.set_cons_zero, List.set_cons_succ, i64_w, i32_w]
    rfl
  refine pure_ (i := 8) (N := (some 8)) (v := ?_) (a' := ?_) #[true, true, true, true, true, true, true, true, true, false, false, false, false] rfl rfl (any_of HT_.out (by kernel_rfl)) (fun _ _ _ h => h) (Or.inl ⟨by rfl, ?_⟩) ?_ ?_
  rotate_left
  · intro w'
    go_simp
    with_reducible rfl
  rotate_left
  · simp only [Act.put, List.setIfInBounds_toArray, List.set_cons_zero, List.set_cons_succ, i64_w, i32_w]
    rfl
  refine pure_ (i := 9) (N := (some 17)) (v := ?_) (a' := ?_) #[true, true, true, true, true, true, true, true, true, true, false, false, false] rfl rfl (any_of HT_.out (by kernel_rfl)) (fun _ _ _ h => h) (Or.inl ⟨by rfl, ?_⟩) ?_ ?_
  rotate_left
  · intro w'
    go_simp
    with_reducible rfl
  rotate_left
  · simp only [Act.put, List.setIfInBounds_toArray, List.set_cons_zero, List.set_cons_succ, i64_w, i32_w]
    rfl
  refine pure_ (i := 10) (N := (some 18)) (v := ?_) (a' := ?_) #[true, true, true, true, true, true, true, true, true, true, true, false, false] rfl rfl (any_of HT_.out (by kernel_rfl)) (fun _ _ _ h => h) (Or.inl ⟨by rfl, ?_⟩) ?_ ?_
  rotate_left
  · intro w'
    go_simp
    with_reducible rfl
  rotate_left
  · simp only [Act.put, List.setIfInBounds_toArray, List.set_cons_zero, List.set_cons_succ, i64_w, i32_w]
    rfl
  refine last_ (i := 11) (N := none) #[true, true, true, true, true, true, true, true, true, true, true, true, false] rfl rfl (one_of HT_.out (by kernel_rfl)) (by decide) (fun K hK => ?_)
  rw [if_pos (by rfl)]
  refine wp_store_row 27 (.tmp 4) (.tmp 17) (by rfl) (w.heap.size + 1) #[.complex .f64 c0 d0, .complex .f64 c1 d1, .complex .f64 c2 d2, .complex .f64 c3 d3] (by rfl) (by rfl) 27 #[.complex .f64 0 0, .complex .f64 0 0, .complex .f64 0 0, .complex .f64 0 0] G1.out info4c (by rfl) (cells_one _ _ _ _ _ _ _ _) ?_
  have X1 := Aside0.mk (setRow_heap w4 (w.heap.size + 1) #[.complex .f64 0 0, .complex .f64 0 0, .complex .f64 0 0, .complex .f64 0 0] #[.complex .f64 c0 d0, .complex .f64 c1 d1, .complex .f64 c2 d2, .complex .f64 c3 d3] 27 (0, 0) G1.out)
  have X2 : Aside0 ((w4.setRow (w.heap.size + 1) #[.complex .f64 c0 d0, .complex .f64 c1 d1, .complex .f64 c2 d2, .complex .f64 c3 d3]).heap[w.heap.size + 1 + 1]? = some (.cells #[.int .i64 0, .int .i64 0, .int .i64 0, .int .i64 0] 56 (0, 0))) := ⟨(setRow_other w4 (w.heap.size + 1) (w.heap.size + 1 + 1) _ (by omega)).trans G2.out⟩
  have HB5 := Aside0.mk (below_setRow HB4.out (Nat.le_succ _) #[.complex .f64 c0 d0, .complex .f64 c1 d1, .complex .f64 c2 d2, .complex .f64 c3 d3])
  have HZ5 : Aside0 (w.heap.size + 1 + 1 + 1 ≤ (w4.setRow (w.heap.size + 1) #[.complex .f64 c0 d0, .complex .f64 c1 d1, .complex .f64 c2 d2, .complex .f64 c3 d3]).heap.size) := ⟨Nat.le_trans HZ4.out (by simp [World.setRow])⟩
  generalize w4.setRow (w.heap.size + 1) #[.complex .f64 c0 d0, .complex .f64 c1 d1, .complex .f64 c2 d2, .complex .f64 c3 d3] = w5 at X1 X2 HB5 HZ5 ⊢
  clear hHeld HB4 G1 G2 HZ4
  refine hK.out _ _ ?_
  clear hK K
  refine norm_ (a' := ?_) ?_ ?_
  rotate_left
  · show Act.put _ none _ = _
    simp only [Act.put, List.setIfInBounds_toArray, List.set_cons_zero, List.set_cons_succ, i64_w, i32_w]
    rfl
  refine pure_ (i := 12) (N := (some 6)) (v := ?_) (a' := ?_) #[true, true, true, true, true, true, true, true, true, true, true, true, true] rfl rfl (any_of HT_.out (by kernel_rfl)) (fun _ _ _ h => h) (Or.inl ⟨by rfl, ?_⟩) ?_ ?_
  rotate_left
  · intro w'
    go_simp
    with_reducible rfl
  rotate_left
  · simp only [Act.put, List.setIfInBounds_toArray, List.set_cons_zero, List.set_cons_succ, i64_w, i32_w]
    rfl
  refine done_ (done_of HT_.out (by kernel_rfl)) ?_
  have k0 : w5.cell? ⟨w.heap.size + 1, 0, none⟩ = some (.complex .f64 c0 d0) := (blk_cell X1.out 0).trans rfl
  have k1 : w5.cell? ⟨w.heap.size + 1, 1, none⟩ = some (.complex .f64 c1 d1) := (blk_cell X1.out 1).trans rfl
  have k2 : w5.cell? ⟨w.heap.size + 1, 2, none⟩ = some (.complex .f64 c2 d2) := (blk_cell X1.out 2).trans rfl
  have k3 : w5.cell? ⟨w.heap.size + 1, 3, none⟩ = some (.complex .f64 c3 d3) := (blk_cell X1.out 3).trans rfl
  go_wp2_with fail
  refine (sums_calls [s0, s1, s2, s3] s0 s1 s2 s3 rfl _ _ HZZ.out.1 HZZ.out.2).mono ?_
  rintro e w6 ⟨rfl, hb⟩
  have HB6 := Aside0.mk (below_then HB5.out HB5.out.size hb)
  have Y1 := Aside0.mk (blk_below X1.out hb)
  have Y2 := Aside0.mk (blk_below X2.out hb)
  clear hb k0 k1 k2 k3 X1 X2 HB5 HZ5
  have q0 : w6.cell? ⟨w.heap.size + 1 + 1, 0, none⟩ = some (.int .i64 0) := (blk_cell Y2.out 0).trans rfl
  have q1 : w6.cell? ⟨w.heap.size + 1 + 1, 1, none⟩ = some (.int .i64 0) := (blk_cell Y2.out 1).trans rfl
  have q2 : w6.cell? ⟨w.heap.size + 1 + 1, 2, none⟩ = some (.int .i64 0) := (blk_cell Y2.out 2).trans rfl
  have q3 : w6.cell? ⟨w.heap.size + 1 + 1, 3, none⟩ = some (.int .i64 0) := (blk_cell Y2.out 3).trans rfl
  have f0 := blk_frozen Y2.out 0
  have f1 := blk_frozen Y2.out 1
  have f2 := blk_frozen Y2.out 2
  have f3 := blk_frozen Y2.out 3
  go_wp2_with fail
  clear q0 q1 q2 q3 f0 f1 f2 f3
  go_loopw [29] (fun i wr => ∃ k : Nat, k ≤ 4 ∧ i = .int .i64 k ∧ Aside0 (wr.heap[w.heap.size + 1]? = some (.cells #[.complex .f64 c0 d0, .complex .f64 c1 d1, .complex .f64 c2 d2, .complex .f64 c3 d3] 27 (0, 0))) ∧ Aside0 (HoldsI 56 wr (w.heap.size + 1 + 1) (fun q => if q < k then rd [s0, s1, s2, s3] (q : Int) % 65536 else rd [s0, s1, s2, s3] (q : Int))) ∧ Aside0 (Below w.heap.size w wr)) (fun i _ => 4 - (intOf i).toNat)
  case atStart =>
    refine ⟨0, Nat.zero_le _, rfl, ⟨?_⟩, ⟨s0, s1, s2, s3, ?_, rfl, rfl, rfl, rfl⟩, ⟨?_⟩⟩
    · exact blk_far (blk_far (blk_far (blk_far Y1.out (by simp) _) (by simp) _) (by simp) _) (by simp) _
    · refine blk_put (cs := #[.int .i64 s0, .int .i64 s1, .int .i64 s2, .int .i64 0]) ?_ 3 _ rfl
      refine blk_put (cs := #[.int .i64 s0, .int .i64 s1, .int .i64 0, .int .i64 0]) ?_ 2 _ rfl
      refine blk_put (cs := #[.int .i64 s0, .int .i64 0, .int .i64 0, .int .i64 0]) ?_ 1 _ rfl
      refine blk_put (cs := #[.int .i64 0, .int .i64 0, .int .i64 0, .int .i64 0]) ?_ 0 _ rfl
      exact Y2.out
    · exact below_set' (below_set' (below_set' (below_set' HB6.out (by simp; omega) _) (by simp; omega) _) (by simp; omega) _) (by simp; omega) _
  case round =>
    obtain ⟨k, hk, rfl, HY1, HH, HBL⟩ := hrel
    by_cases hlt : k < 4
    · have hri : (k : Int) < 4 := by omega
      have hri0 : (0 : Int) ≤ (k : Int) := by omega
      obtain ⟨hcl, hfz⟩ := HH.out.cell hlt
      simp only [Nat.lt_irrefl, if_false] at hcl
      obtain ⟨x, hx⟩ : ∃ x, rd [s0, s1, s2, s3] (k : Int) = x := ⟨_, rfl⟩
      rw [hx] at hcl
      have ha := and16 x
      have HX := Aside0.mk hx
      clear hx hk
      go_wp2
      go_roundw
      case rel =>
        refine ⟨k + 1, by omega, by go_num, ⟨blk_far HY1.out (by simp) _⟩, ⟨?_⟩, ⟨below_set' HBL.out (by simp; omega) _⟩⟩
        have hp := HoldsI.put (x' := fun q => if q < k + 1 then rd [s0, s1, s2, s3] (q : Int) % 65536 else rd [s0, s1, s2, s3] (q : Int)) HH.out hlt (by
          intro p hp hne
          by_cases hpk : p < k
          · simp only [if_pos hpk, if_pos (show p < k + 1 by omega)]
          · simp only [if_neg hpk, if_neg (show ¬ p < k + 1 by omega)])
        simp only [if_pos (show k < k + 1 by omega)] at hp
        rw [HX.out] at hp
        exact hp
      case measure => simp [intOf]; omega
    · obtain rfl : k = 4 := by omega
      clear hk hlt
      have hk2 : wr.heap[w.heap.size + 1 + 1]? = some (.cells #[.int .i64 (s0 % 65536), .int .i64 (s1 % 65536), .int .i64 (s2 % 65536), .int .i64 (s3 % 65536)] 56 (0, 0)) := by
        obtain ⟨t0, t1, t2, t3, hb, e0, e1, e2, e3⟩ := HH.out
        have e0 : s0 % 65536 = t0 := e0
        have e1 : s1 % 65536 = t1 := e1
        have e2 : s2 % 65536 = t2 := e2
        have e3 : s3 % 65536 = t3 := e3
        rw [hb, e0, e1, e2, e3]
      have HK2 := Aside0.mk hk2
      clear hk2 HH
      obtain ⟨t0, ht0⟩ : ∃ t0, s0 % 65536 = t0 := ⟨_, rfl⟩
      obtain ⟨t1, ht1⟩ : ∃ t1, s1 % 65536 = t1 := ⟨_, rfl⟩
      obtain ⟨t2, ht2⟩ : ∃ t2, s2 % 65536 = t2 := ⟨_, rfl⟩
      obtain ⟨t3, ht3⟩ : ∃ t3, s3 % 65536 = t3 := ⟨_, rfl⟩
      rw [ht0, ht1, ht2, ht3] at HK2
      have HT := Aside0.mk (And.intro ht0 (And.intro ht1 (And.intro ht2 ht3)))
      clear ht0 ht1 ht2 ht3
      have k0 : wr.cell? ⟨w.heap.size + 1, 0, none⟩ = some (.complex .f64 c0 d0) := (blk_cell HY1.out 0).trans rfl
      have k1 : wr.cell? ⟨w.heap.size + 1, 1, none⟩ = some (.complex .f64 c1 d1) := (blk_cell HY1.out 1).trans rfl
      have k2 : wr.cell? ⟨w.heap.size + 1, 2, none⟩ = some (.complex .f64 c2 d2) := (blk_cell HY1.out 2).trans rfl
      have k3 : wr.cell? ⟨w.heap.size + 1, 3, none⟩ = some (.complex .f64 c3 d3) := (blk_cell HY1.out 3).trans rfl
      have g0 := blk_frozen HY1.out 0
      have g1 := blk_frozen HY1.out 1
      have g2 := blk_frozen HY1.out 2
      have g3 := blk_frozen HY1.out 3
      have q0 : wr.cell? ⟨w.heap.size + 1 + 1, 0, none⟩ = some (.int .i64 t0) := (blk_cell HK2.out 0).trans rfl
      have q1 : wr.cell? ⟨w.heap.size + 1 + 1, 1, none⟩ = some (.int .i64 t1) := (blk_cell HK2.out 1).trans rfl
      have q2 : wr.cell? ⟨w.heap.size + 1 + 1, 2, none⟩ = some (.int .i64 t2) := (blk_cell HK2.out 2).trans rfl
      have q3 : wr.cell? ⟨w.heap.size + 1 + 1, 3, none⟩ = some (.int .i64 t3) := (blk_cell HK2.out 3).trans rfl
      have f0 := blk_frozen HK2.out 0
      have f1 := blk_frozen HK2.out 1
      have f2 := blk_frozen HK2.out 2
      have f3 := blk_frozen HK2.out 3
      go_wp2_with fail
      clear k0 k1 k2 k3 g0 g1 g2 g3 q0 q1 q2 q3 f0 f1 f2 f3
      refine start_ (n := 5) (S := (fun w' => w'.heap[w.heap.size + 1]? = some (.cells #[.complex .f64 c0 d0, .complex .f64 c1 d1, .complex .f64 c2 d2, .complex .f64 c3 d3] 27 (0, 0)) ∧ w'.heap[w.heap.size + 1 + 1]? = some (.cells #[.int .i64 t0, .int .i64 t1, .int .i64 t2, .int .i64 t3] 56 (0, 0)))) (ds := [3]) #[false, false, false, false, false] (by kernel_rfl) rfl rfl ⟨blk_drew HY1.out, blk_drew HK2.out⟩ (fun hHeld => ?_); refine with_tabW sealR.tab10 sealR.bits10 (fun HT_ HW_ => ?_)
      have HBD := Aside0.mk (below_drew HBL.out)
      clear HY1 HK2 HBL
      generalize wr.drew = wd at HBD hHeld ⊢
      refine take_ (i := 0) (N := (some 38)) (v := ?_) (a' := ?_) #[true, false, false, false, false] rfl rfl (take_ofW HT_.out HW_.out (by kernel_rfl)) (fun _ _ _ h => h) (Or.inl ⟨by rfl, ?_⟩) hHeld ?_ ?_
      rotate_left
      · rintro w' ⟨hba, hbb⟩
        have k0 : w'.cell? ⟨w.heap.size + 1, 0, none⟩ = some (.complex .f64 c0 d0) := (blk_cell hba 0).trans rfl
        have k1 : w'.cell? ⟨w.heap.size + 1, 1, none⟩ = some (.complex .f64 c1 d1) := (blk_cell hba 1).trans rfl
        have k2 : w'.cell? ⟨w.heap.size + 1, 2, none⟩ = some (.complex .f64 c2 d2) := (blk_cell hba 2).trans rfl
        have k3 : w'.cell? ⟨w.heap.size + 1, 3, none⟩ = some (.complex .f64 c3 d3) := (blk_cell hba 3).trans rfl
        clear hba hbb
        go_simp
        with_reducible rfl
      rotate_left
      · simp only [Act.put, List.setIfInBounds_toArray, List.set_cons_zero, List.set_cons_succ, i64_w, i32_w]
        rfl
      refine take_ (i := 1) (N := (some 39)) (v := ?_) (a' := ?_) #[true, true, false, false, false] rfl rfl (take_ofW HT_.out HW_.out (by kernel_rfl)) (fun _ _ _ h => h) (Or.inl ⟨by rfl, ?_⟩) hHeld ?_ ?_
      rotate_left
      · rintro w' ⟨hba, hbb⟩
        have k0 : w'.cell? ⟨w.heap.size + 1 + 1, 0, none⟩ = some (.int .i64 t0) := (blk_cell hbb 0).trans rfl
        have k1 : w'.cell? ⟨w.heap.size + 1 + 1, 1, none⟩ = some (.int .i64 t1) := (blk_cell hbb 1).trans rfl
        have k2 : w'.cell? ⟨w.heap.size + 1 + 1, 2, none⟩ = some (.int .i64 t2) := (blk_cell hbb 2).trans rfl
        have k3 : w'.cell? ⟨w.heap.size + 1 + 1, 3, none⟩ = some (.int .i64 t3) := (blk_cell hbb 3).trans rfl
        clear hba hbb
        go_simp
        with_reducible rfl
      rotate_left
      · simp only [Act.put, List.setIfInBounds_toArray, List.set_cons_zero, List.set_cons_succ, i64_w, i32_w]
        rfl
      refine one_ (i := 2) (N := none) #[true, true, true, false, false] rfl rfl (one_of HT_.out (by kernel_rfl)) (by decide) (fun K hK => ?_)
      rw [if_pos (by rfl)]
      refine wp_store_row 27 (.tmp 4) (.tmp 38) (by rfl) (w.heap.size + 1) #[.complex .f64 c0 d0, .complex .f64 c1 d1, .complex .f64 c2 d2, .complex .f64 c3 d3] (by rfl) (by rfl) 27 #[.complex .f64 c0 d0, .complex .f64 c1 d1, .complex .f64 c2 d2, .complex .f64 c3 d3] hHeld.1 info4c (by rfl) (cells_one _ _ _ _ _ _ _ _) ?_
      have hn : (wd.setRow (w.heap.size + 1) #[.complex .f64 c0 d0, .complex .f64 c1 d1, .complex .f64 c2 d2, .complex .f64 c3 d3]).heap[w.heap.size + 1]? = _ := setRow_heap wd (w.heap.size + 1) #[.complex .f64 c0 d0, .complex .f64 c1 d1, .complex .f64 c2 d2, .complex .f64 c3 d3] #[.complex .f64 c0 d0, .complex .f64 c1 d1, .complex .f64 c2 d2, .complex .f64 c3 d3] 27 (0, 0) hHeld.1
      have ho : (wd.setRow (w.heap.size + 1) #[.complex .f64 c0 d0, .complex .f64 c1 d1, .complex .f64 c2 d2, .complex .f64 c3 d3]).heap[w.heap.size + 1 + 1]? = _ := (setRow_other wd (w.heap.size + 1) (w.heap.size + 1 + 1) _ (by omega)).trans hHeld.2
      have HBwe := Aside0.mk (below_setRow (g := w.heap.size + 1) HBD.out (by omega) #[.complex .f64 c0 d0, .complex .f64 c1 d1, .complex .f64 c2 d2, .complex .f64 c3 d3])
      have hst := And.intro hn ho
      generalize wd.setRow (w.heap.size + 1) #[.complex .f64 c0 d0, .complex .f64 c1 d1, .complex .f64 c2 d2, .complex .f64 c3 d3] = we at hst HBwe ⊢
      clear hn ho hHeld HBD
      refine hK.out _ _ hst (fun hHeld => ?_)
      clear hK K
      refine norm_ (a' := ?_) ?_ ?_
      rotate_left
      · show Act.put _ none _ = _
        simp only [Act.put, List.setIfInBounds_toArray, List.set_cons_zero, List.set_cons_succ, i64_w, i32_w]
        rfl
      clear hst
      refine last_ (i := 3) (N := none) #[true, true, true, true, false] rfl rfl (one_of HT_.out (by kernel_rfl)) (by decide) (fun K hK => ?_)
      rw [if_pos (by rfl)]
      refine wp_store_row 56 (.tmp 5) (.tmp 39) (by rfl) (w.heap.size + 1 + 1) #[.int .i64 t0, .int .i64 t1, .int .i64 t2, .int .i64 t3] (by rfl) (by rfl) 56 #[.int .i64 t0, .int .i64 t1, .int .i64 t2, .int .i64 t3] hHeld.2 info4i (by rfl) (ints_one _ _ _ _) ?_
      have hn : (we.setRow (w.heap.size + 1 + 1) #[.int .i64 t0, .int .i64 t1, .int .i64 t2, .int .i64 t3]).heap[w.heap.size + 1 + 1]? = _ := setRow_heap we (w.heap.size + 1 + 1) #[.int .i64 t0, .int .i64 t1, .int .i64 t2, .int .i64 t3] #[.int .i64 t0, .int .i64 t1, .int .i64 t2, .int .i64 t3] 56 (0, 0) hHeld.2
      have ho : (we.setRow (w.heap.size + 1 + 1) #[.int .i64 t0, .int .i64 t1, .int .i64 t2, .int .i64 t3]).heap[w.heap.size + 1]? = _ := (setRow_other we (w.heap.size + 1 + 1) (w.heap.size + 1) _ (by omega)).trans hHeld.1
      have HBwf := Aside0.mk (below_setRow (g := w.heap.size + 1 + 1) HBwe.out (by omega) #[.int .i64 t0, .int .i64 t1, .int .i64 t2, .int .i64 t3])
      have hst := And.intro ho hn
      generalize we.setRow (w.heap.size + 1 + 1) #[.int .i64 t0, .int .i64 t1, .int .i64 t2, .int .i64 t3] = wf at hst HBwf ⊢
      clear hn ho hHeld HBwe
      refine hK.out _ _ ?_
      clear hK K
      refine norm_ (a' := ?_) ?_ ?_
      rotate_left
      · show Act.put _ none _ = _
        simp only [Act.put, List.setIfInBounds_toArray, List.set_cons_zero, List.set_cons_succ, i64_w, i32_w]
        rfl
      refine pure_ (i := 4) (N := (some 6)) (v := ?_) (a' := ?_) #[true, true, true, true, true] rfl rfl (any_of HT_.out (by kernel_rfl)) (fun _ _ _ h => h) (Or.inl ⟨by rfl, ?_⟩) ?_ ?_
      rotate_left
      · intro w'
        go_simp
        with_reducible rfl
      rotate_left
      · simp only [Act.put, List.setIfInBounds_toArray, List.set_cons_zero, List.set_cons_succ, i64_w, i32_w]
        rfl
      refine done_ (done_of HT_.out (by kernel_rfl)) ?_
      go_wp2_with fail
      refine bodyPost_ret (results_cct (fn := Try.f21) rfl _ _ (w.heap.size + 1) (w.heap.size + 1 + 1) 27 56 #[.complex .f64 c0 d0, .complex .f64 c1 d1, .complex .f64 c2 d2, .complex .f64 c3 d3] #[.int .i64 t0, .int .i64 t1, .int .i64 t2, .int .i64 t3] (0, 0) (0, 0) _ _ rfl hst.1 Try.underlying27 rfl (by kernel_rfl) rfl hst.2 Try.underlying56 rfl (by kernel_rfl)) rfl ?_
      obtain ⟨e0, e1, e2, e3⟩ := HT.out
      rw [← e0, ← e1, ← e2, ← e3]
      exact ⟨_, _, _, _, _, _, _, _, _, _, _, _, HL4.out, HZZ.out, rfl, HBwf.out⟩
end Go.Proofs.Ytacecaacpagokaa.Swap

namespace Go.Proofs.Ytacecaacpagokaa.Swap
open Go.RowKit Go.Proofs.Ytacecaacpagokaa.PSwapGoes Go.Proofs.Ytacecaacpagokaa.Plain Go.Proofs.Ytacecaacpagokaa.Pure Go.Proofs.Ytacecaacpagokaa.Codec Go.Proofs.Ytacecaacpagokaa.Turn Go.Proofs.Ytacecaacpagokaa.PlainFloat Go.Proofs.YtacecaacpagokaaW.PrintWords Go.Proofs.YtacecaacpagokaaW.PrintLast Go.Proofs.YtacecaacpagokaaW.PrintMore
set_option linter.unusedVariables false
set_option linter.unusedSimpArgs false
/-- Where a swap file ends, and what stands ahead of that. -/
structure Tl where
  a : Int
  q : Int
  b : Int
  S : List Int
/-- The beginning. -/
def Tl0 : Tl := ⟨0, 0, 0, [0, 0, 0, 0]⟩
/-- The beginning of the block behind a place. -/
def nx (a block : Int) : Int := a - a % block + block
/-- The four sums behind a text. -/
def sealOf (t : Tl) (x : List Int) : List Int := plus t.S (rot t.b (four x))
def Small4 (l : List Int) : Prop := ∀ x ∈ l, x ≤ 1099511627776
instance (l : List Int) : Decidable (Small4 l) := by unfold Small4; infer_instance
/-- A record's four numbers of a seal. -/
def sealNums (p : List Int) : List Int := [le (field_part.seg p 16 2), le (field_part.seg p 18 2), le (field_part.seg p 20 2), le (field_part.seg p 22 2)]
/-- The frame that is read at a place, within its block. -/
def fr_ (b : List Int) (block at_ : Int) : List Int × Int × Int := unf (b.take (min (b.length : Int) (nx at_ block)).toNat) at_
/-- What was read, as an edit. -/
def edOf (p : List Int) : S46 := ⟨le (field_part.seg p 8 4), le (field_part.seg p 12 4), strOfNums (p.drop 24)⟩
def tlOf (t : Tl) (p : List Int) (e : Int) : Tl := ⟨e, t.q + 1, t.b + ((p.drop 24).length : Int), sealOf t (p.drop 24)⟩
/-- The record at a place, if it is one that follows. -/
def tryAt (b : List Int) (block base : Int) (t : Tl) (at_ : Int) : Option (S46 × Tl) :=
  if (b.length : Int) ≤ at_ then none
  else if (fr_ b block at_).2.2 ≠ 0 ∨ (fr_ b block at_).1.length < 24 then none
  else if le (field_part.seg (fr_ b block at_).1 0 4) ≠ base ∨ le (field_part.seg (fr_ b block at_).1 4 4) ≠ t.q + 1 then none
  else if ¬ Small4 (sealOf t ((fr_ b block at_).1.drop 24)) then none
  else if (sealOf t ((fr_ b block at_).1.drop 24)).map (· % 65536) ≠ sealNums (fr_ b block at_).1 then none
  else some (edOf (fr_ b block at_).1, tlOf t (fr_ b block at_).1 (fr_ b block at_).2.1)
/-- The record that follows: at the end, or at the next block's beginning. -/
def stepOf (b : List Int) (block base : Int) (t : Tl) : Option (S46 × Tl) :=
  match tryAt b block base t t.a with
  | some r => some r
  | none => if t.a % block ≠ 0 then tryAt b block base t (nx t.a block) else none
/-- The edits that follow, and the end behind them. -/
inductive Scans (b : List Int) (block base : Int) : Tl → List S46 → Tl → Prop
  | stop {t : Tl} : stepOf b block base t = none → Scans b block base t [] t
  | more {t t' u : Tl} {e : S46} {l : List S46} : stepOf b block base t = some (e, t') → Scans b block base t' l u → Scans b block base t (e :: l) u
theorem Scans.uniq {b : List Int} {block base : Int} {t u u' : Tl} {l l' : List S46} (h : Scans b block base t l u) (k : Scans b block base t l' u') : l = l' ∧ u = u' := by
  induction h generalizing l' u' with
  | stop h1 =>
    cases k with
    | stop _ => exact ⟨rfl, rfl⟩
    | more k1 _ => rw [h1] at k1; cases k1
  | more h1 h2 ih =>
    cases k with
    | stop k1 => rw [h1] at k1; cases k1
    | more k1 k2 =>
      rw [h1] at k1
      obtain ⟨rfl, rfl⟩ := Prod.mk.inj (Option.some.inj k1)
      obtain ⟨rfl, rfl⟩ := ih k2
      exact ⟨rfl, rfl⟩
/-- What holds of every end that is reached. -/
structure TlOk (b : List Int) (t : Tl) : Prop where
  a0 : 0 ≤ t.a
  a1 : t.a ≤ (b.length : Int)
  q0 : 0 ≤ t.q
  q1 : t.q ≤ 4294967295
  b0 : 0 ≤ t.b
  b1 : t.b ≤ t.a
  S : Sums4 t.S
  S2 : ∀ x ∈ t.S, x ≤ 255 * t.b
theorem tl0_ok (b : List Int) : TlOk b Tl0 := ⟨by decide, by show (0 : Int) ≤ _; omega, by decide, by decide, by decide, by decide, sums4_of ⟨by decide, by decide⟩ ⟨by decide, by decide⟩ ⟨by decide, by decide⟩ ⟨by decide, by decide⟩, by decide⟩
theorem unf_ok {l : List Int} (hl : Bytes l) {a : Int} (h : (unf l a).2.2 = 0) : 0 ≤ a ∧ (unf l a).2.1 = a + ((unf l a).1.length : Int) + 6 ∧ (unf l a).2.1 ≤ (l.length : Int) ∧ Bytes (unf l a).1 ∧ (unf l a).1.length ≤ 65535 := by
  refine ⟨?_, ?_⟩
  · unfold unf at h
    split at h
    · cases h
    · omega
  · have hb := (unf_bytes hl a).1
    refine ⟨?_, ?_, hb, ?_⟩ <;>
    · unfold unf at h ⊢
      split at h
      · cases h
      · rename_i h1
        rw [if_neg h1]
        split at h
        · cases h
        · rename_i h2
          rw [if_neg h2]
          split at h
          · rename_i h3
            rw [if_pos h3]
            have hr := le2_range (l := l.drop a.toNat) (hl.drop _) (a := 0) (by unfold field_part.Inside; omega)
            generalize hn : le (field_part.seg (l.drop a.toNat) 0 2) = n at h2 hr ⊢
            have hd : (l.drop a.toNat).length = l.length - a.toNat := List.length_drop
            simp only [List.length_drop, List.length_take] at h2 hd ⊢
            omega
          · cases h
theorem nx_pos {a block : Int} (h : 0 < block) : a < nx a block ∧ nx a block ≤ a + block := by
  unfold nx
  have := Int.emod_nonneg a (show block ≠ 0 by omega)
  have := Int.emod_lt_of_pos a h
  omega
theorem bytes_take {l : List Int} (h : Bytes l) (n : Nat) : Bytes (l.take n) := h.take n
theorem drop_text (p : List Int) (h : 24 ≤ p.length) : ((p.drop 24).length : Int) = (p.length : Int) - 24 := by rw [List.length_drop]; omega
theorem plus_length {S T : List Int} (h : S.length = 4) (k : T.length = 4) : (plus S T).length = 4 := by
  obtain ⟨a, b, c, d, rfl⟩ := list4 h
  obtain ⟨e, f, g, i, rfl⟩ := list4 k
  rfl
theorem sums4_iff {S T : List Int} (hS : Sums4 S) (hT : Sums4 T) : Sums4 (plus S T) ↔ Small4 (plus S T) := by
  obtain ⟨a, b, c, d, rfl⟩ := list4 hS.1
  obtain ⟨e, f, g, i, rfl⟩ := list4 hT.1
  obtain ⟨a0, b0, c0, d0⟩ := sums4_parts hS
  obtain ⟨e0, f0, g0, i0⟩ := sums4_parts hT
  show Sums4 [a + e, b + f, c + g, d + i] ↔ ∀ x ∈ [a + e, b + f, c + g, d + i], x ≤ 1099511627776
  unfold Turn.Sum at *
  constructor
  · intro h
    obtain ⟨h0, h1, h2, h3⟩ := sums4_parts h
    unfold Turn.Sum at h0 h1 h2 h3
    intro x hx
    simp only [List.mem_cons, List.not_mem_nil, or_false] at hx
    rcases hx with rfl | rfl | rfl | rfl <;> omega
  · intro h
    have h0 := h (a + e) (by simp)
    have h1 := h (b + f) (by simp)
    have h2 := h (c + g) (by simp)
    have h3 := h (d + i) (by simp)
    exact sums4_of ⟨by omega, h0⟩ ⟨by omega, h1⟩ ⟨by omega, h2⟩ ⟨by omega, h3⟩
theorem bytes_bl {l : List Int} (h : Bytes l) : ByteList l := by
  intro i
  unfold rd
  rw [List.getD_eq_getElem?_getD]
  cases hq : l[i.toNat]? with
  | none => exact ⟨by decide, by decide⟩
  | some x => have := h x (List.mem_of_getElem? hq); exact ⟨by simp; omega, by simp; omega⟩
theorem four_ok {x : List Int} (h : Bytes x) (hl : x.length ≤ 4194304) : Sums4 (four x) := four_sums (bytes_bl h) hl
theorem four_le {x : List Int} (h : Bytes x) : ∀ y ∈ four x, y ≤ 255 * (x.length : Int) := by
  have hr := fun r => (sm_range (bytes_bl h) r x.length).2
  intro y hy
  unfold four at hy
  simp only [List.mem_cons, List.not_mem_nil, or_false] at hy
  rcases hy with rfl | rfl | rfl | rfl <;> exact hr _
theorem rot_le {l : List Int} (hl : l.length = 4) {m n : Int} (h : ∀ y ∈ l, y ≤ m) : ∀ y ∈ rot n l, y ≤ m := by
  obtain ⟨a, b, c, d, rfl⟩ := list4 hl
  have h0 := h a (by simp)
  have h1 := h b (by simp)
  have h2 := h c (by simp)
  have h3 := h d (by simp)
  intro y hy
  have hy : y ∈ (if n % 4 = 0 then [a, b, c, d] else if n % 4 = 1 then [d, a, b, c] else if n % 4 = 2 then [c, d, a, b] else [b, c, d, a]) := hy
  split at hy
  · simp only [List.mem_cons, List.not_mem_nil, or_false] at hy
    rcases hy with rfl | rfl | rfl | rfl <;> assumption
  · split at hy
    · simp only [List.mem_cons, List.not_mem_nil, or_false] at hy
      rcases hy with rfl | rfl | rfl | rfl <;> assumption
    · split at hy
      · simp only [List.mem_cons, List.not_mem_nil, or_false] at hy
        rcases hy with rfl | rfl | rfl | rfl <;> assumption
      · simp only [List.mem_cons, List.not_mem_nil, or_false] at hy
        rcases hy with rfl | rfl | rfl | rfl <;> assumption
theorem plus_le {S T : List Int} (h : S.length = 4) (k : T.length = 4) {m n : Int} (h1 : ∀ y ∈ S, y ≤ m) (h2 : ∀ y ∈ T, y ≤ n) : ∀ y ∈ plus S T, y ≤ m + n := by
  obtain ⟨a, b, c, d, rfl⟩ := list4 h
  obtain ⟨e, f, g, i, rfl⟩ := list4 k
  have a1 := h1 a (by simp)
  have b1 := h1 b (by simp)
  have c1 := h1 c (by simp)
  have d1 := h1 d (by simp)
  have e1 := h2 e (by simp)
  have f1 := h2 f (by simp)
  have g1 := h2 g (by simp)
  have i1 := h2 i (by simp)
  intro y hy
  have hy : y ∈ [a + e, b + f, c + g, d + i] := hy
  simp only [List.mem_cons, List.not_mem_nil, or_false] at hy
  rcases hy with rfl | rfl | rfl | rfl <;> omega
theorem seal_le {t : Tl} (h4 : t.S.length = 4) (h : ∀ x ∈ t.S, x ≤ 255 * t.b) {x : List Int} (hx : Bytes x) : ∀ y ∈ sealOf t x, y ≤ 255 * (t.b + (x.length : Int)) := by
  intro y hy
  have := plus_le h4 (rot_length (l := four x) rfl t.b) h (rot_le (l := four x) rfl (four_le hx)) y hy
  omega
/-- The two ways of a place: none, or a record that follows. -/
theorem try_some {b : List Int} (hb : Bytes b) {block base : Int} (hk : 0 < block) {t : Tl} (ht : TlOk b t) {at_ : Int} (hat : t.a ≤ at_) {e : S46} {t' : Tl} (h : tryAt b block base t at_ = some (e, t')) :
    TlOk b t' ∧ at_ + 30 ≤ t'.a ∧ t'.q = t.q + 1 ∧ t'.a - t'.b ≥ t.a - t.b := by
  unfold tryAt at h
  split at h
  · cases h
  rename_i h0
  split at h
  · cases h
  rename_i h1
  split at h
  · cases h
  rename_i h2
  split at h
  · cases h
  rename_i h3
  split at h
  · cases h
  rename_i h4
  have h := Option.some.inj h
  obtain ⟨_, rfl⟩ := Prod.mk.inj h
  have hf0 : (fr_ b block at_).2.2 = 0 := Classical.byContradiction fun q => h1 (.inl q)
  have hf1 : 24 ≤ (fr_ b block at_).1.length := by
    rcases Nat.lt_or_ge (fr_ b block at_).1.length 24 with q | q
    · exact absurd (.inr q) h1
    · exact q
  obtain ⟨g0, g1, g2, g3, g4⟩ := unf_ok (l := b.take (min (b.length : Int) (nx at_ block)).toNat) (bytes_take hb _) hf0
  have hu : unf (b.take (min (b.length : Int) (nx at_ block)).toNat) at_ = fr_ b block at_ := rfl
  rw [hu] at g1 g2 g3 g4
  have hlt : (b.take (min (b.length : Int) (nx at_ block)).toNat).length ≤ b.length := by rw [List.length_take]; exact Nat.min_le_right _ _
  have hd := drop_text _ hf1
  have hq1 := le_range (l := field_part.seg (fr_ b block at_).1 4 4) (seg_bytes g3 4 4)
  have hsl := seg_length (l := (fr_ b block at_).1) (a := 4) (n := 4) (by unfold field_part.Inside; omega)
  rw [hsl] at hq1
  have hq2 : le (field_part.seg (fr_ b block at_).1 4 4) = t.q + 1 := Classical.byContradiction fun q => h2 (.inr q)
  have hq3 : (256 : Int) ^ (4 : Int).toNat = 4294967296 := by decide
  rw [hq3, hq2] at hq1
  have a0 := ht.a0
  have q0 := ht.q0
  have b0 := ht.b0
  have b1 := ht.b1
  have hS : Sums4 (sealOf t ((fr_ b block at_).1.drop 24)) := (sums4_iff ht.S (rot_sums (four_ok (g3.drop 24) (by rw [List.length_drop]; omega)) _)).2 (Classical.not_not.1 h3)
  unfold tlOf
  have hS2 := seal_le ht.S.1 ht.S2 (g3.drop 24)
  refine ⟨⟨?_, ?_, ?_, ?_, ?_, ?_, hS, hS2⟩, ?_, rfl, ?_⟩ <;> simp only <;> omega
theorem bytes_str {l : List Int} (h : Bytes l) : bytesOf (strOfNums l) = l := by
  unfold bytesOf strOfNums
  rw [List.map_map]
  conv => rhs; rw [← List.map_id l]
  refine List.map_congr_left fun x hx => ?_
  have := h x hx
  simp
  omega
theorem str_size (l : List Int) : (strOfNums l).size = l.length := by
  unfold strOfNums
  show (l.map _).toArray.size = _
  simp
end Go.Proofs.Ytacecaacpagokaa.Swap

namespace Go.Proofs.Ytacecaacpagokaa.Swap
open Go.RowKit Go.Proofs.Ytacecaacpagokaa.PSwapGoes Go.Proofs.Ytacecaacpagokaa.Plain Go.Proofs.Ytacecaacpagokaa.Pure Go.Proofs.Ytacecaacpagokaa.Codec Go.Proofs.Ytacecaacpagokaa.Turn Go.Proofs.Ytacecaacpagokaa.PlainFloat Go.Proofs.YtacecaacpagokaaW.PrintWords Go.Proofs.YtacecaacpagokaaW.PrintLast Go.Proofs.YtacecaacpagokaaW.PrintMore
set_option linter.unusedVariables false
set_option linter.unusedSimpArgs false
/-- As Q; by a goto to a label: J. -/
def jumps (J : Nat → Act → World → Prop) (Q : Exit → Act → World → Prop) : Exit → Act → World → Prop
  | .goto l, a, w => J l a w
  | e, a, w => Q e a w
section
variable {P : Program} {a : Act} {w : World} {Q : Exit → Act → World → Prop}
theorem wp_more {c : Code} {Q' : Exit → Act → World → Prop} (h : ∀ e a w, Q e a w → Q' e a w) (hw : c.wp P Q a w) : c.wp P Q' a w := by
  intro b k cs
  obtain ⟨e, a₁, w₁, hq, harr⟩ := hw b k cs
  exact ⟨e, a₁, w₁, h _ _ _ hq, harr⟩
theorem jumps_more {J J' : Nat → Act → World → Prop} (h : ∀ l a w, J l a w → J' l a w) : ∀ e a w, jumps J Q e a w → jumps J' Q e a w := by
  intro e a w hq
  cases e <;> first | exact h _ _ _ hq | exact hq
theorem wp_skipped {c : Code} (h : c.wp P Q a w) : (Code.seq .skip c).wp P Q a w := wp_seq (wp_skip h)
theorem wp_scope_many {c : Code} (J : Nat → Nat → Act → World → Prop)
    (first : (∀ n l rest a' w', findLabel c l = some (.seq .skip rest) → J n l a' w' → rest.wp P (jumps (fun l' a' w' => ∃ m, J m l' a' w') Q) a' w') → c.wp P (jumps (fun l a' w' => ∃ n, J n l a' w') Q) a w)
    (pass : ∀ n l a w, (∀ m l' rest a' w', m < n → findLabel c l' = some (.seq .skip rest) → J m l' a' w' → rest.wp P (jumps (fun l' a' w' => ∃ m, m < n ∧ J m l' a' w') Q) a' w') → J n l a w → ∃ rest, findLabel c l = some (.seq .skip rest) ∧ rest.wp P (jumps (fun l' a' w' => ∃ m, m < n ∧ J m l' a' w') Q) a w) : (Code.scope c).wp P Q a w := by
  have all : ∀ n l a w, J n l a w → ∃ rest, findLabel c l = some (.seq .skip rest) ∧ rest.wp P (jumps (fun l' a' w' => ∃ m, m < n ∧ J m l' a' w') Q) a w := by
    intro n
    induction n using Nat.strongRecOn with
    | _ n ih =>
      intro l a w hJ
      refine pass n l a w (fun m l' rest a' w' hm hf hJ' => ?_) hJ
      obtain ⟨rest', hf', hw'⟩ := ih m hm l' a' w' hJ'
      obtain rfl : rest = rest' := (Code.seq.inj (Option.some.inj (hf.symm.trans hf'))).2
      exact wp_more (jumps_more fun l a w ⟨k, hk, h⟩ => ⟨k, Nat.lt_trans hk hm, h⟩) hw'
  intro b k cs
  have key : ∀ n l a w, J n l a w → ∃ rest, findLabel c l = some rest ∧ ∃ e a' w', Q e a' w' ∧ Arrives P (lone (b.at a (.code rest :: .inScope c :: k)) cs w) b k cs e a' w' := by
    intro n
    induction n using Nat.strongRecOn with
    | _ n ih =>
      intro l a w hJ
      obtain ⟨rest0, hf, hw0⟩ := all n l a w hJ
      have hw := wp_skipped hw0
      obtain ⟨rest, hrest⟩ : ∃ r, Code.seq .skip rest0 = r := ⟨_, rfl⟩
      rw [hrest] at hw hf
      refine ⟨rest, hf, ?_⟩
      obtain ⟨e, a₁, w₁, hq, harr⟩ := hw b (.inScope c :: k) cs
      cases e with
      | normal => exact ⟨.normal, a₁, w₁, hq, Steps.trans harr (.one step_inScope)⟩
      | exit id => exact ⟨.exit id, a₁, w₁, hq, fun k' hk => harr k' (by simp [exitTo, hk])⟩
      | goto l' =>
        obtain ⟨m, hm, hJ'⟩ := hq
        obtain ⟨rest', hf', e₂, a₂, w₂, hq₂, harr₂⟩ := ih m hm l' a₁ w₁ hJ'
        have hg : gotoIn l' (.inScope c :: k) = some (.code rest' :: .inScope c :: k) := by simp [gotoIn, hf']
        exact ⟨e₂, a₂, w₂, hq₂, .of_steps (harr _ hg) harr₂⟩
      | ret => exact ⟨_, a₁, w₁, hq, harr⟩
      | panic ch => exact ⟨_, a₁, w₁, hq, harr⟩
      | outgrown => exact ⟨_, a₁, w₁, hq, harr⟩
  have GO : ∀ n l rest a' w', findLabel c l = some (.seq .skip rest) → J n l a' w' → rest.wp P (jumps (fun l' a' w' => ∃ m, J m l' a' w') Q) a' w' := by
    intro n l rest a' w' hf hJ
    obtain ⟨rest', hf', hw'⟩ := all n l a' w' hJ
    obtain rfl : rest = rest' := (Code.seq.inj (Option.some.inj (hf.symm.trans hf'))).2
    exact wp_more (jumps_more fun l a w ⟨k, _, h⟩ => ⟨k, h⟩) hw'
  obtain ⟨e, a₁, w₁, hq, harr⟩ := first GO b (.inScope c :: k) cs
  cases e with
  | normal => exact ⟨.normal, a₁, w₁, hq, .head step_scope (Steps.trans harr (.one step_inScope))⟩
  | exit id => exact ⟨.exit id, a₁, w₁, hq, fun k' hk => .head step_scope (harr k' (by simp [exitTo, hk]))⟩
  | goto l' =>
    obtain ⟨n, hJ'⟩ := hq
    obtain ⟨rest', hf', e₂, a₂, w₂, hq₂, harr₂⟩ := key n l' a₁ w₁ hJ'
    have hg : gotoIn l' (.inScope c :: k) = some (.code rest' :: .inScope c :: k) := by simp [gotoIn, hf']
    exact ⟨e₂, a₂, w₂, hq₂, .of_steps (.head step_scope (harr _ hg)) harr₂⟩
  | ret => exact ⟨_, a₁, w₁, hq, .of_steps (.one step_scope) harr⟩
  | panic ch => exact ⟨_, a₁, w₁, hq, .of_steps (.one step_scope) harr⟩
  | outgrown => exact ⟨_, a₁, w₁, hq, .of_steps (.one step_scope) harr⟩
end
theorem icell_eq (d : Nat) (W : World) (a b : Int) : (Op.equalIn (d + 1) 3 (.int .i64 a) (.int .i64 b)).run Try.prog W = .ok (a == b) W := by
  have h := Try.underlying3
  simp [Op.equalIn, run_underlying h]
theorem icell_eq9 (W : World) (a b : Int) : (Op.equalIn 9999 3 (.int .i64 a) (.int .i64 b)).run Try.prog W = .ok (a == b) W := icell_eq 9998 W a b
set_option maxRecDepth 100000 in
theorem ints_eq (W : World) (a0 a1 a2 a3 c0 c1 c2 c3 : Int) :
    (binOp .eql 56 (.agg #[.int .i64 a0, .int .i64 a1, .int .i64 a2, .int .i64 a3]) (.agg #[.int .i64 c0, .int .i64 c1, .int .i64 c2, .int .i64 c3])).run Try.prog W = .ok (.bool ((a0 == c0) && ((a1 == c1) && ((a2 == c2) && (a3 == c3))))) W := by
  have hu : Try.prog.underlying 56 = some (.array 4 3) := by kernel_rfl
  have hi : Try.prog.info? 3 = some (Try.prog.types[3]!) := by kernel_rfl
  have hc : Try.prog.cellsOf 3 = 1 := by kernel_rfl
  have he := run_equalIn_array (P := Try.prog) (w := W) 9999 #[.int .i64 a0, .int .i64 a1, .int .i64 a2, .int .i64 a3] #[.int .i64 c0, .int .i64 c1, .int .i64 c2, .int .i64 c3] hu hi
  rw [hc] at he
  simp only [binOp, Op.equal, Sem.run_bind]
  rw [show Op.maxDepth = 9999 + 1 from rfl, he]
  simp only [List.range, List.range.loop, Op.eqItems, Sem.run_bind]
  simp [part, sizeOf, typeInfo]
  simp only [icell_eq9, Result.andThen_ok]
  generalize (a0 == c0) = p0
  generalize (a1 == c1) = p1
  generalize (a2 == c2) = p2
  generalize (a3 == c3) = p3
  cases p0
  · rfl
  cases p1
  · rfl
  cases p2
  · rfl
  cases p3 <;> rfl
theorem ints_guard (x y : Operand) (xs ys : Array Value) (W : World) : (eqGuard .neq 56 x y (.agg xs) (.agg ys)).run Try.prog W = .ok () W := by kernel_rfl
set_option maxRecDepth 100000 in
theorem ints_neq' (W : World) (xs ys : Array Value) {b : Bool} (h : (binOp .eql 56 (.agg xs) (.agg ys)).run Try.prog W = .ok (.bool b) W) : (binOp .neq 56 (.agg xs) (.agg ys)).run Try.prog W = .ok (.bool (!b)) W := by
  simp only [binOp, Sem.run_bind] at h ⊢
  cases hr : (Op.equal 56 (.agg xs) (.agg ys)).run Try.prog W with
  | ok c w' =>
    rw [hr] at h
    simp only [Result.andThen_ok] at h ⊢
    have h' : Result.ok (Value.bool c) w' = Result.ok (Value.bool b) W := h
    injection h' with h1 h2
    injection h1 with h1
    subst h1
    subst h2
    rfl
  | halt a w' =>
    rw [hr] at h
    cases h
theorem ints_neq (a0 a1 a2 a3 c0 c1 c2 c3 : Int) {r : Bool} (hr : decide ([a0, a1, a2, a3] = [c0, c1, c2, c3]) = r) (W : World) :
    (binOp .neq 56 (.agg #[.int .i64 a0, .int .i64 a1, .int .i64 a2, .int .i64 a3]) (.agg #[.int .i64 c0, .int .i64 c1, .int .i64 c2, .int .i64 c3])).run Try.prog W = .ok (.bool (!r)) W := by
  refine ints_neq' W _ _ ?_
  rw [ints_eq, ← hr]
  congr 2
  simp only [List.cons.injEq, and_true, Bool.decide_and]
  rfl
end Go.Proofs.Ytacecaacpagokaa.Swap
