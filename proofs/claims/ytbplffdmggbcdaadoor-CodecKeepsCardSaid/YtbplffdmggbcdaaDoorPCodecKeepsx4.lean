-- Written by this session's own tool (prn.py) over the kit's printer; its templates are the session's own. Lean checks it.
import Derived.Test.YtbplffdmggbcdaaDoorPCodecKeepsx0
import Derived.Test.YtbplffdmggbcdaaDoorPCodecKeepsx1
import Derived.Test.YtbplffdmggbcdaaDoorPCodecKeepsx3
namespace Go.Proofs.YtbplffdmggbcdaaDoor.PCodecKeeps
open Go.RowKit Go.Proofs.YtbplffdmggbcdaaDoorW.PrintWords Go.Proofs.YtbplffdmggbcdaaDoorW.PrintLast Go.Proofs.YtbplffdmggbcdaaDoorW.PrintMore
attribute [local go_sem] max2_int min2_int max_two min_two max_three min_three max_four min_four   -- for this text's walks alone
set_option linter.unusedVariables false
set_option linter.unusedSimpArgs false

attribute [local go_sem high] eqA41
/-! ### bits_OnesCount: function 68 -/
def bits_OnesCount.f (a0 : Int) : Option (Int) := (bits_OnesCount64.f a0).bind fun t123 => (some t123)
set_option maxHeartbeats 8000000 in
set_option maxRecDepth 100000 in
theorem bits_OnesCount.calls (a0 : Int) (r : Int) (w : World) (h : bits_OnesCount.f a0 = some r) :
    Calls Tryd.prog 68 #[.int .u64 a0] w fun e w' => e = .returned (.int .i64 r) ∧ Drawn0 w w' := by
  have H : ((bits_OnesCount64.f a0).bind fun t123 => (some t123)) = some r := h
  clear h
  replace H := Option.bind_eq_some_iff.mp H
  obtain ⟨t123, A20, H⟩ := H
  replace H : (some t123) = some r := H
  have A2 := Aside0.mk A20
  clear A20
  obtain rfl := Option.some.inj H
  go_enter Tryd.func68, Tryd.ntmps68
  go_wp2_with (first | ((with_reducible refine gate_callee (f := 88) rfl ?_); refine goesL_ (some 7) rfl rfl Tryd.func88 (by kernel_rfl) rfl #[.int .u64 a0] rfl (by (try simp only [List.map_toArray, List.map_cons, List.map_nil]); first | done | rfl | (simp only [List.length_drop, List.length_take]; rfl) | (simp only [Int.toNat_natCast, Nat.sub_self, List.length_drop, List.length_take]; rfl)) ?_; (with_reducible refine (bits_OnesCount64.calls a0 t123 _ A2.out).mono ?_); rintro e w' ⟨rfl, ⟨nd, rfl⟩⟩; refine ⟨_, rfl, ?_⟩))
  go_ret
  exact ⟨by first | rfl | (simp; done) | (simp [*]; done), by repeat (first | exact Drawn0.refl _ | apply Drawn0.step)⟩

/-! ### plan_share: function 70 -/
def plan_share.f (a0 : Int) (a1 : Int) : Option (Int) := if a1 = 0 then (none) else (some (wrap64 (Int.tdiv (wrap64 ((wrap64 (a0 + a1)) - 1)) a1)))
set_option maxHeartbeats 8000000 in
set_option maxRecDepth 100000 in
theorem plan_share.calls (a0 : Int) (a1 : Int) (r : Int) (w : World) (h : plan_share.f a0 a1 = some r) :
    Calls Tryd.prog 70 #[.int .i64 a0, .int .i64 a1] w fun e w' => e = .returned (.int .i64 r) ∧ Drawn0 w w' := by
  have H : (if a1 = 0 then (none) else (some (wrap64 (Int.tdiv (wrap64 ((wrap64 (a0 + a1)) - 1)) a1)))) = some r := h
  clear h
  by_cases c3 : a1 = 0
  · rw [if_pos c3] at H
    exact absurd H (by simp)
  · rw [if_neg c3] at H
    have c3b0 : (a1 == 0) = false := beq_eq_false_iff_ne.mpr c3
    have c3b1 : (a1 != 0) = true := bne_iff_ne.mpr c3
    obtain rfl := Option.some.inj H
    go_enter Tryd.func70, Tryd.ntmps70
    go_wp2
    go_ret
    exact ⟨by first | rfl | (simp; done) | (simp [*]; done), by repeat (first | exact Drawn0.refl _ | apply Drawn0.step)⟩

/-! ### plan_Make: function 49 -/
mutual
def plan_Make.j0 : Nat → Int → Int → Int → Int → Bool → Option (Int × Int × Int × Int × Int × Int × Int × Int × Int × Int × Int × Int × Int)
  | 0, _, _, _, _, _ => none
  | k + 1, x0, x1, x2, x3, x13 => if x13 = true then (plan_Make.j1 k x0 x1 x2 x3 x13) else ((plan_within.f x1 1 4096).bind fun t105 => (if t105 = true then ((plan_within.f x2 2 1024).bind fun t106 => (if t106 = true then ((plan_within.f x3 4 512).bind fun t107 => (plan_Make.j1 k x0 x1 x2 x3 (!t107))) else (plan_Make.j1 k x0 x1 x2 x3 (!t106)))) else (plan_Make.j1 k x0 x1 x2 x3 (!t105))))
def plan_Make.j1 : Nat → Int → Int → Int → Int → Bool → Option (Int × Int × Int × Int × Int × Int × Int × Int × Int × Int × Int × Int × Int)
  | 0, _, _, _, _, _ => none
  | k + 1, x0, x1, x2, x3, x13 => if x13 = true then (some (0, 0, 0, 0, 0, 0, 0, 0, 0, 0, 0, 0, 1)) else (if (wrap64 (x0 * x1)) > 1048576 then (some (0, 0, 0, 0, 0, 0, 0, 0, 0, 0, 0, 0, 5)) else ((plan_share.f x2 (wrap64 (8 * x0))).bind fun t109 => ((plan_share.f x1 (wrap64 (8 * x0))).bind fun t110 => ((plan_share.f (wrap64 (x2 * 32)) x0).bind fun t111 => (if (0 ≤ x3 ∧ x3 ≤ 1000) ∧ (0 ≤ t109 ∧ t109 ≤ 1000000) ∧ (0 ≤ t110 ∧ t110 ≤ 1000000) ∧ (0 ≤ t111 ∧ t111 ≤ 1000000) then (if x1 ≤ 2 + x3 + t109 + t110 + t111 then (some (0, 0, 0, 0, 0, 0, 0, 0, 0, 0, 0, 0, 6)) else (some (x0, x1, x2, x3, 2, 2 + x3, t109, 2 + x3 + t109, t110, 2 + x3 + t109 + t110, t111, 2 + x3 + t109 + t110 + t111, 0))) else none)))))
end
def plan_Make.g (k : Nat) (a0 : Int) (a1 : Int) (a2 : Int) (a3 : Int) : Option (Int × Int × Int × Int × Int × Int × Int × Int × Int × Int × Int × Int × Int) := (plan_within.f a0 64 4096).bind fun t103 => (if t103 = true then ((bits_OnesCount.f (IntKind.u64.wrap (a0))).bind fun t104 => (plan_Make.j0 k a0 a1 a2 a3 (t104 != 1))) else (plan_Make.j0 k a0 a1 a2 a3 true))
def plan_Make.T12 : Bool × List (List Nat × List Nat) := (true, [([], []), ([], []), ([0, 1], [0, 1]), ([], []), ([], []), ([4], [4]), ([3, 5, 2], [3, 5]), ([], []), ([], []), ([8], [8]), ([7, 9, 6], [7, 9]), ([], []), ([], []), ([12], [12]), ([11, 13, 10], [11, 13]), ([0, 1, 2, 4, 5, 8, 9, 12, 13], []), ([15, 2, 14, 0, 1, 2, 4, 5, 8, 9, 12, 13], [2, 15]), ([0, 1, 2, 3, 4, 5, 6, 8, 9, 12, 13, 15, 16], []), ([17, 6, 16, 0, 1, 2, 3, 4, 5, 6, 8, 9, 12, 13, 15, 16], [6, 17]), ([0, 1, 2, 3, 4, 5, 6, 7, 8, 9, 10, 12, 13, 15, 16, 17, 18], []), ([19, 10, 18, 0, 1, 2, 3, 4, 5, 6, 7, 8, 9, 10, 12, 13, 15, 16, 17, 18], [10, 19]), ([0, 1, 2, 3, 4, 5, 6, 7, 8, 9, 10, 11, 12, 13, 14, 15, 16, 17, 18, 19, 20], []), ([21, 14, 20, 0, 1, 2, 3, 4, 5, 6, 7, 8, 9, 10, 11, 12, 13, 14, 15, 16, 17, 18, 19, 20], [14, 21])])
def plan_Make.B12 : List Nat := [0, 0, 3, 0, 0, 16, 63, 0, 0, 256, 1023, 0, 0, 4096, 16383, 13111, 65535, 131071, 262143, 524287, 1048575, 2097151, 4194303]
theorem plan_Make.tab12 : rtab .any (opsOf Tryd.f49 12) = plan_Make.T12 := by kernel_rfl
theorem plan_Make.bits12 : waitsOk plan_Make.T12.2 plan_Make.B12 = true := by kernel_rfl
theorem plan_Make.carry_ {P : Program} {c : Code} {Q : Exit → Act → World → Prop} {a : Act} {w : World} (F : World → Prop) (hF : F w) (h : ∀ W, F W → Code.wp P c Q a W) : Code.wp P c Q a w := h w hF
theorem plan_Make.goesC_ {P : Program} {ops : Array Oper} {Q : Exit → Act → World → Prop} {oi : Oper} {N : Option Tmp} {a : Act} {w : World} {K : Act → World → Prop} {f : FuncId} {fn : Func} {xs : Array Operand} {ts : Array TypeId} {t : Tmp} (hf : P.funcs[f]? = some fn) (hname : (fn.name == "runtime.NumGoroutine") = false) (hb : fn.body.isSome = true) (args : Array Value)
    (hw : Region.wanted oi (yielded ops a.tmps) = true) (hN : oi.dst = N) (hop : oi.op = .call { callee := .value (.tmp t), args := xs, argTypes := ts }) (cs : Array Value) (ht : a.eval (.tmp t) = .func (.func f) #[] cs) (hargs : xs.map a.eval ++ cs = args)
    (h : Calls P f args w fun e w' => ∃ v, e = .returned v ∧ K (a.put N v) w') : if Region.wanted oi (yielded ops a.tmps) = true then Oper.wp P oi a w K Q else K (a.put N undef) w := by
  refine call_ f args hw hN ?_ h
  have he := enters_ hf hname hb args w
  unfold execOp
  simp [hop, resolve, Deferred.ofValue, invoke, ht, hargs, he]
set_option maxRecDepth 100000 in
set_option maxHeartbeats 4000000 in
theorem plan_Make.take_calls (g : Nat) (at_ n : Int) (w : World) (hb : w.heap[g]? = some (.cells #[.int .i64 at_] 3 (0, 0))) (h0 : 0 ≤ at_ ∧ at_ ≤ 10000000) (h1 : 0 ≤ n ∧ n ≤ 10000000) :
    Calls Tryd.prog 69 #[.int .i64 n, .pointer (some ⟨g, 0, none⟩)] w fun e w' => e = .returned (.int .i64 at_) ∧ w'.heap[g]? = some (.cells #[.int .i64 (at_ + n)] 3 (0, 0)) ∧ (∀ (k : Nat) (cs : Array Value) (t : TypeId), k ≠ g → w.heap[k]? = some (.cells cs t (0, 0)) → w'.heap[k]? = some (.cells cs t (0, 0))) ∧ (∀ (n0 : Nat) (w0 : World), n0 ≤ g → Below n0 w0 w → Below n0 w0 w') := by
  have hc : w.cell? ⟨g, 0, none⟩ = some (.int .i64 at_) := (blk_cell hb 0).trans rfl
  have hf := blk_frozen hb 0
  have e1 : wrap64 (at_ + n) = at_ + n := by unfold wrap64; omega
  have e2 : wrap64 (at_ + n - n) = at_ := by unfold wrap64; omega
  have HBK := Aside0.mk hb
  clear hb
  go_enter Tryd.func69, Tryd.ntmps69
  go_wp2
  go_ret
  refine ⟨rfl, blk_set HBK.out 0 _, fun k cs t hk h => blk_far h hk _, fun n0 w0 hle hbel => hbel.setCell hle _⟩
set_option maxHeartbeats 8000000 in
set_option maxRecDepth 100000 in
theorem plan_Make.gcalls (k : Nat) (a0 : Int) (a1 : Int) (a2 : Int) (a3 : Int) (r1 : Int) (r2 : Int) (r3 : Int) (r4 : Int) (r5 : Int) (r6 : Int) (r7 : Int) (r8 : Int) (r9 : Int) (r10 : Int) (r11 : Int) (r12 : Int) (r13 : Int) (w : World) (h : plan_Make.g k a0 a1 a2 a3 = some (r1, r2, r3, r4, r5, r6, r7, r8, r9, r10, r11, r12, r13)) :
    Calls Tryd.prog 49 #[.int .i64 a0, .int .i64 a1, .int .i64 a2, .int .i64 a3] w fun e w' => e = .returned (.tuple #[.agg #[.int .i64 r1, .int .i64 r2, .int .i64 r3, .int .i64 r4, .int .i64 r5, .int .i64 r6, .int .i64 r7, .int .i64 r8, .int .i64 r9, .int .i64 r10, .int .i64 r11, .int .i64 r12], .int .i64 r13]) ∧ Below w.heap.size w w' := by
  have hu24 := Tryd.underlying41
  have HB := Aside0.mk (Below.refl w.heap.size w)
  have H : ((plan_within.f a0 64 4096).bind fun t103 => (if t103 = true then ((bits_OnesCount.f (IntKind.u64.wrap (a0))).bind fun t104 => (plan_Make.j0 k a0 a1 a2 a3 (t104 != 1))) else (plan_Make.j0 k a0 a1 a2 a3 true))) = some (r1, r2, r3, r4, r5, r6, r7, r8, r9, r10, r11, r12, r13) := h
  clear h
  have HC5 := Aside0.mk H
  clear H
  go_enter Tryd.func49, Tryd.ntmps49
  go_upto_region 1 with (first | ((with_reducible refine gate_dst (N := 8) rfl ?_); refine box_event ?hg (N := 8) ?hd (cs := #[.int .i64 0, .int .i64 0, .int .i64 0, .int .i64 0, .int .i64 0, .int .i64 0, .int .i64 0, .int .i64 0, .int .i64 0, .int .i64 0, .int .i64 0, .int .i64 0]) (t := 41) ?hr ?_; (case hd => rfl); (case hg => rfl); (case hr => first | (go_simp; done) | (go_simp; rfl)); intro gb102 hg w6 hbox hb; have n0_ := Aside0.mk (below_step (by repeat (first | (with_reducible first | exact HB.out | apply below_alloc | apply pw_below_drewN | apply below_drew1) | exact HB.out)) hb); have n1_ := Aside0.mk (hbox); have n2_ := Aside0.mk ((by rw [hg]; exact (below_size (by repeat (first | (with_reducible first | exact HB.out | apply below_alloc | apply pw_below_drewN | apply below_drew1) | exact HB.out))) : w.heap.size ≤ gb102)); have n3_ := Aside0.mk ((by rw [hg]; exact (below_size (by repeat (first | (with_reducible first | exact HB.out | apply below_alloc | apply pw_below_drewN | apply below_drew1) | exact HB.out))) : w.heap.size ≤ gb102)); clear HB; have HB := n0_; have BK102 := n1_; have GW102 := n2_; have GE102 := n3_; clear n0_ n1_ n2_ n3_; clear hb hbox hg))
  (try simp only [Act.put, List.setIfInBounds_toArray, List.set_cons_zero, List.set_cons_succ])
  go_cut [13] (fun v13 wc => ∃ (kq : Nat) (x13_4 : Bool), v13 = .bool x13_4 ∧ Aside0 (plan_Make.j0 kq a0 a1 a2 a3 x13_4 = some (r1, r2, r3, r4, r5, r6, r7, r8, r9, r10, r11, r12, r13)) ∧ Aside0 (kq ≤ k) ∧ Aside0 (wc.heap[gb102]? = some (.cells #[.int .i64 0, .int .i64 0, .int .i64 0, .int .i64 0, .int .i64 0, .int .i64 0, .int .i64 0, .int .i64 0, .int .i64 0, .int .i64 0, .int .i64 0, .int .i64 0] 41 (0, 0))) ∧ Aside0 (Below w.heap.size w wc))
  case first =>
    have H := HC5.out
    clear HC5
    replace H := Option.bind_eq_some_iff.mp H
    obtain ⟨t103, A70, H⟩ := H
    replace H : (if t103 = true then ((bits_OnesCount.f (IntKind.u64.wrap (a0))).bind fun t104 => (plan_Make.j0 k a0 a1 a2 a3 (t104 != 1))) else (plan_Make.j0 k a0 a1 a2 a3 true)) = some (r1, r2, r3, r4, r5, r6, r7, r8, r9, r10, r11, r12, r13) := H
    have A7 := Aside0.mk A70
    clear A70
    by_cases c8 : t103 = true
    · subst c8
      have H1 : ((bits_OnesCount.f (IntKind.u64.wrap (a0))).bind fun t104 => (plan_Make.j0 k a0 a1 a2 a3 (t104 != 1))) = some (r1, r2, r3, r4, r5, r6, r7, r8, r9, r10, r11, r12, r13) := by rw [if_pos rfl] at H; exact H
      clear H
      have H := H1
      clear H1
      replace H := Option.bind_eq_some_iff.mp H
      obtain ⟨t104, A90, H⟩ := H
      replace H : (plan_Make.j0 k a0 a1 a2 a3 (t104 != 1)) = some (r1, r2, r3, r4, r5, r6, r7, r8, r9, r10, r11, r12, r13) := H
      have A9 := Aside0.mk A90
      clear A90
      have H' := Aside0.mk H
      clear H
      go_wp2_with (first | ((with_reducible refine gate_callee (f := 67) rfl ?_); refine goesL_ (some 15) rfl rfl Tryd.func67 (by kernel_rfl) rfl #[.int .i64 a0, .int .i64 64, .int .i64 4096] rfl (by (try simp only [List.map_toArray, List.map_cons, List.map_nil]); first | done | rfl | (simp only [List.length_drop, List.length_take]; rfl) | (simp only [Int.toNat_natCast, Nat.sub_self, List.length_drop, List.length_take]; rfl)) ?_; (with_reducible refine (plan_within.calls a0 64 4096 true _ A7.out).mono ?_); rintro e w' ⟨rfl, ⟨nd, rfl⟩⟩; refine ⟨_, rfl, ?_⟩) | (go_at_call 68; (with_reducible refine (bits_OnesCount.calls (IntKind.u64.wrap (a0)) t104 _ A9.out).mono ?_); rintro e w' ⟨rfl, ⟨nd, rfl⟩⟩))
      go_meet
      case rel => exact ⟨_, ((t104 != 1)), (by first | rfl | (simp; done) | (simp [*]; done)), H', ⟨by first | omega | exact Nat.le_refl _⟩, ⟨by (with_reducible repeat (first | refine blk_drewN ?_ _ | refine blk_drew ?_ | refine blk_alloc ?_ _)); exact BK102.out⟩, ⟨by repeat (first | (with_reducible first | exact HB.out | apply below_alloc | apply pw_below_drewN | apply below_drew1 | refine below_set ?_ GE102.out) | exact HB.out)⟩⟩
    · replace c8 := Bool.eq_false_iff.mpr c8
      subst c8
      have H1 : (plan_Make.j0 k a0 a1 a2 a3 true) = some (r1, r2, r3, r4, r5, r6, r7, r8, r9, r10, r11, r12, r13) := by rw [if_neg (show ¬ (false = true) by decide)] at H; exact H
      clear H
      have H := H1
      clear H1
      have H' := Aside0.mk H
      clear H
      go_wp2_with (first | ((with_reducible refine gate_callee (f := 67) rfl ?_); refine goesL_ (some 15) rfl rfl Tryd.func67 (by kernel_rfl) rfl #[.int .i64 a0, .int .i64 64, .int .i64 4096] rfl (by (try simp only [List.map_toArray, List.map_cons, List.map_nil]); first | done | rfl | (simp only [List.length_drop, List.length_take]; rfl) | (simp only [Int.toNat_natCast, Nat.sub_self, List.length_drop, List.length_take]; rfl)) ?_; (with_reducible refine (plan_within.calls a0 64 4096 false _ A7.out).mono ?_); rintro e w' ⟨rfl, ⟨nd, rfl⟩⟩; refine ⟨_, rfl, ?_⟩))
      go_meet
      case rel => exact ⟨_, (true), (by first | rfl | (simp; done) | (simp [*]; done)), H', ⟨by first | omega | exact Nat.le_refl _⟩, ⟨by (with_reducible repeat (first | refine blk_drewN ?_ _ | refine blk_drew ?_ | refine blk_alloc ?_ _)); exact BK102.out⟩, ⟨by repeat (first | (with_reducible first | exact HB.out | apply below_alloc | apply pw_below_drewN | apply below_drew1 | refine below_set ?_ GE102.out) | exact HB.out)⟩⟩
  case rest =>
    clear HC5
    try clear c2
    try clear p2
    try clear c8
    try clear c9
    obtain ⟨kq, x13_4, rfl, HA, HJ4, BK102, HB⟩ := hcut
    cases kq with
    | zero => exact absurd HA.out (by simp [plan_Make.j0])
    | succ kj4 =>
      have H := HA.out
      clear HA
      simp only [plan_Make.j0] at H
      have HC10 := Aside0.mk H
      clear H
      go_upto_if 13 with (fail)
      go_cut [13] (fun v13 wc => ∃ (kq : Nat) (x13_9 : Bool), v13 = .bool x13_9 ∧ Aside0 (plan_Make.j1 kq a0 a1 a2 a3 x13_9 = some (r1, r2, r3, r4, r5, r6, r7, r8, r9, r10, r11, r12, r13)) ∧ Aside0 (kq ≤ kj4) ∧ Aside0 (wc.heap[gb102]? = some (.cells #[.int .i64 0, .int .i64 0, .int .i64 0, .int .i64 0, .int .i64 0, .int .i64 0, .int .i64 0, .int .i64 0, .int .i64 0, .int .i64 0, .int .i64 0, .int .i64 0] 41 (0, 0))) ∧ Aside0 (Below w.heap.size w wc))
      case first =>
        have H := HC10.out
        clear HC10
        by_cases c11 : x13_4 = true
        · subst c11
          have H1 : (plan_Make.j1 kj4 a0 a1 a2 a3 true) = some (r1, r2, r3, r4, r5, r6, r7, r8, r9, r10, r11, r12, r13) := by rw [if_pos rfl] at H; exact H
          clear H
          have H := H1
          clear H1
          have H' := Aside0.mk H
          clear H
          go_wp2
          go_meet
          case rel => exact ⟨_, (true), (by first | rfl | (simp; done) | (simp [*]; done)), H', ⟨by have := HJ4.out; first | omega | exact Nat.le_refl _⟩, ⟨by (with_reducible repeat (first | refine blk_drewN ?_ _ | refine blk_drew ?_ | refine blk_alloc ?_ _)); exact BK102.out⟩, ⟨by repeat (first | (with_reducible first | exact HB.out | apply below_alloc | apply pw_below_drewN | apply below_drew1 | refine below_set ?_ GE102.out) | exact HB.out)⟩⟩
        · replace c11 := Bool.eq_false_iff.mpr c11
          subst c11
          have H1 : ((plan_within.f a1 1 4096).bind fun t105 => (if t105 = true then ((plan_within.f a2 2 1024).bind fun t106 => (if t106 = true then ((plan_within.f a3 4 512).bind fun t107 => (plan_Make.j1 kj4 a0 a1 a2 a3 (!t107))) else (plan_Make.j1 kj4 a0 a1 a2 a3 (!t106)))) else (plan_Make.j1 kj4 a0 a1 a2 a3 (!t105)))) = some (r1, r2, r3, r4, r5, r6, r7, r8, r9, r10, r11, r12, r13) := by rw [if_neg (show ¬ (false = true) by decide)] at H; exact H
          clear H
          have H := H1
          clear H1
          replace H := Option.bind_eq_some_iff.mp H
          obtain ⟨t105, A120, H⟩ := H
          replace H : (if t105 = true then ((plan_within.f a2 2 1024).bind fun t106 => (if t106 = true then ((plan_within.f a3 4 512).bind fun t107 => (plan_Make.j1 kj4 a0 a1 a2 a3 (!t107))) else (plan_Make.j1 kj4 a0 a1 a2 a3 (!t106)))) else (plan_Make.j1 kj4 a0 a1 a2 a3 (!t105))) = some (r1, r2, r3, r4, r5, r6, r7, r8, r9, r10, r11, r12, r13) := H
          have A12 := Aside0.mk A120
          clear A120
          by_cases c13 : t105 = true
          · subst c13
            have H1 : ((plan_within.f a2 2 1024).bind fun t106 => (if t106 = true then ((plan_within.f a3 4 512).bind fun t107 => (plan_Make.j1 kj4 a0 a1 a2 a3 (!t107))) else (plan_Make.j1 kj4 a0 a1 a2 a3 (!t106)))) = some (r1, r2, r3, r4, r5, r6, r7, r8, r9, r10, r11, r12, r13) := by rw [if_pos rfl] at H; exact H
            clear H
            have H := H1
            clear H1
            replace H := Option.bind_eq_some_iff.mp H
            obtain ⟨t106, A140, H⟩ := H
            replace H : (if t106 = true then ((plan_within.f a3 4 512).bind fun t107 => (plan_Make.j1 kj4 a0 a1 a2 a3 (!t107))) else (plan_Make.j1 kj4 a0 a1 a2 a3 (!t106))) = some (r1, r2, r3, r4, r5, r6, r7, r8, r9, r10, r11, r12, r13) := H
            have A14 := Aside0.mk A140
            clear A140
            by_cases c15 : t106 = true
            · subst c15
              have H1 : ((plan_within.f a3 4 512).bind fun t107 => (plan_Make.j1 kj4 a0 a1 a2 a3 (!t107))) = some (r1, r2, r3, r4, r5, r6, r7, r8, r9, r10, r11, r12, r13) := by rw [if_pos rfl] at H; exact H
              clear H
              have H := H1
              clear H1
              replace H := Option.bind_eq_some_iff.mp H
              obtain ⟨t107, A160, H⟩ := H
              replace H : (plan_Make.j1 kj4 a0 a1 a2 a3 (!t107)) = some (r1, r2, r3, r4, r5, r6, r7, r8, r9, r10, r11, r12, r13) := H
              have A16 := Aside0.mk A160
              clear A160
              have H' := Aside0.mk H
              clear H
              go_wp2_with (first | ((with_reducible refine gate_callee (f := 67) rfl ?_); refine goesL_ (some 24) rfl rfl Tryd.func67 (by kernel_rfl) rfl #[.int .i64 a1, .int .i64 1, .int .i64 4096] rfl (by (try simp only [List.map_toArray, List.map_cons, List.map_nil]); first | done | rfl | (simp only [List.length_drop, List.length_take]; rfl) | (simp only [Int.toNat_natCast, Nat.sub_self, List.length_drop, List.length_take]; rfl)) ?_; (with_reducible refine (plan_within.calls a1 1 4096 true _ A12.out).mono ?_); rintro e w' ⟨rfl, ⟨nd, rfl⟩⟩; refine ⟨_, rfl, ?_⟩) | ((with_reducible refine gate_callee (f := 67) rfl ?_); refine goesL_ (some 27) rfl rfl Tryd.func67 (by kernel_rfl) rfl #[.int .i64 a2, .int .i64 2, .int .i64 1024] rfl (by (try simp only [List.map_toArray, List.map_cons, List.map_nil]); first | done | rfl | (simp only [List.length_drop, List.length_take]; rfl) | (simp only [Int.toNat_natCast, Nat.sub_self, List.length_drop, List.length_take]; rfl)) ?_; (with_reducible refine (plan_within.calls a2 2 1024 true _ A14.out).mono ?_); rintro e w' ⟨rfl, ⟨nd, rfl⟩⟩; refine ⟨_, rfl, ?_⟩) | ((with_reducible refine gate_callee (f := 67) rfl ?_); refine goesL_ (some 30) rfl rfl Tryd.func67 (by kernel_rfl) rfl #[.int .i64 a3, .int .i64 4, .int .i64 512] rfl (by (try simp only [List.map_toArray, List.map_cons, List.map_nil]); first | done | rfl | (simp only [List.length_drop, List.length_take]; rfl) | (simp only [Int.toNat_natCast, Nat.sub_self, List.length_drop, List.length_take]; rfl)) ?_; (with_reducible refine (plan_within.calls a3 4 512 t107 _ A16.out).mono ?_); rintro e w' ⟨rfl, ⟨nd, rfl⟩⟩; refine ⟨_, rfl, ?_⟩))
              go_meet
              case rel => exact ⟨_, (!t107), (by first | rfl | (simp; done) | (simp [*]; done)), H', ⟨by have := HJ4.out; first | omega | exact Nat.le_refl _⟩, ⟨by (with_reducible repeat (first | refine blk_drewN ?_ _ | refine blk_drew ?_ | refine blk_alloc ?_ _)); exact BK102.out⟩, ⟨by repeat (first | (with_reducible first | exact HB.out | apply below_alloc | apply pw_below_drewN | apply below_drew1 | refine below_set ?_ GE102.out) | exact HB.out)⟩⟩
            · replace c15 := Bool.eq_false_iff.mpr c15
              subst c15
              have H1 : (plan_Make.j1 kj4 a0 a1 a2 a3 (!false)) = some (r1, r2, r3, r4, r5, r6, r7, r8, r9, r10, r11, r12, r13) := by rw [if_neg (show ¬ (false = true) by decide)] at H; exact H
              clear H
              have H := H1
              clear H1
              have H' := Aside0.mk H
              clear H
              go_wp2_with (first | ((with_reducible refine gate_callee (f := 67) rfl ?_); refine goesL_ (some 24) rfl rfl Tryd.func67 (by kernel_rfl) rfl #[.int .i64 a1, .int .i64 1, .int .i64 4096] rfl (by (try simp only [List.map_toArray, List.map_cons, List.map_nil]); first | done | rfl | (simp only [List.length_drop, List.length_take]; rfl) | (simp only [Int.toNat_natCast, Nat.sub_self, List.length_drop, List.length_take]; rfl)) ?_; (with_reducible refine (plan_within.calls a1 1 4096 true _ A12.out).mono ?_); rintro e w' ⟨rfl, ⟨nd, rfl⟩⟩; refine ⟨_, rfl, ?_⟩) | ((with_reducible refine gate_callee (f := 67) rfl ?_); refine goesL_ (some 27) rfl rfl Tryd.func67 (by kernel_rfl) rfl #[.int .i64 a2, .int .i64 2, .int .i64 1024] rfl (by (try simp only [List.map_toArray, List.map_cons, List.map_nil]); first | done | rfl | (simp only [List.length_drop, List.length_take]; rfl) | (simp only [Int.toNat_natCast, Nat.sub_self, List.length_drop, List.length_take]; rfl)) ?_; (with_reducible refine (plan_within.calls a2 2 1024 false _ A14.out).mono ?_); rintro e w' ⟨rfl, ⟨nd, rfl⟩⟩; refine ⟨_, rfl, ?_⟩))
              go_meet
              case rel => exact ⟨_, (!false), (by first | rfl | (simp; done) | (simp [*]; done)), H', ⟨by have := HJ4.out; first | omega | exact Nat.le_refl _⟩, ⟨by (with_reducible repeat (first | refine blk_drewN ?_ _ | refine blk_drew ?_ | refine blk_alloc ?_ _)); exact BK102.out⟩, ⟨by repeat (first | (with_reducible first | exact HB.out | apply below_alloc | apply pw_below_drewN | apply below_drew1 | refine below_set ?_ GE102.out) | exact HB.out)⟩⟩
          · replace c13 := Bool.eq_false_iff.mpr c13
            subst c13
            have H1 : (plan_Make.j1 kj4 a0 a1 a2 a3 (!false)) = some (r1, r2, r3, r4, r5, r6, r7, r8, r9, r10, r11, r12, r13) := by rw [if_neg (show ¬ (false = true) by decide)] at H; exact H
            clear H
            have H := H1
            clear H1
            have H' := Aside0.mk H
            clear H
            go_wp2_with (first | ((with_reducible refine gate_callee (f := 67) rfl ?_); refine goesL_ (some 24) rfl rfl Tryd.func67 (by kernel_rfl) rfl #[.int .i64 a1, .int .i64 1, .int .i64 4096] rfl (by (try simp only [List.map_toArray, List.map_cons, List.map_nil]); first | done | rfl | (simp only [List.length_drop, List.length_take]; rfl) | (simp only [Int.toNat_natCast, Nat.sub_self, List.length_drop, List.length_take]; rfl)) ?_; (with_reducible refine (plan_within.calls a1 1 4096 false _ A12.out).mono ?_); rintro e w' ⟨rfl, ⟨nd, rfl⟩⟩; refine ⟨_, rfl, ?_⟩))
            go_meet
            case rel => exact ⟨_, (!false), (by first | rfl | (simp; done) | (simp [*]; done)), H', ⟨by have := HJ4.out; first | omega | exact Nat.le_refl _⟩, ⟨by (with_reducible repeat (first | refine blk_drewN ?_ _ | refine blk_drew ?_ | refine blk_alloc ?_ _)); exact BK102.out⟩, ⟨by repeat (first | (with_reducible first | exact HB.out | apply below_alloc | apply pw_below_drewN | apply below_drew1 | refine below_set ?_ GE102.out) | exact HB.out)⟩⟩
      case rest =>
        clear HC10
        try clear c1
        try clear c2
        try clear p2
        try clear c8
        try clear c9
        try clear c11
        try clear c13
        try clear c15
        try clear p2
        obtain ⟨kq, x13_9, rfl, HA, HJ9, BK102, HB⟩ := hcut
        cases kq with
        | zero => exact absurd HA.out (by simp [plan_Make.j1])
        | succ kj9 =>
          have H := HA.out
          clear HA
          simp only [plan_Make.j1] at H
          by_cases c17 : x13_9 = true
          · subst c17
            have H1 : (some (0, 0, 0, 0, 0, 0, 0, 0, 0, 0, 0, 0, 1)) = some (r1, r2, r3, r4, r5, r6, r7, r8, r9, r10, r11, r12, r13) := by rw [if_pos rfl] at H; exact H
            clear H
            have H := H1
            clear H1
            simp only [Option.some.injEq, Prod.mk.injEq] at H
            obtain ⟨rfl, rfl, rfl, rfl, rfl, rfl, rfl, rfl, rfl, rfl, rfl, rfl, rfl⟩ := H
            have hcz18_0 : wc.cell? ⟨gb102, 0, none⟩ = some (.int .i64 0) := (blk_cell BK102.out 0).trans rfl
            have hcz18_1 : wc.cell? ⟨gb102, 1, none⟩ = some (.int .i64 0) := (blk_cell BK102.out 1).trans rfl
            have hcz18_2 : wc.cell? ⟨gb102, 2, none⟩ = some (.int .i64 0) := (blk_cell BK102.out 2).trans rfl
            have hcz18_3 : wc.cell? ⟨gb102, 3, none⟩ = some (.int .i64 0) := (blk_cell BK102.out 3).trans rfl
            have hcz18_4 : wc.cell? ⟨gb102, 4, none⟩ = some (.int .i64 0) := (blk_cell BK102.out 4).trans rfl
            have hcz18_5 : wc.cell? ⟨gb102, 5, none⟩ = some (.int .i64 0) := (blk_cell BK102.out 5).trans rfl
            have hcz18_6 : wc.cell? ⟨gb102, 6, none⟩ = some (.int .i64 0) := (blk_cell BK102.out 6).trans rfl
            have hcz18_7 : wc.cell? ⟨gb102, 7, none⟩ = some (.int .i64 0) := (blk_cell BK102.out 7).trans rfl
            have hcz18_8 : wc.cell? ⟨gb102, 8, none⟩ = some (.int .i64 0) := (blk_cell BK102.out 8).trans rfl
            have hcz18_9 : wc.cell? ⟨gb102, 9, none⟩ = some (.int .i64 0) := (blk_cell BK102.out 9).trans rfl
            have hcz18_10 : wc.cell? ⟨gb102, 10, none⟩ = some (.int .i64 0) := (blk_cell BK102.out 10).trans rfl
            have hcz18_11 : wc.cell? ⟨gb102, 11, none⟩ = some (.int .i64 0) := (blk_cell BK102.out 11).trans rfl
            have hfz18_0 := blk_frozen BK102.out 0
            have hfz18_1 := blk_frozen BK102.out 1
            have hfz18_2 := blk_frozen BK102.out 2
            have hfz18_3 := blk_frozen BK102.out 3
            have hfz18_4 := blk_frozen BK102.out 4
            have hfz18_5 := blk_frozen BK102.out 5
            have hfz18_6 := blk_frozen BK102.out 6
            have hfz18_7 := blk_frozen BK102.out 7
            have hfz18_8 := blk_frozen BK102.out 8
            have hfz18_9 := blk_frozen BK102.out 9
            have hfz18_10 := blk_frozen BK102.out 10
            have hfz18_11 := blk_frozen BK102.out 11
            go_wp2
            refine bodyPost_ret (results_ct rfl _ _ gb102 41 #[.int .i64 0, .int .i64 0, .int .i64 0, .int .i64 0, .int .i64 0, .int .i64 0, .int .i64 0, .int .i64 0, .int .i64 0, .int .i64 0, .int .i64 0, .int .i64 0] (0, 0) _ rfl (by (with_reducible repeat (first | refine blk_drewN ?_ _ | refine blk_drew ?_ | refine blk_alloc ?_ _)); refine blk_put (cs := #[.int .i64 0, .int .i64 0, .int .i64 0, .int .i64 0, .int .i64 0, .int .i64 0, .int .i64 0, .int .i64 0, .int .i64 0, .int .i64 0, .int .i64 0, .int .i64 0]) ?_ 11 _ rfl; (with_reducible repeat (first | refine blk_drewN ?_ _ | refine blk_drew ?_ | refine blk_alloc ?_ _)); refine blk_put (cs := #[.int .i64 0, .int .i64 0, .int .i64 0, .int .i64 0, .int .i64 0, .int .i64 0, .int .i64 0, .int .i64 0, .int .i64 0, .int .i64 0, .int .i64 0, .int .i64 0]) ?_ 10 _ rfl; (with_reducible repeat (first | refine blk_drewN ?_ _ | refine blk_drew ?_ | refine blk_alloc ?_ _)); refine blk_put (cs := #[.int .i64 0, .int .i64 0, .int .i64 0, .int .i64 0, .int .i64 0, .int .i64 0, .int .i64 0, .int .i64 0, .int .i64 0, .int .i64 0, .int .i64 0, .int .i64 0]) ?_ 9 _ rfl; (with_reducible repeat (first | refine blk_drewN ?_ _ | refine blk_drew ?_ | refine blk_alloc ?_ _)); refine blk_put (cs := #[.int .i64 0, .int .i64 0, .int .i64 0, .int .i64 0, .int .i64 0, .int .i64 0, .int .i64 0, .int .i64 0, .int .i64 0, .int .i64 0, .int .i64 0, .int .i64 0]) ?_ 8 _ rfl; (with_reducible repeat (first | refine blk_drewN ?_ _ | refine blk_drew ?_ | refine blk_alloc ?_ _)); refine blk_put (cs := #[.int .i64 0, .int .i64 0, .int .i64 0, .int .i64 0, .int .i64 0, .int .i64 0, .int .i64 0, .int .i64 0, .int .i64 0, .int .i64 0, .int .i64 0, .int .i64 0]) ?_ 7 _ rfl; (with_reducible repeat (first | refine blk_drewN ?_ _ | refine blk_drew ?_ | refine blk_alloc ?_ _)); refine blk_put (cs := #[.int .i64 0, .int .i64 0, .int .i64 0, .int .i64 0, .int .i64 0, .int .i64 0, .int .i64 0, .int .i64 0, .int .i64 0, .int .i64 0, .int .i64 0, .int .i64 0]) ?_ 6 _ rfl; (with_reducible repeat (first | refine blk_drewN ?_ _ | refine blk_drew ?_ | refine blk_alloc ?_ _)); refine blk_put (cs := #[.int .i64 0, .int .i64 0, .int .i64 0, .int .i64 0, .int .i64 0, .int .i64 0, .int .i64 0, .int .i64 0, .int .i64 0, .int .i64 0, .int .i64 0, .int .i64 0]) ?_ 5 _ rfl; (with_reducible repeat (first | refine blk_drewN ?_ _ | refine blk_drew ?_ | refine blk_alloc ?_ _)); refine blk_put (cs := #[.int .i64 0, .int .i64 0, .int .i64 0, .int .i64 0, .int .i64 0, .int .i64 0, .int .i64 0, .int .i64 0, .int .i64 0, .int .i64 0, .int .i64 0, .int .i64 0]) ?_ 4 _ rfl; (with_reducible repeat (first | refine blk_drewN ?_ _ | refine blk_drew ?_ | refine blk_alloc ?_ _)); refine blk_put (cs := #[.int .i64 0, .int .i64 0, .int .i64 0, .int .i64 0, .int .i64 0, .int .i64 0, .int .i64 0, .int .i64 0, .int .i64 0, .int .i64 0, .int .i64 0, .int .i64 0]) ?_ 3 _ rfl; (with_reducible repeat (first | refine blk_drewN ?_ _ | refine blk_drew ?_ | refine blk_alloc ?_ _)); refine blk_put (cs := #[.int .i64 0, .int .i64 0, .int .i64 0, .int .i64 0, .int .i64 0, .int .i64 0, .int .i64 0, .int .i64 0, .int .i64 0, .int .i64 0, .int .i64 0, .int .i64 0]) ?_ 2 _ rfl; (with_reducible repeat (first | refine blk_drewN ?_ _ | refine blk_drew ?_ | refine blk_alloc ?_ _)); refine blk_put (cs := #[.int .i64 0, .int .i64 0, .int .i64 0, .int .i64 0, .int .i64 0, .int .i64 0, .int .i64 0, .int .i64 0, .int .i64 0, .int .i64 0, .int .i64 0, .int .i64 0]) ?_ 1 _ rfl; (with_reducible repeat (first | refine blk_drewN ?_ _ | refine blk_drew ?_ | refine blk_alloc ?_ _)); refine blk_put (cs := #[.int .i64 0, .int .i64 0, .int .i64 0, .int .i64 0, .int .i64 0, .int .i64 0, .int .i64 0, .int .i64 0, .int .i64 0, .int .i64 0, .int .i64 0, .int .i64 0]) ?_ 0 _ rfl; (with_reducible repeat (first | refine blk_drewN ?_ _ | refine blk_drew ?_ | refine blk_alloc ?_ _)); exact BK102.out) Tryd.underlying41 rfl (by kernel_rfl)) rfl ?_
            exact ⟨by first | rfl | (simp [errW_none, errW_some] <;> rfl) | (simp [*, errW_none, errW_some] <;> rfl), by repeat (first | (with_reducible first | exact HB.out | apply below_alloc | apply pw_below_drewN | apply below_drew1 | refine below_set ?_ GE102.out) | exact HB.out)⟩
          · replace c17 := Bool.eq_false_iff.mpr c17
            subst c17
            have H1 : (if (wrap64 (a0 * a1)) > 1048576 then (some (0, 0, 0, 0, 0, 0, 0, 0, 0, 0, 0, 0, 5)) else ((plan_share.f a2 (wrap64 (8 * a0))).bind fun t109 => ((plan_share.f a1 (wrap64 (8 * a0))).bind fun t110 => ((plan_share.f (wrap64 (a2 * 32)) a0).bind fun t111 => (if (0 ≤ a3 ∧ a3 ≤ 1000) ∧ (0 ≤ t109 ∧ t109 ≤ 1000000) ∧ (0 ≤ t110 ∧ t110 ≤ 1000000) ∧ (0 ≤ t111 ∧ t111 ≤ 1000000) then (if a1 ≤ 2 + a3 + t109 + t110 + t111 then (some (0, 0, 0, 0, 0, 0, 0, 0, 0, 0, 0, 0, 6)) else (some (a0, a1, a2, a3, 2, 2 + a3, t109, 2 + a3 + t109, t110, 2 + a3 + t109 + t110, t111, 2 + a3 + t109 + t110 + t111, 0))) else none))))) = some (r1, r2, r3, r4, r5, r6, r7, r8, r9, r10, r11, r12, r13) := by rw [if_neg (show ¬ (false = true) by decide)] at H; exact H
            clear H
            have H := H1
            clear H1
            by_cases c19 : (wrap64 (a0 * a1)) > 1048576
            · rw [if_pos c19] at H
              have c19b0 : decide (1048576 < (wrap64 (a0 * a1))) = true := decide_eq_true c19
              clear c19
              simp only [Option.some.injEq, Prod.mk.injEq] at H
              obtain ⟨rfl, rfl, rfl, rfl, rfl, rfl, rfl, rfl, rfl, rfl, rfl, rfl, rfl⟩ := H
              have hcz20_0 : wc.cell? ⟨gb102, 0, none⟩ = some (.int .i64 0) := (blk_cell BK102.out 0).trans rfl
              have hcz20_1 : wc.cell? ⟨gb102, 1, none⟩ = some (.int .i64 0) := (blk_cell BK102.out 1).trans rfl
              have hcz20_2 : wc.cell? ⟨gb102, 2, none⟩ = some (.int .i64 0) := (blk_cell BK102.out 2).trans rfl
              have hcz20_3 : wc.cell? ⟨gb102, 3, none⟩ = some (.int .i64 0) := (blk_cell BK102.out 3).trans rfl
              have hcz20_4 : wc.cell? ⟨gb102, 4, none⟩ = some (.int .i64 0) := (blk_cell BK102.out 4).trans rfl
              have hcz20_5 : wc.cell? ⟨gb102, 5, none⟩ = some (.int .i64 0) := (blk_cell BK102.out 5).trans rfl
              have hcz20_6 : wc.cell? ⟨gb102, 6, none⟩ = some (.int .i64 0) := (blk_cell BK102.out 6).trans rfl
              have hcz20_7 : wc.cell? ⟨gb102, 7, none⟩ = some (.int .i64 0) := (blk_cell BK102.out 7).trans rfl
              have hcz20_8 : wc.cell? ⟨gb102, 8, none⟩ = some (.int .i64 0) := (blk_cell BK102.out 8).trans rfl
              have hcz20_9 : wc.cell? ⟨gb102, 9, none⟩ = some (.int .i64 0) := (blk_cell BK102.out 9).trans rfl
              have hcz20_10 : wc.cell? ⟨gb102, 10, none⟩ = some (.int .i64 0) := (blk_cell BK102.out 10).trans rfl
              have hcz20_11 : wc.cell? ⟨gb102, 11, none⟩ = some (.int .i64 0) := (blk_cell BK102.out 11).trans rfl
              have hfz20_0 := blk_frozen BK102.out 0
              have hfz20_1 := blk_frozen BK102.out 1
              have hfz20_2 := blk_frozen BK102.out 2
              have hfz20_3 := blk_frozen BK102.out 3
              have hfz20_4 := blk_frozen BK102.out 4
              have hfz20_5 := blk_frozen BK102.out 5
              have hfz20_6 := blk_frozen BK102.out 6
              have hfz20_7 := blk_frozen BK102.out 7
              have hfz20_8 := blk_frozen BK102.out 8
              have hfz20_9 := blk_frozen BK102.out 9
              have hfz20_10 := blk_frozen BK102.out 10
              have hfz20_11 := blk_frozen BK102.out 11
              go_wp2
              refine bodyPost_ret (results_ct rfl _ _ gb102 41 #[.int .i64 0, .int .i64 0, .int .i64 0, .int .i64 0, .int .i64 0, .int .i64 0, .int .i64 0, .int .i64 0, .int .i64 0, .int .i64 0, .int .i64 0, .int .i64 0] (0, 0) _ rfl (by (with_reducible repeat (first | refine blk_drewN ?_ _ | refine blk_drew ?_ | refine blk_alloc ?_ _)); refine blk_put (cs := #[.int .i64 0, .int .i64 0, .int .i64 0, .int .i64 0, .int .i64 0, .int .i64 0, .int .i64 0, .int .i64 0, .int .i64 0, .int .i64 0, .int .i64 0, .int .i64 0]) ?_ 11 _ rfl; (with_reducible repeat (first | refine blk_drewN ?_ _ | refine blk_drew ?_ | refine blk_alloc ?_ _)); refine blk_put (cs := #[.int .i64 0, .int .i64 0, .int .i64 0, .int .i64 0, .int .i64 0, .int .i64 0, .int .i64 0, .int .i64 0, .int .i64 0, .int .i64 0, .int .i64 0, .int .i64 0]) ?_ 10 _ rfl; (with_reducible repeat (first | refine blk_drewN ?_ _ | refine blk_drew ?_ | refine blk_alloc ?_ _)); refine blk_put (cs := #[.int .i64 0, .int .i64 0, .int .i64 0, .int .i64 0, .int .i64 0, .int .i64 0, .int .i64 0, .int .i64 0, .int .i64 0, .int .i64 0, .int .i64 0, .int .i64 0]) ?_ 9 _ rfl; (with_reducible repeat (first | refine blk_drewN ?_ _ | refine blk_drew ?_ | refine blk_alloc ?_ _)); refine blk_put (cs := #[.int .i64 0, .int .i64 0, .int .i64 0, .int .i64 0, .int .i64 0, .int .i64 0, .int .i64 0, .int .i64 0, .int .i64 0, .int .i64 0, .int .i64 0, .int .i64 0]) ?_ 8 _ rfl; (with_reducible repeat (first | refine blk_drewN ?_ _ | refine blk_drew ?_ | refine blk_alloc ?_ _)); refine blk_put (cs := #[.int .i64 0, .int .i64 0, .int .i64 0, .int .i64 0, .int .i64 0, .int .i64 0, .int .i64 0, .int .i64 0, .int .i64 0, .int .i64 0, .int .i64 0, .int .i64 0]) ?_ 7 _ rfl; (with_reducible repeat (first | refine blk_drewN ?_ _ | refine blk_drew ?_ | refine blk_alloc ?_ _)); refine blk_put (cs := #[.int .i64 0, .int .i64 0, .int .i64 0, .int .i64 0, .int .i64 0, .int .i64 0, .int .i64 0, .int .i64 0, .int .i64 0, .int .i64 0, .int .i64 0, .int .i64 0]) ?_ 6 _ rfl; (with_reducible repeat (first | refine blk_drewN ?_ _ | refine blk_drew ?_ | refine blk_alloc ?_ _)); refine blk_put (cs := #[.int .i64 0, .int .i64 0, .int .i64 0, .int .i64 0, .int .i64 0, .int .i64 0, .int .i64 0, .int .i64 0, .int .i64 0, .int .i64 0, .int .i64 0, .int .i64 0]) ?_ 5 _ rfl; (with_reducible repeat (first | refine blk_drewN ?_ _ | refine blk_drew ?_ | refine blk_alloc ?_ _)); refine blk_put (cs := #[.int .i64 0, .int .i64 0, .int .i64 0, .int .i64 0, .int .i64 0, .int .i64 0, .int .i64 0, .int .i64 0, .int .i64 0, .int .i64 0, .int .i64 0, .int .i64 0]) ?_ 4 _ rfl; (with_reducible repeat (first | refine blk_drewN ?_ _ | refine blk_drew ?_ | refine blk_alloc ?_ _)); refine blk_put (cs := #[.int .i64 0, .int .i64 0, .int .i64 0, .int .i64 0, .int .i64 0, .int .i64 0, .int .i64 0, .int .i64 0, .int .i64 0, .int .i64 0, .int .i64 0, .int .i64 0]) ?_ 3 _ rfl; (with_reducible repeat (first | refine blk_drewN ?_ _ | refine blk_drew ?_ | refine blk_alloc ?_ _)); refine blk_put (cs := #[.int .i64 0, .int .i64 0, .int .i64 0, .int .i64 0, .int .i64 0, .int .i64 0, .int .i64 0, .int .i64 0, .int .i64 0, .int .i64 0, .int .i64 0, .int .i64 0]) ?_ 2 _ rfl; (with_reducible repeat (first | refine blk_drewN ?_ _ | refine blk_drew ?_ | refine blk_alloc ?_ _)); refine blk_put (cs := #[.int .i64 0, .int .i64 0, .int .i64 0, .int .i64 0, .int .i64 0, .int .i64 0, .int .i64 0, .int .i64 0, .int .i64 0, .int .i64 0, .int .i64 0, .int .i64 0]) ?_ 1 _ rfl; (with_reducible repeat (first | refine blk_drewN ?_ _ | refine blk_drew ?_ | refine blk_alloc ?_ _)); refine blk_put (cs := #[.int .i64 0, .int .i64 0, .int .i64 0, .int .i64 0, .int .i64 0, .int .i64 0, .int .i64 0, .int .i64 0, .int .i64 0, .int .i64 0, .int .i64 0, .int .i64 0]) ?_ 0 _ rfl; (with_reducible repeat (first | refine blk_drewN ?_ _ | refine blk_drew ?_ | refine blk_alloc ?_ _)); exact BK102.out) Tryd.underlying41 rfl (by kernel_rfl)) rfl ?_
              exact ⟨by first | rfl | (simp [errW_none, errW_some] <;> rfl) | (simp [*, errW_none, errW_some] <;> rfl), by repeat (first | (with_reducible first | exact HB.out | apply below_alloc | apply pw_below_drewN | apply below_drew1 | refine below_set ?_ GE102.out) | exact HB.out)⟩
            · rw [if_neg c19] at H
              have c19b0 : decide (1048576 < (wrap64 (a0 * a1))) = false := decide_eq_false c19
              clear c19
              replace H := Option.bind_eq_some_iff.mp H
              obtain ⟨t109, A210, H⟩ := H
              replace H : ((plan_share.f a1 (wrap64 (8 * a0))).bind fun t110 => ((plan_share.f (wrap64 (a2 * 32)) a0).bind fun t111 => (if (0 ≤ a3 ∧ a3 ≤ 1000) ∧ (0 ≤ t109 ∧ t109 ≤ 1000000) ∧ (0 ≤ t110 ∧ t110 ≤ 1000000) ∧ (0 ≤ t111 ∧ t111 ≤ 1000000) then (if a1 ≤ 2 + a3 + t109 + t110 + t111 then (some (0, 0, 0, 0, 0, 0, 0, 0, 0, 0, 0, 0, 6)) else (some (a0, a1, a2, a3, 2, 2 + a3, t109, 2 + a3 + t109, t110, 2 + a3 + t109 + t110, t111, 2 + a3 + t109 + t110 + t111, 0))) else none))) = some (r1, r2, r3, r4, r5, r6, r7, r8, r9, r10, r11, r12, r13) := H
              have A21 := Aside0.mk A210
              clear A210
              replace H := Option.bind_eq_some_iff.mp H
              obtain ⟨t110, A220, H⟩ := H
              replace H : ((plan_share.f (wrap64 (a2 * 32)) a0).bind fun t111 => (if (0 ≤ a3 ∧ a3 ≤ 1000) ∧ (0 ≤ t109 ∧ t109 ≤ 1000000) ∧ (0 ≤ t110 ∧ t110 ≤ 1000000) ∧ (0 ≤ t111 ∧ t111 ≤ 1000000) then (if a1 ≤ 2 + a3 + t109 + t110 + t111 then (some (0, 0, 0, 0, 0, 0, 0, 0, 0, 0, 0, 0, 6)) else (some (a0, a1, a2, a3, 2, 2 + a3, t109, 2 + a3 + t109, t110, 2 + a3 + t109 + t110, t111, 2 + a3 + t109 + t110 + t111, 0))) else none)) = some (r1, r2, r3, r4, r5, r6, r7, r8, r9, r10, r11, r12, r13) := H
              have A22 := Aside0.mk A220
              clear A220
              replace H := Option.bind_eq_some_iff.mp H
              obtain ⟨t111, A230, H⟩ := H
              replace H : (if (0 ≤ a3 ∧ a3 ≤ 1000) ∧ (0 ≤ t109 ∧ t109 ≤ 1000000) ∧ (0 ≤ t110 ∧ t110 ≤ 1000000) ∧ (0 ≤ t111 ∧ t111 ≤ 1000000) then (if a1 ≤ 2 + a3 + t109 + t110 + t111 then (some (0, 0, 0, 0, 0, 0, 0, 0, 0, 0, 0, 0, 6)) else (some (a0, a1, a2, a3, 2, 2 + a3, t109, 2 + a3 + t109, t110, 2 + a3 + t109 + t110, t111, 2 + a3 + t109 + t110 + t111, 0))) else none) = some (r1, r2, r3, r4, r5, r6, r7, r8, r9, r10, r11, r12, r13) := H
              have A23 := Aside0.mk A230
              clear A230
              by_cases cs : (0 ≤ a3 ∧ a3 ≤ 1000) ∧ (0 ≤ t109 ∧ t109 ≤ 1000000) ∧ (0 ≤ t110 ∧ t110 ≤ 1000000) ∧ (0 ≤ t111 ∧ t111 ≤ 1000000)
              case neg =>
                rw [if_neg cs] at H
                exact absurd H (by simp)
              rw [if_pos cs] at H
              have HL := Aside0.mk H
              have HS := Aside0.mk cs
              clear H cs
              go_upto_region 9 with (first | ((with_reducible refine gate_dst (N := 10) rfl ?_); refine box_event ?hg (N := 10) ?hd (cs := #[.int .i64 0, .int .i64 0, .int .i64 0, .int .i64 0, .int .i64 0, .int .i64 0, .int .i64 0, .int .i64 0, .int .i64 0, .int .i64 0, .int .i64 0, .int .i64 0]) (t := 41) ?hr ?_; (case hd => rfl); (case hg => rfl); (case hr => first | (go_simp; done) | (go_simp; rfl)); intro gb108 hg w25 hbox hb; have n0_ := Aside0.mk (blk_below (g := gb102) (o := .cells #[.int .i64 0, .int .i64 0, .int .i64 0, .int .i64 0, .int .i64 0, .int .i64 0, .int .i64 0, .int .i64 0, .int .i64 0, .int .i64 0, .int .i64 0, .int .i64 0] 41 (0, 0)) (by (with_reducible repeat (first | refine blk_drewN ?_ _ | refine blk_drew ?_ | refine blk_alloc ?_ _)); exact BK102.out) hb); have n1_ := Aside0.mk (below_step (by repeat (first | (with_reducible first | exact HB.out | apply below_alloc | apply pw_below_drewN | apply below_drew1 | refine below_set ?_ GE102.out) | exact HB.out)) hb); have n2_ := Aside0.mk (hbox); have n3_ := Aside0.mk ((by rw [hg]; exact (below_size (by repeat (first | (with_reducible first | exact HB.out | apply below_alloc | apply pw_below_drewN | apply below_drew1 | refine below_set ?_ GE102.out) | exact HB.out))) : w.heap.size ≤ gb108)); have n4_ := Aside0.mk ((by rw [hg]; exact (below_size (by repeat (first | (with_reducible first | exact HB.out | apply below_alloc | apply pw_below_drewN | apply below_drew1 | refine below_set ?_ GE102.out) | exact HB.out))) : w.heap.size ≤ gb108)); have n5_ := Aside0.mk ((by rw [hg]; exact Nat.ne_of_lt (blk_lt (g := gb102) (o := .cells #[.int .i64 0, .int .i64 0, .int .i64 0, .int .i64 0, .int .i64 0, .int .i64 0, .int .i64 0, .int .i64 0, .int .i64 0, .int .i64 0, .int .i64 0, .int .i64 0] 41 (0, 0)) (by (with_reducible repeat (first | refine blk_drewN ?_ _ | refine blk_drew ?_ | refine blk_alloc ?_ _)); exact BK102.out)) : gb102 ≠ gb108)); have n6_ := Aside0.mk ((by rw [hg]; exact Nat.ne_of_gt (blk_lt (g := gb102) (o := .cells #[.int .i64 0, .int .i64 0, .int .i64 0, .int .i64 0, .int .i64 0, .int .i64 0, .int .i64 0, .int .i64 0, .int .i64 0, .int .i64 0, .int .i64 0, .int .i64 0] 41 (0, 0)) (by (with_reducible repeat (first | refine blk_drewN ?_ _ | refine blk_drew ?_ | refine blk_alloc ?_ _)); exact BK102.out)) : gb108 ≠ gb102)); clear BK102; clear HB; have BK102 := n0_; have HB := n1_; have BK108 := n2_; have GW108 := n3_; have GE108 := n4_; have NB102_108 := n5_; have NB108_102 := n6_; clear n0_ n1_ n2_ n3_ n4_ n5_ n6_; clear hb hbox hg; have hnb26 := NB108_102.out; have hnc26 := NB102_108.out; have hcz27_0 : w25.cell? ⟨gb108, 0, none⟩ = some (.int .i64 0) := (blk_cell BK108.out 0).trans rfl; have hcz27_1 : w25.cell? ⟨gb108, 1, none⟩ = some (.int .i64 0) := (blk_cell BK108.out 1).trans rfl; have hcz27_2 : w25.cell? ⟨gb108, 2, none⟩ = some (.int .i64 0) := (blk_cell BK108.out 2).trans rfl; have hcz27_3 : w25.cell? ⟨gb108, 3, none⟩ = some (.int .i64 0) := (blk_cell BK108.out 3).trans rfl; have hcz27_4 : w25.cell? ⟨gb108, 4, none⟩ = some (.int .i64 0) := (blk_cell BK108.out 4).trans rfl; have hcz27_5 : w25.cell? ⟨gb108, 5, none⟩ = some (.int .i64 0) := (blk_cell BK108.out 5).trans rfl; have hcz27_6 : w25.cell? ⟨gb108, 6, none⟩ = some (.int .i64 0) := (blk_cell BK108.out 6).trans rfl; have hcz27_7 : w25.cell? ⟨gb108, 7, none⟩ = some (.int .i64 0) := (blk_cell BK108.out 7).trans rfl; have hcz27_8 : w25.cell? ⟨gb108, 8, none⟩ = some (.int .i64 0) := (blk_cell BK108.out 8).trans rfl; have hcz27_9 : w25.cell? ⟨gb108, 9, none⟩ = some (.int .i64 0) := (blk_cell BK108.out 9).trans rfl; have hcz27_10 : w25.cell? ⟨gb108, 10, none⟩ = some (.int .i64 0) := (blk_cell BK108.out 10).trans rfl; have hcz27_11 : w25.cell? ⟨gb108, 11, none⟩ = some (.int .i64 0) := (blk_cell BK108.out 11).trans rfl; have hfz27_0 := blk_frozen BK108.out 0; have hfz27_1 := blk_frozen BK108.out 1; have hfz27_2 := blk_frozen BK108.out 2; have hfz27_3 := blk_frozen BK108.out 3; have hfz27_4 := blk_frozen BK108.out 4; have hfz27_5 := blk_frozen BK108.out 5; have hfz27_6 := blk_frozen BK108.out 6; have hfz27_7 := blk_frozen BK108.out 7; have hfz27_8 := blk_frozen BK108.out 8; have hfz27_9 := blk_frozen BK108.out 9; have hfz27_10 := blk_frozen BK108.out 10; have hfz27_11 := blk_frozen BK108.out 11))
              refine plan_Make.carry_ (fun W => W.heap[gb102]? = some (.cells #[.int .i64 0, .int .i64 0, .int .i64 0, .int .i64 0, .int .i64 0, .int .i64 0, .int .i64 0, .int .i64 0, .int .i64 0, .int .i64 0, .int .i64 0, .int .i64 0] 41 (0, 0)) ∧ W.heap[gb108]? = some (.cells #[.int .i64 a0, .int .i64 a1, .int .i64 a2, .int .i64 a3, .int .i64 0, .int .i64 0, .int .i64 0, .int .i64 0, .int .i64 0, .int .i64 0, .int .i64 0, .int .i64 0] 41 (0, 0)) ∧ Below w.heap.size w W) ?_ (fun W hW => ?_)
              · refine ⟨?_, ?_, ?_⟩
                · repeat (first | (with_reducible exact BK102.out) | refine blk_far ?_ NB102_108.out _)
                · refine blk_put (cs := #[.int .i64 a0, .int .i64 a1, .int .i64 a2, .int .i64 a3, .int .i64 0, .int .i64 0, .int .i64 0, .int .i64 0, .int .i64 0, .int .i64 0, .int .i64 0, .int .i64 0]) ?_ 11 _ rfl; refine blk_put (cs := #[.int .i64 a0, .int .i64 a1, .int .i64 a2, .int .i64 a3, .int .i64 0, .int .i64 0, .int .i64 0, .int .i64 0, .int .i64 0, .int .i64 0, .int .i64 0, .int .i64 0]) ?_ 10 _ rfl; refine blk_put (cs := #[.int .i64 a0, .int .i64 a1, .int .i64 a2, .int .i64 a3, .int .i64 0, .int .i64 0, .int .i64 0, .int .i64 0, .int .i64 0, .int .i64 0, .int .i64 0, .int .i64 0]) ?_ 9 _ rfl; refine blk_put (cs := #[.int .i64 a0, .int .i64 a1, .int .i64 a2, .int .i64 a3, .int .i64 0, .int .i64 0, .int .i64 0, .int .i64 0, .int .i64 0, .int .i64 0, .int .i64 0, .int .i64 0]) ?_ 8 _ rfl; refine blk_put (cs := #[.int .i64 a0, .int .i64 a1, .int .i64 a2, .int .i64 a3, .int .i64 0, .int .i64 0, .int .i64 0, .int .i64 0, .int .i64 0, .int .i64 0, .int .i64 0, .int .i64 0]) ?_ 7 _ rfl; refine blk_put (cs := #[.int .i64 a0, .int .i64 a1, .int .i64 a2, .int .i64 a3, .int .i64 0, .int .i64 0, .int .i64 0, .int .i64 0, .int .i64 0, .int .i64 0, .int .i64 0, .int .i64 0]) ?_ 6 _ rfl; refine blk_put (cs := #[.int .i64 a0, .int .i64 a1, .int .i64 a2, .int .i64 a3, .int .i64 0, .int .i64 0, .int .i64 0, .int .i64 0, .int .i64 0, .int .i64 0, .int .i64 0, .int .i64 0]) ?_ 5 _ rfl; refine blk_put (cs := #[.int .i64 a0, .int .i64 a1, .int .i64 a2, .int .i64 a3, .int .i64 0, .int .i64 0, .int .i64 0, .int .i64 0, .int .i64 0, .int .i64 0, .int .i64 0, .int .i64 0]) ?_ 4 _ rfl; refine blk_put (cs := #[.int .i64 a0, .int .i64 a1, .int .i64 a2, .int .i64 0, .int .i64 0, .int .i64 0, .int .i64 0, .int .i64 0, .int .i64 0, .int .i64 0, .int .i64 0, .int .i64 0]) ?_ 3 _ rfl; refine blk_put (cs := #[.int .i64 a0, .int .i64 a1, .int .i64 0, .int .i64 0, .int .i64 0, .int .i64 0, .int .i64 0, .int .i64 0, .int .i64 0, .int .i64 0, .int .i64 0, .int .i64 0]) ?_ 2 _ rfl; refine blk_put (cs := #[.int .i64 a0, .int .i64 0, .int .i64 0, .int .i64 0, .int .i64 0, .int .i64 0, .int .i64 0, .int .i64 0, .int .i64 0, .int .i64 0, .int .i64 0, .int .i64 0]) ?_ 1 _ rfl; refine blk_put (cs := #[.int .i64 0, .int .i64 0, .int .i64 0, .int .i64 0, .int .i64 0, .int .i64 0, .int .i64 0, .int .i64 0, .int .i64 0, .int .i64 0, .int .i64 0, .int .i64 0]) ?_ 0 _ rfl; with_reducible exact BK108.out
                · exact (by repeat (first | (with_reducible first | exact HB.out | apply below_alloc | apply pw_below_drewN | apply below_drew1 | refine below_set ?_ GE102.out | refine below_set ?_ GE108.out | refine below_set ?_ GEa.out) | exact HB.out))
              clear BK102 BK108 HB
              have BK102 := Aside0.mk hW.1
              have BK108 := Aside0.mk hW.2.1
              have HB := Aside0.mk hW.2.2
              clear hW
              go_upto_region 10 with (first | ((with_reducible refine gate_dst (N := 11) rfl ?_); refine box_event ?hg (N := 11) ?hd (cs := #[.int .i64 0]) (t := 3) ?hr ?_; (case hd => rfl); (case hg => rfl); (case hr => first | (go_simp; done) | (go_simp; rfl)); intro ga hg wa hbox hb; have n0_ := Aside0.mk (blk_below BK102.out hb); have n1_ := Aside0.mk (blk_below BK108.out hb); have n2_ := Aside0.mk (below_step HB.out hb); have BKa := Aside0.mk hbox; have GEa := Aside0.mk ((by rw [hg]; exact below_size HB.out) : w.heap.size ≤ ga); have NBa102 := Aside0.mk ((by rw [hg]; exact Nat.ne_of_lt (blk_lt BK102.out)) : gb102 ≠ ga); have NBa108 := Aside0.mk ((by rw [hg]; exact Nat.ne_of_lt (blk_lt BK108.out)) : gb108 ≠ ga); clear BK102 BK108 HB hg hbox hb; have BK102 := n0_; have BK108 := n1_; have HB := n2_; clear n0_ n1_ n2_; have hcza : wa.cell? ⟨ga, 0, none⟩ = some (.int .i64 0) := (blk_cell BKa.out 0).trans rfl; have hfza := blk_frozen BKa.out 0))
              refine plan_Make.carry_ (fun W => W.heap[gb102]? = some (.cells #[.int .i64 0, .int .i64 0, .int .i64 0, .int .i64 0, .int .i64 0, .int .i64 0, .int .i64 0, .int .i64 0, .int .i64 0, .int .i64 0, .int .i64 0, .int .i64 0] 41 (0, 0)) ∧ W.heap[gb108]? = some (.cells #[.int .i64 a0, .int .i64 a1, .int .i64 a2, .int .i64 a3, .int .i64 0, .int .i64 0, .int .i64 0, .int .i64 0, .int .i64 0, .int .i64 0, .int .i64 0, .int .i64 0] 41 (0, 0)) ∧ W.heap[ga]? = some (.cells #[.int .i64 2] 3 (0, 0)) ∧ Below w.heap.size w W) ?_ (fun W hW => ?_)
              · refine ⟨?_, ?_, ?_, ?_⟩
                · exact blk_far BK102.out NBa102.out _
                · exact blk_far BK108.out NBa108.out _
                · exact blk_set BKa.out 0 _
                · exact (by repeat (first | (with_reducible first | exact HB.out | apply below_alloc | apply pw_below_drewN | apply below_drew1 | refine below_set ?_ GE102.out | refine below_set ?_ GE108.out | refine below_set ?_ GEa.out) | exact HB.out))
              clear BK102 BK108 BKa HB hcza hfza
              have BK102 := Aside0.mk hW.1
              have BK108 := Aside0.mk hW.2.1
              have BKa := Aside0.mk hW.2.2.1
              have HB := Aside0.mk hW.2.2.2
              clear hW
              have hcz6 : W.cell? ⟨gb108, 6, none⟩ = some (.int .i64 0) := (blk_cell BK108.out 6).trans rfl
              have hfz6 := blk_frozen BK108.out 6
              have hcz8 : W.cell? ⟨gb108, 8, none⟩ = some (.int .i64 0) := (blk_cell BK108.out 8).trans rfl
              have hfz8 := blk_frozen BK108.out 8
              have hcz10 : W.cell? ⟨gb108, 10, none⟩ = some (.int .i64 0) := (blk_cell BK108.out 10).trans rfl
              have hfz10 := blk_frozen BK108.out 10
              go_upto_region 12 with (first | ((with_reducible refine gate_callee (f := 70) rfl ?_); refine goesL_ (some 48) rfl rfl Tryd.func70 (by kernel_rfl) rfl #[.int .i64 a2, .int .i64 (wrap64 (8 * a0))] rfl (by (try simp only [List.map_toArray, List.map_cons, List.map_nil]); first | done | rfl | (simp only [List.length_drop, List.length_take]; rfl) | (simp only [Int.toNat_natCast, Nat.sub_self, List.length_drop, List.length_take]; rfl)) ?_; (with_reducible refine (plan_share.calls a2 (wrap64 (8 * a0)) t109 _ A21.out).mono ?_); rintro e w' ⟨rfl, ⟨nd, rfl⟩⟩; refine ⟨_, rfl, ?_⟩) | ((with_reducible refine gate_callee (f := 70) rfl ?_); refine goesL_ (some 52) rfl rfl Tryd.func70 (by kernel_rfl) rfl #[.int .i64 a1, .int .i64 (wrap64 (8 * a0))] rfl (by (try simp only [List.map_toArray, List.map_cons, List.map_nil]); first | done | rfl | (simp only [List.length_drop, List.length_take]; rfl) | (simp only [Int.toNat_natCast, Nat.sub_self, List.length_drop, List.length_take]; rfl)) ?_; (with_reducible refine (plan_share.calls a1 (wrap64 (8 * a0)) t110 _ A22.out).mono ?_); rintro e w' ⟨rfl, ⟨nd, rfl⟩⟩; refine ⟨_, rfl, ?_⟩) | ((with_reducible refine gate_callee (f := 70) rfl ?_); refine goesL_ (some 56) rfl rfl Tryd.func70 (by kernel_rfl) rfl #[.int .i64 (wrap64 (a2 * 32)), .int .i64 a0] rfl (by (try simp only [List.map_toArray, List.map_cons, List.map_nil]); first | done | rfl | (simp only [List.length_drop, List.length_take]; rfl) | (simp only [Int.toNat_natCast, Nat.sub_self, List.length_drop, List.length_take]; rfl)) ?_; (with_reducible refine (plan_share.calls (wrap64 (a2 * 32)) a0 t111 _ A23.out).mono ?_); rintro e w' ⟨rfl, ⟨nd, rfl⟩⟩; refine ⟨_, rfl, ?_⟩))
              refine plan_Make.carry_ (fun W => W.heap[gb102]? = some (.cells #[.int .i64 0, .int .i64 0, .int .i64 0, .int .i64 0, .int .i64 0, .int .i64 0, .int .i64 0, .int .i64 0, .int .i64 0, .int .i64 0, .int .i64 0, .int .i64 0] 41 (0, 0)) ∧ W.heap[gb108]? = some (.cells #[.int .i64 a0, .int .i64 a1, .int .i64 a2, .int .i64 a3, .int .i64 0, .int .i64 0, .int .i64 t109, .int .i64 0, .int .i64 t110, .int .i64 0, .int .i64 t111, .int .i64 0] 41 (0, 0)) ∧ W.heap[ga]? = some (.cells #[.int .i64 2] 3 (0, 0)) ∧ Below w.heap.size w W) ?_ (fun W2 hW => ?_)
              · refine ⟨?_, ?_, ?_, ?_⟩
                · repeat (first | (with_reducible exact BK102.out) | (with_reducible refine blk_drewN ?_ _) | (with_reducible refine blk_drew ?_) | refine blk_far ?_ NB102_108.out _)
                · refine blk_put (cs := #[.int .i64 a0, .int .i64 a1, .int .i64 a2, .int .i64 a3, .int .i64 0, .int .i64 0, .int .i64 t109, .int .i64 0, .int .i64 t110, .int .i64 0, .int .i64 0, .int .i64 0]) ?_ 10 _ rfl; refine blk_put (cs := #[.int .i64 a0, .int .i64 a1, .int .i64 a2, .int .i64 a3, .int .i64 0, .int .i64 0, .int .i64 t109, .int .i64 0, .int .i64 0, .int .i64 0, .int .i64 0, .int .i64 0]) ?_ 8 _ rfl; refine blk_put (cs := #[.int .i64 a0, .int .i64 a1, .int .i64 a2, .int .i64 a3, .int .i64 0, .int .i64 0, .int .i64 0, .int .i64 0, .int .i64 0, .int .i64 0, .int .i64 0, .int .i64 0]) ?_ 6 _ rfl; repeat (first | (with_reducible exact BK108.out) | (with_reducible refine blk_drewN ?_ _) | (with_reducible refine blk_drew ?_))
                · repeat (first | (with_reducible exact BKa.out) | (with_reducible refine blk_drewN ?_ _) | (with_reducible refine blk_drew ?_) | refine blk_far ?_ (Ne.symm NBa108.out) _)
                · exact (by repeat (first | (with_reducible first | exact HB.out | apply below_alloc | apply pw_below_drewN | apply below_drew1 | refine below_set ?_ GE102.out | refine below_set ?_ GE108.out | refine below_set ?_ GEa.out) | exact HB.out))
              clear BK102 BK108 BKa HB hcz6 hfz6 hcz8 hfz8 hcz10 hfz10
              have BK102 := Aside0.mk (blk_drew hW.1)
              have BK108 := Aside0.mk (blk_drew hW.2.1)
              have BKa := Aside0.mk (blk_drew hW.2.2.1)
              have HB := Aside0.mk (below_drew1 hW.2.2.2)
              clear hW
              refine start_ (n := 23) (S := (fun w' => w'.cell? ⟨gb108, 6, none⟩ = some (.int .i64 t109) ∧ w'.cell? ⟨gb108, 8, none⟩ = some (.int .i64 t110) ∧ w'.cell? ⟨gb108, 10, none⟩ = some (.int .i64 t111))) (ds := [16, 18, 20, 22]) #[false, false, false, false, false, false, false, false, false, false, false, false, false, false, false, false, false, false, false, false, false, false, false] (by kernel_rfl) rfl rfl ⟨(blk_cell BK108.out 6).trans rfl, (blk_cell BK108.out 8).trans rfl, (blk_cell BK108.out 10).trans rfl⟩ (fun hHeld => ?_); refine with_tabW plan_Make.tab12 plan_Make.bits12 (fun HT_ HW_ => ?_)
              generalize W2.drew = w29 at BK102 BK108 BKa HB hHeld ⊢
              refine pure_ (i := 0) (N := some 60) (v := ?_) (a' := ?_) #[true, false, false, false, false, false, false, false, false, false, false, false, false, false, false, false, false, false, false, false, false, false, false] rfl rfl (any_of HT_.out (by kernel_rfl)) (fun _ _ _ h => h) (Or.inl ⟨by rfl, ?_⟩) ?_ ?_
              rotate_left
              · intro w'
                go_simp
                with_reducible rfl
              rotate_left
              · simp only [Act.put, List.setIfInBounds_toArray, List.set_cons_zero, List.set_cons_succ, i64_w, i32_w]
                rfl
              refine pure_ (i := 1) (N := some 61) (v := ?_) (a' := ?_) #[true, true, false, false, false, false, false, false, false, false, false, false, false, false, false, false, false, false, false, false, false, false, false] rfl rfl (any_of HT_.out (by kernel_rfl)) (fun _ _ _ h => h) (Or.inl ⟨by rfl, ?_⟩) ?_ ?_
              rotate_left
              · intro w'
                go_simp
                with_reducible rfl
              rotate_left
              · simp only [Act.put, List.setIfInBounds_toArray, List.set_cons_zero, List.set_cons_succ, i64_w, i32_w]
                rfl
              refine pure_ (i := 3) (N := some 63) (v := ?_) (a' := ?_) #[true, true, false, true, false, false, false, false, false, false, false, false, false, false, false, false, false, false, false, false, false, false, false] rfl rfl (any_of HT_.out (by kernel_rfl)) (fun _ _ _ h => h) (Or.inl ⟨by rfl, ?_⟩) ?_ ?_
              rotate_left
              · intro w'
                go_simp
                with_reducible rfl
              rotate_left
              · simp only [Act.put, List.setIfInBounds_toArray, List.set_cons_zero, List.set_cons_succ, i64_w, i32_w]
                rfl
              refine pure_ (i := 4) (N := some 64) (v := ?_) (a' := ?_) #[true, true, false, true, true, false, false, false, false, false, false, false, false, false, false, false, false, false, false, false, false, false, false] rfl rfl (any_of HT_.out (by kernel_rfl)) (fun _ _ _ h => h) (Or.inl ⟨by rfl, ?_⟩) ?_ ?_
              rotate_left
              · intro w'
                go_simp
                with_reducible rfl
              rotate_left
              · simp only [Act.put, List.setIfInBounds_toArray, List.set_cons_zero, List.set_cons_succ, i64_w, i32_w]
                rfl
              refine pure_ (i := 7) (N := some 67) (v := ?_) (a' := ?_) #[true, true, false, true, true, false, false, true, false, false, false, false, false, false, false, false, false, false, false, false, false, false, false] rfl rfl (any_of HT_.out (by kernel_rfl)) (fun _ _ _ h => h) (Or.inl ⟨by rfl, ?_⟩) ?_ ?_
              rotate_left
              · intro w'
                go_simp
                with_reducible rfl
              rotate_left
              · simp only [Act.put, List.setIfInBounds_toArray, List.set_cons_zero, List.set_cons_succ, i64_w, i32_w]
                rfl
              refine pure_ (i := 8) (N := some 68) (v := ?_) (a' := ?_) #[true, true, false, true, true, false, false, true, true, false, false, false, false, false, false, false, false, false, false, false, false, false, false] rfl rfl (any_of HT_.out (by kernel_rfl)) (fun _ _ _ h => h) (Or.inl ⟨by rfl, ?_⟩) ?_ ?_
              rotate_left
              · intro w'
                go_simp
                with_reducible rfl
              rotate_left
              · simp only [Act.put, List.setIfInBounds_toArray, List.set_cons_zero, List.set_cons_succ, i64_w, i32_w]
                rfl
              refine pure_ (i := 11) (N := some 71) (v := ?_) (a' := ?_) #[true, true, false, true, true, false, false, true, true, false, false, true, false, false, false, false, false, false, false, false, false, false, false] rfl rfl (any_of HT_.out (by kernel_rfl)) (fun _ _ _ h => h) (Or.inl ⟨by rfl, ?_⟩) ?_ ?_
              rotate_left
              · intro w'
                go_simp
                with_reducible rfl
              rotate_left
              · simp only [Act.put, List.setIfInBounds_toArray, List.set_cons_zero, List.set_cons_succ, i64_w, i32_w]
                rfl
              refine pure_ (i := 12) (N := some 72) (v := ?_) (a' := ?_) #[true, true, false, true, true, false, false, true, true, false, false, true, true, false, false, false, false, false, false, false, false, false, false] rfl rfl (any_of HT_.out (by kernel_rfl)) (fun _ _ _ h => h) (Or.inl ⟨by rfl, ?_⟩) ?_ ?_
              rotate_left
              · intro w'
                go_simp
                with_reducible rfl
              rotate_left
              · simp only [Act.put, List.setIfInBounds_toArray, List.set_cons_zero, List.set_cons_succ, i64_w, i32_w]
                rfl
              refine take_ (i := 5) (N := some 65) (v := ?_) (a' := ?_) #[true, true, false, true, true, true, false, true, true, false, false, true, true, false, false, false, false, false, false, false, false, false, false] rfl rfl (take_ofW HT_.out HW_.out (by kernel_rfl)) (fun _ _ _ h => h) (Or.inl ⟨by rfl, ?_⟩) hHeld ?_ ?_
              rotate_left
              · rintro w' ⟨s0, s1, s2⟩
                go_simp
                with_reducible rfl
              rotate_left
              · simp only [Act.put, List.setIfInBounds_toArray, List.set_cons_zero, List.set_cons_succ, i64_w, i32_w]
                rfl
              refine take_ (i := 9) (N := some 69) (v := ?_) (a' := ?_) #[true, true, false, true, true, true, false, true, true, true, false, true, true, false, false, false, false, false, false, false, false, false, false] rfl rfl (take_ofW HT_.out HW_.out (by kernel_rfl)) (fun _ _ _ h => h) (Or.inl ⟨by rfl, ?_⟩) hHeld ?_ ?_
              rotate_left
              · rintro w' ⟨s0, s1, s2⟩
                go_simp
                with_reducible rfl
              rotate_left
              · simp only [Act.put, List.setIfInBounds_toArray, List.set_cons_zero, List.set_cons_succ, i64_w, i32_w]
                rfl
              refine take_ (i := 13) (N := some 73) (v := ?_) (a' := ?_) #[true, true, false, true, true, true, false, true, true, true, false, true, true, true, false, false, false, false, false, false, false, false, false] rfl rfl (take_ofW HT_.out HW_.out (by kernel_rfl)) (fun _ _ _ h => h) (Or.inl ⟨by rfl, ?_⟩) hHeld ?_ ?_
              rotate_left
              · rintro w' ⟨s0, s1, s2⟩
                go_simp
                with_reducible rfl
              rotate_left
              · simp only [Act.put, List.setIfInBounds_toArray, List.set_cons_zero, List.set_cons_succ, i64_w, i32_w]
                rfl
              refine one_ (i := 2) (N := some 62) #[true, true, true, true, true, true, false, true, true, true, false, true, true, true, false, false, false, false, false, false, false, false, false] rfl rfl (one_of HT_.out (by kernel_rfl)) (by decide) (fun K hK => ?_)
              refine plan_Make.goesC_ Tryd.func69 (by kernel_rfl) rfl #[.int .i64 a3, .pointer (some ⟨ga, 0, none⟩)] (by rfl) rfl rfl #[.pointer (some ⟨ga, 0, none⟩)] (by rfl) (by simp [Act.eval]) ?_
              refine (plan_Make.take_calls ga (2) a3 _ BKa.out (by have := HS.out; omega) (by have := HS.out; omega)).mono ?_
              rintro e w30 ⟨rfl, hga, hfar, hbel⟩
              refine ⟨_, rfl, ?_⟩
              have n0_ := Aside0.mk (hfar _ _ _ NBa102.out BK102.out)
              have n1_ := Aside0.mk (hfar _ _ _ NBa108.out BK108.out)
              have n2_ := Aside0.mk hga
              have n3_ := Aside0.mk (hbel _ _ GEa.out HB.out)
              clear BK102 BK108 BKa HB hga hfar hbel hHeld
              have BK102 := n0_
              have BK108 := n1_
              have BKa := n2_
              have HB := n3_
              clear n0_ n1_ n2_ n3_
              refine hK.out _ _ ⟨(blk_cell BK108.out 6).trans rfl, (blk_cell BK108.out 8).trans rfl, (blk_cell BK108.out 10).trans rfl⟩ (fun hHeld => ?_)
              clear hK K
              refine norm_ (a' := ?_) ?_ ?_
              rotate_left
              · show Act.put _ (some 62) _ = _
                simp only [Act.put, List.setIfInBounds_toArray, List.set_cons_zero, List.set_cons_succ, i64_w, i32_w]
                rfl
              refine pure_ (i := 15) (N := some 75) (v := ?_) (a' := ?_) #[true, true, true, true, true, true, false, true, true, true, false, true, true, true, false, true, false, false, false, false, false, false, false] rfl rfl (any_of HT_.out (by kernel_rfl)) (fun _ _ _ h => h) (Or.inl ⟨by rfl, ?_⟩) ?_ ?_
              rotate_left
              · intro w'
                go_simp
                with_reducible rfl
              rotate_left
              · simp only [Act.put, List.setIfInBounds_toArray, List.set_cons_zero, List.set_cons_succ, i64_w, i32_w]
                rfl
              refine one_ (i := 6) (N := some 66) #[true, true, true, true, true, true, true, true, true, true, false, true, true, true, false, true, false, false, false, false, false, false, false] rfl rfl (one_of HT_.out (by kernel_rfl)) (by decide) (fun K hK => ?_)
              refine plan_Make.goesC_ Tryd.func69 (by kernel_rfl) rfl #[.int .i64 t109, .pointer (some ⟨ga, 0, none⟩)] (by rfl) rfl rfl #[.pointer (some ⟨ga, 0, none⟩)] (by rfl) (by simp [Act.eval]) ?_
              refine (plan_Make.take_calls ga (2 + a3) t109 _ BKa.out (by have := HS.out; omega) (by have := HS.out; omega)).mono ?_
              rintro e w31 ⟨rfl, hga, hfar, hbel⟩
              refine ⟨_, rfl, ?_⟩
              have n0_ := Aside0.mk (hfar _ _ _ NBa102.out BK102.out)
              have n1_ := Aside0.mk (hfar _ _ _ NBa108.out BK108.out)
              have n2_ := Aside0.mk hga
              have n3_ := Aside0.mk (hbel _ _ GEa.out HB.out)
              clear BK102 BK108 BKa HB hga hfar hbel hHeld
              have BK102 := n0_
              have BK108 := n1_
              have BKa := n2_
              have HB := n3_
              clear n0_ n1_ n2_ n3_
              refine hK.out _ _ ⟨(blk_cell BK108.out 6).trans rfl, (blk_cell BK108.out 8).trans rfl, (blk_cell BK108.out 10).trans rfl⟩ (fun hHeld => ?_)
              clear hK K
              refine norm_ (a' := ?_) ?_ ?_
              rotate_left
              · show Act.put _ (some 66) _ = _
                simp only [Act.put, List.setIfInBounds_toArray, List.set_cons_zero, List.set_cons_succ, i64_w, i32_w]
                rfl
              refine one_ (i := 10) (N := some 70) #[true, true, true, true, true, true, true, true, true, true, true, true, true, true, false, true, false, false, false, false, false, false, false] rfl rfl (one_of HT_.out (by kernel_rfl)) (by decide) (fun K hK => ?_)
              refine plan_Make.goesC_ Tryd.func69 (by kernel_rfl) rfl #[.int .i64 t110, .pointer (some ⟨ga, 0, none⟩)] (by rfl) rfl rfl #[.pointer (some ⟨ga, 0, none⟩)] (by rfl) (by simp [Act.eval]) ?_
              refine (plan_Make.take_calls ga (2 + a3 + t109) t110 _ BKa.out (by have := HS.out; omega) (by have := HS.out; omega)).mono ?_
              rintro e w32 ⟨rfl, hga, hfar, hbel⟩
              refine ⟨_, rfl, ?_⟩
              have n0_ := Aside0.mk (hfar _ _ _ NBa102.out BK102.out)
              have n1_ := Aside0.mk (hfar _ _ _ NBa108.out BK108.out)
              have n2_ := Aside0.mk hga
              have n3_ := Aside0.mk (hbel _ _ GEa.out HB.out)
              clear BK102 BK108 BKa HB hga hfar hbel hHeld
              have BK102 := n0_
              have BK108 := n1_
              have BKa := n2_
              have HB := n3_
              clear n0_ n1_ n2_ n3_
              refine hK.out _ _ ⟨(blk_cell BK108.out 6).trans rfl, (blk_cell BK108.out 8).trans rfl, (blk_cell BK108.out 10).trans rfl⟩ (fun hHeld => ?_)
              clear hK K
              refine norm_ (a' := ?_) ?_ ?_
              rotate_left
              · show Act.put _ (some 70) _ = _
                simp only [Act.put, List.setIfInBounds_toArray, List.set_cons_zero, List.set_cons_succ, i64_w, i32_w]
                rfl
              refine one_ (i := 14) (N := some 74) #[true, true, true, true, true, true, true, true, true, true, true, true, true, true, true, true, false, false, false, false, false, false, false] rfl rfl (one_of HT_.out (by kernel_rfl)) (by decide) (fun K hK => ?_)
              refine plan_Make.goesC_ Tryd.func69 (by kernel_rfl) rfl #[.int .i64 t111, .pointer (some ⟨ga, 0, none⟩)] (by rfl) rfl rfl #[.pointer (some ⟨ga, 0, none⟩)] (by rfl) (by simp [Act.eval]) ?_
              refine (plan_Make.take_calls ga (2 + a3 + t109 + t110) t111 _ BKa.out (by have := HS.out; omega) (by have := HS.out; omega)).mono ?_
              rintro e w33 ⟨rfl, hga, hfar, hbel⟩
              refine ⟨_, rfl, ?_⟩
              have n0_ := Aside0.mk (hfar _ _ _ NBa102.out BK102.out)
              have n1_ := Aside0.mk (hfar _ _ _ NBa108.out BK108.out)
              have n2_ := Aside0.mk hga
              have n3_ := Aside0.mk (hbel _ _ GEa.out HB.out)
              clear BK102 BK108 BKa HB hga hfar hbel hHeld
              have BK102 := n0_
              have BK108 := n1_
              have BKa := n2_
              have HB := n3_
              clear n0_ n1_ n2_ n3_
              refine hK.out _ _ ⟨(blk_cell BK108.out 6).trans rfl, (blk_cell BK108.out 8).trans rfl, (blk_cell BK108.out 10).trans rfl⟩ (fun hHeld => ?_)
              clear hK K
              refine norm_ (a' := ?_) ?_ ?_
              rotate_left
              · show Act.put _ (some 74) _ = _
                simp only [Act.put, List.setIfInBounds_toArray, List.set_cons_zero, List.set_cons_succ, i64_w, i32_w]
                rfl
              refine last_ (i := 16) (N := none) #[true, true, true, true, true, true, true, true, true, true, true, true, true, true, true, true, true, false, false, false, false, false, false] rfl rfl (one_of HT_.out (by kernel_rfl)) (by decide) (fun K hK => ?_)
              have hs30 : w33.cell? ⟨gb108, 4, none⟩ = some (.int .i64 0) := (blk_cell BK108.out 4).trans rfl
              have hfs30 := blk_frozen BK108.out 4
              refine skip_ (w1 := ?_) (by rfl) rfl ?_ ?_
              rotate_left
              · go_simp
                rfl
              refine hK.out _ _ ?_
              clear hK K
              refine pure_ (i := 17) (N := some 76) (v := ?_) (a' := ?_) #[true, true, true, true, true, true, true, true, true, true, true, true, true, true, true, true, true, true, false, false, false, false, false] rfl rfl (any_of HT_.out (by kernel_rfl)) (fun _ _ _ h => h) (Or.inl ⟨by rfl, ?_⟩) ?_ ?_
              rotate_left
              · intro w'
                go_simp
                with_reducible rfl
              rotate_left
              · simp only [Act.put, List.setIfInBounds_toArray, List.set_cons_zero, List.set_cons_succ, i64_w, i32_w]
                rfl
              refine last_ (i := 18) (N := none) #[true, true, true, true, true, true, true, true, true, true, true, true, true, true, true, true, true, true, true, false, false, false, false] rfl rfl (one_of HT_.out (by kernel_rfl)) (by decide) (fun K hK => ?_)
              have hs31 : w33.cell? ⟨gb108, 5, none⟩ = some (.int .i64 0) := (blk_cell BK108.out 5).trans rfl
              have hfs31 := blk_frozen BK108.out 5
              refine skip_ (w1 := ?_) (by rfl) rfl ?_ ?_
              rotate_left
              · go_simp
                rfl
              refine hK.out _ _ ?_
              clear hK K
              refine pure_ (i := 19) (N := some 77) (v := ?_) (a' := ?_) #[true, true, true, true, true, true, true, true, true, true, true, true, true, true, true, true, true, true, true, true, false, false, false] rfl rfl (any_of HT_.out (by kernel_rfl)) (fun _ _ _ h => h) (Or.inl ⟨by rfl, ?_⟩) ?_ ?_
              rotate_left
              · intro w'
                go_simp
                with_reducible rfl
              rotate_left
              · simp only [Act.put, List.setIfInBounds_toArray, List.set_cons_zero, List.set_cons_succ, i64_w, i32_w]
                rfl
              refine last_ (i := 20) (N := none) #[true, true, true, true, true, true, true, true, true, true, true, true, true, true, true, true, true, true, true, true, true, false, false] rfl rfl (one_of HT_.out (by kernel_rfl)) (by decide) (fun K hK => ?_)
              have hs32 : w33.cell? ⟨gb108, 7, none⟩ = some (.int .i64 0) := (blk_cell BK108.out 7).trans rfl
              have hfs32 := blk_frozen BK108.out 7
              refine skip_ (w1 := ?_) (by rfl) rfl ?_ ?_
              rotate_left
              · go_simp
                rfl
              refine hK.out _ _ ?_
              clear hK K
              refine pure_ (i := 21) (N := some 78) (v := ?_) (a' := ?_) #[true, true, true, true, true, true, true, true, true, true, true, true, true, true, true, true, true, true, true, true, true, true, false] rfl rfl (any_of HT_.out (by kernel_rfl)) (fun _ _ _ h => h) (Or.inl ⟨by rfl, ?_⟩) ?_ ?_
              rotate_left
              · intro w'
                go_simp
                with_reducible rfl
              rotate_left
              · simp only [Act.put, List.setIfInBounds_toArray, List.set_cons_zero, List.set_cons_succ, i64_w, i32_w]
                rfl
              refine last_ (i := 22) (N := none) #[true, true, true, true, true, true, true, true, true, true, true, true, true, true, true, true, true, true, true, true, true, true, true] rfl rfl (one_of HT_.out (by kernel_rfl)) (by decide) (fun K hK => ?_)
              have hs33 : w33.cell? ⟨gb108, 9, none⟩ = some (.int .i64 0) := (blk_cell BK108.out 9).trans rfl
              have hfs33 := blk_frozen BK108.out 9
              refine skip_ (w1 := ?_) (by rfl) rfl ?_ ?_
              rotate_left
              · go_simp
                rfl
              refine hK.out _ _ ?_
              clear hK K
              refine done_ (done_of HT_.out (by kernel_rfl)) ?_
              have hcp_0 : w33.cell? ⟨gb108, 0, none⟩ = some (.int .i64 a0) := (blk_cell BK108.out 0).trans rfl
              have hcp_1 : w33.cell? ⟨gb108, 1, none⟩ = some (.int .i64 a1) := (blk_cell BK108.out 1).trans rfl
              have hcp_2 : w33.cell? ⟨gb108, 2, none⟩ = some (.int .i64 a2) := (blk_cell BK108.out 2).trans rfl
              have hcp_3 : w33.cell? ⟨gb108, 3, none⟩ = some (.int .i64 a3) := (blk_cell BK108.out 3).trans rfl
              have hcp_4 : w33.cell? ⟨gb108, 4, none⟩ = some (.int .i64 0) := (blk_cell BK108.out 4).trans rfl
              have hcp_5 : w33.cell? ⟨gb108, 5, none⟩ = some (.int .i64 0) := (blk_cell BK108.out 5).trans rfl
              have hcp_6 : w33.cell? ⟨gb108, 6, none⟩ = some (.int .i64 t109) := (blk_cell BK108.out 6).trans rfl
              have hcp_7 : w33.cell? ⟨gb108, 7, none⟩ = some (.int .i64 0) := (blk_cell BK108.out 7).trans rfl
              have hcp_8 : w33.cell? ⟨gb108, 8, none⟩ = some (.int .i64 t110) := (blk_cell BK108.out 8).trans rfl
              have hcp_9 : w33.cell? ⟨gb108, 9, none⟩ = some (.int .i64 0) := (blk_cell BK108.out 9).trans rfl
              have hcp_10 : w33.cell? ⟨gb108, 10, none⟩ = some (.int .i64 t111) := (blk_cell BK108.out 10).trans rfl
              have hcp_11 : w33.cell? ⟨gb108, 11, none⟩ = some (.int .i64 0) := (blk_cell BK108.out 11).trans rfl
              have hfp_0 := blk_frozen BK108.out 0
              have hfp_1 := blk_frozen BK108.out 1
              have hfp_2 := blk_frozen BK108.out 2
              have hfp_3 := blk_frozen BK108.out 3
              have hfp_4 := blk_frozen BK108.out 4
              have hfp_5 := blk_frozen BK108.out 5
              have hfp_6 := blk_frozen BK108.out 6
              have hfp_7 := blk_frozen BK108.out 7
              have hfp_8 := blk_frozen BK108.out 8
              have hfp_9 := blk_frozen BK108.out 9
              have hfp_10 := blk_frozen BK108.out 10
              have hfp_11 := blk_frozen BK108.out 11
              have hcr_0 : w33.cell? ⟨gb102, 0, none⟩ = some (.int .i64 0) := (blk_cell BK102.out 0).trans rfl
              have hcr_1 : w33.cell? ⟨gb102, 1, none⟩ = some (.int .i64 0) := (blk_cell BK102.out 1).trans rfl
              have hcr_2 : w33.cell? ⟨gb102, 2, none⟩ = some (.int .i64 0) := (blk_cell BK102.out 2).trans rfl
              have hcr_3 : w33.cell? ⟨gb102, 3, none⟩ = some (.int .i64 0) := (blk_cell BK102.out 3).trans rfl
              have hcr_4 : w33.cell? ⟨gb102, 4, none⟩ = some (.int .i64 0) := (blk_cell BK102.out 4).trans rfl
              have hcr_5 : w33.cell? ⟨gb102, 5, none⟩ = some (.int .i64 0) := (blk_cell BK102.out 5).trans rfl
              have hcr_6 : w33.cell? ⟨gb102, 6, none⟩ = some (.int .i64 0) := (blk_cell BK102.out 6).trans rfl
              have hcr_7 : w33.cell? ⟨gb102, 7, none⟩ = some (.int .i64 0) := (blk_cell BK102.out 7).trans rfl
              have hcr_8 : w33.cell? ⟨gb102, 8, none⟩ = some (.int .i64 0) := (blk_cell BK102.out 8).trans rfl
              have hcr_9 : w33.cell? ⟨gb102, 9, none⟩ = some (.int .i64 0) := (blk_cell BK102.out 9).trans rfl
              have hcr_10 : w33.cell? ⟨gb102, 10, none⟩ = some (.int .i64 0) := (blk_cell BK102.out 10).trans rfl
              have hcr_11 : w33.cell? ⟨gb102, 11, none⟩ = some (.int .i64 0) := (blk_cell BK102.out 11).trans rfl
              have hfr_0 := blk_frozen BK102.out 0
              have hfr_1 := blk_frozen BK102.out 1
              have hfr_2 := blk_frozen BK102.out 2
              have hfr_3 := blk_frozen BK102.out 3
              have hfr_4 := blk_frozen BK102.out 4
              have hfr_5 := blk_frozen BK102.out 5
              have hfr_6 := blk_frozen BK102.out 6
              have hfr_7 := blk_frozen BK102.out 7
              have hfr_8 := blk_frozen BK102.out 8
              have hfr_9 := blk_frozen BK102.out 9
              have hfr_10 := blk_frozen BK102.out 10
              have hfr_11 := blk_frozen BK102.out 11
              have hca_0 : w33.cell? ⟨ga, 0, none⟩ = some (.int .i64 (2 + a3 + t109 + t110 + t111)) := (blk_cell BKa.out 0).trans rfl
              have hfa_0 := blk_frozen BKa.out 0
              have hn1 := NB102_108.out
              have hn2 := NB108_102.out
              have hn3 := NBa102.out
              have hn4 := NBa108.out
              have hn5 := Ne.symm hn3
              have hn6 := Ne.symm hn4
              have H := HL.out
              clear HL
              by_cases c24 : a1 ≤ 2 + a3 + t109 + t110 + t111
              · rw [if_pos c24] at H
                have c24b0 : decide (a1 ≤ 2 + a3 + t109 + t110 + t111) = true := decide_eq_true c24
                clear c24
                simp only [Option.some.injEq, Prod.mk.injEq] at H
                obtain ⟨rfl, rfl, rfl, rfl, rfl, rfl, rfl, rfl, rfl, rfl, rfl, rfl, rfl⟩ := H
                go_wp2
                refine bodyPost_ret (results_ct rfl _ _ gb102 41 #[.int .i64 0, .int .i64 0, .int .i64 0, .int .i64 0, .int .i64 0, .int .i64 0, .int .i64 0, .int .i64 0, .int .i64 0, .int .i64 0, .int .i64 0, .int .i64 0] (0, 0) _ rfl (by refine blk_put (cs := #[.int .i64 0, .int .i64 0, .int .i64 0, .int .i64 0, .int .i64 0, .int .i64 0, .int .i64 0, .int .i64 0, .int .i64 0, .int .i64 0, .int .i64 0, .int .i64 0]) ?_ 11 _ rfl; refine blk_put (cs := #[.int .i64 0, .int .i64 0, .int .i64 0, .int .i64 0, .int .i64 0, .int .i64 0, .int .i64 0, .int .i64 0, .int .i64 0, .int .i64 0, .int .i64 0, .int .i64 0]) ?_ 10 _ rfl; refine blk_put (cs := #[.int .i64 0, .int .i64 0, .int .i64 0, .int .i64 0, .int .i64 0, .int .i64 0, .int .i64 0, .int .i64 0, .int .i64 0, .int .i64 0, .int .i64 0, .int .i64 0]) ?_ 9 _ rfl; refine blk_put (cs := #[.int .i64 0, .int .i64 0, .int .i64 0, .int .i64 0, .int .i64 0, .int .i64 0, .int .i64 0, .int .i64 0, .int .i64 0, .int .i64 0, .int .i64 0, .int .i64 0]) ?_ 8 _ rfl; refine blk_put (cs := #[.int .i64 0, .int .i64 0, .int .i64 0, .int .i64 0, .int .i64 0, .int .i64 0, .int .i64 0, .int .i64 0, .int .i64 0, .int .i64 0, .int .i64 0, .int .i64 0]) ?_ 7 _ rfl; refine blk_put (cs := #[.int .i64 0, .int .i64 0, .int .i64 0, .int .i64 0, .int .i64 0, .int .i64 0, .int .i64 0, .int .i64 0, .int .i64 0, .int .i64 0, .int .i64 0, .int .i64 0]) ?_ 6 _ rfl; refine blk_put (cs := #[.int .i64 0, .int .i64 0, .int .i64 0, .int .i64 0, .int .i64 0, .int .i64 0, .int .i64 0, .int .i64 0, .int .i64 0, .int .i64 0, .int .i64 0, .int .i64 0]) ?_ 5 _ rfl; refine blk_put (cs := #[.int .i64 0, .int .i64 0, .int .i64 0, .int .i64 0, .int .i64 0, .int .i64 0, .int .i64 0, .int .i64 0, .int .i64 0, .int .i64 0, .int .i64 0, .int .i64 0]) ?_ 4 _ rfl; refine blk_put (cs := #[.int .i64 0, .int .i64 0, .int .i64 0, .int .i64 0, .int .i64 0, .int .i64 0, .int .i64 0, .int .i64 0, .int .i64 0, .int .i64 0, .int .i64 0, .int .i64 0]) ?_ 3 _ rfl; refine blk_put (cs := #[.int .i64 0, .int .i64 0, .int .i64 0, .int .i64 0, .int .i64 0, .int .i64 0, .int .i64 0, .int .i64 0, .int .i64 0, .int .i64 0, .int .i64 0, .int .i64 0]) ?_ 2 _ rfl; refine blk_put (cs := #[.int .i64 0, .int .i64 0, .int .i64 0, .int .i64 0, .int .i64 0, .int .i64 0, .int .i64 0, .int .i64 0, .int .i64 0, .int .i64 0, .int .i64 0, .int .i64 0]) ?_ 1 _ rfl; refine blk_put (cs := #[.int .i64 0, .int .i64 0, .int .i64 0, .int .i64 0, .int .i64 0, .int .i64 0, .int .i64 0, .int .i64 0, .int .i64 0, .int .i64 0, .int .i64 0, .int .i64 0]) ?_ 0 _ rfl; repeat (first | (with_reducible exact BK102.out) | (with_reducible refine blk_drewN ?_ _) | (with_reducible refine blk_drew ?_) | refine blk_far ?_ NB102_108.out _)) Tryd.underlying41 rfl (by kernel_rfl)) rfl ?_
                exact ⟨rfl, (by repeat (first | (with_reducible first | exact HB.out | apply below_alloc | apply pw_below_drewN | apply below_drew1 | refine below_set ?_ GE102.out | refine below_set ?_ GE108.out | refine below_set ?_ GEa.out) | exact HB.out))⟩
              · rw [if_neg c24] at H
                have c24b0 : decide (a1 ≤ 2 + a3 + t109 + t110 + t111) = false := decide_eq_false c24
                clear c24
                simp only [Option.some.injEq, Prod.mk.injEq] at H
                obtain ⟨rfl, rfl, rfl, rfl, rfl, rfl, rfl, rfl, rfl, rfl, rfl, rfl, rfl⟩ := H
                go_wp2
                refine bodyPost_ret (results_ct rfl _ _ gb102 41 #[.int .i64 a0, .int .i64 a1, .int .i64 a2, .int .i64 a3, .int .i64 2, .int .i64 (2 + a3), .int .i64 t109, .int .i64 (2 + a3 + t109), .int .i64 t110, .int .i64 (2 + a3 + t109 + t110), .int .i64 t111, .int .i64 (2 + a3 + t109 + t110 + t111)] (0, 0) _ rfl (by refine blk_put (cs := #[.int .i64 a0, .int .i64 a1, .int .i64 a2, .int .i64 a3, .int .i64 2, .int .i64 (2 + a3), .int .i64 t109, .int .i64 (2 + a3 + t109), .int .i64 t110, .int .i64 (2 + a3 + t109 + t110), .int .i64 t111, .int .i64 0]) ?_ 11 _ rfl; refine blk_put (cs := #[.int .i64 a0, .int .i64 a1, .int .i64 a2, .int .i64 a3, .int .i64 2, .int .i64 (2 + a3), .int .i64 t109, .int .i64 (2 + a3 + t109), .int .i64 t110, .int .i64 (2 + a3 + t109 + t110), .int .i64 0, .int .i64 0]) ?_ 10 _ rfl; refine blk_put (cs := #[.int .i64 a0, .int .i64 a1, .int .i64 a2, .int .i64 a3, .int .i64 2, .int .i64 (2 + a3), .int .i64 t109, .int .i64 (2 + a3 + t109), .int .i64 t110, .int .i64 0, .int .i64 0, .int .i64 0]) ?_ 9 _ rfl; refine blk_put (cs := #[.int .i64 a0, .int .i64 a1, .int .i64 a2, .int .i64 a3, .int .i64 2, .int .i64 (2 + a3), .int .i64 t109, .int .i64 (2 + a3 + t109), .int .i64 0, .int .i64 0, .int .i64 0, .int .i64 0]) ?_ 8 _ rfl; refine blk_put (cs := #[.int .i64 a0, .int .i64 a1, .int .i64 a2, .int .i64 a3, .int .i64 2, .int .i64 (2 + a3), .int .i64 t109, .int .i64 0, .int .i64 0, .int .i64 0, .int .i64 0, .int .i64 0]) ?_ 7 _ rfl; refine blk_put (cs := #[.int .i64 a0, .int .i64 a1, .int .i64 a2, .int .i64 a3, .int .i64 2, .int .i64 (2 + a3), .int .i64 0, .int .i64 0, .int .i64 0, .int .i64 0, .int .i64 0, .int .i64 0]) ?_ 6 _ rfl; refine blk_put (cs := #[.int .i64 a0, .int .i64 a1, .int .i64 a2, .int .i64 a3, .int .i64 2, .int .i64 0, .int .i64 0, .int .i64 0, .int .i64 0, .int .i64 0, .int .i64 0, .int .i64 0]) ?_ 5 _ rfl; refine blk_put (cs := #[.int .i64 a0, .int .i64 a1, .int .i64 a2, .int .i64 a3, .int .i64 0, .int .i64 0, .int .i64 0, .int .i64 0, .int .i64 0, .int .i64 0, .int .i64 0, .int .i64 0]) ?_ 4 _ rfl; refine blk_put (cs := #[.int .i64 a0, .int .i64 a1, .int .i64 a2, .int .i64 0, .int .i64 0, .int .i64 0, .int .i64 0, .int .i64 0, .int .i64 0, .int .i64 0, .int .i64 0, .int .i64 0]) ?_ 3 _ rfl; refine blk_put (cs := #[.int .i64 a0, .int .i64 a1, .int .i64 0, .int .i64 0, .int .i64 0, .int .i64 0, .int .i64 0, .int .i64 0, .int .i64 0, .int .i64 0, .int .i64 0, .int .i64 0]) ?_ 2 _ rfl; refine blk_put (cs := #[.int .i64 a0, .int .i64 0, .int .i64 0, .int .i64 0, .int .i64 0, .int .i64 0, .int .i64 0, .int .i64 0, .int .i64 0, .int .i64 0, .int .i64 0, .int .i64 0]) ?_ 1 _ rfl; refine blk_put (cs := #[.int .i64 0, .int .i64 0, .int .i64 0, .int .i64 0, .int .i64 0, .int .i64 0, .int .i64 0, .int .i64 0, .int .i64 0, .int .i64 0, .int .i64 0, .int .i64 0]) ?_ 0 _ rfl; repeat (first | (with_reducible exact BK102.out) | (with_reducible refine blk_drewN ?_ _) | (with_reducible refine blk_drew ?_) | refine blk_far ?_ NB102_108.out _)) Tryd.underlying41 rfl (by kernel_rfl)) rfl ?_
                exact ⟨rfl, (by repeat (first | (with_reducible first | exact HB.out | apply below_alloc | apply pw_below_drewN | apply below_drew1 | refine below_set ?_ GE102.out | refine below_set ?_ GE108.out | refine below_set ?_ GEa.out) | exact HB.out))⟩
theorem plan_Make.w_is (n l m : Int) : plan_within.f n l m = some (decide (l ≤ n ∧ n ≤ m)) := by
  unfold plan_within.f
  by_cases c : n ≥ l
  · rw [if_pos c]
    congr 1
    exact decide_eq_decide.2 ⟨fun h => ⟨c, h⟩, fun h => h.2⟩
  · rw [if_neg c, decide_eq_false (fun h => c h.1)]
def plan_Make.sh (n s : Int) : Int := (n + s - 1) / s
theorem plan_Make.sh_is {n s : Int} (h0 : 0 ≤ n) (h1 : n ≤ 1000000) (h2 : 1 ≤ s) (h3 : s ≤ 1000000) : plan_share.f n s = some (plan_Make.sh n s) ∧ 0 ≤ plan_Make.sh n s ∧ plan_Make.sh n s ≤ n + s := by
  have q0 : 0 ≤ (n + s - 1) / s := Int.ediv_nonneg (by omega) (by omega)
  have q1 : (n + s - 1) / s ≤ n + s - 1 := Int.ediv_le_self _ (by omega)
  unfold plan_share.f plan_Make.sh
  rw [if_neg (by omega), Plain.w64 (x := n + s) (by omega) (by omega), Plain.w64 (x := n + s - 1) (by omega) (by omega), Int.tdiv_eq_ediv_of_nonneg (by omega), Plain.w64 (by omega) (by omega)]
  exact ⟨rfl, q0, by omega⟩
/-- A plan, as numbers: its twelve fields and the error. -/
def plan_Make.spec (a0 a1 a2 a3 : Int) : Int × Int × Int × Int × Int × Int × Int × Int × Int × Int × Int × Int × Int :=
  if a0 * a1 > 1048576 then (0, 0, 0, 0, 0, 0, 0, 0, 0, 0, 0, 0, 5)
  else if a1 ≤ 2 + a3 + plan_Make.sh a2 (8 * a0) + plan_Make.sh a1 (8 * a0) + plan_Make.sh (a2 * 32) a0 then (0, 0, 0, 0, 0, 0, 0, 0, 0, 0, 0, 0, 6)
  else (a0, a1, a2, a3, 2, 2 + a3, plan_Make.sh a2 (8 * a0), 2 + a3 + plan_Make.sh a2 (8 * a0), plan_Make.sh a1 (8 * a0), 2 + a3 + plan_Make.sh a2 (8 * a0) + plan_Make.sh a1 (8 * a0), plan_Make.sh (a2 * 32) a0, 2 + a3 + plan_Make.sh a2 (8 * a0) + plan_Make.sh a1 (8 * a0) + plan_Make.sh (a2 * 32) a0, 0)
def plan_Make.f (a0 a1 a2 a3 : Int) : Option (Int × Int × Int × Int × Int × Int × Int × Int × Int × Int × Int × Int × Int) :=
  if 64 ≤ a0 ∧ a0 ≤ 4096 then (bits_OnesCount.f (IntKind.u64.wrap a0)).bind fun t => some (if t = 1 ∧ (1 ≤ a1 ∧ a1 ≤ 4096) ∧ (2 ≤ a2 ∧ a2 ≤ 1024) ∧ (4 ≤ a3 ∧ a3 ≤ 512) then plan_Make.spec a0 a1 a2 a3 else (0, 0, 0, 0, 0, 0, 0, 0, 0, 0, 0, 0, 1))
  else some (0, 0, 0, 0, 0, 0, 0, 0, 0, 0, 0, 0, 1)
theorem plan_Make.j1_true (k : Nat) (a0 a1 a2 a3 : Int) : plan_Make.j1 (k + 1) a0 a1 a2 a3 true = some (0, 0, 0, 0, 0, 0, 0, 0, 0, 0, 0, 0, 1) := by
  simp only [plan_Make.j1, if_true]
theorem plan_Make.j1_false (k : Nat) {a0 a1 a2 a3 : Int} (c0 : 64 ≤ a0 ∧ a0 ≤ 4096) (c1 : 1 ≤ a1 ∧ a1 ≤ 4096) (c2 : 2 ≤ a2 ∧ a2 ≤ 1024) (c3 : 4 ≤ a3 ∧ a3 ≤ 512) : plan_Make.j1 (k + 1) a0 a1 a2 a3 false = some (plan_Make.spec a0 a1 a2 a3) := by
  have p0 : 0 ≤ a0 * a1 := Int.mul_nonneg (by omega) (by omega)
  have p1 : a0 * a1 ≤ 4096 * 4096 := Int.mul_le_mul c0.2 c1.2 (by omega) (by omega)
  have s1 := plan_Make.sh_is (n := a2) (s := 8 * a0) (by omega) (by omega) (by omega) (by omega)
  have s2 := plan_Make.sh_is (n := a1) (s := 8 * a0) (by omega) (by omega) (by omega) (by omega)
  have s3 := plan_Make.sh_is (n := a2 * 32) (s := a0) (by omega) (by omega) (by omega) (by omega)
  simp only [plan_Make.j1]
  unfold plan_Make.spec
  rw [if_neg (by decide), Plain.w64 (x := a0 * a1) (by omega) (by omega)]
  by_cases c : a0 * a1 > 1048576
  · rw [if_pos c, if_pos c]
  · rw [if_neg c, if_neg c, Plain.w64 (x := 8 * a0) (by omega) (by omega), s1.1, Option.bind_some, s2.1, Option.bind_some, Plain.w64 (x := a2 * 32) (by omega) (by omega), s3.1, Option.bind_some, if_pos (by omega)]
    by_cases d : a1 ≤ 2 + a3 + plan_Make.sh a2 (8 * a0) + plan_Make.sh a1 (8 * a0) + plan_Make.sh (a2 * 32) a0
    · rw [if_pos d, if_pos d]
    · rw [if_neg d, if_neg d]
theorem plan_Make.j0_is (k : Nat) (a0 a1 a2 a3 : Int) (b : Bool) : plan_Make.j0 (k + 1 + 1) a0 a1 a2 a3 b = plan_Make.j1 (k + 1) a0 a1 a2 a3 (b || !(decide (1 ≤ a1 ∧ a1 ≤ 4096)) || !(decide (2 ≤ a2 ∧ a2 ≤ 1024)) || !(decide (4 ≤ a3 ∧ a3 ≤ 512))) := by
  simp only [plan_Make.j0]
  cases b
  · rw [if_neg (by decide), plan_Make.w_is, Option.bind_some]
    by_cases c1 : 1 ≤ a1 ∧ a1 ≤ 4096
    · rw [decide_eq_true c1, if_pos rfl, plan_Make.w_is, Option.bind_some]
      by_cases c2 : 2 ≤ a2 ∧ a2 ≤ 1024
      · rw [decide_eq_true c2, if_pos rfl, plan_Make.w_is, Option.bind_some]
        rfl
      · rw [decide_eq_false c2, if_neg (by decide)]
        rfl
    · rw [decide_eq_false c1, if_neg (by decide)]
      rfl
  · rw [if_pos rfl]
    rfl
theorem plan_Make.g_is (a0 a1 a2 a3 : Int) {r} (h : plan_Make.f a0 a1 a2 a3 = some r) : plan_Make.g 2 a0 a1 a2 a3 = some r := by
  unfold plan_Make.f at h
  unfold plan_Make.g
  rw [plan_Make.w_is, Option.bind_some]
  by_cases c0 : 64 ≤ a0 ∧ a0 ≤ 4096
  · rw [if_pos c0] at h
    obtain ⟨t, ht, h⟩ := Option.bind_eq_some_iff.1 h
    rw [decide_eq_true c0, if_pos rfl, ht, Option.bind_some, plan_Make.j0_is 0]
    by_cases c : t = 1 ∧ (1 ≤ a1 ∧ a1 ≤ 4096) ∧ (2 ≤ a2 ∧ a2 ≤ 1024) ∧ (4 ≤ a3 ∧ a3 ≤ 512)
    · rw [if_pos c] at h
      obtain ⟨d0, d1, d2, d3⟩ := c
      rw [decide_eq_true d1, decide_eq_true d2, decide_eq_true d3, d0, ← h]
      exact plan_Make.j1_false 0 c0 d1 d2 d3
    · rw [if_neg c] at h
      have e : ((t != 1) || !(decide (1 ≤ a1 ∧ a1 ≤ 4096)) || !(decide (2 ≤ a2 ∧ a2 ≤ 1024)) || !(decide (4 ≤ a3 ∧ a3 ≤ 512))) = true := by
        by_cases q : ((t != 1) || !(decide (1 ≤ a1 ∧ a1 ≤ 4096)) || !(decide (2 ≤ a2 ∧ a2 ≤ 1024)) || !(decide (4 ≤ a3 ∧ a3 ≤ 512))) = true
        · exact q
        exfalso
        apply c
        have q := Bool.eq_false_iff.2 q
        simp only [Bool.or_eq_false_iff, Bool.not_eq_false', decide_eq_true_eq, bne_eq_false_iff_eq] at q
        exact ⟨q.1.1.1, q.1.1.2, q.1.2, q.2⟩
      rw [e, ← h]
      exact plan_Make.j1_true 0 a0 a1 a2 a3
  · rw [if_neg c0] at h
    rw [decide_eq_false c0, if_neg (by decide), plan_Make.j0_is 0, ← h]
    exact plan_Make.j1_true 0 a0 a1 a2 a3
theorem plan_Make.calls (a0 : Int) (a1 : Int) (a2 : Int) (a3 : Int) (r1 : Int) (r2 : Int) (r3 : Int) (r4 : Int) (r5 : Int) (r6 : Int) (r7 : Int) (r8 : Int) (r9 : Int) (r10 : Int) (r11 : Int) (r12 : Int) (r13 : Int) (w : World) (h : plan_Make.f a0 a1 a2 a3 = some (r1, r2, r3, r4, r5, r6, r7, r8, r9, r10, r11, r12, r13)) :
    Calls Tryd.prog 49 #[.int .i64 a0, .int .i64 a1, .int .i64 a2, .int .i64 a3] w fun e w' => e = .returned (.tuple #[.agg #[.int .i64 r1, .int .i64 r2, .int .i64 r3, .int .i64 r4, .int .i64 r5, .int .i64 r6, .int .i64 r7, .int .i64 r8, .int .i64 r9, .int .i64 r10, .int .i64 r11, .int .i64 r12], .int .i64 r13]) ∧ Below w.heap.size w w' :=
  plan_Make.gcalls 2 a0 a1 a2 a3 r1 r2 r3 r4 r5 r6 r7 r8 r9 r10 r11 r12 r13 w (plan_Make.g_is a0 a1 a2 a3 h)

/-! ### plan_Check: function 46 -/
def plan_Check.f (a0_0 : Int) (a0_1 : Int) (a0_2 : Int) (a0_3 : Int) (a0_4 : Int) (a0_5 : Int) (a0_6 : Int) (a0_7 : Int) (a0_8 : Int) (a0_9 : Int) (a0_10 : Int) (a0_11 : Int) : Option (Int) := (plan_Make.f a0_0 a0_1 a0_2 a0_3).bind fun bt125 => (if bt125.2.2.2.2.2.2.2.2.2.2.2.2 = 0 then (if (!(bt125.1 == a0_0) || (!(bt125.2.1 == a0_1) || (!(bt125.2.2.1 == a0_2) || (!(bt125.2.2.2.1 == a0_3) || (!(bt125.2.2.2.2.1 == a0_4) || (!(bt125.2.2.2.2.2.1 == a0_5) || (!(bt125.2.2.2.2.2.2.1 == a0_6) || (!(bt125.2.2.2.2.2.2.2.1 == a0_7) || (!(bt125.2.2.2.2.2.2.2.2.1 == a0_8) || (!(bt125.2.2.2.2.2.2.2.2.2.1 == a0_9) || (!(bt125.2.2.2.2.2.2.2.2.2.2.1 == a0_10) || (!(bt125.2.2.2.2.2.2.2.2.2.2.2.1 == a0_11))))))))))))) = true then (some 4) else (some 0)) else (some 4))
set_option maxHeartbeats 8000000 in
set_option maxRecDepth 100000 in
theorem plan_Check.calls (a0_0 : Int) (a0_1 : Int) (a0_2 : Int) (a0_3 : Int) (a0_4 : Int) (a0_5 : Int) (a0_6 : Int) (a0_7 : Int) (a0_8 : Int) (a0_9 : Int) (a0_10 : Int) (a0_11 : Int) (r : Int) (w : World) (h : plan_Check.f a0_0 a0_1 a0_2 a0_3 a0_4 a0_5 a0_6 a0_7 a0_8 a0_9 a0_10 a0_11 = some r) :
    Calls Tryd.prog 46 #[.agg #[.int .i64 a0_0, .int .i64 a0_1, .int .i64 a0_2, .int .i64 a0_3, .int .i64 a0_4, .int .i64 a0_5, .int .i64 a0_6, .int .i64 a0_7, .int .i64 a0_8, .int .i64 a0_9, .int .i64 a0_10, .int .i64 a0_11]] w fun e w' => e = .returned (.int .i64 r) ∧ Below w.heap.size w w' := by
  have hu41 := Tryd.underlying41
  have HB := Aside0.mk (Below.refl w.heap.size w)
  have H : ((plan_Make.f a0_0 a0_1 a0_2 a0_3).bind fun bt125 => (if bt125.2.2.2.2.2.2.2.2.2.2.2.2 = 0 then (if (!(bt125.1 == a0_0) || (!(bt125.2.1 == a0_1) || (!(bt125.2.2.1 == a0_2) || (!(bt125.2.2.2.1 == a0_3) || (!(bt125.2.2.2.2.1 == a0_4) || (!(bt125.2.2.2.2.2.1 == a0_5) || (!(bt125.2.2.2.2.2.2.1 == a0_6) || (!(bt125.2.2.2.2.2.2.2.1 == a0_7) || (!(bt125.2.2.2.2.2.2.2.2.1 == a0_8) || (!(bt125.2.2.2.2.2.2.2.2.2.1 == a0_9) || (!(bt125.2.2.2.2.2.2.2.2.2.2.1 == a0_10) || (!(bt125.2.2.2.2.2.2.2.2.2.2.2.1 == a0_11))))))))))))) = true then (some 4) else (some 0)) else (some 4))) = some r := h
  clear h
  replace H := Option.bind_eq_some_iff.mp H
  obtain ⟨⟨t125, t126, t127, t128, t129, t130, t131, t132, t133, t134, t135, t136, t137⟩, A20, H⟩ := H
  replace H : (if t137 = 0 then (if (!(t125 == a0_0) || (!(t126 == a0_1) || (!(t127 == a0_2) || (!(t128 == a0_3) || (!(t129 == a0_4) || (!(t130 == a0_5) || (!(t131 == a0_6) || (!(t132 == a0_7) || (!(t133 == a0_8) || (!(t134 == a0_9) || (!(t135 == a0_10) || (!(t136 == a0_11))))))))))))) = true then (some 4) else (some 0)) else (some 4)) = some r := H
  have A2 := Aside0.mk A20
  clear A20
  by_cases c3 : t137 = 0
  · rw [if_pos c3] at H
    have c3b0 : (t137 == 0) = true := beq_iff_eq.mpr c3
    have c3b1 : (t137 != 0) = false := bne_eq_false_iff_eq.mpr c3
    clear c3
    by_cases c4 : (!(t125 == a0_0) || (!(t126 == a0_1) || (!(t127 == a0_2) || (!(t128 == a0_3) || (!(t129 == a0_4) || (!(t130 == a0_5) || (!(t131 == a0_6) || (!(t132 == a0_7) || (!(t133 == a0_8) || (!(t134 == a0_9) || (!(t135 == a0_10) || (!(t136 == a0_11))))))))))))) = true
    · rw [if_pos c4] at H
      have c4b0 : (!(t125 == a0_0) || (!(t126 == a0_1) || (!(t127 == a0_2) || (!(t128 == a0_3) || (!(t129 == a0_4) || (!(t130 == a0_5) || (!(t131 == a0_6) || (!(t132 == a0_7) || (!(t133 == a0_8) || (!(t134 == a0_9) || (!(t135 == a0_10) || (!(t136 == a0_11))))))))))))) = true := c4
      clear c4
      obtain rfl := Option.some.inj H
      go_enter Tryd.func46, Tryd.ntmps46
      go_wp2_with (first | ((with_reducible refine gate_dst (N := 1) rfl ?_); refine box_event ?hg (N := 1) ?hd (cs := #[.int .i64 a0_0, .int .i64 a0_1, .int .i64 a0_2, .int .i64 a0_3, .int .i64 a0_4, .int .i64 a0_5, .int .i64 a0_6, .int .i64 a0_7, .int .i64 a0_8, .int .i64 a0_9, .int .i64 a0_10, .int .i64 a0_11]) (t := 41) ?hr ?_; (case hd => rfl); (case hg => rfl); (case hr => first | (go_simp; done) | (go_simp; rfl)); intro gb124 hg w5 hbox hb; have n0_ := Aside0.mk (below_step (by repeat (first | (with_reducible first | exact HB.out | apply below_alloc | apply pw_below_drewN | apply below_drew1) | with_reducible_and_instances exact HB.out)) hb); have n1_ := Aside0.mk (hbox); have n2_ := Aside0.mk ((by rw [hg]; exact (below_size (by repeat (first | (with_reducible first | exact HB.out | apply below_alloc | apply pw_below_drewN | apply below_drew1) | with_reducible_and_instances exact HB.out))) : w.heap.size ≤ gb124)); have n3_ := Aside0.mk ((by rw [hg]; exact (below_size (by repeat (first | (with_reducible first | exact HB.out | apply below_alloc | apply pw_below_drewN | apply below_drew1) | with_reducible_and_instances exact HB.out))) : w.heap.size ≤ gb124)); clear HB; have HB := n0_; have BK124 := n1_; have GW124 := n2_; have GE124 := n3_; clear n0_ n1_ n2_ n3_; clear hb hbox hg; have hcz6_0 : w5.cell? ⟨gb124, 0, none⟩ = some (.int .i64 a0_0) := (blk_cell BK124.out 0).trans rfl; have hcz6_1 : w5.cell? ⟨gb124, 1, none⟩ = some (.int .i64 a0_1) := (blk_cell BK124.out 1).trans rfl; have hcz6_2 : w5.cell? ⟨gb124, 2, none⟩ = some (.int .i64 a0_2) := (blk_cell BK124.out 2).trans rfl; have hcz6_3 : w5.cell? ⟨gb124, 3, none⟩ = some (.int .i64 a0_3) := (blk_cell BK124.out 3).trans rfl; have hcz6_4 : w5.cell? ⟨gb124, 4, none⟩ = some (.int .i64 a0_4) := (blk_cell BK124.out 4).trans rfl; have hcz6_5 : w5.cell? ⟨gb124, 5, none⟩ = some (.int .i64 a0_5) := (blk_cell BK124.out 5).trans rfl; have hcz6_6 : w5.cell? ⟨gb124, 6, none⟩ = some (.int .i64 a0_6) := (blk_cell BK124.out 6).trans rfl; have hcz6_7 : w5.cell? ⟨gb124, 7, none⟩ = some (.int .i64 a0_7) := (blk_cell BK124.out 7).trans rfl; have hcz6_8 : w5.cell? ⟨gb124, 8, none⟩ = some (.int .i64 a0_8) := (blk_cell BK124.out 8).trans rfl; have hcz6_9 : w5.cell? ⟨gb124, 9, none⟩ = some (.int .i64 a0_9) := (blk_cell BK124.out 9).trans rfl; have hcz6_10 : w5.cell? ⟨gb124, 10, none⟩ = some (.int .i64 a0_10) := (blk_cell BK124.out 10).trans rfl; have hcz6_11 : w5.cell? ⟨gb124, 11, none⟩ = some (.int .i64 a0_11) := (blk_cell BK124.out 11).trans rfl; have hfz6_0 := blk_frozen BK124.out 0; have hfz6_1 := blk_frozen BK124.out 1; have hfz6_2 := blk_frozen BK124.out 2; have hfz6_3 := blk_frozen BK124.out 3; have hfz6_4 := blk_frozen BK124.out 4; have hfz6_5 := blk_frozen BK124.out 5; have hfz6_6 := blk_frozen BK124.out 6; have hfz6_7 := blk_frozen BK124.out 7; have hfz6_8 := blk_frozen BK124.out 8; have hfz6_9 := blk_frozen BK124.out 9; have hfz6_10 := blk_frozen BK124.out 10; have hfz6_11 := blk_frozen BK124.out 11) | ((with_reducible refine gate_callee (f := 49) rfl ?_); refine goesL_ (some 14) rfl rfl Tryd.func49 (by kernel_rfl) rfl #[.int .i64 a0_0, .int .i64 a0_1, .int .i64 a0_2, .int .i64 a0_3] rfl (by (try simp only [List.map_toArray, List.map_cons, List.map_nil]); first | done | rfl | (simp only [List.length_drop, List.length_take]; rfl) | (simp only [Int.toNat_natCast, Nat.sub_self, List.length_drop, List.length_take]; rfl)) ?_; (with_reducible refine (plan_Make.calls a0_0 a0_1 a0_2 a0_3 t125 t126 t127 t128 t129 t130 t131 t132 t133 t134 t135 t136 t137 _ A2.out).mono ?_); rintro e w7 ⟨rfl, hb⟩; refine ⟨_, rfl, ?_⟩; have n0_ := Aside0.mk (blk_below (g := gb124) (o := .cells #[.int .i64 a0_0, .int .i64 a0_1, .int .i64 a0_2, .int .i64 a0_3, .int .i64 a0_4, .int .i64 a0_5, .int .i64 a0_6, .int .i64 a0_7, .int .i64 a0_8, .int .i64 a0_9, .int .i64 a0_10, .int .i64 a0_11] 41 (0, 0)) (by (with_reducible repeat (first | refine blk_drewN ?_ _ | refine blk_drew ?_ | refine blk_alloc ?_ _)); exact BK124.out) hb); have n1_ := Aside0.mk (below_step (by repeat (first | (with_reducible first | exact HB.out | apply below_alloc | apply pw_below_drewN | apply below_drew1 | refine below_set ?_ GE124.out) | with_reducible_and_instances exact HB.out)) hb); clear BK124; clear HB; have BK124 := n0_; have HB := n1_; clear n0_ n1_; (try clear hb); (try clear hb2); (try clear hk); (try clear hi)) | ((with_reducible refine gate_dst (N := 3) rfl ?_); refine box_event ?hg (N := 3) ?hd (cs := #[.int .i64 0, .int .i64 0, .int .i64 0, .int .i64 0, .int .i64 0, .int .i64 0, .int .i64 0, .int .i64 0, .int .i64 0, .int .i64 0, .int .i64 0, .int .i64 0]) (t := 41) ?hr ?_; (case hd => rfl); (case hg => rfl); (case hr => first | (go_simp; done) | (go_simp; rfl)); intro gb138 hg w8 hbox hb; have n0_ := Aside0.mk (blk_below (g := gb124) (o := .cells #[.int .i64 a0_0, .int .i64 a0_1, .int .i64 a0_2, .int .i64 a0_3, .int .i64 a0_4, .int .i64 a0_5, .int .i64 a0_6, .int .i64 a0_7, .int .i64 a0_8, .int .i64 a0_9, .int .i64 a0_10, .int .i64 a0_11] 41 (0, 0)) (by (with_reducible repeat (first | refine blk_drewN ?_ _ | refine blk_drew ?_ | refine blk_alloc ?_ _)); exact BK124.out) hb); have n1_ := Aside0.mk (below_step (by repeat (first | (with_reducible first | exact HB.out | apply below_alloc | apply pw_below_drewN | apply below_drew1 | refine below_set ?_ GE124.out) | with_reducible_and_instances exact HB.out)) hb); have n2_ := Aside0.mk (hbox); have n3_ := Aside0.mk ((by rw [hg]; exact (below_size (by repeat (first | (with_reducible first | exact HB.out | apply below_alloc | apply pw_below_drewN | apply below_drew1 | refine below_set ?_ GE124.out) | with_reducible_and_instances exact HB.out))) : w.heap.size ≤ gb138)); have n4_ := Aside0.mk ((by rw [hg]; exact (below_size (by repeat (first | (with_reducible first | exact HB.out | apply below_alloc | apply pw_below_drewN | apply below_drew1 | refine below_set ?_ GE124.out) | with_reducible_and_instances exact HB.out))) : w.heap.size ≤ gb138)); have n5_ := Aside0.mk ((by rw [hg]; exact Nat.ne_of_lt (blk_lt (g := gb124) (o := .cells #[.int .i64 a0_0, .int .i64 a0_1, .int .i64 a0_2, .int .i64 a0_3, .int .i64 a0_4, .int .i64 a0_5, .int .i64 a0_6, .int .i64 a0_7, .int .i64 a0_8, .int .i64 a0_9, .int .i64 a0_10, .int .i64 a0_11] 41 (0, 0)) (by (with_reducible repeat (first | refine blk_drewN ?_ _ | refine blk_drew ?_ | refine blk_alloc ?_ _)); exact BK124.out)) : gb124 ≠ gb138)); have n6_ := Aside0.mk ((by rw [hg]; exact Nat.ne_of_gt (blk_lt (g := gb124) (o := .cells #[.int .i64 a0_0, .int .i64 a0_1, .int .i64 a0_2, .int .i64 a0_3, .int .i64 a0_4, .int .i64 a0_5, .int .i64 a0_6, .int .i64 a0_7, .int .i64 a0_8, .int .i64 a0_9, .int .i64 a0_10, .int .i64 a0_11] 41 (0, 0)) (by (with_reducible repeat (first | refine blk_drewN ?_ _ | refine blk_drew ?_ | refine blk_alloc ?_ _)); exact BK124.out)) : gb138 ≠ gb124)); clear BK124; clear HB; have BK124 := n0_; have HB := n1_; have BK138 := n2_; have GW138 := n3_; have GE138 := n4_; have NB124_138 := n5_; have NB138_124 := n6_; clear n0_ n1_ n2_ n3_ n4_ n5_ n6_; clear hb hbox hg; have hnb9 := NB138_124.out; have hnc9 := NB124_138.out; have hcz10_0 : w8.cell? ⟨gb138, 0, none⟩ = some (.int .i64 0) := (blk_cell BK138.out 0).trans rfl; have hcz10_1 : w8.cell? ⟨gb138, 1, none⟩ = some (.int .i64 0) := (blk_cell BK138.out 1).trans rfl; have hcz10_2 : w8.cell? ⟨gb138, 2, none⟩ = some (.int .i64 0) := (blk_cell BK138.out 2).trans rfl; have hcz10_3 : w8.cell? ⟨gb138, 3, none⟩ = some (.int .i64 0) := (blk_cell BK138.out 3).trans rfl; have hcz10_4 : w8.cell? ⟨gb138, 4, none⟩ = some (.int .i64 0) := (blk_cell BK138.out 4).trans rfl; have hcz10_5 : w8.cell? ⟨gb138, 5, none⟩ = some (.int .i64 0) := (blk_cell BK138.out 5).trans rfl; have hcz10_6 : w8.cell? ⟨gb138, 6, none⟩ = some (.int .i64 0) := (blk_cell BK138.out 6).trans rfl; have hcz10_7 : w8.cell? ⟨gb138, 7, none⟩ = some (.int .i64 0) := (blk_cell BK138.out 7).trans rfl; have hcz10_8 : w8.cell? ⟨gb138, 8, none⟩ = some (.int .i64 0) := (blk_cell BK138.out 8).trans rfl; have hcz10_9 : w8.cell? ⟨gb138, 9, none⟩ = some (.int .i64 0) := (blk_cell BK138.out 9).trans rfl; have hcz10_10 : w8.cell? ⟨gb138, 10, none⟩ = some (.int .i64 0) := (blk_cell BK138.out 10).trans rfl; have hcz10_11 : w8.cell? ⟨gb138, 11, none⟩ = some (.int .i64 0) := (blk_cell BK138.out 11).trans rfl; have hfz10_0 := blk_frozen BK138.out 0; have hfz10_1 := blk_frozen BK138.out 1; have hfz10_2 := blk_frozen BK138.out 2; have hfz10_3 := blk_frozen BK138.out 3; have hfz10_4 := blk_frozen BK138.out 4; have hfz10_5 := blk_frozen BK138.out 5; have hfz10_6 := blk_frozen BK138.out 6; have hfz10_7 := blk_frozen BK138.out 7; have hfz10_8 := blk_frozen BK138.out 8; have hfz10_9 := blk_frozen BK138.out 9; have hfz10_10 := blk_frozen BK138.out 10; have hfz10_11 := blk_frozen BK138.out 11; have hcz11_0 : w8.cell? ⟨gb124, 0, none⟩ = some (.int .i64 a0_0) := (blk_cell BK124.out 0).trans rfl; have hcz11_1 : w8.cell? ⟨gb124, 1, none⟩ = some (.int .i64 a0_1) := (blk_cell BK124.out 1).trans rfl; have hcz11_2 : w8.cell? ⟨gb124, 2, none⟩ = some (.int .i64 a0_2) := (blk_cell BK124.out 2).trans rfl; have hcz11_3 : w8.cell? ⟨gb124, 3, none⟩ = some (.int .i64 a0_3) := (blk_cell BK124.out 3).trans rfl; have hcz11_4 : w8.cell? ⟨gb124, 4, none⟩ = some (.int .i64 a0_4) := (blk_cell BK124.out 4).trans rfl; have hcz11_5 : w8.cell? ⟨gb124, 5, none⟩ = some (.int .i64 a0_5) := (blk_cell BK124.out 5).trans rfl; have hcz11_6 : w8.cell? ⟨gb124, 6, none⟩ = some (.int .i64 a0_6) := (blk_cell BK124.out 6).trans rfl; have hcz11_7 : w8.cell? ⟨gb124, 7, none⟩ = some (.int .i64 a0_7) := (blk_cell BK124.out 7).trans rfl; have hcz11_8 : w8.cell? ⟨gb124, 8, none⟩ = some (.int .i64 a0_8) := (blk_cell BK124.out 8).trans rfl; have hcz11_9 : w8.cell? ⟨gb124, 9, none⟩ = some (.int .i64 a0_9) := (blk_cell BK124.out 9).trans rfl; have hcz11_10 : w8.cell? ⟨gb124, 10, none⟩ = some (.int .i64 a0_10) := (blk_cell BK124.out 10).trans rfl; have hcz11_11 : w8.cell? ⟨gb124, 11, none⟩ = some (.int .i64 a0_11) := (blk_cell BK124.out 11).trans rfl; have hfz11_0 := blk_frozen BK124.out 0; have hfz11_1 := blk_frozen BK124.out 1; have hfz11_2 := blk_frozen BK124.out 2; have hfz11_3 := blk_frozen BK124.out 3; have hfz11_4 := blk_frozen BK124.out 4; have hfz11_5 := blk_frozen BK124.out 5; have hfz11_6 := blk_frozen BK124.out 6; have hfz11_7 := blk_frozen BK124.out 7; have hfz11_8 := blk_frozen BK124.out 8; have hfz11_9 := blk_frozen BK124.out 9; have hfz11_10 := blk_frozen BK124.out 10; have hfz11_11 := blk_frozen BK124.out 11))
      go_ret
      exact ⟨by first | rfl | (simp [errW_none, errW_some] <;> rfl) | (simp [*, errW_none, errW_some] <;> rfl), by repeat (first | (with_reducible first | exact HB.out | apply below_alloc | apply pw_below_drewN | apply below_drew1 | refine below_set ?_ GE124.out | refine below_set ?_ GE138.out) | with_reducible_and_instances exact HB.out)⟩
    · rw [if_neg c4] at H
      have c4b0 : (!(t125 == a0_0) || (!(t126 == a0_1) || (!(t127 == a0_2) || (!(t128 == a0_3) || (!(t129 == a0_4) || (!(t130 == a0_5) || (!(t131 == a0_6) || (!(t132 == a0_7) || (!(t133 == a0_8) || (!(t134 == a0_9) || (!(t135 == a0_10) || (!(t136 == a0_11))))))))))))) = false := by simpa using c4
      clear c4
      obtain rfl := Option.some.inj H
      go_enter Tryd.func46, Tryd.ntmps46
      go_wp2_with (first | ((with_reducible refine gate_dst (N := 1) rfl ?_); refine box_event ?hg (N := 1) ?hd (cs := #[.int .i64 a0_0, .int .i64 a0_1, .int .i64 a0_2, .int .i64 a0_3, .int .i64 a0_4, .int .i64 a0_5, .int .i64 a0_6, .int .i64 a0_7, .int .i64 a0_8, .int .i64 a0_9, .int .i64 a0_10, .int .i64 a0_11]) (t := 41) ?hr ?_; (case hd => rfl); (case hg => rfl); (case hr => first | (go_simp; done) | (go_simp; rfl)); intro gb124 hg w12 hbox hb; have n0_ := Aside0.mk (below_step (by repeat (first | (with_reducible first | exact HB.out | apply below_alloc | apply pw_below_drewN | apply below_drew1) | with_reducible_and_instances exact HB.out)) hb); have n1_ := Aside0.mk (hbox); have n2_ := Aside0.mk ((by rw [hg]; exact (below_size (by repeat (first | (with_reducible first | exact HB.out | apply below_alloc | apply pw_below_drewN | apply below_drew1) | with_reducible_and_instances exact HB.out))) : w.heap.size ≤ gb124)); have n3_ := Aside0.mk ((by rw [hg]; exact (below_size (by repeat (first | (with_reducible first | exact HB.out | apply below_alloc | apply pw_below_drewN | apply below_drew1) | with_reducible_and_instances exact HB.out))) : w.heap.size ≤ gb124)); clear HB; have HB := n0_; have BK124 := n1_; have GW124 := n2_; have GE124 := n3_; clear n0_ n1_ n2_ n3_; clear hb hbox hg; have hcz13_0 : w12.cell? ⟨gb124, 0, none⟩ = some (.int .i64 a0_0) := (blk_cell BK124.out 0).trans rfl; have hcz13_1 : w12.cell? ⟨gb124, 1, none⟩ = some (.int .i64 a0_1) := (blk_cell BK124.out 1).trans rfl; have hcz13_2 : w12.cell? ⟨gb124, 2, none⟩ = some (.int .i64 a0_2) := (blk_cell BK124.out 2).trans rfl; have hcz13_3 : w12.cell? ⟨gb124, 3, none⟩ = some (.int .i64 a0_3) := (blk_cell BK124.out 3).trans rfl; have hcz13_4 : w12.cell? ⟨gb124, 4, none⟩ = some (.int .i64 a0_4) := (blk_cell BK124.out 4).trans rfl; have hcz13_5 : w12.cell? ⟨gb124, 5, none⟩ = some (.int .i64 a0_5) := (blk_cell BK124.out 5).trans rfl; have hcz13_6 : w12.cell? ⟨gb124, 6, none⟩ = some (.int .i64 a0_6) := (blk_cell BK124.out 6).trans rfl; have hcz13_7 : w12.cell? ⟨gb124, 7, none⟩ = some (.int .i64 a0_7) := (blk_cell BK124.out 7).trans rfl; have hcz13_8 : w12.cell? ⟨gb124, 8, none⟩ = some (.int .i64 a0_8) := (blk_cell BK124.out 8).trans rfl; have hcz13_9 : w12.cell? ⟨gb124, 9, none⟩ = some (.int .i64 a0_9) := (blk_cell BK124.out 9).trans rfl; have hcz13_10 : w12.cell? ⟨gb124, 10, none⟩ = some (.int .i64 a0_10) := (blk_cell BK124.out 10).trans rfl; have hcz13_11 : w12.cell? ⟨gb124, 11, none⟩ = some (.int .i64 a0_11) := (blk_cell BK124.out 11).trans rfl; have hfz13_0 := blk_frozen BK124.out 0; have hfz13_1 := blk_frozen BK124.out 1; have hfz13_2 := blk_frozen BK124.out 2; have hfz13_3 := blk_frozen BK124.out 3; have hfz13_4 := blk_frozen BK124.out 4; have hfz13_5 := blk_frozen BK124.out 5; have hfz13_6 := blk_frozen BK124.out 6; have hfz13_7 := blk_frozen BK124.out 7; have hfz13_8 := blk_frozen BK124.out 8; have hfz13_9 := blk_frozen BK124.out 9; have hfz13_10 := blk_frozen BK124.out 10; have hfz13_11 := blk_frozen BK124.out 11) | ((with_reducible refine gate_callee (f := 49) rfl ?_); refine goesL_ (some 14) rfl rfl Tryd.func49 (by kernel_rfl) rfl #[.int .i64 a0_0, .int .i64 a0_1, .int .i64 a0_2, .int .i64 a0_3] rfl (by (try simp only [List.map_toArray, List.map_cons, List.map_nil]); first | done | rfl | (simp only [List.length_drop, List.length_take]; rfl) | (simp only [Int.toNat_natCast, Nat.sub_self, List.length_drop, List.length_take]; rfl)) ?_; (with_reducible refine (plan_Make.calls a0_0 a0_1 a0_2 a0_3 t125 t126 t127 t128 t129 t130 t131 t132 t133 t134 t135 t136 t137 _ A2.out).mono ?_); rintro e w14 ⟨rfl, hb⟩; refine ⟨_, rfl, ?_⟩; have n0_ := Aside0.mk (blk_below (g := gb124) (o := .cells #[.int .i64 a0_0, .int .i64 a0_1, .int .i64 a0_2, .int .i64 a0_3, .int .i64 a0_4, .int .i64 a0_5, .int .i64 a0_6, .int .i64 a0_7, .int .i64 a0_8, .int .i64 a0_9, .int .i64 a0_10, .int .i64 a0_11] 41 (0, 0)) (by (with_reducible repeat (first | refine blk_drewN ?_ _ | refine blk_drew ?_ | refine blk_alloc ?_ _)); exact BK124.out) hb); have n1_ := Aside0.mk (below_step (by repeat (first | (with_reducible first | exact HB.out | apply below_alloc | apply pw_below_drewN | apply below_drew1 | refine below_set ?_ GE124.out) | with_reducible_and_instances exact HB.out)) hb); clear BK124; clear HB; have BK124 := n0_; have HB := n1_; clear n0_ n1_; (try clear hb); (try clear hb2); (try clear hk); (try clear hi)) | ((with_reducible refine gate_dst (N := 3) rfl ?_); refine box_event ?hg (N := 3) ?hd (cs := #[.int .i64 0, .int .i64 0, .int .i64 0, .int .i64 0, .int .i64 0, .int .i64 0, .int .i64 0, .int .i64 0, .int .i64 0, .int .i64 0, .int .i64 0, .int .i64 0]) (t := 41) ?hr ?_; (case hd => rfl); (case hg => rfl); (case hr => first | (go_simp; done) | (go_simp; rfl)); intro gb138 hg w15 hbox hb; have n0_ := Aside0.mk (blk_below (g := gb124) (o := .cells #[.int .i64 a0_0, .int .i64 a0_1, .int .i64 a0_2, .int .i64 a0_3, .int .i64 a0_4, .int .i64 a0_5, .int .i64 a0_6, .int .i64 a0_7, .int .i64 a0_8, .int .i64 a0_9, .int .i64 a0_10, .int .i64 a0_11] 41 (0, 0)) (by (with_reducible repeat (first | refine blk_drewN ?_ _ | refine blk_drew ?_ | refine blk_alloc ?_ _)); exact BK124.out) hb); have n1_ := Aside0.mk (below_step (by repeat (first | (with_reducible first | exact HB.out | apply below_alloc | apply pw_below_drewN | apply below_drew1 | refine below_set ?_ GE124.out) | with_reducible_and_instances exact HB.out)) hb); have n2_ := Aside0.mk (hbox); have n3_ := Aside0.mk ((by rw [hg]; exact (below_size (by repeat (first | (with_reducible first | exact HB.out | apply below_alloc | apply pw_below_drewN | apply below_drew1 | refine below_set ?_ GE124.out) | with_reducible_and_instances exact HB.out))) : w.heap.size ≤ gb138)); have n4_ := Aside0.mk ((by rw [hg]; exact (below_size (by repeat (first | (with_reducible first | exact HB.out | apply below_alloc | apply pw_below_drewN | apply below_drew1 | refine below_set ?_ GE124.out) | with_reducible_and_instances exact HB.out))) : w.heap.size ≤ gb138)); have n5_ := Aside0.mk ((by rw [hg]; exact Nat.ne_of_lt (blk_lt (g := gb124) (o := .cells #[.int .i64 a0_0, .int .i64 a0_1, .int .i64 a0_2, .int .i64 a0_3, .int .i64 a0_4, .int .i64 a0_5, .int .i64 a0_6, .int .i64 a0_7, .int .i64 a0_8, .int .i64 a0_9, .int .i64 a0_10, .int .i64 a0_11] 41 (0, 0)) (by (with_reducible repeat (first | refine blk_drewN ?_ _ | refine blk_drew ?_ | refine blk_alloc ?_ _)); exact BK124.out)) : gb124 ≠ gb138)); have n6_ := Aside0.mk ((by rw [hg]; exact Nat.ne_of_gt (blk_lt (g := gb124) (o := .cells #[.int .i64 a0_0, .int .i64 a0_1, .int .i64 a0_2, .int .i64 a0_3, .int .i64 a0_4, .int .i64 a0_5, .int .i64 a0_6, .int .i64 a0_7, .int .i64 a0_8, .int .i64 a0_9, .int .i64 a0_10, .int .i64 a0_11] 41 (0, 0)) (by (with_reducible repeat (first | refine blk_drewN ?_ _ | refine blk_drew ?_ | refine blk_alloc ?_ _)); exact BK124.out)) : gb138 ≠ gb124)); clear BK124; clear HB; have BK124 := n0_; have HB := n1_; have BK138 := n2_; have GW138 := n3_; have GE138 := n4_; have NB124_138 := n5_; have NB138_124 := n6_; clear n0_ n1_ n2_ n3_ n4_ n5_ n6_; clear hb hbox hg; have hnb16 := NB138_124.out; have hnc16 := NB124_138.out; have hcz17_0 : w15.cell? ⟨gb138, 0, none⟩ = some (.int .i64 0) := (blk_cell BK138.out 0).trans rfl; have hcz17_1 : w15.cell? ⟨gb138, 1, none⟩ = some (.int .i64 0) := (blk_cell BK138.out 1).trans rfl; have hcz17_2 : w15.cell? ⟨gb138, 2, none⟩ = some (.int .i64 0) := (blk_cell BK138.out 2).trans rfl; have hcz17_3 : w15.cell? ⟨gb138, 3, none⟩ = some (.int .i64 0) := (blk_cell BK138.out 3).trans rfl; have hcz17_4 : w15.cell? ⟨gb138, 4, none⟩ = some (.int .i64 0) := (blk_cell BK138.out 4).trans rfl; have hcz17_5 : w15.cell? ⟨gb138, 5, none⟩ = some (.int .i64 0) := (blk_cell BK138.out 5).trans rfl; have hcz17_6 : w15.cell? ⟨gb138, 6, none⟩ = some (.int .i64 0) := (blk_cell BK138.out 6).trans rfl; have hcz17_7 : w15.cell? ⟨gb138, 7, none⟩ = some (.int .i64 0) := (blk_cell BK138.out 7).trans rfl; have hcz17_8 : w15.cell? ⟨gb138, 8, none⟩ = some (.int .i64 0) := (blk_cell BK138.out 8).trans rfl; have hcz17_9 : w15.cell? ⟨gb138, 9, none⟩ = some (.int .i64 0) := (blk_cell BK138.out 9).trans rfl; have hcz17_10 : w15.cell? ⟨gb138, 10, none⟩ = some (.int .i64 0) := (blk_cell BK138.out 10).trans rfl; have hcz17_11 : w15.cell? ⟨gb138, 11, none⟩ = some (.int .i64 0) := (blk_cell BK138.out 11).trans rfl; have hfz17_0 := blk_frozen BK138.out 0; have hfz17_1 := blk_frozen BK138.out 1; have hfz17_2 := blk_frozen BK138.out 2; have hfz17_3 := blk_frozen BK138.out 3; have hfz17_4 := blk_frozen BK138.out 4; have hfz17_5 := blk_frozen BK138.out 5; have hfz17_6 := blk_frozen BK138.out 6; have hfz17_7 := blk_frozen BK138.out 7; have hfz17_8 := blk_frozen BK138.out 8; have hfz17_9 := blk_frozen BK138.out 9; have hfz17_10 := blk_frozen BK138.out 10; have hfz17_11 := blk_frozen BK138.out 11; have hcz18_0 : w15.cell? ⟨gb124, 0, none⟩ = some (.int .i64 a0_0) := (blk_cell BK124.out 0).trans rfl; have hcz18_1 : w15.cell? ⟨gb124, 1, none⟩ = some (.int .i64 a0_1) := (blk_cell BK124.out 1).trans rfl; have hcz18_2 : w15.cell? ⟨gb124, 2, none⟩ = some (.int .i64 a0_2) := (blk_cell BK124.out 2).trans rfl; have hcz18_3 : w15.cell? ⟨gb124, 3, none⟩ = some (.int .i64 a0_3) := (blk_cell BK124.out 3).trans rfl; have hcz18_4 : w15.cell? ⟨gb124, 4, none⟩ = some (.int .i64 a0_4) := (blk_cell BK124.out 4).trans rfl; have hcz18_5 : w15.cell? ⟨gb124, 5, none⟩ = some (.int .i64 a0_5) := (blk_cell BK124.out 5).trans rfl; have hcz18_6 : w15.cell? ⟨gb124, 6, none⟩ = some (.int .i64 a0_6) := (blk_cell BK124.out 6).trans rfl; have hcz18_7 : w15.cell? ⟨gb124, 7, none⟩ = some (.int .i64 a0_7) := (blk_cell BK124.out 7).trans rfl; have hcz18_8 : w15.cell? ⟨gb124, 8, none⟩ = some (.int .i64 a0_8) := (blk_cell BK124.out 8).trans rfl; have hcz18_9 : w15.cell? ⟨gb124, 9, none⟩ = some (.int .i64 a0_9) := (blk_cell BK124.out 9).trans rfl; have hcz18_10 : w15.cell? ⟨gb124, 10, none⟩ = some (.int .i64 a0_10) := (blk_cell BK124.out 10).trans rfl; have hcz18_11 : w15.cell? ⟨gb124, 11, none⟩ = some (.int .i64 a0_11) := (blk_cell BK124.out 11).trans rfl; have hfz18_0 := blk_frozen BK124.out 0; have hfz18_1 := blk_frozen BK124.out 1; have hfz18_2 := blk_frozen BK124.out 2; have hfz18_3 := blk_frozen BK124.out 3; have hfz18_4 := blk_frozen BK124.out 4; have hfz18_5 := blk_frozen BK124.out 5; have hfz18_6 := blk_frozen BK124.out 6; have hfz18_7 := blk_frozen BK124.out 7; have hfz18_8 := blk_frozen BK124.out 8; have hfz18_9 := blk_frozen BK124.out 9; have hfz18_10 := blk_frozen BK124.out 10; have hfz18_11 := blk_frozen BK124.out 11))
      go_ret
      exact ⟨by first | rfl | (simp [errW_none, errW_some] <;> rfl) | (simp [*, errW_none, errW_some] <;> rfl), by repeat (first | (with_reducible first | exact HB.out | apply below_alloc | apply pw_below_drewN | apply below_drew1 | refine below_set ?_ GE124.out | refine below_set ?_ GE138.out) | with_reducible_and_instances exact HB.out)⟩
  · rw [if_neg c3] at H
    have c3b0 : (t137 == 0) = false := beq_eq_false_iff_ne.mpr c3
    have c3b1 : (t137 != 0) = true := bne_iff_ne.mpr c3
    obtain rfl := Option.some.inj H
    go_enter Tryd.func46, Tryd.ntmps46
    go_wp2_with (first | ((with_reducible refine gate_dst (N := 1) rfl ?_); refine box_event ?hg (N := 1) ?hd (cs := #[.int .i64 a0_0, .int .i64 a0_1, .int .i64 a0_2, .int .i64 a0_3, .int .i64 a0_4, .int .i64 a0_5, .int .i64 a0_6, .int .i64 a0_7, .int .i64 a0_8, .int .i64 a0_9, .int .i64 a0_10, .int .i64 a0_11]) (t := 41) ?hr ?_; (case hd => rfl); (case hg => rfl); (case hr => first | (go_simp; done) | (go_simp; rfl)); intro gb124 hg w19 hbox hb; have n0_ := Aside0.mk (below_step (by repeat (first | (with_reducible first | exact HB.out | apply below_alloc | apply pw_below_drewN | apply below_drew1) | with_reducible_and_instances exact HB.out)) hb); have n1_ := Aside0.mk (hbox); have n2_ := Aside0.mk ((by rw [hg]; exact (below_size (by repeat (first | (with_reducible first | exact HB.out | apply below_alloc | apply pw_below_drewN | apply below_drew1) | with_reducible_and_instances exact HB.out))) : w.heap.size ≤ gb124)); have n3_ := Aside0.mk ((by rw [hg]; exact (below_size (by repeat (first | (with_reducible first | exact HB.out | apply below_alloc | apply pw_below_drewN | apply below_drew1) | with_reducible_and_instances exact HB.out))) : w.heap.size ≤ gb124)); clear HB; have HB := n0_; have BK124 := n1_; have GW124 := n2_; have GE124 := n3_; clear n0_ n1_ n2_ n3_; clear hb hbox hg; have hcz20_0 : w19.cell? ⟨gb124, 0, none⟩ = some (.int .i64 a0_0) := (blk_cell BK124.out 0).trans rfl; have hcz20_1 : w19.cell? ⟨gb124, 1, none⟩ = some (.int .i64 a0_1) := (blk_cell BK124.out 1).trans rfl; have hcz20_2 : w19.cell? ⟨gb124, 2, none⟩ = some (.int .i64 a0_2) := (blk_cell BK124.out 2).trans rfl; have hcz20_3 : w19.cell? ⟨gb124, 3, none⟩ = some (.int .i64 a0_3) := (blk_cell BK124.out 3).trans rfl; have hcz20_4 : w19.cell? ⟨gb124, 4, none⟩ = some (.int .i64 a0_4) := (blk_cell BK124.out 4).trans rfl; have hcz20_5 : w19.cell? ⟨gb124, 5, none⟩ = some (.int .i64 a0_5) := (blk_cell BK124.out 5).trans rfl; have hcz20_6 : w19.cell? ⟨gb124, 6, none⟩ = some (.int .i64 a0_6) := (blk_cell BK124.out 6).trans rfl; have hcz20_7 : w19.cell? ⟨gb124, 7, none⟩ = some (.int .i64 a0_7) := (blk_cell BK124.out 7).trans rfl; have hcz20_8 : w19.cell? ⟨gb124, 8, none⟩ = some (.int .i64 a0_8) := (blk_cell BK124.out 8).trans rfl; have hcz20_9 : w19.cell? ⟨gb124, 9, none⟩ = some (.int .i64 a0_9) := (blk_cell BK124.out 9).trans rfl; have hcz20_10 : w19.cell? ⟨gb124, 10, none⟩ = some (.int .i64 a0_10) := (blk_cell BK124.out 10).trans rfl; have hcz20_11 : w19.cell? ⟨gb124, 11, none⟩ = some (.int .i64 a0_11) := (blk_cell BK124.out 11).trans rfl; have hfz20_0 := blk_frozen BK124.out 0; have hfz20_1 := blk_frozen BK124.out 1; have hfz20_2 := blk_frozen BK124.out 2; have hfz20_3 := blk_frozen BK124.out 3; have hfz20_4 := blk_frozen BK124.out 4; have hfz20_5 := blk_frozen BK124.out 5; have hfz20_6 := blk_frozen BK124.out 6; have hfz20_7 := blk_frozen BK124.out 7; have hfz20_8 := blk_frozen BK124.out 8; have hfz20_9 := blk_frozen BK124.out 9; have hfz20_10 := blk_frozen BK124.out 10; have hfz20_11 := blk_frozen BK124.out 11) | ((with_reducible refine gate_callee (f := 49) rfl ?_); refine goesL_ (some 14) rfl rfl Tryd.func49 (by kernel_rfl) rfl #[.int .i64 a0_0, .int .i64 a0_1, .int .i64 a0_2, .int .i64 a0_3] rfl (by (try simp only [List.map_toArray, List.map_cons, List.map_nil]); first | done | rfl | (simp only [List.length_drop, List.length_take]; rfl) | (simp only [Int.toNat_natCast, Nat.sub_self, List.length_drop, List.length_take]; rfl)) ?_; (with_reducible refine (plan_Make.calls a0_0 a0_1 a0_2 a0_3 t125 t126 t127 t128 t129 t130 t131 t132 t133 t134 t135 t136 t137 _ A2.out).mono ?_); rintro e w21 ⟨rfl, hb⟩; refine ⟨_, rfl, ?_⟩; have n0_ := Aside0.mk (blk_below (g := gb124) (o := .cells #[.int .i64 a0_0, .int .i64 a0_1, .int .i64 a0_2, .int .i64 a0_3, .int .i64 a0_4, .int .i64 a0_5, .int .i64 a0_6, .int .i64 a0_7, .int .i64 a0_8, .int .i64 a0_9, .int .i64 a0_10, .int .i64 a0_11] 41 (0, 0)) (by (with_reducible repeat (first | refine blk_drewN ?_ _ | refine blk_drew ?_ | refine blk_alloc ?_ _)); exact BK124.out) hb); have n1_ := Aside0.mk (below_step (by repeat (first | (with_reducible first | exact HB.out | apply below_alloc | apply pw_below_drewN | apply below_drew1 | refine below_set ?_ GE124.out) | with_reducible_and_instances exact HB.out)) hb); clear BK124; clear HB; have BK124 := n0_; have HB := n1_; clear n0_ n1_; (try clear hb); (try clear hb2); (try clear hk); (try clear hi)) | ((with_reducible refine gate_dst (N := 3) rfl ?_); refine box_event ?hg (N := 3) ?hd (cs := #[.int .i64 0, .int .i64 0, .int .i64 0, .int .i64 0, .int .i64 0, .int .i64 0, .int .i64 0, .int .i64 0, .int .i64 0, .int .i64 0, .int .i64 0, .int .i64 0]) (t := 41) ?hr ?_; (case hd => rfl); (case hg => rfl); (case hr => first | (go_simp; done) | (go_simp; rfl)); intro gb138 hg w22 hbox hb; have n0_ := Aside0.mk (blk_below (g := gb124) (o := .cells #[.int .i64 a0_0, .int .i64 a0_1, .int .i64 a0_2, .int .i64 a0_3, .int .i64 a0_4, .int .i64 a0_5, .int .i64 a0_6, .int .i64 a0_7, .int .i64 a0_8, .int .i64 a0_9, .int .i64 a0_10, .int .i64 a0_11] 41 (0, 0)) (by (with_reducible repeat (first | refine blk_drewN ?_ _ | refine blk_drew ?_ | refine blk_alloc ?_ _)); exact BK124.out) hb); have n1_ := Aside0.mk (below_step (by repeat (first | (with_reducible first | exact HB.out | apply below_alloc | apply pw_below_drewN | apply below_drew1 | refine below_set ?_ GE124.out) | with_reducible_and_instances exact HB.out)) hb); have n2_ := Aside0.mk (hbox); have n3_ := Aside0.mk ((by rw [hg]; exact (below_size (by repeat (first | (with_reducible first | exact HB.out | apply below_alloc | apply pw_below_drewN | apply below_drew1 | refine below_set ?_ GE124.out) | with_reducible_and_instances exact HB.out))) : w.heap.size ≤ gb138)); have n4_ := Aside0.mk ((by rw [hg]; exact (below_size (by repeat (first | (with_reducible first | exact HB.out | apply below_alloc | apply pw_below_drewN | apply below_drew1 | refine below_set ?_ GE124.out) | with_reducible_and_instances exact HB.out))) : w.heap.size ≤ gb138)); have n5_ := Aside0.mk ((by rw [hg]; exact Nat.ne_of_lt (blk_lt (g := gb124) (o := .cells #[.int .i64 a0_0, .int .i64 a0_1, .int .i64 a0_2, .int .i64 a0_3, .int .i64 a0_4, .int .i64 a0_5, .int .i64 a0_6, .int .i64 a0_7, .int .i64 a0_8, .int .i64 a0_9, .int .i64 a0_10, .int .i64 a0_11] 41 (0, 0)) (by (with_reducible repeat (first | refine blk_drewN ?_ _ | refine blk_drew ?_ | refine blk_alloc ?_ _)); exact BK124.out)) : gb124 ≠ gb138)); have n6_ := Aside0.mk ((by rw [hg]; exact Nat.ne_of_gt (blk_lt (g := gb124) (o := .cells #[.int .i64 a0_0, .int .i64 a0_1, .int .i64 a0_2, .int .i64 a0_3, .int .i64 a0_4, .int .i64 a0_5, .int .i64 a0_6, .int .i64 a0_7, .int .i64 a0_8, .int .i64 a0_9, .int .i64 a0_10, .int .i64 a0_11] 41 (0, 0)) (by (with_reducible repeat (first | refine blk_drewN ?_ _ | refine blk_drew ?_ | refine blk_alloc ?_ _)); exact BK124.out)) : gb138 ≠ gb124)); clear BK124; clear HB; have BK124 := n0_; have HB := n1_; have BK138 := n2_; have GW138 := n3_; have GE138 := n4_; have NB124_138 := n5_; have NB138_124 := n6_; clear n0_ n1_ n2_ n3_ n4_ n5_ n6_; clear hb hbox hg; have hnb23 := NB138_124.out; have hnc23 := NB124_138.out; have hcz24_0 : w22.cell? ⟨gb138, 0, none⟩ = some (.int .i64 0) := (blk_cell BK138.out 0).trans rfl; have hcz24_1 : w22.cell? ⟨gb138, 1, none⟩ = some (.int .i64 0) := (blk_cell BK138.out 1).trans rfl; have hcz24_2 : w22.cell? ⟨gb138, 2, none⟩ = some (.int .i64 0) := (blk_cell BK138.out 2).trans rfl; have hcz24_3 : w22.cell? ⟨gb138, 3, none⟩ = some (.int .i64 0) := (blk_cell BK138.out 3).trans rfl; have hcz24_4 : w22.cell? ⟨gb138, 4, none⟩ = some (.int .i64 0) := (blk_cell BK138.out 4).trans rfl; have hcz24_5 : w22.cell? ⟨gb138, 5, none⟩ = some (.int .i64 0) := (blk_cell BK138.out 5).trans rfl; have hcz24_6 : w22.cell? ⟨gb138, 6, none⟩ = some (.int .i64 0) := (blk_cell BK138.out 6).trans rfl; have hcz24_7 : w22.cell? ⟨gb138, 7, none⟩ = some (.int .i64 0) := (blk_cell BK138.out 7).trans rfl; have hcz24_8 : w22.cell? ⟨gb138, 8, none⟩ = some (.int .i64 0) := (blk_cell BK138.out 8).trans rfl; have hcz24_9 : w22.cell? ⟨gb138, 9, none⟩ = some (.int .i64 0) := (blk_cell BK138.out 9).trans rfl; have hcz24_10 : w22.cell? ⟨gb138, 10, none⟩ = some (.int .i64 0) := (blk_cell BK138.out 10).trans rfl; have hcz24_11 : w22.cell? ⟨gb138, 11, none⟩ = some (.int .i64 0) := (blk_cell BK138.out 11).trans rfl; have hfz24_0 := blk_frozen BK138.out 0; have hfz24_1 := blk_frozen BK138.out 1; have hfz24_2 := blk_frozen BK138.out 2; have hfz24_3 := blk_frozen BK138.out 3; have hfz24_4 := blk_frozen BK138.out 4; have hfz24_5 := blk_frozen BK138.out 5; have hfz24_6 := blk_frozen BK138.out 6; have hfz24_7 := blk_frozen BK138.out 7; have hfz24_8 := blk_frozen BK138.out 8; have hfz24_9 := blk_frozen BK138.out 9; have hfz24_10 := blk_frozen BK138.out 10; have hfz24_11 := blk_frozen BK138.out 11))
    go_ret
    exact ⟨by first | rfl | (simp [errW_none, errW_some] <;> rfl) | (simp [*, errW_none, errW_some] <;> rfl), by repeat (first | (with_reducible first | exact HB.out | apply below_alloc | apply pw_below_drewN | apply below_drew1 | refine below_set ?_ GE124.out | refine below_set ?_ GE138.out) | with_reducible_and_instances exact HB.out)⟩

/-! ### crc_nibbles: function 86 -/
/-- What four steps make of each of sixteen beginnings. -/
def crc_nibbles.T (i : Nat) : Int := ((Plain.cs4 i : Nat) : Int)
set_option maxRecDepth 100000 in
theorem crc_nibbles.calls (w : World) : Calls Tryd.prog 86 #[] w fun e w' => e = .returned (.agg #[.int .u32 (crc_nibbles.T 0), .int .u32 (crc_nibbles.T 1), .int .u32 (crc_nibbles.T 2), .int .u32 (crc_nibbles.T 3), .int .u32 (crc_nibbles.T 4), .int .u32 (crc_nibbles.T 5), .int .u32 (crc_nibbles.T 6), .int .u32 (crc_nibbles.T 7), .int .u32 (crc_nibbles.T 8), .int .u32 (crc_nibbles.T 9), .int .u32 (crc_nibbles.T 10), .int .u32 (crc_nibbles.T 11), .int .u32 (crc_nibbles.T 12), .int .u32 (crc_nibbles.T 13), .int .u32 (crc_nibbles.T 14), .int .u32 (crc_nibbles.T 15)]) ∧ Below w.heap.size w w' := by
  have ht : #[Value.int .u32 0, .int .u32 498536548, .int .u32 997073096,
              .int .u32 651767980, .int .u32 1994146192, .int .u32 1802195444,
              .int .u32 1303535960, .int .u32 1342533948, .int .u32 3988292384,
              .int .u32 4027552580, .int .u32 3604390888, .int .u32 3412177804,
              .int .u32 2607071920, .int .u32 2262029012, .int .u32 2685067896,
              .int .u32 3183342108] = #[.int .u32 (crc_nibbles.T 0), .int .u32 (crc_nibbles.T 1), .int .u32 (crc_nibbles.T 2), .int .u32 (crc_nibbles.T 3), .int .u32 (crc_nibbles.T 4), .int .u32 (crc_nibbles.T 5), .int .u32 (crc_nibbles.T 6), .int .u32 (crc_nibbles.T 7), .int .u32 (crc_nibbles.T 8), .int .u32 (crc_nibbles.T 9), .int .u32 (crc_nibbles.T 10), .int .u32 (crc_nibbles.T 11), .int .u32 (crc_nibbles.T 12), .int .u32 (crc_nibbles.T 13), .int .u32 (crc_nibbles.T 14), .int .u32 (crc_nibbles.T 15)] := by kernel_rfl
  have HT := Aside0.mk ht
  clear ht
  go_enter Tryd.func86, Tryd.ntmps86
  go_wp2
  refine bodyPost_ret (v := .agg #[.int .u32 (crc_nibbles.T 0), .int .u32 (crc_nibbles.T 1), .int .u32 (crc_nibbles.T 2), .int .u32 (crc_nibbles.T 3), .int .u32 (crc_nibbles.T 4), .int .u32 (crc_nibbles.T 5), .int .u32 (crc_nibbles.T 6), .int .u32 (crc_nibbles.T 7), .int .u32 (crc_nibbles.T 8), .int .u32 (crc_nibbles.T 9), .int .u32 (crc_nibbles.T 10), .int .u32 (crc_nibbles.T 11), .int .u32 (crc_nibbles.T 12), .int .u32 (crc_nibbles.T 13), .int .u32 (crc_nibbles.T 14), .int .u32 (crc_nibbles.T 15)]) ?_ rfl ⟨rfl, (Below.refl _ _).alloc (Nat.le_refl _) _⟩
  rw [← HT.out]
  simp [results, Tryd.results86, go_sem]

end Go.Proofs.YtbplffdmggbcdaaDoor.PCodecKeeps
