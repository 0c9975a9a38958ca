-- Written by this session's own tool (prn.py) over the kit's printer; its templates are the session's own. Lean checks it.
import Derived.Test.YtkfeigigjilaiaaDoorPFieldKeepsx0
namespace Go.Proofs.YtkfeigigjilaiaaDoor.PFieldKeeps
open Go.RowKit Go.Proofs.YtkfeigigjilaiaaDoorW.PrintWords Go.Proofs.YtkfeigigjilaiaaDoorW.PrintLast Go.Proofs.YtkfeigigjilaiaaDoorW.PrintMore
attribute [local go_sem] max2_int min2_int max_two min_two max_three min_three max_four min_four   -- for this text's walks alone
set_option linter.unusedVariables false
set_option linter.unusedSimpArgs false

/-! ### field_part: function 25 -/
/-- n bytes from a place on. -/
def field_part.seg (l : List Int) (a n : Int) : List Int := (l.take (a + n).toNat).drop a.toNat
def field_part.Inside (l : List Int) (a n : Int) : Prop := 0 ≤ a ∧ 0 ≤ n ∧ a ≤ (l.length : Int) ∧ n ≤ (l.length : Int) - a
instance (l : List Int) (a n : Int) : Decidable (field_part.Inside l a n) := by unfold field_part.Inside; infer_instance
theorem field_part.seg_length {l : List Int} {a n : Int} (h : field_part.Inside l a n) : (field_part.seg l a n).length = n.toNat := by
  obtain ⟨h0, h1, h2, h3⟩ := h
  unfold field_part.seg
  rw [List.length_drop, List.length_take]
  omega
theorem field_part.yes (A0 : Option Addr) (c0 : Nat) (l : List Int) (a n : Int) (hc0 : l.length ≤ c0) (hl : l.length ≤ 140737488351232) (h : field_part.Inside l a n) :
    ∃ A' : Option Addr, (∀ w, Calls Tryd.prog 25 #[.slice A0 l.length c0, .int .i64 a, .int .i64 n] w fun e w' => e = .returned (.tuple #[.slice A' (field_part.seg l a n).length (c0 - a.toNat), .bool true]) ∧ w = w') ∧
      (∀ w, Kd.C (Kd.int .u8) w A0 l.length l → Kd.C (Kd.int .u8) w A' (field_part.seg l a n).length (field_part.seg l a n)) ∧ (field_part.seg l a n).length ≤ c0 - a.toNat := by
  obtain ⟨h0, h1, h2, h3⟩ := h
  obtain ⟨i0, hi0, _, hsz, _⟩ := info_parts info5
  obtain ⟨A', hcut, hA, hC⟩ := print_mid_of (P := Tryd.prog) (Value.int .u8) 0 22 5 .i64 .i64 Tryd.underlying22 hi0 hsz A0 c0 l a (a + n) h0 (by omega) (by omega) hc0
  have HA := Aside0.mk hA
  have HC := Aside0.mk hC
  refine ⟨A', fun w => ?_, fun w hr => Kd.C_of_reads (h1 := fun _ => rfl) (HA.out _ (Kd.reads_of_C hr)), HC.out⟩
  obtain ⟨m, hm⟩ : ∃ m : Nat, (field_part.seg l a n).length = m := ⟨_, rfl⟩
  have hcut' : ∀ W : World, (Instr.slice 22 (.slice A0 l.length c0) (some (.int .i64 a)) (some (.int .i64 (a + n))) none).run Tryd.prog W = .ok (.slice A' m (c0 - a.toNat)) W := fun W => by rw [← hm]; exact hcut W
  rw [hm]
  clear HA HC hA hC hi0 hsz hc0 hcut hm
  go_enter Tryd.func25, Tryd.ntmps25
  go_wp2
  go_ret2
  exact ⟨rfl, rfl⟩
theorem field_part.no (A0 : Option Addr) (c0 : Nat) (l : List Int) (a n : Int) (hl : l.length ≤ 140737488351232) (h : ¬ field_part.Inside l a n) (w : World) :
    Calls Tryd.prog 25 #[.slice A0 l.length c0, .int .i64 a, .int .i64 n] w fun e w' => e = .returned (.tuple #[.slice none 0 0, .bool false]) ∧ w = w' := by
  unfold field_part.Inside at h
  by_cases c1 : a < 0
  · clear h
    go_enter Tryd.func25, Tryd.ntmps25
    go_wp2
    go_ret2
    exact ⟨rfl, rfl⟩
  · by_cases c2 : n < 0
    · clear h
      go_enter Tryd.func25, Tryd.ntmps25
      go_wp2
      go_ret2
      exact ⟨rfl, rfl⟩
    · by_cases c3 : (l.length : Int) < a
      · clear h
        go_enter Tryd.func25, Tryd.ntmps25
        go_wp2
        go_ret2
        exact ⟨rfl, rfl⟩
      · have c4 : (l.length : Int) - a < n := by omega
        clear h
        go_enter Tryd.func25, Tryd.ntmps25
        go_wp2
        go_ret2
        exact ⟨rfl, rfl⟩

/-! ### field_number: function 20 -/
theorem field_number.yes (A0 : Option Addr) (c0 : Nat) (l : List Int) (a n : Int) (hc0 : l.length ≤ c0) (hl : l.length ≤ 140737488351232) (hn : n = 1 ∨ n = 2 ∨ n = 4) (h : field_part.Inside l a n) :
    ∃ A' : Option Addr, (∀ w, Calls Tryd.prog 20 #[.slice A0 l.length c0, .int .i64 a, .int .i64 n] w fun e w' => e = .returned (.tuple #[.slice A' (field_part.seg l a n).length (c0 - a.toNat), .int .i64 0]) ∧ w = w') ∧
      (∀ w, Kd.C (Kd.int .u8) w A0 l.length l → Kd.C (Kd.int .u8) w A' (field_part.seg l a n).length (field_part.seg l a n)) ∧ (field_part.seg l a n).length ≤ c0 - a.toNat := by
  obtain ⟨A', hcall, hA, hC⟩ := field_part.yes A0 c0 l a n hc0 hl h
  have HK := Aside0.mk hcall
  refine ⟨A', fun w => ?_, hA, hC⟩
  clear hcall hA hC h hc0
  rcases hn with rfl | rfl | rfl
  all_goals
    go_enter Tryd.func20, Tryd.ntmps20
    go_wp2_with (go_at_call 25; refine (HK.out _).mono ?_; rintro e w' ⟨rfl, rfl⟩)
    go_ret2
    exact ⟨rfl, rfl⟩
theorem field_number.range (A0 : Option Addr) (c0 : Nat) (l : List Int) (a n : Int) (hl : l.length ≤ 140737488351232) (hn : n = 1 ∨ n = 2 ∨ n = 4) (h : ¬ field_part.Inside l a n) (w : World) :
    Calls Tryd.prog 20 #[.slice A0 l.length c0, .int .i64 a, .int .i64 n] w fun e w' => e = .returned (.tuple #[.slice none 0 0, .int .i64 2]) ∧ w = w' := by
  have HK := Aside0.mk (field_part.no A0 c0 l a n hl h)
  clear h
  rcases hn with rfl | rfl | rfl
  all_goals
    go_enter Tryd.func20, Tryd.ntmps20
    go_wp2_with (go_at_call 25; refine (HK.out _).mono ?_; rintro e w' ⟨rfl, rfl⟩)
    go_ret2
    exact ⟨rfl, rfl⟩
theorem field_number.arg (A0 : Option Addr) (c0 : Nat) (l : List Int) (a n : Int) (hn : ¬ (n = 1 ∨ n = 2 ∨ n = 4)) (w : World) :
    Calls Tryd.prog 20 #[.slice A0 l.length c0, .int .i64 a, .int .i64 n] w fun e w' => e = .returned (.tuple #[.slice none 0 0, .int .i64 1]) ∧ w = w' := by
  have n1 : (n == 1) = false := beq_eq_false_iff_ne.mpr (by omega)
  have n2 : (n == 2) = false := beq_eq_false_iff_ne.mpr (by omega)
  have n4 : (n == 4) = false := beq_eq_false_iff_ne.mpr (by omega)
  clear hn
  go_enter Tryd.func20, Tryd.ntmps20
  go_wp2
  go_ret2
  exact ⟨rfl, rfl⟩

/-! ### slices_Backward_byte_byte: function 21 -/
section
attribute [local go_sem] Oper.semAt_some
open Go.Shelf
/-- An index and a byte. -/
abbrev slices_Backward_byte_byte.El := { x : Int × Int // 0 ≤ x.2 ∧ x.2 < 256 }
def slices_Backward_byte_byte.enc (x : slices_Backward_byte_byte.El) : Array Value := #[.int .i64 x.1.1, .int .u8 x.1.2]
/-- What has come when k rounds are over. -/
def slices_Backward_byte_byte.upto (f : Nat → slices_Backward_byte_byte.El) (k : Nat) : List slices_Backward_byte_byte.El := (List.range k).map f
theorem slices_Backward_byte_byte.upto_succ (f : Nat → slices_Backward_byte_byte.El) (k : Nat) : slices_Backward_byte_byte.upto f (k + 1) = slices_Backward_byte_byte.upto f k ++ [f k] := by simp [slices_Backward_byte_byte.upto, List.range_succ]
theorem slices_Backward_byte_byte.upto_length (f : Nat → slices_Backward_byte_byte.El) (k : Nat) : (slices_Backward_byte_byte.upto f k).length = k := by simp [slices_Backward_byte_byte.upto]
/-- The k-th from behind. -/
def slices_Backward_byte_byte.at_ (g : Nat → Int) (hg : ∀ j, 0 ≤ g j ∧ g j < 256) (len k : Nat) : slices_Backward_byte_byte.El := ⟨((len : Int) - 1 - k, g (len - 1 - k)), hg _⟩
/-- What a round keeps: all below n₀, and the block Bs (the box of the slice). -/
def slices_Backward_byte_byte.Kp (n₀ Bs : Nat) (A B : World) : Prop := Below n₀ A B ∧ ∀ o, A.heap[Bs]? = some o → B.heap[Bs]? = some o
theorem slices_Backward_byte_byte.Kp_refl (n₀ Bs : Nat) (A : World) : slices_Backward_byte_byte.Kp n₀ Bs A A := ⟨Below.refl _ _, fun _ h => h⟩
theorem slices_Backward_byte_byte.Kp_t {n₀ Bs : Nat} {A B C : World} (h : slices_Backward_byte_byte.Kp n₀ Bs A B) (k : slices_Backward_byte_byte.Kp n₀ Bs B C) : slices_Backward_byte_byte.Kp n₀ Bs A C := ⟨h.1.trans k.1, fun o ho => k.2 o (h.2 o ho)⟩
theorem slices_Backward_byte_byte.Kp_b {n₀ Bs : Nat} {w : World} (hn : n₀ ≤ w.heap.size) (hB : Bs < w.heap.size) (W : World) (l : Nat) (o o' : Obj) (hl : w.heap.size ≤ l) (h : W.heap[l]? = some o) (hc : o.isCells = false) (hw : o.isWalk = false) : slices_Backward_byte_byte.Kp n₀ Bs W (W.putObj l o') :=
  ⟨belowK_b hn W l o o' hl h hc hw, fun o1 h1 => ((belowK_b (n₀ := Bs + 1) (w := w) (by omega) W l o o' hl h hc hw).block Bs (by omega)).trans h1⟩
theorem slices_Backward_byte_byte.int_eq {a b : Int} (h : a = b) : Value.int .i64 a = .int .i64 b := by rw [h]
set_option maxRecDepth 100000 in
set_option maxHeartbeats 2000000 in
theorem slices_Backward_byte_byte.round_in (F : Fence) (n : Nat) (h7 : F.fn 35) (hro : F.round = none) (hn : 1 ≤ n) (l Bs n₀ b off len cap : Nat) (g : Nat → Int) (hg : ∀ j, 0 ≤ g j ∧ g j < 256) (hreach : len ≤ 140737488351232) (hb : b < n₀) (J Jx : List slices_Backward_byte_byte.El → World → Prop)
    (hY : ∀ pre x W, J pre W → pre.length < len → YieldAt F (n - 1) Tryd.prog l (slices_Backward_byte_byte.enc x) W fun e W' =>
      (e = .returned (.bool true) ∧ J (pre ++ [x]) W' ∧ slices_Backward_byte_byte.Kp n₀ Bs W W') ∨ (e = .returned (.bool false) ∧ Jx (pre ++ [x]) W'))
    (W : World) (hBs : W.heap[Bs]? = some (.cells #[.slice (some ⟨b, off, none⟩) len cap] 22)) (hc : ∀ j, j < len → W.cell? ⟨b, off + j, none⟩ = some (.int .u8 (g j))) (h0 : J [] W) :
    CallsIn F n Tryd.prog 35 #[.func (.yield l) #[] #[], .pointer (some ⟨Bs, 0, none⟩)] W fun e W' => (∃ v, e = .returned v) ∧
      ((∃ ys, ys = slices_Backward_byte_byte.upto (slices_Backward_byte_byte.at_ g hg len) len ∧ J ys W') ∨ (∃ pre, (∃ k, k ≤ len ∧ pre = slices_Backward_byte_byte.upto (slices_Backward_byte_byte.at_ g hg len) k) ∧ Jx pre W')) := by
  have hBs1 := blk_cell hBs 0
  simp only [List.getElem?_toArray, List.getElem?_cons_zero] at hBs1
  have HBS := Aside0.mk hBs
  clear hBs
  refine callsIn_of_wp Tryd.func35 rfl h7 ?_ hro
  simp only [Tryd.ntmps35, List.size_toArray, List.length_cons, List.length_nil, Nat.reduceAdd, Nat.reduceSub, Array.replicate_succ, Array.replicate_zero, List.push_toArray, List.append_toArray, List.nil_append, List.cons_append]
  gi_wp2
  gi_loopw [3] (fun i wr => ∃ k : Nat, k ≤ len ∧ i = .int .i64 ((len : Int) - 1 - k) ∧ J (slices_Backward_byte_byte.upto (slices_Backward_byte_byte.at_ g hg len) k) wr ∧ slices_Backward_byte_byte.Kp n₀ Bs W wr)
    (fun i _ => (intOf i + 1).toNat)
  case atStart => exact ⟨0, Nat.zero_le _, by simp, h0, slices_Backward_byte_byte.Kp_refl _ _ _⟩
  case round =>
    obtain ⟨k, hk, rfl, hJs, hnx⟩ := hrel
    by_cases hlt : k < len
    · have hcx : wr.cell? ⟨b, off + (len - 1 - k), none⟩ = some (.int .u8 (g (len - 1 - k))) := (hnx.1.cell (p := ⟨b, off + (len - 1 - k), none⟩) hb).trans (hc _ (by omega))
      have hBx := blk_cell (hnx.2 _ HBS.out) 0
      simp only [List.getElem?_toArray, List.getElem?_cons_zero] at hBx
      obtain ⟨fn, tmps, assign, body, hy, hR⟩ := hY _ (slices_Backward_byte_byte.at_ g hg len k) wr hJs (by rw [slices_Backward_byte_byte.upto_length]; exact hlt)
      simp only [slices_Backward_byte_byte.enc, slices_Backward_byte_byte.at_] at hy
      obtain ⟨j, hj⟩ : ∃ j : Int, (len : Int) - 1 - k = j := ⟨_, rfl⟩
      have hj0 : 0 ≤ j := by omega
      have hj1 : j < (len : Int) := by omega
      rw [show len - 1 - k = j.toNat by omega] at hcx hy
      rw [hj] at hy ⊢
      have HJ := Aside0.mk hj
      clear hj
      gi_wp2
      refine hR.mono ?_
      rintro e W3 (⟨rfl, hJ3, hk3⟩ | ⟨rfl, hJx3⟩)
      · gi_wp2
        go_roundw
        case rel => exact ⟨k + 1, by omega, slices_Backward_byte_byte.int_eq (by have := HJ.out; omega), by rw [slices_Backward_byte_byte.upto_succ]; exact hJ3, slices_Backward_byte_byte.Kp_t hnx hk3⟩
        case measure => simp [intOf]; omega
      · gi_wp2
        refine bodyPost_ret (results_none rfl _ _ _) rfl ?_
        exact ⟨⟨_, rfl⟩, .inr ⟨_, ⟨k + 1, by omega, (slices_Backward_byte_byte.upto_succ _ _).symm⟩, hJx3⟩⟩
    · obtain rfl : k = len := by omega
      gi_wp2
      go_end0
      exact ⟨⟨_, rfl⟩, .inl ⟨_, rfl, hJs⟩⟩
set_option maxRecDepth 100000 in
set_option maxHeartbeats 1000000 in
/-- .. where there are none: no round. -/
theorem slices_Backward_byte_byte.round_nil_in (F : Fence) (n : Nat) (h7 : F.fn 35) (hro : F.round = none) (l Bs cap : Nat) (A : Option Addr) (J : List slices_Backward_byte_byte.El → World → Prop) (W : World) (hBs : W.cell? ⟨Bs, 0, none⟩ = some (.slice A 0 cap)) (h0 : J [] W) :
    CallsIn F n Tryd.prog 35 #[.func (.yield l) #[] #[], .pointer (some ⟨Bs, 0, none⟩)] W fun e W' => (∃ v, e = .returned v) ∧ J [] W' := by
  refine callsIn_of_wp Tryd.func35 rfl h7 ?_ hro
  simp only [Tryd.ntmps35, List.size_toArray, List.length_cons, List.length_nil, Nat.reduceAdd, Nat.reduceSub, Array.replicate_succ, Array.replicate_zero, List.push_toArray, List.append_toArray, List.nil_append, List.cons_append]
  gi_wp2
  gi_loopw [3] (fun i wr => i = .int .i64 (-1) ∧ J [] wr) (fun _ _ => 0)
  case atStart => exact ⟨rfl, h0⟩
  case round =>
    obtain ⟨rfl, hJs⟩ := hrel
    gi_wp2
    go_end0
    exact ⟨⟨_, rfl⟩, hJs⟩
set_option maxHeartbeats 1000000 in
/-- slices.Backward(s): the slice value is boxed; the function value captures the box. -/
theorem slices_Backward_byte_byte.in_ (F : Fence) (n : Nat) (h5 : F.fn 21) (hro : F.round = none) (a : Option Addr) (len cap : Nat) (w : World) :
    CallsIn F n Tryd.prog 21 #[.slice a len cap] w fun e w' => e = .returned (.func (.func 35) #[] #[.pointer (some ⟨w.heap.size, 0, none⟩)]) ∧ w' = w.alloc (.cells #[.slice a len cap] 22) := by
  refine callsIn_of_wp Tryd.func21 rfl h5 ?_ hro
  simp only [Tryd.ntmps21, List.size_toArray, List.length_cons, List.length_nil, Nat.reduceAdd, Nat.reduceSub, Array.replicate_succ, Array.replicate_zero, List.push_toArray, List.append_toArray, List.nil_append, List.cons_append]
  gi_wp2
  go_ret
  exact ⟨rfl, rfl⟩
/-- What it hands back gives the bytes from the last one on, each with its index; or a beginning of these. -/
theorem slices_Backward_byte_byte.stops (F : Fence) (n : Nat) (h7 : F.fn 35) (hro : F.round = none) (hn : 1 ≤ n) (Bs n₀ b off len cap : Nat) (g : Nat → Int) (hg : ∀ j, 0 ≤ g j ∧ g j < 256) (hreach : len ≤ 140737488351232) (w : World) (hb : b < n₀) (hn₀ : n₀ ≤ w.heap.size)
    (hBs : w.heap[Bs]? = some (.cells #[.slice (some ⟨b, off, none⟩) len cap] 22)) (hc : ∀ j, j < len → w.cell? ⟨b, off + j, none⟩ = some (.int .u8 (g j))) :
    SeqStopsK F n Tryd.prog 35 #[.pointer (some ⟨Bs, 0, none⟩)] slices_Backward_byte_byte.enc (slices_Backward_byte_byte.Kp n₀ Bs) (fun ys => ys = slices_Backward_byte_byte.upto (slices_Backward_byte_byte.at_ g hg len) len) (fun pre => ∃ k, k ≤ len ∧ pre = slices_Backward_byte_byte.upto (slices_Backward_byte_byte.at_ g hg len) k) len w := fun l J Jx W hW _ _ hY h0 => by
  have hB := hW.mono hn₀
  exact slices_Backward_byte_byte.round_in F n h7 hro hn l Bs n₀ b off len cap g hg hreach hb J Jx hY W ((hW.block Bs (blk_lt hBs)).trans hBs) (fun j hj => (hB.cell (p := ⟨b, off + j, none⟩) hb).trans (hc j hj)) h0
theorem slices_Backward_byte_byte.stops_nil (F : Fence) (n : Nat) (h7 : F.fn 35) (hro : F.round = none) (Bs n₀ cap : Nat) (A : Option Addr) (w : World) (hBs : Bs < w.heap.size)
    (hc : w.cell? ⟨Bs, 0, none⟩ = some (.slice A 0 cap)) :
    SeqStopsK F n Tryd.prog 35 #[.pointer (some ⟨Bs, 0, none⟩)] slices_Backward_byte_byte.enc (slices_Backward_byte_byte.Kp n₀ Bs) (fun ys => ys = []) (fun _ => False) 0 w := fun l J Jx W hW _ _ hY h0 =>
  (slices_Backward_byte_byte.round_nil_in F n h7 hro l Bs cap A J W ((hW.cell (p := ⟨Bs, 0, none⟩) hBs).trans hc) h0).mono fun e W' ⟨he, hj⟩ => ⟨he, .inl ⟨_, rfl, hj⟩⟩
end

/-! ### field_Get: function 11 -/
def field_Get.f (l0 : List Int) (a1 : Int) (a2 : Int) : Option (Int × Int) :=
  if Plain.Bytes l0 then (if l0.length ≤ 140737488351232 then some (if a2 = 1 ∨ a2 = 2 ∨ a2 = 4 then (if field_part.Inside l0 a1 a2 then (Plain.le (field_part.seg l0 a1 a2), 0) else (0, 2)) else (0, 1)) else none) else none
section
attribute [local go_sem] Oper.semAt_some
open Go.Shelf
/-- What stands in v when these have come. -/
def field_Get.v (pre : List slices_Backward_byte_byte.El) : Int := Plain.acc (pre.map fun x => x.1.2)
theorem field_Get.v_snoc (pre : List slices_Backward_byte_byte.El) (x : slices_Backward_byte_byte.El) : field_Get.v (pre ++ [x]) = field_Get.v pre * 256 + x.1.2 := by
  unfold field_Get.v
  rw [List.map_append]
  exact Plain.acc_snoc _ _
theorem field_Get.v_range (pre : List slices_Backward_byte_byte.El) (h : pre.length < 4) : 0 ≤ field_Get.v pre ∧ field_Get.v pre < 16777216 := by
  have hb : Plain.Bytes (pre.map fun x => x.1.2) := by
    intro y hy
    obtain ⟨x, _, rfl⟩ := List.mem_map.1 hy
    exact x.2
  have h1 := Plain.acc_range hb
  rw [List.length_map] at h1
  have h2 : ∀ n : Nat, n < 4 → (256 : Int) ^ n ≤ 16777216 := by
    intro n hn
    have : ∀ m : Fin 4, (256 : Int) ^ m.val ≤ 16777216 := by decide
    exact this ⟨n, hn⟩
  have h3 := h2 _ h
  unfold field_Get.v
  omega
theorem field_Get.v_all (g : Nat → Int) (hg : ∀ j, 0 ≤ g j ∧ g j < 256) (l : List Int) (hl : ∀ j, j < l.length → g j = l.getD j 0) : field_Get.v (slices_Backward_byte_byte.upto (slices_Backward_byte_byte.at_ g hg l.length) l.length) = Plain.le l := by
  rw [← Plain.acc_reverse]
  unfold field_Get.v
  congr 1
  apply List.ext_getElem
  · simp [slices_Backward_byte_byte.upto]
  · intro i h1 h2
    rw [List.length_reverse] at h2
    simp only [slices_Backward_byte_byte.upto, List.getElem_map, List.getElem_range, slices_Backward_byte_byte.at_, List.getElem_reverse]
    rw [hl _ (by omega), List.getD_eq_getElem?_getD, List.getElem?_eq_getElem (by omega)]
    rfl
set_option maxRecDepth 100000 in
set_option maxHeartbeats 4000000 in
theorem field_Get.yes (n : Nat) (hn : 3 ≤ n) (A0 : Option Addr) (c0 : Nat) (l : List Int) (a1 a2 : Int) (w : World) (hr : Kd.C (Kd.int .u8) w A0 l.length l) (hc0 : l.length ≤ c0) (hl : l.length ≤ 140737488351232) (hb : Plain.Bytes l) (h2 : a2 = 1 ∨ a2 = 2 ∨ a2 = 4) (hin : field_part.Inside l a1 a2) :
    CallsIn Fence.wide n Tryd.prog 11 #[.slice A0 l.length c0, .int .i64 a1, .int .i64 a2] w fun e w' => e = .returned (.tuple #[.int .i64 (Plain.le (field_part.seg l a1 a2)), .int .i64 0]) ∧ Below w.heap.size w w' := by
  obtain ⟨A', hcall, hA, hC⟩ := field_number.yes A0 c0 l a1 a2 hc0 hl h2 hin
  have hCs := hA w hr
  have hlen := field_part.seg_length hin
  have hbs : Plain.Bytes (field_part.seg l a1 a2) := (hb.take _).drop _
  obtain ⟨sg, hsg⟩ : ∃ sg, field_part.seg l a1 a2 = sg := ⟨_, rfl⟩
  rw [hsg] at hcall hCs hlen hbs hC ⊢
  obtain ⟨m, hm⟩ : ∃ m, sg.length = m := ⟨_, rfl⟩
  rw [hm] at hcall hlen hCs
  obtain ⟨ad, hAd, hcells⟩ := (Kd.reads_of_C (d := (0 : Int)) hCs).2.2 (by omega)
  subst hAd
  obtain ⟨b, off, spot⟩ := ad
  have hsp : spot = none := by simpa [Addr.add] using World.cell?_spot (hcells 0 (by omega))
  subst hsp
  have hcells' : ∀ j, j < m → w.cell? ⟨b, off + j, none⟩ = some (.int .u8 (sg.getD j 0)) := fun j hj => by
    have e := hcells j hj
    rwa [show (⟨b, off, none⟩ : Addr).add j = ⟨b, off + j, none⟩ by unfold Addr.add; split <;> simp_all] at e
  have hblt : b < w.heap.size := World.block_lt_of_cell? w _ (hcells' 0 (by omega))
  have hg : ∀ j, 0 ≤ sg.getD j 0 ∧ sg.getD j 0 < 256 := fun j => by simpa [rd] using hbs.rd (j : Int)
  have hall := field_Get.v_all (fun j => sg.getD j 0) hg sg (fun _ _ => rfl)
  rw [hm] at hall
  obtain ⟨cap, hcap⟩ : ∃ z, c0 - a1.toNat = z := ⟨_, rfl⟩
  rw [hcap] at hcall
  have hm4 : m ≤ 4 := by omega
  have HK := Aside0.mk hcall
  have HALL := Aside0.mk hall
  have HCELLS := Aside0.mk hcells'
  have h1 : 1 ≤ n := by omega
  have hro : Fence.wide.round = none := rfl
  refine callsIn_of_wp_marks Tryd.func11 rfl trivial ?_ hro
  simp only [Tryd.ntmps11, List.size_toArray, List.length_cons, List.length_nil, Nat.reduceAdd, Nat.reduceSub, Array.replicate_succ, Array.replicate_zero, List.push_toArray, List.append_toArray, List.nil_append, List.cons_append]
  clear hcall hA hC hsg hr hb hc0 hin h2 hcells hcells' hall hlen hm hCs hcap
  gi_wp2_with (first | (refine ⟨trivial, ?_⟩; gi_at_call 20; refine (callsIn_wide.2 (HK.out _)).mono ?_; rintro e w' ⟨rfl, rfl⟩) | (refine ⟨trivial, ?_⟩; gi_at_call 21; refine (slices_Backward_byte_byte.in_ Fence.wide (n - 1) trivial hro _ _ _ _).mono ?_; rintro e w' ⟨rfl, rfl⟩))
  have bV := Boxed.new w 3 (.int .i64 0)
  have bN := heap_alloc_new (w.alloc (.cells #[.int .i64 0] 3)) (.cells #[.slice (some ⟨b, off, none⟩) m cap] 22)
  rw [World.size_alloc] at bN
  have hB0 : Below w.heap.size w ((w.alloc (.cells #[.int .i64 0] 3)).alloc (.cells #[.slice (some ⟨b, off, none⟩) m cap] 22)) := ((Below.refl _ w).alloc (Nat.le_refl _) _).alloc (by simp) _
  refine wpIn_rangeFunc_ownG hro h1 (gf := 35) (lb := #[.pointer (some ⟨w.heap.size + 1, 0, none⟩)]) rfl trivial (enters_of Tryd.func35 (by kernel_rfl) rfl)
    (slices_Backward_byte_byte.stops Fence.wide (n - 1) trivial hro (by omega) (w.heap.size + 1) w.heap.size b off m cap (fun j => sg.getD j 0) hg (by omega) _ hblt (by simp; omega) bN (fun j hj => (hB0.cell (p := ⟨b, off + j, none⟩) hblt).trans (HCELLS.out j hj))) (slices_Backward_byte_byte.Kp_t (n₀ := w.heap.size) (Bs := w.heap.size + 1)) (slices_Backward_byte_byte.Kp_b (by simp; omega) (by simp)) (Below.refl _ _) (fun _ => rfl)
    (fun pre W => (W.cell? ⟨w.heap.size, 0, none⟩ = some (.int .i64 (field_Get.v pre)) ∧ W.frozen? ⟨w.heap.size, 0, none⟩ = false) ∧ Below w.heap.size w W)
    (fun _ _ _ => False)
    (OwnFrom.and (Own.from (fun s A B row hs hg hr => ⟨cell_kept hs.1 hg hr, (frozen_kept hs.1 hg hr).trans hs.2⟩) _) (ownFrom_below (Nat.le_refl _) (by simp; omega)))
    (fun _ _ _ _ _ hs _ _ => hs)
    ⟨⟨(bV.alloc _).cell, (bV.alloc _).frozen⟩, hB0⟩
    (fun x => { tmps := #[.slice A0 l.length c0, .int .i64 a1, .int .i64 a2, undef, undef, undef, .int .i64 0, .int .i64 0, .slice (some ⟨b, off, none⟩) m cap, .int .i64 0, .pointer (some ⟨w.heap.size, 0, none⟩), undef, .int .u8 x.1.2, .tuple #[.slice (some ⟨b, off, none⟩) m cap, .int .i64 0], .slice A0 l.length c0, .int .i64 a1, .int .i64 a2, .tuple #[.slice (some ⟨b, off, none⟩) m cap, .int .i64 0], .slice (some ⟨b, off, none⟩) m cap, .int .i64 0, .slice (some ⟨b, off, none⟩) m cap, .func (.func 35) #[] #[.pointer (some ⟨w.heap.size + 1, 0, none⟩)], .int .i64 x.1.1, .int .u8 x.1.2, undef, undef, undef, undef, undef, undef, undef], defers := [] }) ?assign ?body ?done ?stop
  case assign =>
    intro l x W K hK
    dsimp only [slices_Backward_byte_byte.enc]
    gi_wp2
    exact hK
  case body =>
    rintro l pre x W ⟨⟨hc, hf⟩, hB⟩ hpre
    have hv := field_Get.v_range pre (by omega)
    have hx := x.2
    have ho := Plain.or_low hv.1 hv.2 hx.1 hx.2
    have hs := field_Get.v_snoc pre x
    obtain ⟨v0, hv0⟩ : ∃ z, field_Get.v pre = z := ⟨_, rfl⟩
    obtain ⟨v1, hv1⟩ : ∃ z, field_Get.v (pre ++ [x]) = z := ⟨_, rfl⟩
    rw [hv1, hv0] at hs
    rw [hv0] at hc ho hv
    have ho' : Go.bits .or .i64 (v0 * 256) x.1.2 = v1 := by rw [ho, hs]
    have HS := Aside0.mk hs
    have HV := Aside0.mk hv1
    obtain ⟨g0, g1⟩ := hv
    obtain ⟨g2, g3⟩ := hx
    clear ho hs hv1 hv0
    gi_wp2
    exact ⟨(KeepsOthers.setCell _ _ _).from _, ⟨(Below.refl w.heap.size W).setCell (p := ⟨w.heap.size, 0, none⟩) (Nat.le_refl _) _, fun o ho => (Below.heap_setCell W ⟨w.heap.size, 0, none⟩ _ (w.heap.size + 1) (by simp)).trans ho⟩, ⟨by rw [HV.out]; exact World.cell?_setCell_same' _ _ _ (by rw [hc]; rfl), by rw [World.frozen?_setCell]; exact hf⟩, hB.setCell (p := ⟨w.heap.size, 0, none⟩) (Nat.le_refl _) _⟩
  case done =>
    rintro D ys W hD rfl ⟨⟨hc, _⟩, hB⟩ hK
    rw [HALL.out] at hc
    gi_wp2
    refine ⟨by simp, .inl ⟨_, _, rfl, run_takeDeferred hK, ?_⟩⟩
    exact ⟨_, results_tmp2 rfl _ _ _, rfl, hB.trans (belowK_b (w := w) (Nat.le_refl _) W D _ _ (by simp at hD; omega) hK rfl rfl)⟩
  case stop =>
    rintro D c pre W _ _ h _
    exact h.elim
set_option maxRecDepth 100000 in
set_option maxHeartbeats 4000000 in
theorem field_Get.no (n : Nat) (hn : 3 ≤ n) (A0 : Option Addr) (c0 : Nat) (l : List Int) (a1 a2 er : Int) (w : World)
    (hcall : ∀ w, Calls Tryd.prog 20 #[.slice A0 l.length c0, .int .i64 a1, .int .i64 a2] w fun e w' => e = .returned (.tuple #[.slice none 0 0, .int .i64 er]) ∧ w = w') :
    CallsIn Fence.wide n Tryd.prog 11 #[.slice A0 l.length c0, .int .i64 a1, .int .i64 a2] w fun e w' => e = .returned (.tuple #[.int .i64 0, .int .i64 er]) ∧ Below w.heap.size w w' := by
  have HK := Aside0.mk hcall
  have h1 : 1 ≤ n := by omega
  have hro : Fence.wide.round = none := rfl
  refine callsIn_of_wp_marks Tryd.func11 rfl trivial ?_ hro
  simp only [Tryd.ntmps11, List.size_toArray, List.length_cons, List.length_nil, Nat.reduceAdd, Nat.reduceSub, Array.replicate_succ, Array.replicate_zero, List.push_toArray, List.append_toArray, List.nil_append, List.cons_append]
  clear hcall
  gi_wp2_with (first | (refine ⟨trivial, ?_⟩; gi_at_call 20; refine (callsIn_wide.2 (HK.out _)).mono ?_; rintro e w' ⟨rfl, rfl⟩) | (refine ⟨trivial, ?_⟩; gi_at_call 21; refine (slices_Backward_byte_byte.in_ Fence.wide (n - 1) trivial hro _ _ _ _).mono ?_; rintro e w' ⟨rfl, rfl⟩))
  have bV := Boxed.new w 3 (.int .i64 0)
  have bN := heap_alloc_new (w.alloc (.cells #[.int .i64 0] 3)) (.cells #[.slice none 0 0] 22)
  rw [World.size_alloc] at bN
  have hB0 : Below w.heap.size w ((w.alloc (.cells #[.int .i64 0] 3)).alloc (.cells #[.slice none 0 0] 22)) := ((Below.refl _ w).alloc (Nat.le_refl _) _).alloc (by simp) _
  refine wpIn_rangeFunc_ownG hro h1 (gf := 35) (lb := #[.pointer (some ⟨w.heap.size + 1, 0, none⟩)]) rfl trivial (enters_of Tryd.func35 (by kernel_rfl) rfl)
    (slices_Backward_byte_byte.stops_nil Fence.wide (n - 1) trivial hro (w.heap.size + 1) w.heap.size 0 none _ (by simp) (blk_cell bN 0)) (slices_Backward_byte_byte.Kp_t (n₀ := w.heap.size) (Bs := w.heap.size + 1)) (slices_Backward_byte_byte.Kp_b (by simp; omega) (by simp)) (Below.refl _ _) (fun _ => rfl)
    (fun pre W => (W.cell? ⟨w.heap.size, 0, none⟩ = some (.int .i64 (field_Get.v pre)) ∧ W.frozen? ⟨w.heap.size, 0, none⟩ = false) ∧ Below w.heap.size w W)
    (fun _ _ _ => False)
    (OwnFrom.and (Own.from (fun s A B row hs hg hr => ⟨cell_kept hs.1 hg hr, (frozen_kept hs.1 hg hr).trans hs.2⟩) _) (ownFrom_below (Nat.le_refl _) (by simp; omega)))
    (fun _ _ _ _ _ hs _ _ => hs)
    ⟨⟨(bV.alloc _).cell, (bV.alloc _).frozen⟩, hB0⟩
    (fun x => { tmps := #[.slice A0 l.length c0, .int .i64 a1, .int .i64 a2, undef, undef, undef, .int .i64 0, .int .i64 0, .slice none 0 0, .int .i64 er, .pointer (some ⟨w.heap.size, 0, none⟩), undef, .int .u8 x.1.2, .tuple #[.slice none 0 0, .int .i64 er], .slice A0 l.length c0, .int .i64 a1, .int .i64 a2, .tuple #[.slice none 0 0, .int .i64 er], .slice none 0 0, .int .i64 er, .slice none 0 0, .func (.func 35) #[] #[.pointer (some ⟨w.heap.size + 1, 0, none⟩)], .int .i64 x.1.1, .int .u8 x.1.2, undef, undef, undef, undef, undef, undef, undef], defers := [] }) ?assign ?body ?done ?stop
  case assign =>
    intro l x W K hK
    dsimp only [slices_Backward_byte_byte.enc]
    gi_wp2
    exact hK
  case body =>
    intro l pre x W _ hpre
    exact absurd hpre (Nat.not_lt_zero _)
  case done =>
    rintro D ys W hD rfl ⟨⟨hc, _⟩, hB⟩ hK
    rw [show field_Get.v [] = 0 from rfl] at hc
    gi_wp2
    refine ⟨by simp, .inl ⟨_, _, rfl, run_takeDeferred hK, ?_⟩⟩
    exact ⟨_, results_tmp2 rfl _ _ _, rfl, hB.trans (belowK_b (w := w) (Nat.le_refl _) W D _ _ (by simp at hD; omega) hK rfl rfl)⟩
  case stop =>
    rintro D c pre W _ _ h _
    exact h.elim
theorem field_Get.calls (A0 : Option Addr) (c0 : Nat) (l0 : List Int) (a1 : Int) (a2 : Int) (r1 : Int) (r2 : Int) (w : World) (hr0 : Kd.C (Kd.int .u8) w A0 l0.length l0) (hc0 : l0.length ≤ c0) (h : field_Get.f l0 a1 a2 = some (r1, r2)) :
    Calls Tryd.prog 11 #[.slice A0 l0.length c0, .int .i64 a1, .int .i64 a2] w fun e w' => e = .returned (.tuple #[.int .i64 r1, .int .i64 r2]) ∧ Below w.heap.size w w' := by
  refine (callsIn_wide (n := 3)).1 ?_
  unfold field_Get.f at h
  by_cases hb : Plain.Bytes l0
  · by_cases hl : l0.length ≤ 140737488351232
    · rw [if_pos hb, if_pos hl] at h
      replace h := Option.some.inj h
      by_cases h2 : a2 = 1 ∨ a2 = 2 ∨ a2 = 4
      · rw [if_pos h2] at h
        by_cases hin : field_part.Inside l0 a1 a2
        · rw [if_pos hin] at h
          obtain ⟨rfl, rfl⟩ := Prod.mk.inj h
          exact field_Get.yes 3 (Nat.le_refl _) A0 c0 l0 a1 a2 w hr0 hc0 hl hb h2 hin
        · rw [if_neg hin] at h
          obtain ⟨rfl, rfl⟩ := Prod.mk.inj h
          exact field_Get.no 3 (Nat.le_refl _) A0 c0 l0 a1 a2 2 w (field_number.range A0 c0 l0 a1 a2 hl h2 hin)
      · rw [if_neg h2] at h
        obtain ⟨rfl, rfl⟩ := Prod.mk.inj h
        exact field_Get.no 3 (Nat.le_refl _) A0 c0 l0 a1 a2 1 w (field_number.arg A0 c0 l0 a1 a2 h2)
    · rw [if_pos hb, if_neg hl] at h
      exact absurd h (by simp)
  · rw [if_neg hb] at h
    exact absurd h (by simp)
end

/-! ### skerrylaw01_wakes: function 5 -/
def skerrylaw01_wakes.f  : Option (Bool) := (field_Get.f (([1, 2, 3, 4] : List Int)) 1 2).bind fun bt104 => (if bt104.1 = 770 then (some (bt104.2 == 0)) else (some false))
set_option maxHeartbeats 8000000 in
set_option maxRecDepth 100000 in
theorem skerrylaw01_wakes.calls  (r : Bool) (w : World) (h : skerrylaw01_wakes.f  = some r) :
    Calls Tryd.prog 5 #[] w fun e w' => e = .returned (.bool r) ∧ Below w.heap.size w w' := by
  have HB := Aside0.mk (Below.refl w.heap.size w)
  have H : ((field_Get.f (([1, 2, 3, 4] : List Int)) 1 2).bind fun bt104 => (if bt104.1 = 770 then (some (bt104.2 == 0)) else (some false))) = some r := h
  clear h
  obtain ⟨y101, hy101⟩ : ∃ y_ : List Int, y_ = (([1, 2, 3, 4] : List Int)) := ⟨_, rfl⟩
  replace H : ((field_Get.f y101 1 2).bind fun bt104 => (if bt104.1 = 770 then (some (bt104.2 == 0)) else (some false))) = some r := by first | (rw [hy101]; with_reducible exact H) | (have H2_ := (Option.bind_some _ _).symm.trans H; rw [hy101]; with_reducible exact H2_) | (have H2_ := (Option.bind_some _ _).symm.trans H; with_reducible exact H2_) | with_reducible exact H | (rw [hy101]; exact H) | exact H
  have Ny101 := Aside0.mk hy101
  clear hy101
  replace H := Option.bind_eq_some_iff.mp H
  obtain ⟨⟨t104, t105⟩, A10, H⟩ := H
  replace H : (if t104 = 770 then (some (t105 == 0)) else (some false)) = some r := H
  have A1 := Aside0.mk A10
  clear A10
  by_cases c2 : t104 = 770
  · rw [if_pos c2] at H
    have c2b0 : (t104 == 770) = true := beq_iff_eq.mpr c2
    have c2b1 : (t104 != 770) = false := bne_eq_false_iff_eq.mpr c2
    clear c2
    obtain rfl := Option.some.inj H
    go_enter Tryd.func5, Tryd.ntmps5
    go_wp2_with (first | ((with_reducible refine gate_dst (N := 4) rfl ?_); refine Kd.R_lit (Kd.int .u8) _ 5 ?hg (N := 4) ?hd (xs := ([1, 2, 3, 4] : List Int)) (inner := [.int .u8 1, .int .u8 2, .int .u8 3, .int .u8 4]) (ok := fun _ => True) (okp := fun _ => True) ?hr ?hp (fun _ hk => hk) trivial (Below.refl _ _) (Nat.le_refl _) (by simp) ?_; (case hd => rfl); (case hg => rfl); (case hr => first | (go_simp; done) | (go_simp; rfl)); (case hp => exact (Reps.one (show Kd.M (Kd.int .u8) _ _ _ 1 [.int .u8 1] from rfl) (Reps.one (show Kd.M (Kd.int .u8) _ _ _ 2 [.int .u8 2] from rfl) (Reps.one (show Kd.M (Kd.int .u8) _ _ _ 3 [.int .u8 3] from rfl) (Reps.one (show Kd.M (Kd.int .u8) _ _ _ 4 [.int .u8 4] from rfl) (Reps.none _ _)))))); intro v102 w3 ho4 hb hg_ hnew_; clear hg_ hnew_; (first | rw [← Ny101.out] at ho4 | (simp only [Int.reduceToNat] at ho4; rw [← Ny101.out] at ho4)); have n0_ := Aside0.mk (Kd.R_lower ho4 (below_size (by repeat (first | (with_reducible first | exact HB.out | apply below_alloc | apply pw_below_drewN | apply below_drew1) | with_reducible_and_instances exact HB.out)))); have n1_ := Aside0.mk (below_step (by repeat (first | (with_reducible first | exact HB.out | apply below_alloc | apply pw_below_drewN | apply below_drew1) | with_reducible_and_instances exact HB.out)) hb); clear HB; have HO103 := n0_; have HB := n1_; clear n0_ n1_; clear hb ho4; obtain ⟨Ao5, co5, eo5⟩ := Kd.R_slice HO103.out; subst eo5) | ((with_reducible refine gate_callee (f := 11) rfl ?_); refine goesL_ (some 5) rfl rfl Tryd.func11 (by kernel_rfl) rfl #[.slice Ao5 y101.length co5, .int .i64 1, .int .i64 2] rfl (by (try simp only [List.map_toArray, List.map_cons, List.map_nil]); first | done | rfl | (simp only [List.length_drop, List.length_take]; rfl) | (simp only [Int.toNat_natCast, Nat.sub_self, List.length_drop, List.length_take]; rfl)) ?_; (with_reducible refine (field_Get.calls _ _ y101 1 2 t104 t105 _ ?side1 ?side2 A1.out).mono ?_); (case side1 => repeat (first | exact (Kd.R_reads' HO103.out).2.2 | (with_reducible refine Kd.C_alloc ?_ _) | (with_reducible refine Kd.C_drewN ?_ _) | (with_reducible refine Kd.C_drew ?_))); (case side2 => exact (Kd.R_reads' HO103.out).2.1); rintro e w6 ⟨rfl, hb⟩; refine ⟨_, rfl, ?_⟩; have n0_ := Aside0.mk (Kd.R_below (by (with_reducible repeat (first | apply Kd.R_alloc | apply Kd.R_drewN | apply Kd.R_drew)); exact HO103.out) hb); have n1_ := Aside0.mk (below_step (by repeat (first | (with_reducible first | exact HB.out | apply below_alloc | apply pw_below_drewN | apply below_drew1) | with_reducible_and_instances exact HB.out)) hb); clear HO103; clear HB; have HO103 := n0_; have HB := n1_; clear n0_ n1_; (try clear hb); (try clear hb2); (try clear hk); (try clear hi)))
    go_ret
    exact ⟨by first | rfl | (simp [errW_none, errW_some] <;> rfl) | (simp [*, errW_none, errW_some] <;> rfl), by repeat (first | (with_reducible first | exact HB.out | apply below_alloc | apply pw_below_drewN | apply below_drew1) | with_reducible_and_instances exact HB.out)⟩
  · rw [if_neg c2] at H
    have c2b0 : (t104 == 770) = false := beq_eq_false_iff_ne.mpr c2
    have c2b1 : (t104 != 770) = true := bne_iff_ne.mpr c2
    obtain rfl := Option.some.inj H
    go_enter Tryd.func5, Tryd.ntmps5
    go_wp2_with (first | ((with_reducible refine gate_dst (N := 4) rfl ?_); refine Kd.R_lit (Kd.int .u8) _ 5 ?hg (N := 4) ?hd (xs := ([1, 2, 3, 4] : List Int)) (inner := [.int .u8 1, .int .u8 2, .int .u8 3, .int .u8 4]) (ok := fun _ => True) (okp := fun _ => True) ?hr ?hp (fun _ hk => hk) trivial (Below.refl _ _) (Nat.le_refl _) (by simp) ?_; (case hd => rfl); (case hg => rfl); (case hr => first | (go_simp; done) | (go_simp; rfl)); (case hp => exact (Reps.one (show Kd.M (Kd.int .u8) _ _ _ 1 [.int .u8 1] from rfl) (Reps.one (show Kd.M (Kd.int .u8) _ _ _ 2 [.int .u8 2] from rfl) (Reps.one (show Kd.M (Kd.int .u8) _ _ _ 3 [.int .u8 3] from rfl) (Reps.one (show Kd.M (Kd.int .u8) _ _ _ 4 [.int .u8 4] from rfl) (Reps.none _ _)))))); intro v102 w7 ho8 hb hg_ hnew_; clear hg_ hnew_; (first | rw [← Ny101.out] at ho8 | (simp only [Int.reduceToNat] at ho8; rw [← Ny101.out] at ho8)); have n0_ := Aside0.mk (Kd.R_lower ho8 (below_size (by repeat (first | (with_reducible first | exact HB.out | apply below_alloc | apply pw_below_drewN | apply below_drew1) | with_reducible_and_instances exact HB.out)))); have n1_ := Aside0.mk (below_step (by repeat (first | (with_reducible first | exact HB.out | apply below_alloc | apply pw_below_drewN | apply below_drew1) | with_reducible_and_instances exact HB.out)) hb); clear HB; have HO103 := n0_; have HB := n1_; clear n0_ n1_; clear hb ho8; obtain ⟨Ao9, co9, eo9⟩ := Kd.R_slice HO103.out; subst eo9) | ((with_reducible refine gate_callee (f := 11) rfl ?_); refine goesL_ (some 5) rfl rfl Tryd.func11 (by kernel_rfl) rfl #[.slice Ao9 y101.length co9, .int .i64 1, .int .i64 2] rfl (by (try simp only [List.map_toArray, List.map_cons, List.map_nil]); first | done | rfl | (simp only [List.length_drop, List.length_take]; rfl) | (simp only [Int.toNat_natCast, Nat.sub_self, List.length_drop, List.length_take]; rfl)) ?_; (with_reducible refine (field_Get.calls _ _ y101 1 2 t104 t105 _ ?side1 ?side2 A1.out).mono ?_); (case side1 => repeat (first | exact (Kd.R_reads' HO103.out).2.2 | (with_reducible refine Kd.C_alloc ?_ _) | (with_reducible refine Kd.C_drewN ?_ _) | (with_reducible refine Kd.C_drew ?_))); (case side2 => exact (Kd.R_reads' HO103.out).2.1); rintro e w10 ⟨rfl, hb⟩; refine ⟨_, rfl, ?_⟩; have n0_ := Aside0.mk (Kd.R_below (by (with_reducible repeat (first | apply Kd.R_alloc | apply Kd.R_drewN | apply Kd.R_drew)); exact HO103.out) hb); have n1_ := Aside0.mk (below_step (by repeat (first | (with_reducible first | exact HB.out | apply below_alloc | apply pw_below_drewN | apply below_drew1) | with_reducible_and_instances exact HB.out)) hb); clear HO103; clear HB; have HO103 := n0_; have HB := n1_; clear n0_ n1_; (try clear hb); (try clear hb2); (try clear hk); (try clear hi)))
    go_ret
    exact ⟨by first | rfl | (simp [errW_none, errW_some] <;> rfl) | (simp [*, errW_none, errW_some] <;> rfl), by repeat (first | (with_reducible first | exact HB.out | apply below_alloc | apply pw_below_drewN | apply below_drew1) | with_reducible_and_instances exact HB.out)⟩

-- NOT PRINTED: function 15 (field_span)

-- NOT PRINTED: function 49 (bytealg_IndexByteString)

-- NOT PRINTED: function 42 (stringslite_IndexByte)

-- NOT PRINTED: function 43 (bytealg_IndexString)

end Go.Proofs.YtkfeigigjilaiaaDoor.PFieldKeeps
