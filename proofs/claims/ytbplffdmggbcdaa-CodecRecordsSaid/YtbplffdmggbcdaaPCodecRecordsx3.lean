-- Written by this session's own tool (prn.py) over the kit's printer; its templates are the session's own. Lean checks it.
import Derived.Test.YtbplffdmggbcdaaPCodecRecordsx0
import Derived.Test.YtbplffdmggbcdaaPCodecRecordsx1
namespace Go.Proofs.Ytbplffdmggbcdaa.PCodecRecords
open Go.RowKit Go.Proofs.YtbplffdmggbcdaaW.PrintWords Go.Proofs.YtbplffdmggbcdaaW.PrintLast Go.Proofs.YtbplffdmggbcdaaW.PrintMore
attribute [local go_sem] max2_int min2_int max_two min_two max_three min_three max_four min_four   -- for this text's walks alone
set_option linter.unusedVariables false
set_option linter.unusedSimpArgs false

/-! ### slices_Backward_byte_byte: function 61 -/
section
attribute [local go_sem] Oper.semAt_some
open Go.Shelf
/-- An index and a byte. -/
abbrev slices_Backward_byte_byte.El := { x : Int × Int // 0 ≤ x.2 ∧ x.2 < 256 }
def slices_Backward_byte_byte.enc (x : slices_Backward_byte_byte.El) : Array Value := #[.int .i64 x.1.1, .int .u8 x.1.2]
/-- What has come when k rounds are over. -/
def slices_Backward_byte_byte.upto (f : Nat → slices_Backward_byte_byte.El) (k : Nat) : List slices_Backward_byte_byte.El := (List.range k).map f
theorem slices_Backward_byte_byte.upto_succ (f : Nat → slices_Backward_byte_byte.El) (k : Nat) : slices_Backward_byte_byte.upto f (k + 1) = slices_Backward_byte_byte.upto f k ++ [f k] := by simp [slices_Backward_byte_byte.upto, List.range_succ]
theorem slices_Backward_byte_byte.upto_length (f : Nat → slices_Backward_byte_byte.El) (k : Nat) : (slices_Backward_byte_byte.upto f k).length = k := by simp [slices_Backward_byte_byte.upto]
/-- The k-th from behind. -/
def slices_Backward_byte_byte.at_ (g : Nat → Int) (hg : ∀ j, 0 ≤ g j ∧ g j < 256) (len k : Nat) : slices_Backward_byte_byte.El := ⟨((len : Int) - 1 - k, g (len - 1 - k)), hg _⟩
/-- What a round keeps: all below n₀, and the block Bs (the box of the slice). -/
def slices_Backward_byte_byte.Kp (n₀ Bs : Nat) (A B : World) : Prop := Below n₀ A B ∧ ∀ o, A.heap[Bs]? = some o → B.heap[Bs]? = some o
theorem slices_Backward_byte_byte.Kp_refl (n₀ Bs : Nat) (A : World) : slices_Backward_byte_byte.Kp n₀ Bs A A := ⟨Below.refl _ _, fun _ h => h⟩
theorem slices_Backward_byte_byte.Kp_t {n₀ Bs : Nat} {A B C : World} (h : slices_Backward_byte_byte.Kp n₀ Bs A B) (k : slices_Backward_byte_byte.Kp n₀ Bs B C) : slices_Backward_byte_byte.Kp n₀ Bs A C := ⟨h.1.trans k.1, fun o ho => k.2 o (h.2 o ho)⟩
theorem slices_Backward_byte_byte.Kp_b {n₀ Bs : Nat} {w : World} (hn : n₀ ≤ w.heap.size) (hB : Bs < w.heap.size) (W : World) (l : Nat) (o o' : Obj) (hl : w.heap.size ≤ l) (h : W.heap[l]? = some o) (hc : o.isCells = false) (hw : o.isWalk = false) : slices_Backward_byte_byte.Kp n₀ Bs W (W.putObj l o') :=
  ⟨belowK_b hn W l o o' hl h hc hw, fun o1 h1 => ((belowK_b (n₀ := Bs + 1) (w := w) (by omega) W l o o' hl h hc hw).block Bs (by omega)).trans h1⟩
theorem slices_Backward_byte_byte.int_eq {a b : Int} (h : a = b) : Value.int .i64 a = .int .i64 b := by rw [h]
set_option maxRecDepth 100000 in
set_option maxHeartbeats 2000000 in
theorem slices_Backward_byte_byte.round_in (F : Fence) (n : Nat) (h7 : F.fn 68) (hro : F.round = none) (hn : 1 ≤ n) (l Bs n₀ b off len cap : Nat) (g : Nat → Int) (hg : ∀ j, 0 ≤ g j ∧ g j < 256) (hreach : len ≤ 140737488351232) (hb : b < n₀) (J Jx : List slices_Backward_byte_byte.El → World → Prop)
    (hY : ∀ pre x W, J pre W → pre.length < len → YieldAt F (n - 1) Try.prog l (slices_Backward_byte_byte.enc x) W fun e W' =>
      (e = .returned (.bool true) ∧ J (pre ++ [x]) W' ∧ slices_Backward_byte_byte.Kp n₀ Bs W W') ∨ (e = .returned (.bool false) ∧ Jx (pre ++ [x]) W'))
    (W : World) (hBs : W.heap[Bs]? = some (.cells #[.slice (some ⟨b, off, none⟩) len cap] 27)) (hc : ∀ j, j < len → W.cell? ⟨b, off + j, none⟩ = some (.int .u8 (g j))) (h0 : J [] W) :
    CallsIn F n Try.prog 68 #[.func (.yield l) #[] #[], .pointer (some ⟨Bs, 0, none⟩)] W fun e W' => (∃ v, e = .returned v) ∧
      ((∃ ys, ys = slices_Backward_byte_byte.upto (slices_Backward_byte_byte.at_ g hg len) len ∧ J ys W') ∨ (∃ pre, (∃ k, k ≤ len ∧ pre = slices_Backward_byte_byte.upto (slices_Backward_byte_byte.at_ g hg len) k) ∧ Jx pre W')) := by
  have hBs1 := blk_cell hBs 0
  simp only [List.getElem?_toArray, List.getElem?_cons_zero] at hBs1
  have HBS := Aside0.mk hBs
  clear hBs
  refine callsIn_of_wp Try.func68 rfl h7 ?_ hro
  simp only [Try.ntmps68, List.size_toArray, List.length_cons, List.length_nil, Nat.reduceAdd, Nat.reduceSub, Array.replicate_succ, Array.replicate_zero, List.push_toArray, List.append_toArray, List.nil_append, List.cons_append]
  gi_wp2
  gi_loopw [3] (fun i wr => ∃ k : Nat, k ≤ len ∧ i = .int .i64 ((len : Int) - 1 - k) ∧ J (slices_Backward_byte_byte.upto (slices_Backward_byte_byte.at_ g hg len) k) wr ∧ slices_Backward_byte_byte.Kp n₀ Bs W wr)
    (fun i _ => (intOf i + 1).toNat)
  case atStart => exact ⟨0, Nat.zero_le _, by simp, h0, slices_Backward_byte_byte.Kp_refl _ _ _⟩
  case round =>
    obtain ⟨k, hk, rfl, hJs, hnx⟩ := hrel
    by_cases hlt : k < len
    · have hcx : wr.cell? ⟨b, off + (len - 1 - k), none⟩ = some (.int .u8 (g (len - 1 - k))) := (hnx.1.cell (p := ⟨b, off + (len - 1 - k), none⟩) hb).trans (hc _ (by omega))
      have hBx := blk_cell (hnx.2 _ HBS.out) 0
      simp only [List.getElem?_toArray, List.getElem?_cons_zero] at hBx
      obtain ⟨fn, tmps, assign, body, hy, hR⟩ := hY _ (slices_Backward_byte_byte.at_ g hg len k) wr hJs (by rw [slices_Backward_byte_byte.upto_length]; exact hlt)
      simp only [slices_Backward_byte_byte.enc, slices_Backward_byte_byte.at_] at hy
      obtain ⟨j, hj⟩ : ∃ j : Int, (len : Int) - 1 - k = j := ⟨_, rfl⟩
      have hj0 : 0 ≤ j := by omega
      have hj1 : j < (len : Int) := by omega
      rw [show len - 1 - k = j.toNat by omega] at hcx hy
      rw [hj] at hy ⊢
      have HJ := Aside0.mk hj
      clear hj
      gi_wp2
      refine hR.mono ?_
      rintro e W3 (⟨rfl, hJ3, hk3⟩ | ⟨rfl, hJx3⟩)
      · gi_wp2
        go_roundw
        case rel => exact ⟨k + 1, by omega, slices_Backward_byte_byte.int_eq (by have := HJ.out; omega), by rw [slices_Backward_byte_byte.upto_succ]; exact hJ3, slices_Backward_byte_byte.Kp_t hnx hk3⟩
        case measure => simp [intOf]; omega
      · gi_wp2
        refine bodyPost_ret (results_none rfl _ _ _) rfl ?_
        exact ⟨⟨_, rfl⟩, .inr ⟨_, ⟨k + 1, by omega, (slices_Backward_byte_byte.upto_succ _ _).symm⟩, hJx3⟩⟩
    · obtain rfl : k = len := by omega
      gi_wp2
      go_end0
      exact ⟨⟨_, rfl⟩, .inl ⟨_, rfl, hJs⟩⟩
set_option maxRecDepth 100000 in
set_option maxHeartbeats 1000000 in
/-- .. where there are none: no round. -/
theorem slices_Backward_byte_byte.round_nil_in (F : Fence) (n : Nat) (h7 : F.fn 68) (hro : F.round = none) (l Bs cap : Nat) (A : Option Addr) (J : List slices_Backward_byte_byte.El → World → Prop) (W : World) (hBs : W.cell? ⟨Bs, 0, none⟩ = some (.slice A 0 cap)) (h0 : J [] W) :
    CallsIn F n Try.prog 68 #[.func (.yield l) #[] #[], .pointer (some ⟨Bs, 0, none⟩)] W fun e W' => (∃ v, e = .returned v) ∧ J [] W' := by
  refine callsIn_of_wp Try.func68 rfl h7 ?_ hro
  simp only [Try.ntmps68, List.size_toArray, List.length_cons, List.length_nil, Nat.reduceAdd, Nat.reduceSub, Array.replicate_succ, Array.replicate_zero, List.push_toArray, List.append_toArray, List.nil_append, List.cons_append]
  gi_wp2
  gi_loopw [3] (fun i wr => i = .int .i64 (-1) ∧ J [] wr) (fun _ _ => 0)
  case atStart => exact ⟨rfl, h0⟩
  case round =>
    obtain ⟨rfl, hJs⟩ := hrel
    gi_wp2
    go_end0
    exact ⟨⟨_, rfl⟩, hJs⟩
set_option maxHeartbeats 1000000 in
/-- slices.Backward(s): the slice value is boxed; the function value captures the box. -/
theorem slices_Backward_byte_byte.in_ (F : Fence) (n : Nat) (h5 : F.fn 61) (hro : F.round = none) (a : Option Addr) (len cap : Nat) (w : World) :
    CallsIn F n Try.prog 61 #[.slice a len cap] w fun e w' => e = .returned (.func (.func 68) #[] #[.pointer (some ⟨w.heap.size, 0, none⟩)]) ∧ w' = w.alloc (.cells #[.slice a len cap] 27) := by
  refine callsIn_of_wp Try.func61 rfl h5 ?_ hro
  simp only [Try.ntmps61, List.size_toArray, List.length_cons, List.length_nil, Nat.reduceAdd, Nat.reduceSub, Array.replicate_succ, Array.replicate_zero, List.push_toArray, List.append_toArray, List.nil_append, List.cons_append]
  gi_wp2
  go_ret
  exact ⟨rfl, rfl⟩
/-- What it hands back gives the bytes from the last one on, each with its index; or a beginning of these. -/
theorem slices_Backward_byte_byte.stops (F : Fence) (n : Nat) (h7 : F.fn 68) (hro : F.round = none) (hn : 1 ≤ n) (Bs n₀ b off len cap : Nat) (g : Nat → Int) (hg : ∀ j, 0 ≤ g j ∧ g j < 256) (hreach : len ≤ 140737488351232) (w : World) (hb : b < n₀) (hn₀ : n₀ ≤ w.heap.size)
    (hBs : w.heap[Bs]? = some (.cells #[.slice (some ⟨b, off, none⟩) len cap] 27)) (hc : ∀ j, j < len → w.cell? ⟨b, off + j, none⟩ = some (.int .u8 (g j))) :
    SeqStopsK F n Try.prog 68 #[.pointer (some ⟨Bs, 0, none⟩)] slices_Backward_byte_byte.enc (slices_Backward_byte_byte.Kp n₀ Bs) (fun ys => ys = slices_Backward_byte_byte.upto (slices_Backward_byte_byte.at_ g hg len) len) (fun pre => ∃ k, k ≤ len ∧ pre = slices_Backward_byte_byte.upto (slices_Backward_byte_byte.at_ g hg len) k) len w := fun l J Jx W hW _ _ hY h0 => by
  have hB := hW.mono hn₀
  exact slices_Backward_byte_byte.round_in F n h7 hro hn l Bs n₀ b off len cap g hg hreach hb J Jx hY W ((hW.block Bs (blk_lt hBs)).trans hBs) (fun j hj => (hB.cell (p := ⟨b, off + j, none⟩) hb).trans (hc j hj)) h0
theorem slices_Backward_byte_byte.stops_nil (F : Fence) (n : Nat) (h7 : F.fn 68) (hro : F.round = none) (Bs n₀ cap : Nat) (A : Option Addr) (w : World) (hBs : Bs < w.heap.size)
    (hc : w.cell? ⟨Bs, 0, none⟩ = some (.slice A 0 cap)) :
    SeqStopsK F n Try.prog 68 #[.pointer (some ⟨Bs, 0, none⟩)] slices_Backward_byte_byte.enc (slices_Backward_byte_byte.Kp n₀ Bs) (fun ys => ys = []) (fun _ => False) 0 w := fun l J Jx W hW _ _ hY h0 =>
  (slices_Backward_byte_byte.round_nil_in F n h7 hro l Bs cap A J W ((hW.cell (p := ⟨Bs, 0, none⟩) hBs).trans hc) h0).mono fun e W' ⟨he, hj⟩ => ⟨he, .inl ⟨_, rfl, hj⟩⟩
end

/-! ### field_Get: function 46 -/
def field_Get.f (l0 : List Int) (a1 : Int) (a2 : Int) : Option (Int × Int) :=
  if Plain.Bytes l0 then (if l0.length ≤ 140737488351232 then some (if a2 = 1 ∨ a2 = 2 ∨ a2 = 4 then (if field_part.Inside l0 a1 a2 then (Plain.le (field_part.seg l0 a1 a2), 0) else (0, 2)) else (0, 1)) else none) else none
section
attribute [local go_sem] Oper.semAt_some
open Go.Shelf
/-- What stands in v when these have come. -/
def field_Get.v (pre : List slices_Backward_byte_byte.El) : Int := Plain.acc (pre.map fun x => x.1.2)
theorem field_Get.v_snoc (pre : List slices_Backward_byte_byte.El) (x : slices_Backward_byte_byte.El) : field_Get.v (pre ++ [x]) = field_Get.v pre * 256 + x.1.2 := by
  unfold field_Get.v
  rw [List.map_append]
  exact Plain.acc_snoc _ _
theorem field_Get.v_range (pre : List slices_Backward_byte_byte.El) (h : pre.length < 4) : 0 ≤ field_Get.v pre ∧ field_Get.v pre < 16777216 := by
  have hb : Plain.Bytes (pre.map fun x => x.1.2) := by
    intro y hy
    obtain ⟨x, _, rfl⟩ := List.mem_map.1 hy
    exact x.2
  have h1 := Plain.acc_range hb
  rw [List.length_map] at h1
  have h2 : ∀ n : Nat, n < 4 → (256 : Int) ^ n ≤ 16777216 := by
    intro n hn
    have : ∀ m : Fin 4, (256 : Int) ^ m.val ≤ 16777216 := by decide
    exact this ⟨n, hn⟩
  have h3 := h2 _ h
  unfold field_Get.v
  omega
theorem field_Get.v_all (g : Nat → Int) (hg : ∀ j, 0 ≤ g j ∧ g j < 256) (l : List Int) (hl : ∀ j, j < l.length → g j = l.getD j 0) : field_Get.v (slices_Backward_byte_byte.upto (slices_Backward_byte_byte.at_ g hg l.length) l.length) = Plain.le l := by
  rw [← Plain.acc_reverse]
  unfold field_Get.v
  congr 1
  apply List.ext_getElem
  · simp [slices_Backward_byte_byte.upto]
  · intro i h1 h2
    rw [List.length_reverse] at h2
    simp only [slices_Backward_byte_byte.upto, List.getElem_map, List.getElem_range, slices_Backward_byte_byte.at_, List.getElem_reverse]
    rw [hl _ (by omega), List.getD_eq_getElem?_getD, List.getElem?_eq_getElem (by omega)]
    rfl
set_option maxRecDepth 100000 in
set_option maxHeartbeats 4000000 in
theorem field_Get.yes (n : Nat) (hn : 3 ≤ n) (A0 : Option Addr) (c0 : Nat) (l : List Int) (a1 a2 : Int) (w : World) (hr : Kd.C (Kd.int .u8) w A0 l.length l) (hc0 : l.length ≤ c0) (hl : l.length ≤ 140737488351232) (hb : Plain.Bytes l) (h2 : a2 = 1 ∨ a2 = 2 ∨ a2 = 4) (hin : field_part.Inside l a1 a2) :
    CallsIn Fence.wide n Try.prog 46 #[.slice A0 l.length c0, .int .i64 a1, .int .i64 a2] w fun e w' => e = .returned (.tuple #[.int .i64 (Plain.le (field_part.seg l a1 a2)), .int .i64 0]) ∧ Below w.heap.size w w' := by
  obtain ⟨A', hcall, hA, hC⟩ := field_number.yes A0 c0 l a1 a2 hc0 hl h2 hin
  have hCs := hA w hr
  have hlen := field_part.seg_length hin
  have hbs : Plain.Bytes (field_part.seg l a1 a2) := (hb.take _).drop _
  obtain ⟨sg, hsg⟩ : ∃ sg, field_part.seg l a1 a2 = sg := ⟨_, rfl⟩
  rw [hsg] at hcall hCs hlen hbs hC ⊢
  obtain ⟨m, hm⟩ : ∃ m, sg.length = m := ⟨_, rfl⟩
  rw [hm] at hcall hlen hCs
  obtain ⟨ad, hAd, hcells⟩ := (Kd.reads_of_C (d := (0 : Int)) hCs).2.2 (by omega)
  subst hAd
  obtain ⟨b, off, spot⟩ := ad
  have hsp : spot = none := by simpa [Addr.add] using World.cell?_spot (hcells 0 (by omega))
  subst hsp
  have hcells' : ∀ j, j < m → w.cell? ⟨b, off + j, none⟩ = some (.int .u8 (sg.getD j 0)) := fun j hj => by
    have e := hcells j hj
    rwa [show (⟨b, off, none⟩ : Addr).add j = ⟨b, off + j, none⟩ by unfold Addr.add; split <;> simp_all] at e
  have hblt : b < w.heap.size := World.block_lt_of_cell? w _ (hcells' 0 (by omega))
  have hg : ∀ j, 0 ≤ sg.getD j 0 ∧ sg.getD j 0 < 256 := fun j => by simpa [rd] using hbs.rd (j : Int)
  have hall := field_Get.v_all (fun j => sg.getD j 0) hg sg (fun _ _ => rfl)
  rw [hm] at hall
  obtain ⟨cap, hcap⟩ : ∃ z, c0 - a1.toNat = z := ⟨_, rfl⟩
  rw [hcap] at hcall
  have hm4 : m ≤ 4 := by omega
  have HK := Aside0.mk hcall
  have HALL := Aside0.mk hall
  have HCELLS := Aside0.mk hcells'
  have h1 : 1 ≤ n := by omega
  have hro : Fence.wide.round = none := rfl
  refine callsIn_of_wp_marks Try.func46 rfl trivial ?_ hro
  simp only [Try.ntmps46, List.size_toArray, List.length_cons, List.length_nil, Nat.reduceAdd, Nat.reduceSub, Array.replicate_succ, Array.replicate_zero, List.push_toArray, List.append_toArray, List.nil_append, List.cons_append]
  clear hcall hA hC hsg hr hb hc0 hin h2 hcells hcells' hall hlen hm hCs hcap
  gi_wp2_with (first | (refine ⟨trivial, ?_⟩; gi_at_call 59; refine (callsIn_wide.2 (HK.out _)).mono ?_; rintro e w' ⟨rfl, rfl⟩) | (refine ⟨trivial, ?_⟩; gi_at_call 61; refine (slices_Backward_byte_byte.in_ Fence.wide (n - 1) trivial hro _ _ _ _).mono ?_; rintro e w' ⟨rfl, rfl⟩))
  have bV := Boxed.new w 3 (.int .i64 0)
  have bN := heap_alloc_new (w.alloc (.cells #[.int .i64 0] 3)) (.cells #[.slice (some ⟨b, off, none⟩) m cap] 27)
  rw [World.size_alloc] at bN
  have hB0 : Below w.heap.size w ((w.alloc (.cells #[.int .i64 0] 3)).alloc (.cells #[.slice (some ⟨b, off, none⟩) m cap] 27)) := ((Below.refl _ w).alloc (Nat.le_refl _) _).alloc (by simp) _
  refine wpIn_rangeFunc_ownG hro h1 (gf := 68) (lb := #[.pointer (some ⟨w.heap.size + 1, 0, none⟩)]) rfl trivial (enters_of Try.func68 (by kernel_rfl) rfl)
    (slices_Backward_byte_byte.stops Fence.wide (n - 1) trivial hro (by omega) (w.heap.size + 1) w.heap.size b off m cap (fun j => sg.getD j 0) hg (by omega) _ hblt (by simp; omega) bN (fun j hj => (hB0.cell (p := ⟨b, off + j, none⟩) hblt).trans (HCELLS.out j hj))) (slices_Backward_byte_byte.Kp_t (n₀ := w.heap.size) (Bs := w.heap.size + 1)) (slices_Backward_byte_byte.Kp_b (by simp; omega) (by simp)) (Below.refl _ _) (fun _ => rfl)
    (fun pre W => (W.cell? ⟨w.heap.size, 0, none⟩ = some (.int .i64 (field_Get.v pre)) ∧ W.frozen? ⟨w.heap.size, 0, none⟩ = false) ∧ Below w.heap.size w W)
    (fun _ _ _ => False)
    (OwnFrom.and (Own.from (fun s A B row hs hg hr => ⟨cell_kept hs.1 hg hr, (frozen_kept hs.1 hg hr).trans hs.2⟩) _) (ownFrom_below (Nat.le_refl _) (by simp; omega)))
    (fun _ _ _ _ _ hs _ _ => hs)
    ⟨⟨(bV.alloc _).cell, (bV.alloc _).frozen⟩, hB0⟩
    (fun x => { tmps := #[.slice A0 l.length c0, .int .i64 a1, .int .i64 a2, undef, undef, undef, .int .i64 0, .int .i64 0, .slice (some ⟨b, off, none⟩) m cap, .int .i64 0, .pointer (some ⟨w.heap.size, 0, none⟩), undef, .int .u8 x.1.2, .tuple #[.slice (some ⟨b, off, none⟩) m cap, .int .i64 0], .slice A0 l.length c0, .int .i64 a1, .int .i64 a2, .tuple #[.slice (some ⟨b, off, none⟩) m cap, .int .i64 0], .slice (some ⟨b, off, none⟩) m cap, .int .i64 0, .slice (some ⟨b, off, none⟩) m cap, .func (.func 68) #[] #[.pointer (some ⟨w.heap.size + 1, 0, none⟩)], .int .i64 x.1.1, .int .u8 x.1.2, undef, undef, undef, undef, undef, undef, undef], defers := [] }) ?assign ?body ?done ?stop
  case assign =>
    intro l x W K hK
    dsimp only [slices_Backward_byte_byte.enc]
    gi_wp2
    exact hK
  case body =>
    rintro l pre x W ⟨⟨hc, hf⟩, hB⟩ hpre
    have hv := field_Get.v_range pre (by omega)
    have hx := x.2
    have ho := Plain.or_low hv.1 hv.2 hx.1 hx.2
    have hs := field_Get.v_snoc pre x
    obtain ⟨v0, hv0⟩ : ∃ z, field_Get.v pre = z := ⟨_, rfl⟩
    obtain ⟨v1, hv1⟩ : ∃ z, field_Get.v (pre ++ [x]) = z := ⟨_, rfl⟩
    rw [hv1, hv0] at hs
    rw [hv0] at hc ho hv
    have ho' : Go.bits .or .i64 (v0 * 256) x.1.2 = v1 := by rw [ho, hs]
    have HS := Aside0.mk hs
    have HV := Aside0.mk hv1
    obtain ⟨g0, g1⟩ := hv
    obtain ⟨g2, g3⟩ := hx
    clear ho hs hv1 hv0
    gi_wp2
    exact ⟨(KeepsOthers.setCell _ _ _).from _, ⟨(Below.refl w.heap.size W).setCell (p := ⟨w.heap.size, 0, none⟩) (Nat.le_refl _) _, fun o ho => (Below.heap_setCell W ⟨w.heap.size, 0, none⟩ _ (w.heap.size + 1) (by simp)).trans ho⟩, ⟨by rw [HV.out]; exact World.cell?_setCell_same' _ _ _ (by rw [hc]; rfl), by rw [World.frozen?_setCell]; exact hf⟩, hB.setCell (p := ⟨w.heap.size, 0, none⟩) (Nat.le_refl _) _⟩
  case done =>
    rintro D ys W hD rfl ⟨⟨hc, _⟩, hB⟩ hK
    rw [HALL.out] at hc
    gi_wp2
    refine ⟨by simp, .inl ⟨_, _, rfl, run_takeDeferred hK, ?_⟩⟩
    exact ⟨_, results_tmp2 rfl _ _ _, rfl, hB.trans (belowK_b (w := w) (Nat.le_refl _) W D _ _ (by simp at hD; omega) hK rfl rfl)⟩
  case stop =>
    rintro D c pre W _ _ h _
    exact h.elim
set_option maxRecDepth 100000 in
set_option maxHeartbeats 4000000 in
theorem field_Get.no (n : Nat) (hn : 3 ≤ n) (A0 : Option Addr) (c0 : Nat) (l : List Int) (a1 a2 er : Int) (w : World)
    (hcall : ∀ w, Calls Try.prog 59 #[.slice A0 l.length c0, .int .i64 a1, .int .i64 a2] w fun e w' => e = .returned (.tuple #[.slice none 0 0, .int .i64 er]) ∧ w = w') :
    CallsIn Fence.wide n Try.prog 46 #[.slice A0 l.length c0, .int .i64 a1, .int .i64 a2] w fun e w' => e = .returned (.tuple #[.int .i64 0, .int .i64 er]) ∧ Below w.heap.size w w' := by
  have HK := Aside0.mk hcall
  have h1 : 1 ≤ n := by omega
  have hro : Fence.wide.round = none := rfl
  refine callsIn_of_wp_marks Try.func46 rfl trivial ?_ hro
  simp only [Try.ntmps46, List.size_toArray, List.length_cons, List.length_nil, Nat.reduceAdd, Nat.reduceSub, Array.replicate_succ, Array.replicate_zero, List.push_toArray, List.append_toArray, List.nil_append, List.cons_append]
  clear hcall
  gi_wp2_with (first | (refine ⟨trivial, ?_⟩; gi_at_call 59; refine (callsIn_wide.2 (HK.out _)).mono ?_; rintro e w' ⟨rfl, rfl⟩) | (refine ⟨trivial, ?_⟩; gi_at_call 61; refine (slices_Backward_byte_byte.in_ Fence.wide (n - 1) trivial hro _ _ _ _).mono ?_; rintro e w' ⟨rfl, rfl⟩))
  have bV := Boxed.new w 3 (.int .i64 0)
  have bN := heap_alloc_new (w.alloc (.cells #[.int .i64 0] 3)) (.cells #[.slice none 0 0] 27)
  rw [World.size_alloc] at bN
  have hB0 : Below w.heap.size w ((w.alloc (.cells #[.int .i64 0] 3)).alloc (.cells #[.slice none 0 0] 27)) := ((Below.refl _ w).alloc (Nat.le_refl _) _).alloc (by simp) _
  refine wpIn_rangeFunc_ownG hro h1 (gf := 68) (lb := #[.pointer (some ⟨w.heap.size + 1, 0, none⟩)]) rfl trivial (enters_of Try.func68 (by kernel_rfl) rfl)
    (slices_Backward_byte_byte.stops_nil Fence.wide (n - 1) trivial hro (w.heap.size + 1) w.heap.size 0 none _ (by simp) (blk_cell bN 0)) (slices_Backward_byte_byte.Kp_t (n₀ := w.heap.size) (Bs := w.heap.size + 1)) (slices_Backward_byte_byte.Kp_b (by simp; omega) (by simp)) (Below.refl _ _) (fun _ => rfl)
    (fun pre W => (W.cell? ⟨w.heap.size, 0, none⟩ = some (.int .i64 (field_Get.v pre)) ∧ W.frozen? ⟨w.heap.size, 0, none⟩ = false) ∧ Below w.heap.size w W)
    (fun _ _ _ => False)
    (OwnFrom.and (Own.from (fun s A B row hs hg hr => ⟨cell_kept hs.1 hg hr, (frozen_kept hs.1 hg hr).trans hs.2⟩) _) (ownFrom_below (Nat.le_refl _) (by simp; omega)))
    (fun _ _ _ _ _ hs _ _ => hs)
    ⟨⟨(bV.alloc _).cell, (bV.alloc _).frozen⟩, hB0⟩
    (fun x => { tmps := #[.slice A0 l.length c0, .int .i64 a1, .int .i64 a2, undef, undef, undef, .int .i64 0, .int .i64 0, .slice none 0 0, .int .i64 er, .pointer (some ⟨w.heap.size, 0, none⟩), undef, .int .u8 x.1.2, .tuple #[.slice none 0 0, .int .i64 er], .slice A0 l.length c0, .int .i64 a1, .int .i64 a2, .tuple #[.slice none 0 0, .int .i64 er], .slice none 0 0, .int .i64 er, .slice none 0 0, .func (.func 68) #[] #[.pointer (some ⟨w.heap.size + 1, 0, none⟩)], .int .i64 x.1.1, .int .u8 x.1.2, undef, undef, undef, undef, undef, undef, undef], defers := [] }) ?assign ?body ?done ?stop
  case assign =>
    intro l x W K hK
    dsimp only [slices_Backward_byte_byte.enc]
    gi_wp2
    exact hK
  case body =>
    intro l pre x W _ hpre
    exact absurd hpre (Nat.not_lt_zero _)
  case done =>
    rintro D ys W hD rfl ⟨⟨hc, _⟩, hB⟩ hK
    rw [show field_Get.v [] = 0 from rfl] at hc
    gi_wp2
    refine ⟨by simp, .inl ⟨_, _, rfl, run_takeDeferred hK, ?_⟩⟩
    exact ⟨_, results_tmp2 rfl _ _ _, rfl, hB.trans (belowK_b (w := w) (Nat.le_refl _) W D _ _ (by simp at hD; omega) hK rfl rfl)⟩
  case stop =>
    rintro D c pre W _ _ h _
    exact h.elim
theorem field_Get.calls (A0 : Option Addr) (c0 : Nat) (l0 : List Int) (a1 : Int) (a2 : Int) (r1 : Int) (r2 : Int) (w : World) (hr0 : Kd.C (Kd.int .u8) w A0 l0.length l0) (hc0 : l0.length ≤ c0) (h : field_Get.f l0 a1 a2 = some (r1, r2)) :
    Calls Try.prog 46 #[.slice A0 l0.length c0, .int .i64 a1, .int .i64 a2] w fun e w' => e = .returned (.tuple #[.int .i64 r1, .int .i64 r2]) ∧ Below w.heap.size w w' := by
  refine (callsIn_wide (n := 3)).1 ?_
  unfold field_Get.f at h
  by_cases hb : Plain.Bytes l0
  · by_cases hl : l0.length ≤ 140737488351232
    · rw [if_pos hb, if_pos hl] at h
      replace h := Option.some.inj h
      by_cases h2 : a2 = 1 ∨ a2 = 2 ∨ a2 = 4
      · rw [if_pos h2] at h
        by_cases hin : field_part.Inside l0 a1 a2
        · rw [if_pos hin] at h
          obtain ⟨rfl, rfl⟩ := Prod.mk.inj h
          exact field_Get.yes 3 (Nat.le_refl _) A0 c0 l0 a1 a2 w hr0 hc0 hl hb h2 hin
        · rw [if_neg hin] at h
          obtain ⟨rfl, rfl⟩ := Prod.mk.inj h
          exact field_Get.no 3 (Nat.le_refl _) A0 c0 l0 a1 a2 2 w (field_number.range A0 c0 l0 a1 a2 hl h2 hin)
      · rw [if_neg h2] at h
        obtain ⟨rfl, rfl⟩ := Prod.mk.inj h
        exact field_Get.no 3 (Nat.le_refl _) A0 c0 l0 a1 a2 1 w (field_number.arg A0 c0 l0 a1 a2 h2)
    · rw [if_pos hb, if_neg hl] at h
      exact absurd h (by simp)
  · rw [if_neg hb] at h
    exact absurd h (by simp)
end

/-! ### crc_Unframe: function 25 -/
mutual
def crc_Unframe.j0 : Nat → List Int → Int → Bool → Option (List Int × Int × Int)
  | 0, _, _, _ => none
  | k + 1, x0, x1, x18 => if x18 = true then (some (([] : List Int), 0, 2)) else (if 0 ≤ x1 then (if x1 ≤ (x0.length : Int) then ((field_Get.f (x0.drop (x1 : Int).toNat) 0 2).bind fun bt154 => (if bt154.2 = 0 then (crc_Unframe.j1 k (x0.drop (x1 : Int).toNat) x1 bt154.1 (decide ((wrap64 (((x0.drop (x1 : Int).toNat).length : Int) - 6)) < bt154.1))) else (crc_Unframe.j1 k (x0.drop (x1 : Int).toNat) x1 bt154.1 true))) else (none)) else (none))
def crc_Unframe.j1 : Nat → List Int → Int → Int → Bool → Option (List Int × Int × Int)
  | 0, _, _, _, _ => none
  | k + 1, x0, x7, x8, x36 => if x36 = true then (some (([] : List Int), 0, 21)) else ((field_Get.f x0 (wrap64 (x8 + 2)) 4).bind fun bt156 => (if 0 ≤ (wrap64 (x8 + 2)) then (if (wrap64 (x8 + 2)) ≤ (x0.length : Int) then ((crc_Sum.f (x0.take ((wrap64 (x8 + 2)) : Int).toNat)).bind fun t159 => (if bt156.1 = t159 then (if 2 ≤ (wrap64 (x8 + 2)) then ((slices_Clone_byte_byte.f ((x0.take ((wrap64 (x8 + 2)) : Int).toNat).drop 2)).bind fun t161 => (some (t161, wrap64 ((wrap64 (x7 + x8)) + 6), 0))) else (none)) else (some (([] : List Int), 0, 20)))) else (none)) else (none)))
end
def crc_Unframe.f (k : Nat) (l0 : List Int) (a1 : Int) : Option (List Int × Int × Int) := if a1 < 0 then (crc_Unframe.j0 k l0 a1 true) else (crc_Unframe.j0 k l0 a1 (decide (a1 > (l0.length : Int))))
theorem crc_Unframe.mono_l : ∀ k, (∀ y0 y1 y2, LeO (crc_Unframe.j0 k y0 y1 y2) (crc_Unframe.j0 (k + 1) y0 y1 y2)) ∧ (∀ y0 y1 y2 y3, LeO (crc_Unframe.j1 k y0 y1 y2 y3) (crc_Unframe.j1 (k + 1) y0 y1 y2 y3))
  | 0 => ⟨fun _ _ _ r h => by simp [crc_Unframe.j0] at h, fun _ _ _ _ r h => by simp [crc_Unframe.j1] at h⟩
  | k + 1 => by
    obtain ⟨ih0, ih1⟩ := crc_Unframe.mono_l k
    refine ⟨?_, ?_⟩
    · intro y0 y1 y2
      unfold crc_Unframe.j0
      repeat' first
      | (with_reducible exact ih0 _ _ _)
      | (with_reducible exact ih1 _ _ _ _)
      | (with_reducible exact LeO.refl _)
      | (with_reducible exact LeO.none _)
      | (with_reducible refine LeO.ite ?_ ?_)
      | (with_reducible refine LeO.bind ?_ (fun _ => ?_))
      | exact ih0 _ _ _
      | exact ih1 _ _ _ _
      | exact LeO.none _
      | refine LeO.ite ?_ ?_
      | refine LeO.bind ?_ (fun _ => ?_)
    · intro y0 y1 y2 y3
      unfold crc_Unframe.j1
      repeat' first
      | (with_reducible exact ih0 _ _ _)
      | (with_reducible exact ih1 _ _ _ _)
      | (with_reducible exact LeO.refl _)
      | (with_reducible exact LeO.none _)
      | (with_reducible refine LeO.ite ?_ ?_)
      | (with_reducible refine LeO.bind ?_ (fun _ => ?_))
      | exact ih0 _ _ _
      | exact ih1 _ _ _ _
      | exact LeO.none _
      | refine LeO.ite ?_ ?_
      | refine LeO.bind ?_ (fun _ => ?_)
theorem crc_Unframe.mono : ∀ a0 a1 k, LeO (crc_Unframe.f k a0 a1) (crc_Unframe.f (k + 1) a0 a1) := by
  intro a0 a1 k
  obtain ⟨ih0, ih1⟩ := crc_Unframe.mono_l k
  unfold crc_Unframe.f
  repeat' first
      | (with_reducible exact ih0 _ _ _)
      | (with_reducible exact ih1 _ _ _ _)
      | (with_reducible exact LeO.refl _)
      | (with_reducible exact LeO.none _)
      | (with_reducible refine LeO.ite ?_ ?_)
      | (with_reducible refine LeO.bind ?_ (fun _ => ?_))
      | exact ih0 _ _ _
      | exact ih1 _ _ _ _
      | exact LeO.none _
      | refine LeO.ite ?_ ?_
      | refine LeO.bind ?_ (fun _ => ?_)
set_option maxHeartbeats 8000000 in
set_option maxRecDepth 100000 in
theorem crc_Unframe.calls (k : Nat) (A0 : Option Addr) (c0 : Nat) (l0 : List Int) (a1 : Int) (r1 : List Int) (r2 : Int) (r3 : Int) (w : World) (hr0 : Kd.C (Kd.int .u8) w A0 l0.length l0) (hc0 : l0.length ≤ c0) (h : crc_Unframe.f k l0 a1 = some (r1, r2, r3)) :
    Calls Try.prog 25 #[.slice A0 l0.length c0, .int .i64 a1] w fun e w' => ∃ v0_ : Value, e = .returned (.tuple #[v0_, .int .i64 r2, .int .i64 r3]) ∧ Kd.R (Kd.int .u8) 5 w' w.heap.size (fun _ => True) v0_ r1 ∧ Below w.heap.size w w' := by
  have HR0 := Aside0.mk hr0
  have HC0 := Aside0.mk hc0
  clear hr0 hc0
  have HB := Aside0.mk (Below.refl w.heap.size w)
  have H : (if a1 < 0 then (crc_Unframe.j0 k l0 a1 true) else (crc_Unframe.j0 k l0 a1 (decide (a1 > (l0.length : Int))))) = some (r1, r2, r3) := h
  clear h
  have HC3 := Aside0.mk H
  clear H
  go_enter Try.func25, Try.ntmps25
  go_upto_region 1 with (fail)
  go_cut [18] (fun v18 wc => ∃ (kq : Nat) (x18_2 : Bool), v18 = .bool x18_2 ∧ Aside0 (crc_Unframe.j0 kq l0 a1 x18_2 = some (r1, r2, r3)) ∧ Aside0 (kq ≤ k) ∧ Aside0 (Below w.heap.size w wc))
  case first =>
    have H := HC3.out
    clear HC3
    by_cases c4 : a1 < 0
    · rw [if_pos c4] at H
      have c4b0 : decide (a1 < 0) = true := decide_eq_true c4
      clear c4
      (first | rw [c4b0] | (simp only [i64_w, i32_w]; rw [c4b0]) | rw [c4b1] | skip)
      have H' := Aside0.mk H
      clear H
      go_wp2
      go_meet
      case rel => exact ⟨_, (true), (by first | rfl | (simp; done) | (simp [*]; done)), H', ⟨by first | omega | exact Nat.le_refl _⟩, ⟨by repeat (first | (with_reducible first | exact HB.out | apply below_alloc | apply pw_below_drewN | apply below_drew1) | with_reducible_and_instances exact HB.out)⟩⟩
    · rw [if_neg c4] at H
      have c4b0 : decide (a1 < 0) = false := decide_eq_false c4
      clear c4
      (first | rw [c4b0] | (simp only [i64_w, i32_w]; rw [c4b0]) | rw [c4b1] | skip)
      have H' := Aside0.mk H
      clear H
      go_wp2
      go_meet
      case rel => exact ⟨_, (decide (a1 > (l0.length : Int))), (by first | rfl | (simp; done) | (simp [*]; done)), H', ⟨by first | omega | exact Nat.le_refl _⟩, ⟨by repeat (first | (with_reducible first | exact HB.out | apply below_alloc | apply pw_below_drewN | apply below_drew1) | with_reducible_and_instances exact HB.out)⟩⟩
  case rest =>
    clear HC3
    try clear c2
    try clear p2
    try clear c4
    try clear c4b0
    try clear c4b1
    obtain ⟨kq, x18_2, rfl, HA, HJ2, HB⟩ := hcut
    cases kq with
    | zero => exact absurd HA.out (by simp [crc_Unframe.j0])
    | succ kj2 =>
      have H := HA.out
      clear HA
      simp only [crc_Unframe.j0] at H
      by_cases c5 : x18_2 = true
      · subst c5
        have H1 : (some (([] : List Int), 0, 2)) = some (r1, r2, r3) := by rw [if_pos rfl] at H; exact H
        clear H
        have H := H1
        clear H1
        simp only [Option.some.injEq, Prod.mk.injEq] at H
        obtain ⟨rfl, rfl, rfl⟩ := H
        go_wp2
        go_ret3
        exact ⟨_, by first | rfl | (simp [errW_none, errW_some] <;> rfl) | (simp [*, errW_none, errW_some] <;> rfl), by first | exact Kd.R_nil _ _ _ _ _ | exact Kd.N_nil _ _ _ _ _ | exact Kd.V_nil _ _ _ _ _ | exact Kd.Q_nil _ _ _ _ _ | exact Kd.S_nil _ _ _ _ _, by repeat (first | (with_reducible first | exact HB.out | apply below_alloc | apply pw_below_drewN | apply below_drew1) | with_reducible_and_instances exact HB.out)⟩
      · replace c5 := Bool.eq_false_iff.mpr c5
        subst c5
        have H1 : (if 0 ≤ a1 then (if a1 ≤ (l0.length : Int) then ((field_Get.f (l0.drop (a1 : Int).toNat) 0 2).bind fun bt154 => (if bt154.2 = 0 then (crc_Unframe.j1 kj2 (l0.drop (a1 : Int).toNat) a1 bt154.1 (decide ((wrap64 (((l0.drop (a1 : Int).toNat).length : Int) - 6)) < bt154.1))) else (crc_Unframe.j1 kj2 (l0.drop (a1 : Int).toNat) a1 bt154.1 true))) else (none)) else (none)) = some (r1, r2, r3) := by rw [if_neg (show ¬ (false = true) by decide)] at H; exact H
        clear H
        have H := H1
        clear H1
        by_cases c6 : 0 ≤ a1
        · rw [if_pos c6] at H
          have c6b0 := eq_true c6
          have c6b1 : decide (0 ≤ a1) = true := decide_eq_true c6
          clear c6
          by_cases c7 : a1 ≤ (l0.length : Int)
          · rw [if_pos c7] at H
            have c7b0 := eq_true c7
            have c7b1 : decide (a1 ≤ (l0.length : Int)) = true := decide_eq_true c7
            clear c7
            replace H := Option.bind_eq_some_iff.mp H
            obtain ⟨⟨t154, t155⟩, A80, H⟩ := H
            replace H : (if t155 = 0 then (crc_Unframe.j1 kj2 (l0.drop (a1 : Int).toNat) a1 t154 (decide ((wrap64 (((l0.drop (a1 : Int).toNat).length : Int) - 6)) < t154))) else (crc_Unframe.j1 kj2 (l0.drop (a1 : Int).toNat) a1 t154 true)) = some (r1, r2, r3) := H
            have A8 := Aside0.mk A80
            clear A80
            have HC9 := Aside0.mk H
            clear H
            obtain ⟨i010, hi010, _, hsz10, _⟩ := info_parts info5
            obtain ⟨A10, hcut10, hA10, hC10⟩ := print_drop_of (P := Try.prog) (Value.int .u8) 0 27 5 .i64 Try.underlying27 hi010 hsz10 A0 c0 l0 a1 (of_decide_eq_true (by first | (with_reducible assumption) | assumption)) (of_decide_eq_true (by first | (with_reducible assumption) | assumption)) HC0.out
            have HR153 := Aside0.mk (Kd.C_of_reads (h1 := fun _ => rfl) (hA10 _ (Kd.reads_of_C HR0.out)))
            have HC153 := Aside0.mk hC10
            clear hA10 hC10 hi010 hsz10
            go_upto_region 5 with (first | ((with_reducible refine gate_callee (f := 46) rfl ?_); refine goesL_ (some 25) rfl rfl Try.func46 (by kernel_rfl) rfl #[.slice A10 (l0.drop (a1 : Int).toNat).length (c0 - a1.toNat), .int .i64 0, .int .i64 2] rfl (by (try simp only [List.map_toArray, List.map_cons, List.map_nil]); first | done | (rw [show (l0.drop (a1 : Int).toNat).length = (l0.length - a1.toNat) from List.length_drop] <;> rfl) | rfl | (simp only [List.length_drop, List.length_take]; rfl) | (simp only [Int.toNat_natCast, Nat.sub_self, List.length_drop, List.length_take]; rfl)) ?_; (with_reducible refine (field_Get.calls _ _ (l0.drop (a1 : Int).toNat) 0 2 t154 t155 _ ?side1 ?side2 A8.out).mono ?_); (case side1 => repeat (first | exact (Kd.C_below HR153.out HB.out) | (with_reducible refine Kd.C_alloc ?_ _) | (with_reducible refine Kd.C_drewN ?_ _) | (with_reducible refine Kd.C_drew ?_))); (case side2 => exact HC153.out); rintro e w11 ⟨rfl, hb⟩; refine ⟨_, rfl, ?_⟩; have n0_ := Aside0.mk (below_step (by repeat (first | (with_reducible first | exact HB.out | apply below_alloc | apply pw_below_drewN | apply below_drew1) | with_reducible_and_instances exact HB.out)) hb); clear HB; have HB := n0_; clear n0_; (try clear hb); (try clear hb2); (try clear hk); (try clear hi)))
            (try simp only [Act.put, List.setIfInBounds_toArray, List.set_cons_zero, List.set_cons_succ])
            go_cut [36] (fun v36 wc => ∃ (kq : Nat) (x36_8 : Bool), v36 = .bool x36_8 ∧ Aside0 (crc_Unframe.j1 kq (l0.drop (a1 : Int).toNat) a1 t154 x36_8 = some (r1, r2, r3)) ∧ Aside0 (kq ≤ kj2) ∧ Aside0 (Below w.heap.size w wc))
            case first =>
              have H := HC9.out
              clear HC9
              by_cases c12 : t155 = 0
              · rw [if_pos c12] at H
                have c12b0 : (t155 == 0) = true := beq_iff_eq.mpr c12
                have c12b1 : (t155 != 0) = false := bne_eq_false_iff_eq.mpr c12
                clear c12
                (first | rw [c12b0] | (simp only [i64_w, i32_w]; rw [c12b0]) | rw [c12b1] | skip)
                have H' := Aside0.mk H
                clear H
                go_wp2
                go_meet
                case rel => exact ⟨_, (decide ((wrap64 (((l0.drop (a1 : Int).toNat).length : Int) - 6)) < t154)), (by first | rfl | (simp; done) | (simp [*]; done)), H', ⟨by have := HJ2.out; first | omega | exact Nat.le_refl _⟩, ⟨by repeat (first | (with_reducible first | exact HB.out | apply below_alloc | apply pw_below_drewN | apply below_drew1) | with_reducible_and_instances exact HB.out)⟩⟩
              · rw [if_neg c12] at H
                have c12b0 : (t155 == 0) = false := beq_eq_false_iff_ne.mpr c12
                have c12b1 : (t155 != 0) = true := bne_iff_ne.mpr c12
                (first | rw [c12b0] | (simp only [i64_w, i32_w]; rw [c12b0]) | rw [c12b1] | skip)
                have H' := Aside0.mk H
                clear H
                go_wp2
                go_meet
                case rel => exact ⟨_, (true), (by first | rfl | (simp; done) | (simp [*]; done)), H', ⟨by have := HJ2.out; first | omega | exact Nat.le_refl _⟩, ⟨by repeat (first | (with_reducible first | exact HB.out | apply below_alloc | apply pw_below_drewN | apply below_drew1) | with_reducible_and_instances exact HB.out)⟩⟩
            case rest =>
              clear HC9
              try clear c1
              try clear c2
              try clear p2
              try clear c4
              try clear c4b0
              try clear c4b1
              try clear c5
              try clear c6
              try clear c6b0
              try clear c6b1
              try clear p6
              try clear c7
              try clear c7b0
              try clear c7b1
              try clear c12
              try clear c12b0
              try clear c12b1
              try clear p2
              obtain ⟨kq, x36_8, rfl, HA, HJ8, HB⟩ := hcut
              cases kq with
              | zero => exact absurd HA.out (by simp [crc_Unframe.j1])
              | succ kj8 =>
                have H := HA.out
                clear HA
                simp only [crc_Unframe.j1] at H
                by_cases c13 : x36_8 = true
                · subst c13
                  have H1 : (some (([] : List Int), 0, 21)) = some (r1, r2, r3) := by rw [if_pos rfl] at H; exact H
                  clear H
                  have H := H1
                  clear H1
                  simp only [Option.some.injEq, Prod.mk.injEq] at H
                  obtain ⟨rfl, rfl, rfl⟩ := H
                  go_wp2
                  go_ret3
                  exact ⟨_, by first | rfl | (simp [errW_none, errW_some] <;> rfl) | (simp [*, errW_none, errW_some] <;> rfl), by first | exact Kd.R_nil _ _ _ _ _ | exact Kd.N_nil _ _ _ _ _ | exact Kd.V_nil _ _ _ _ _ | exact Kd.Q_nil _ _ _ _ _ | exact Kd.S_nil _ _ _ _ _, by repeat (first | (with_reducible first | exact HB.out | apply below_alloc | apply pw_below_drewN | apply below_drew1) | with_reducible_and_instances exact HB.out)⟩
                · replace c13 := Bool.eq_false_iff.mpr c13
                  subst c13
                  have H1 : ((field_Get.f (l0.drop (a1 : Int).toNat) (wrap64 (t154 + 2)) 4).bind fun bt156 => (if 0 ≤ (wrap64 (t154 + 2)) then (if (wrap64 (t154 + 2)) ≤ ((l0.drop (a1 : Int).toNat).length : Int) then ((crc_Sum.f ((l0.drop (a1 : Int).toNat).take ((wrap64 (t154 + 2)) : Int).toNat)).bind fun t159 => (if bt156.1 = t159 then (if 2 ≤ (wrap64 (t154 + 2)) then ((slices_Clone_byte_byte.f (((l0.drop (a1 : Int).toNat).take ((wrap64 (t154 + 2)) : Int).toNat).drop 2)).bind fun t161 => (some (t161, wrap64 ((wrap64 (a1 + t154)) + 6), 0))) else (none)) else (some (([] : List Int), 0, 20)))) else (none)) else (none))) = some (r1, r2, r3) := by rw [if_neg (show ¬ (false = true) by decide)] at H; exact H
                  clear H
                  have H := H1
                  clear H1
                  replace H := Option.bind_eq_some_iff.mp H
                  obtain ⟨⟨t156, t157⟩, A140, H⟩ := H
                  replace H : (if 0 ≤ (wrap64 (t154 + 2)) then (if (wrap64 (t154 + 2)) ≤ ((l0.drop (a1 : Int).toNat).length : Int) then ((crc_Sum.f ((l0.drop (a1 : Int).toNat).take ((wrap64 (t154 + 2)) : Int).toNat)).bind fun t159 => (if t156 = t159 then (if 2 ≤ (wrap64 (t154 + 2)) then ((slices_Clone_byte_byte.f (((l0.drop (a1 : Int).toNat).take ((wrap64 (t154 + 2)) : Int).toNat).drop 2)).bind fun t161 => (some (t161, wrap64 ((wrap64 (a1 + t154)) + 6), 0))) else (none)) else (some (([] : List Int), 0, 20)))) else (none)) else (none)) = some (r1, r2, r3) := H
                  have A14 := Aside0.mk A140
                  clear A140
                  obtain ⟨ji15, hji15⟩ : ∃ j_ : Int, (wrap64 (t154 + 2)) = j_ := ⟨_, rfl⟩
                  replace H : (if 0 ≤ (ji15) then (if (ji15) ≤ ((l0.drop (a1 : Int).toNat).length : Int) then ((crc_Sum.f ((l0.drop (a1 : Int).toNat).take ((ji15) : Int).toNat)).bind fun t159 => (if t156 = t159 then (if 2 ≤ (ji15) then ((slices_Clone_byte_byte.f (((l0.drop (a1 : Int).toNat).take ((ji15) : Int).toNat).drop 2)).bind fun t161 => (some (t161, wrap64 ((wrap64 (a1 + t154)) + 6), 0))) else (none)) else (some (([] : List Int), 0, 20)))) else (none)) else (none)) = some (r1, r2, r3) := by first | (rw [hji15] at H; exact H) | (simp only [hji15] at H ⊢; exact H)
                  (try rw [hji15] at A14)
                  have hji15w : (IntKind.i64.wrap (t154 + 2)) = ji15 := (i64_w _).trans hji15
                  by_cases c16 : 0 ≤ (ji15)
                  · rw [if_pos c16] at H
                    have c16b0 := eq_true c16
                    have c16b1 : decide (0 ≤ (ji15)) = true := decide_eq_true c16
                    clear c16
                    by_cases c17 : (ji15) ≤ ((l0.drop (a1 : Int).toNat).length : Int)
                    · rw [if_pos c17] at H
                      have c17b0 := eq_true c17
                      have c17b1 : decide ((ji15) ≤ ((l0.drop (a1 : Int).toNat).length : Int)) = true := decide_eq_true c17
                      clear c17
                      replace H := Option.bind_eq_some_iff.mp H
                      obtain ⟨t159, A180, H⟩ := H
                      replace H : (if t156 = t159 then (if 2 ≤ (ji15) then ((slices_Clone_byte_byte.f (((l0.drop (a1 : Int).toNat).take ((ji15) : Int).toNat).drop 2)).bind fun t161 => (some (t161, wrap64 ((wrap64 (a1 + t154)) + 6), 0))) else (none)) else (some (([] : List Int), 0, 20))) = some (r1, r2, r3) := H
                      have A18 := Aside0.mk A180
                      clear A180
                      by_cases c19 : t156 = t159
                      · rw [if_pos c19] at H
                        have c19b0 : (t156 == t159) = true := beq_iff_eq.mpr c19
                        have c19b1 : (t156 != t159) = false := bne_eq_false_iff_eq.mpr c19
                        clear c19
                        by_cases c20 : 2 ≤ (ji15)
                        · rw [if_pos c20] at H
                          have c20b0 := eq_true c20
                          have c20b1 : decide (2 ≤ (ji15)) = true := decide_eq_true c20
                          clear c20
                          have c21b0 := eq_true (of_decide_eq_true (by first | (with_reducible assumption) | assumption) : (ji15) ≤ ((l0.drop (a1 : Int).toNat).length : Int))
                          replace H := Option.bind_eq_some_iff.mp H
                          obtain ⟨t161, A220, H⟩ := H
                          replace H : (some (t161, wrap64 ((wrap64 (a1 + t154)) + 6), 0)) = some (r1, r2, r3) := H
                          have A22 := Aside0.mk A220
                          clear A220
                          simp only [Option.some.injEq, Prod.mk.injEq] at H
                          obtain ⟨rfl, rfl, rfl⟩ := H
                          go_wp2_with (first | ((with_reducible refine gate_callee (f := 46) rfl ?_); refine goesL_ (some 41) rfl rfl Try.func46 (by kernel_rfl) rfl #[.slice A10 (l0.drop (a1 : Int).toNat).length (c0 - a1.toNat), .int .i64 ji15, .int .i64 4] rfl (by (try simp only [List.map_toArray, List.map_cons, List.map_nil]); first | done | (rw [show (l0.drop (a1 : Int).toNat).length = (l0.length - a1.toNat) from List.length_drop] <;> rfl) | (simp only [hji15]; rfl) | rfl | (simp only [List.length_drop, List.length_take]; rfl) | (simp only [Int.toNat_natCast, Nat.sub_self, List.length_drop, List.length_take]; rfl)) ?_; (with_reducible refine (field_Get.calls _ _ (l0.drop (a1 : Int).toNat) ji15 4 t156 t157 _ ?side1 ?side2 A14.out).mono ?_); (case side1 => repeat (first | exact (Kd.C_below HR153.out HB.out) | (with_reducible refine Kd.C_alloc ?_ _) | (with_reducible refine Kd.C_drewN ?_ _) | (with_reducible refine Kd.C_drew ?_))); (case side2 => exact HC153.out); rintro e w23 ⟨rfl, hb⟩; refine ⟨_, rfl, ?_⟩; have n0_ := Aside0.mk (below_step (by repeat (first | (with_reducible first | exact HB.out | apply below_alloc | apply pw_below_drewN | apply below_drew1) | with_reducible_and_instances exact HB.out)) hb); clear HB; have HB := n0_; clear n0_; (try clear hb); (try clear hb2); (try clear hk); (try clear hi); obtain ⟨i024, hi024, _, hsz24, _⟩ := info_parts info5; obtain ⟨hcut24, hA24, hC24⟩ := print_take_of (P := Try.prog) (Value.int .u8) 0 27 5 .i64 Try.underlying27 hi024 hsz24 A10 (c0 - a1.toNat) (l0.drop (a1 : Int).toNat) (ji15) (of_decide_eq_true (by first | (with_reducible assumption) | assumption)) (of_decide_eq_true (by first | (with_reducible assumption) | assumption)) HC153.out; have HR158 := Aside0.mk (Kd.C_of_reads (h1 := fun _ => rfl) (hA24 _ (Kd.reads_of_C HR153.out))); have HC158 := Aside0.mk hC24; try rw [show (l0.drop (a1 : Int).toNat).length = (l0.length - a1.toNat) from List.length_drop] at hcut24; clear hA24 hC24 hi024 hsz24) | ((with_reducible refine gate_callee (f := 32) rfl ?_); refine goesL_ (some 49) rfl rfl Try.func32 (by kernel_rfl) rfl #[.slice A10 ((l0.drop (a1 : Int).toNat).take ((ji15) : Int).toNat).length (c0 - a1.toNat)] rfl (by (try simp only [List.map_toArray, List.map_cons, List.map_nil]); first | done | (rw [show ((l0.drop (a1 : Int).toNat).take ((ji15) : Int).toNat).length = (ji15).toNat from (by rw [List.length_take]; have h_ : ((ji15) : Int) ≤ ((l0.drop (a1 : Int).toNat).length : Int) := of_decide_eq_true (by first | (with_reducible assumption) | assumption); omega)] <;> rfl) | (simp only [hji15]; rfl) | rfl | (simp only [List.length_drop, List.length_take]; rfl) | (simp only [Int.toNat_natCast, Nat.sub_self, List.length_drop, List.length_take]; rfl)) ?_; (with_reducible refine (crc_Sum.calls _ _ ((l0.drop (a1 : Int).toNat).take ((ji15) : Int).toNat) t159 _ ?side1 ?side2 A18.out).mono ?_); (case side1 => repeat (first | exact (Kd.C_below HR158.out HB.out) | (with_reducible refine Kd.C_alloc ?_ _) | (with_reducible refine Kd.C_drewN ?_ _) | (with_reducible refine Kd.C_drew ?_))); (case side2 => exact HC158.out); rintro e w25 ⟨rfl, hb⟩; refine ⟨_, rfl, ?_⟩; have n0_ := Aside0.mk (below_step (by repeat (first | (with_reducible first | exact HB.out | apply below_alloc | apply pw_below_drewN | apply below_drew1) | with_reducible_and_instances exact HB.out)) hb); clear HB; have HB := n0_; clear n0_; (try clear hb); (try clear hb2); (try clear hk); (try clear hi); obtain ⟨i026, hi026, _, hsz26, _⟩ := info_parts info5; obtain ⟨A26, hcut26, hA26, hC26⟩ := print_mid_of (P := Try.prog) (Value.int .u8) 0 27 5 .i64 .i64 Try.underlying27 hi026 hsz26 A10 (c0 - a1.toNat) (l0.drop (a1 : Int).toNat) 2 (ji15) (by omega) (by first | omega | exact of_decide_eq_true (by first | (with_reducible assumption) | assumption)) (of_decide_eq_true (by first | (with_reducible assumption) | assumption)) HC153.out; have HR160 := Aside0.mk (Kd.C_of_reads (h1 := fun _ => rfl) (hA26 _ (Kd.reads_of_C HR153.out))); have HC160 := Aside0.mk hC26; try rw [show (l0.drop (a1 : Int).toNat).length = (l0.length - a1.toNat) from List.length_drop] at hcut26; clear hA26 hC26 hi026 hsz26) | ((with_reducible refine gate_callee (f := 47) rfl ?_); refine goesL_ (some 55) rfl rfl Try.func47 (by kernel_rfl) rfl #[.slice A26 (((l0.drop (a1 : Int).toNat).take ((ji15) : Int).toNat).drop 2).length ((c0 - a1.toNat) - 2)] rfl (by (try simp only [List.map_toArray, List.map_cons, List.map_nil]); first | done | (rw [show (((l0.drop (a1 : Int).toNat).take ((ji15) : Int).toNat).drop 2).length = ((ji15).toNat - 2) from (by rw [List.length_drop, List.length_take]; have h_ : ((ji15) : Int) ≤ ((l0.drop (a1 : Int).toNat).length : Int) := of_decide_eq_true (by first | (with_reducible assumption) | assumption); omega)] <;> rfl) | (simp only [hji15]; rfl) | rfl | (simp only [List.length_drop, List.length_take]; rfl) | (simp only [Int.toNat_natCast, Nat.sub_self, List.length_drop, List.length_take]; rfl)) ?_; (with_reducible refine (slices_Clone_byte_byte.calls _ _ (((l0.drop (a1 : Int).toNat).take ((ji15) : Int).toNat).drop 2) t161 _ ?side1 ?side2 A22.out).mono ?_); (case side1 => repeat (first | exact (Kd.C_below HR160.out HB.out) | (with_reducible refine Kd.C_alloc ?_ _) | (with_reducible refine Kd.C_drewN ?_ _) | (with_reducible refine Kd.C_drew ?_))); (case side2 => exact HC160.out); rintro e w27 ⟨v162, rfl, ho0, hb⟩; refine ⟨_, rfl, ?_⟩; have n0_ := Aside0.mk (Kd.R_lower ho0 (below_size (by repeat (first | (with_reducible first | exact HB.out | apply below_alloc | apply pw_below_drewN | apply below_drew1) | with_reducible_and_instances exact HB.out)))); have n1_ := Aside0.mk (below_step (by repeat (first | (with_reducible first | exact HB.out | apply below_alloc | apply pw_below_drewN | apply below_drew1) | with_reducible_and_instances exact HB.out)) hb); clear HB; have HO163 := n0_; have HB := n1_; clear n0_ n1_; (try clear hb); (try clear hb2); (try clear hk); (try clear hi); (try clear ho0)))
                          go_ret3
                          exact ⟨_, by first | rfl | (simp [errW_none, errW_some] <;> rfl) | (simp only [← hji15]; first | rfl | (simp [errW_none, errW_some] <;> rfl)) | (simp [*, errW_none, errW_some] <;> rfl), by (with_reducible repeat (first | apply Kd.R_alloc | apply Kd.R_drewN | apply Kd.R_drew)); exact HO163.out, by repeat (first | (with_reducible first | exact HB.out | apply below_alloc | apply pw_below_drewN | apply below_drew1) | with_reducible_and_instances exact HB.out)⟩
                        · rw [if_neg c20] at H
                          exact absurd H (by simp)
                      · rw [if_neg c19] at H
                        have c19b0 : (t156 == t159) = false := beq_eq_false_iff_ne.mpr c19
                        have c19b1 : (t156 != t159) = true := bne_iff_ne.mpr c19
                        simp only [Option.some.injEq, Prod.mk.injEq] at H
                        obtain ⟨rfl, rfl, rfl⟩ := H
                        go_wp2_with (first | ((with_reducible refine gate_callee (f := 46) rfl ?_); refine goesL_ (some 41) rfl rfl Try.func46 (by kernel_rfl) rfl #[.slice A10 (l0.drop (a1 : Int).toNat).length (c0 - a1.toNat), .int .i64 ji15, .int .i64 4] rfl (by (try simp only [List.map_toArray, List.map_cons, List.map_nil]); first | done | (rw [show (l0.drop (a1 : Int).toNat).length = (l0.length - a1.toNat) from List.length_drop] <;> rfl) | (simp only [hji15]; rfl) | rfl | (simp only [List.length_drop, List.length_take]; rfl) | (simp only [Int.toNat_natCast, Nat.sub_self, List.length_drop, List.length_take]; rfl)) ?_; (with_reducible refine (field_Get.calls _ _ (l0.drop (a1 : Int).toNat) ji15 4 t156 t157 _ ?side1 ?side2 A14.out).mono ?_); (case side1 => repeat (first | exact (Kd.C_below HR153.out HB.out) | (with_reducible refine Kd.C_alloc ?_ _) | (with_reducible refine Kd.C_drewN ?_ _) | (with_reducible refine Kd.C_drew ?_))); (case side2 => exact HC153.out); rintro e w28 ⟨rfl, hb⟩; refine ⟨_, rfl, ?_⟩; have n0_ := Aside0.mk (below_step (by repeat (first | (with_reducible first | exact HB.out | apply below_alloc | apply pw_below_drewN | apply below_drew1) | with_reducible_and_instances exact HB.out)) hb); clear HB; have HB := n0_; clear n0_; (try clear hb); (try clear hb2); (try clear hk); (try clear hi); obtain ⟨i029, hi029, _, hsz29, _⟩ := info_parts info5; obtain ⟨hcut29, hA29, hC29⟩ := print_take_of (P := Try.prog) (Value.int .u8) 0 27 5 .i64 Try.underlying27 hi029 hsz29 A10 (c0 - a1.toNat) (l0.drop (a1 : Int).toNat) (ji15) (of_decide_eq_true (by first | (with_reducible assumption) | assumption)) (of_decide_eq_true (by first | (with_reducible assumption) | assumption)) HC153.out; have HR158 := Aside0.mk (Kd.C_of_reads (h1 := fun _ => rfl) (hA29 _ (Kd.reads_of_C HR153.out))); have HC158 := Aside0.mk hC29; try rw [show (l0.drop (a1 : Int).toNat).length = (l0.length - a1.toNat) from List.length_drop] at hcut29; clear hA29 hC29 hi029 hsz29) | ((with_reducible refine gate_callee (f := 32) rfl ?_); refine goesL_ (some 49) rfl rfl Try.func32 (by kernel_rfl) rfl #[.slice A10 ((l0.drop (a1 : Int).toNat).take ((ji15) : Int).toNat).length (c0 - a1.toNat)] rfl (by (try simp only [List.map_toArray, List.map_cons, List.map_nil]); first | done | (rw [show ((l0.drop (a1 : Int).toNat).take ((ji15) : Int).toNat).length = (ji15).toNat from (by rw [List.length_take]; have h_ : ((ji15) : Int) ≤ ((l0.drop (a1 : Int).toNat).length : Int) := of_decide_eq_true (by first | (with_reducible assumption) | assumption); omega)] <;> rfl) | (simp only [hji15]; rfl) | rfl | (simp only [List.length_drop, List.length_take]; rfl) | (simp only [Int.toNat_natCast, Nat.sub_self, List.length_drop, List.length_take]; rfl)) ?_; (with_reducible refine (crc_Sum.calls _ _ ((l0.drop (a1 : Int).toNat).take ((ji15) : Int).toNat) t159 _ ?side1 ?side2 A18.out).mono ?_); (case side1 => repeat (first | exact (Kd.C_below HR158.out HB.out) | (with_reducible refine Kd.C_alloc ?_ _) | (with_reducible refine Kd.C_drewN ?_ _) | (with_reducible refine Kd.C_drew ?_))); (case side2 => exact HC158.out); rintro e w30 ⟨rfl, hb⟩; refine ⟨_, rfl, ?_⟩; have n0_ := Aside0.mk (below_step (by repeat (first | (with_reducible first | exact HB.out | apply below_alloc | apply pw_below_drewN | apply below_drew1) | with_reducible_and_instances exact HB.out)) hb); clear HB; have HB := n0_; clear n0_; (try clear hb); (try clear hb2); (try clear hk); (try clear hi)))
                        go_ret3
                        exact ⟨_, by first | rfl | (simp [errW_none, errW_some] <;> rfl) | (simp only [← hji15]; first | rfl | (simp [errW_none, errW_some] <;> rfl)) | (simp [*, errW_none, errW_some] <;> rfl), by first | exact Kd.R_nil _ _ _ _ _ | exact Kd.N_nil _ _ _ _ _ | exact Kd.V_nil _ _ _ _ _ | exact Kd.Q_nil _ _ _ _ _ | exact Kd.S_nil _ _ _ _ _, by repeat (first | (with_reducible first | exact HB.out | apply below_alloc | apply pw_below_drewN | apply below_drew1) | with_reducible_and_instances exact HB.out)⟩
                    · rw [if_neg c17] at H
                      exact absurd H (by simp)
                  · rw [if_neg c16] at H
                    exact absurd H (by simp)
          · rw [if_neg c7] at H
            exact absurd H (by simp)
        · rw [if_neg c6] at H
          exact absurd H (by simp)

-- NOT PRINTED: function 27 (codec_reader_number)

-- NOT PRINTED: function 26 (codec_reader_numbers)

-- NOT PRINTED: function 8 (codec_Unrecord)

/-! ### skerryref01_inside: function 62 -/
def skerryref01_inside.f (l0 : List Int) (a1 : Int) (a2 : Int) : Option (Bool) := if a1 ≥ 0 then (if a2 ≥ 0 then (if a1 ≤ (l0.length : Int) then (some (decide (a2 ≤ (wrap64 ((l0.length : Int) - a1))))) else (some false)) else (some false)) else (some false)
set_option maxHeartbeats 8000000 in
set_option maxRecDepth 100000 in
theorem skerryref01_inside.calls (A0 : Option Addr) (c0 : Nat) (l0 : List Int) (a1 : Int) (a2 : Int) (r : Bool) (w : World) (hr0 : Kd.C (Kd.int .u8) w A0 l0.length l0) (hc0 : l0.length ≤ c0) (h : skerryref01_inside.f l0 a1 a2 = some r) :
    Calls Try.prog 62 #[.slice A0 l0.length c0, .int .i64 a1, .int .i64 a2] w fun e w' => e = .returned (.bool r) ∧ Drawn0 w w' := by
  have HR0 := Aside0.mk hr0
  have HC0 := Aside0.mk hc0
  clear hr0 hc0
  have H : (if a1 ≥ 0 then (if a2 ≥ 0 then (if a1 ≤ (l0.length : Int) then (some (decide (a2 ≤ (wrap64 ((l0.length : Int) - a1))))) else (some false)) else (some false)) else (some false)) = some r := h
  clear h
  by_cases c4 : a1 ≥ 0
  · rw [if_pos c4] at H
    have c4b0 : decide (0 ≤ a1) = true := decide_eq_true c4
    clear c4
    by_cases c5 : a2 ≥ 0
    · rw [if_pos c5] at H
      have c5b0 : decide (0 ≤ a2) = true := decide_eq_true c5
      clear c5
      by_cases c6 : a1 ≤ (l0.length : Int)
      · rw [if_pos c6] at H
        have c6b0 : decide (a1 ≤ (l0.length : Int)) = true := decide_eq_true c6
        clear c6
        obtain rfl := Option.some.inj H
        go_enter Try.func62, Try.ntmps62
        go_wp2
        go_ret
        exact ⟨by first | rfl | (simp; done) | (simp [*]; done), by repeat (first | exact Drawn0.refl _ | apply Drawn0.step)⟩
      · rw [if_neg c6] at H
        have c6b0 : decide (a1 ≤ (l0.length : Int)) = false := decide_eq_false c6
        clear c6
        obtain rfl := Option.some.inj H
        go_enter Try.func62, Try.ntmps62
        go_wp2
        go_ret
        exact ⟨by first | rfl | (simp; done) | (simp [*]; done), by repeat (first | exact Drawn0.refl _ | apply Drawn0.step)⟩
    · rw [if_neg c5] at H
      have c5b0 : decide (0 ≤ a2) = false := decide_eq_false c5
      clear c5
      obtain rfl := Option.some.inj H
      go_enter Try.func62, Try.ntmps62
      go_wp2
      go_ret
      exact ⟨by first | rfl | (simp; done) | (simp [*]; done), by repeat (first | exact Drawn0.refl _ | apply Drawn0.step)⟩
  · rw [if_neg c4] at H
    have c4b0 : decide (0 ≤ a1) = false := decide_eq_false c4
    clear c4
    obtain rfl := Option.some.inj H
    go_enter Try.func62, Try.ntmps62
    go_wp2
    go_ret
    exact ⟨by first | rfl | (simp; done) | (simp [*]; done), by repeat (first | exact Drawn0.refl _ | apply Drawn0.step)⟩

/-! ### skerryref01_Get: function 48 -/
mutual
def skerryref01_Get.j0 : Nat → List Int → Int → Int → Bool → Option (Int × Int)
  | 0, _, _, _, _ => none
  | k + 1, x0, x1, x2, x19 => if x19 = true then (some (0, 1)) else ((skerryref01_inside.f x0 x1 x2).bind fun t166 => (if t166 = true then (skerryref01_Get.l0 k x0 x1 0 (wrap64 (x2 - 1))) else (some (0, 2))))
def skerryref01_Get.l0 : Nat → List Int → Int → Int → Int → Option (Int × Int)
  | 0, _, _, _, _ => none
  | k + 1, x0, x1, x8, x9 => if x9 ≥ 0 then (if 0 ≤ (wrap64 (x1 + x9)) then (if (wrap64 (x1 + x9)) < (x0.length : Int) then (skerryref01_Get.l0 k x0 x1 (wrap64 ((wrap64 (256 * x8)) + (wrap64 (rd x0 (wrap64 (x1 + x9)))))) (wrap64 (x9 - 1))) else (none)) else (none)) else (some (x8, 0))
end
def skerryref01_Get.f (k : Nat) (l0 : List Int) (a1 : Int) (a2 : Int) : Option (Int × Int) := if a2 = 1 then (skerryref01_Get.j0 k l0 a1 a2 false) else (if a2 = 2 then (skerryref01_Get.j0 k l0 a1 a2 false) else (skerryref01_Get.j0 k l0 a1 a2 (a2 != 4)))
theorem skerryref01_Get.mono_l : ∀ k, (∀ y0 y1 y2 y3, LeO (skerryref01_Get.j0 k y0 y1 y2 y3) (skerryref01_Get.j0 (k + 1) y0 y1 y2 y3)) ∧ (∀ y0 y1 y2 y3, LeO (skerryref01_Get.l0 k y0 y1 y2 y3) (skerryref01_Get.l0 (k + 1) y0 y1 y2 y3))
  | 0 => ⟨fun _ _ _ _ r h => by simp [skerryref01_Get.j0] at h, fun _ _ _ _ r h => by simp [skerryref01_Get.l0] at h⟩
  | k + 1 => by
    obtain ⟨ih0, ih1⟩ := skerryref01_Get.mono_l k
    refine ⟨?_, ?_⟩
    · intro y0 y1 y2 y3
      unfold skerryref01_Get.j0
      repeat' first
      | (with_reducible exact ih0 _ _ _ _)
      | (with_reducible exact ih1 _ _ _ _)
      | (with_reducible exact LeO.refl _)
      | (with_reducible exact LeO.none _)
      | (with_reducible refine LeO.ite ?_ ?_)
      | (with_reducible refine LeO.bind ?_ (fun _ => ?_))
      | exact ih0 _ _ _ _
      | exact ih1 _ _ _ _
      | exact LeO.none _
      | refine LeO.ite ?_ ?_
      | refine LeO.bind ?_ (fun _ => ?_)
    · intro y0 y1 y2 y3
      unfold skerryref01_Get.l0
      repeat' first
      | (with_reducible exact ih0 _ _ _ _)
      | (with_reducible exact ih1 _ _ _ _)
      | (with_reducible exact LeO.refl _)
      | (with_reducible exact LeO.none _)
      | (with_reducible refine LeO.ite ?_ ?_)
      | (with_reducible refine LeO.bind ?_ (fun _ => ?_))
      | exact ih0 _ _ _ _
      | exact ih1 _ _ _ _
      | exact LeO.none _
      | refine LeO.ite ?_ ?_
      | refine LeO.bind ?_ (fun _ => ?_)
theorem skerryref01_Get.mono : ∀ a0 a1 a2 k, LeO (skerryref01_Get.f k a0 a1 a2) (skerryref01_Get.f (k + 1) a0 a1 a2) := by
  intro a0 a1 a2 k
  obtain ⟨ih0, ih1⟩ := skerryref01_Get.mono_l k
  unfold skerryref01_Get.f
  repeat' first
      | (with_reducible exact ih0 _ _ _ _)
      | (with_reducible exact ih1 _ _ _ _)
      | (with_reducible exact LeO.refl _)
      | (with_reducible exact LeO.none _)
      | (with_reducible refine LeO.ite ?_ ?_)
      | (with_reducible refine LeO.bind ?_ (fun _ => ?_))
      | exact ih0 _ _ _ _
      | exact ih1 _ _ _ _
      | exact LeO.none _
      | refine LeO.ite ?_ ?_
      | refine LeO.bind ?_ (fun _ => ?_)
set_option maxHeartbeats 8000000 in
set_option maxRecDepth 100000 in
theorem skerryref01_Get.calls (k : Nat) (A0 : Option Addr) (c0 : Nat) (l0 : List Int) (a1 : Int) (a2 : Int) (r1 : Int) (r2 : Int) (w : World) (hr0 : Kd.C (Kd.int .u8) w A0 l0.length l0) (hc0 : l0.length ≤ c0) (h : skerryref01_Get.f k l0 a1 a2 = some (r1, r2)) :
    Calls Try.prog 48 #[.slice A0 l0.length c0, .int .i64 a1, .int .i64 a2] w fun e w' => e = .returned (.tuple #[.int .i64 r1, .int .i64 r2]) ∧ Drawn0 w w' := by
  have HR0 := Aside0.mk hr0
  have HC0 := Aside0.mk hc0
  clear hr0 hc0
  have H : (if a2 = 1 then (skerryref01_Get.j0 k l0 a1 a2 false) else (if a2 = 2 then (skerryref01_Get.j0 k l0 a1 a2 false) else (skerryref01_Get.j0 k l0 a1 a2 (a2 != 4)))) = some (r1, r2) := h
  clear h
  have HC4 := Aside0.mk H
  clear H
  go_enter Try.func48, Try.ntmps48
  go_upto_region 1 with (fail)
  go_cut [19] (fun v19 wc => ∃ (kq : Nat) (x19_3 : Bool), v19 = .bool x19_3 ∧ Aside0 (skerryref01_Get.j0 kq l0 a1 a2 x19_3 = some (r1, r2)) ∧ Aside0 (kq ≤ k) ∧ Drawn0 w wc)
  case first =>
    have H := HC4.out
    clear HC4
    by_cases c5 : a2 = 1
    · rw [if_pos c5] at H
      have c5b0 : (a2 == 1) = true := beq_iff_eq.mpr c5
      have c5b1 : (a2 != 1) = false := bne_eq_false_iff_eq.mpr c5
      clear c5
      (first | rw [c5b0] | (simp only [i64_w, i32_w]; rw [c5b0]) | rw [c5b1] | skip)
      have H' := Aside0.mk H
      clear H
      go_wp2
      go_meet
      case rel => exact ⟨_, (false), (by first | rfl | (simp; done) | (simp [*]; done)), H', ⟨by first | omega | exact Nat.le_refl _⟩, by repeat (first | exact Drawn0.refl _ | apply Drawn0.step)⟩
    · rw [if_neg c5] at H
      have c5b0 : (a2 == 1) = false := beq_eq_false_iff_ne.mpr c5
      have c5b1 : (a2 != 1) = true := bne_iff_ne.mpr c5
      (first | rw [c5b0] | (simp only [i64_w, i32_w]; rw [c5b0]) | rw [c5b1] | skip)
      by_cases c6 : a2 = 2
      · rw [if_pos c6] at H
        have c6b0 : (a2 == 2) = true := beq_iff_eq.mpr c6
        have c6b1 : (a2 != 2) = false := bne_eq_false_iff_eq.mpr c6
        clear c6
        have H' := Aside0.mk H
        clear H
        go_wp2
        go_meet
        case rel => exact ⟨_, (false), (by first | rfl | (simp; done) | (simp [*]; done)), H', ⟨by first | omega | exact Nat.le_refl _⟩, by repeat (first | exact Drawn0.refl _ | apply Drawn0.step)⟩
      · rw [if_neg c6] at H
        have c6b0 : (a2 == 2) = false := beq_eq_false_iff_ne.mpr c6
        have c6b1 : (a2 != 2) = true := bne_iff_ne.mpr c6
        have H' := Aside0.mk H
        clear H
        go_wp2
        go_meet
        case rel => exact ⟨_, ((a2 != 4)), (by first | rfl | (simp; done) | (simp [*]; done)), H', ⟨by first | omega | exact Nat.le_refl _⟩, by repeat (first | exact Drawn0.refl _ | apply Drawn0.step)⟩
  case rest =>
    clear HC4
    try clear p2
    try clear c4
    try clear c5
    try clear c5b0
    try clear c5b1
    try clear c6
    try clear c6b0
    try clear c6b1
    obtain ⟨kq, x19_3, rfl, HA, HJ3, ⟨mc3, rfl⟩⟩ := hcut
    cases kq with
    | zero => exact absurd HA.out (by simp [skerryref01_Get.j0])
    | succ kj3 =>
      have H := HA.out
      clear HA
      simp only [skerryref01_Get.j0] at H
      by_cases c7 : x19_3 = true
      · subst c7
        have H1 : (some (0, 1)) = some (r1, r2) := by rw [if_pos rfl] at H; exact H
        clear H
        have H := H1
        clear H1
        simp only [Option.some.injEq, Prod.mk.injEq] at H
        obtain ⟨rfl, rfl⟩ := H
        go_wp2
        go_ret2
        exact ⟨by first | rfl | (simp; done) | (simp [*]; done), by repeat (first | exact Drawn0.refl _ | apply Drawn0.step)⟩
      · replace c7 := Bool.eq_false_iff.mpr c7
        subst c7
        have H1 : ((skerryref01_inside.f l0 a1 a2).bind fun t166 => (if t166 = true then (skerryref01_Get.l0 kj3 l0 a1 0 (wrap64 (a2 - 1))) else (some (0, 2)))) = some (r1, r2) := by rw [if_neg (show ¬ (false = true) by decide)] at H; exact H
        clear H
        have H := H1
        clear H1
        replace H := Option.bind_eq_some_iff.mp H
        obtain ⟨t166, A80, H⟩ := H
        replace H : (if t166 = true then (skerryref01_Get.l0 kj3 l0 a1 0 (wrap64 (a2 - 1))) else (some (0, 2))) = some (r1, r2) := H
        have A8 := Aside0.mk A80
        clear A80
        by_cases c9 : t166 = true
        · subst c9
          have H1 : (skerryref01_Get.l0 kj3 l0 a1 0 (wrap64 (a2 - 1))) = some (r1, r2) := by rw [if_pos rfl] at H; exact H
          clear H
          have H := H1
          clear H1
          have H' := Aside0.mk H
          clear H
          go_wp2_with (first | ((with_reducible refine gate_callee (f := 62) rfl ?_); refine goesL_ (some 23) rfl rfl Try.func62 (by kernel_rfl) rfl #[.slice A0 l0.length c0, .int .i64 a1, .int .i64 a2] rfl (by (try simp only [List.map_toArray, List.map_cons, List.map_nil]); first | done | rfl | (simp only [List.length_drop, List.length_take]; rfl) | (simp only [Int.toNat_natCast, Nat.sub_self, List.length_drop, List.length_take]; rfl)) ?_; (with_reducible refine (skerryref01_inside.calls _ _ l0 a1 a2 true _ ?side1 ?side2 A8.out).mono ?_); (case side1 => repeat (first | exact HR0.out | (with_reducible refine Kd.C_alloc ?_ _) | (with_reducible refine Kd.C_drewN ?_ _) | (with_reducible refine Kd.C_drew ?_))); (case side2 => exact HC0.out); rintro e w' ⟨rfl, ⟨nd, rfl⟩⟩; refine ⟨_, rfl, ?_⟩))
          go_loopg [8, 9] kj3 (fun kq v8 v9 w' => ∃ (x8_2 : Int) (x9_2 : Int), v8 = .int .i64 x8_2 ∧ v9 = .int .i64 x9_2 ∧ Aside0 (skerryref01_Get.l0 kq l0 a1 x8_2 x9_2 = some (r1, r2)) ∧ Aside0 (kq ≤ kj3) ∧ Drawn0 w w')
          case atStart => exact ⟨(0), (wrap64 (a2 - 1)), (by first | rfl | (simp; done) | (simp [*]; done)), (by first | rfl | (simp; done) | (simp [*]; done)), H', ⟨Nat.le_refl _⟩, by repeat (first | exact Drawn0.refl _ | apply Drawn0.step)⟩
          case round =>
            clear H'
            try clear p2
            try clear c3
            try clear c4
            try clear c5
            try clear c5b0
            try clear c5b1
            try clear c6
            try clear c6b0
            try clear c6b1
            try clear p6
            try clear c7
            try clear c9
            try clear p2
            obtain ⟨x8_2, x9_2, rfl, rfl, HA, HK2, ⟨m2, rfl⟩⟩ := hrel
            cases gk with
            | zero => exact absurd HA.out (by simp [skerryref01_Get.l0])
            | succ k2 =>
              have H := HA.out
              clear HA
              simp only [skerryref01_Get.l0] at H
              by_cases c10 : x9_2 ≥ 0
              · rw [if_pos c10] at H
                have c10b0 : decide (0 ≤ x9_2) = true := decide_eq_true c10
                clear c10
                obtain ⟨ji11, hji11⟩ : ∃ j_ : Int, (wrap64 (a1 + x9_2)) = j_ := ⟨_, rfl⟩
                replace H : (if 0 ≤ (ji11) then (if (ji11) < (l0.length : Int) then (skerryref01_Get.l0 k2 l0 a1 (wrap64 ((wrap64 (256 * x8_2)) + (wrap64 (rd l0 (ji11))))) (wrap64 (x9_2 - 1))) else (none)) else (none)) = some (r1, r2) := by first | (rw [hji11] at H; exact H) | (simp only [hji11] at H ⊢; exact H)
                have hji11w : (IntKind.i64.wrap (a1 + x9_2)) = ji11 := (i64_w _).trans hji11
                by_cases c12 : 0 ≤ (ji11)
                · rw [if_pos c12] at H
                  have c12b0 : decide (0 ≤ (ji11)) = true := decide_eq_true c12
                  clear c12
                  by_cases c13 : (ji11) < (l0.length : Int)
                  · rw [if_pos c13] at H
                    have c13b0 : decide ((ji11) < (l0.length : Int)) = true := decide_eq_true c13
                    clear c13
                    have H' := Aside0.mk H
                    clear H
                    have p167 : 0 ≤ ((ji11) : Int) := of_decide_eq_true (by first | (with_reducible assumption) | assumption)
                    have q167 : (ji11) < (l0.length : Int) := of_decide_eq_true (by first | (with_reducible assumption) | assumption)
                    obtain ⟨ad167, e167, hx167_0⟩ := Kd.at_int HR0.out (ji11) p167 q167
                    cases e167
                    replace p167 := eq_true p167
                    replace q167 := eq_true q167
                    go_wp2
                    go_roundg k2
                    case measure => have := HJ3.out; have := HK2.out; omega
                    case rel => exact ⟨(wrap64 ((wrap64 (256 * x8_2)) + (wrap64 (rd l0 (ji11))))), (wrap64 (x9_2 - 1)), (by first | rfl | (simp; done) | (simp only [← hji11] <;> (first | rfl | simp)) | (simp [*]; done)), (by first | rfl | (simp; done) | (simp [*]; done)), H', ⟨by have := HJ3.out; have := HK2.out; omega⟩, by repeat (first | exact Drawn0.refl _ | apply Drawn0.step)⟩
                  · rw [if_neg c13] at H
                    exact absurd H (by simp)
                · rw [if_neg c12] at H
                  exact absurd H (by simp)
              · rw [if_neg c10] at H
                have c10b0 : decide (0 ≤ x9_2) = false := decide_eq_false c10
                clear c10
                simp only [Option.some.injEq, Prod.mk.injEq] at H
                obtain ⟨rfl, rfl⟩ := H
                go_wp2
                go_ret2
                exact ⟨by first | rfl | (simp; done) | (simp [*]; done), by repeat (first | exact Drawn0.refl _ | apply Drawn0.step)⟩
        · replace c9 := Bool.eq_false_iff.mpr c9
          subst c9
          have H1 : (some (0, 2)) = some (r1, r2) := by rw [if_neg (show ¬ (false = true) by decide)] at H; exact H
          clear H
          have H := H1
          clear H1
          simp only [Option.some.injEq, Prod.mk.injEq] at H
          obtain ⟨rfl, rfl⟩ := H
          go_wp2_with (first | ((with_reducible refine gate_callee (f := 62) rfl ?_); refine goesL_ (some 23) rfl rfl Try.func62 (by kernel_rfl) rfl #[.slice A0 l0.length c0, .int .i64 a1, .int .i64 a2] rfl (by (try simp only [List.map_toArray, List.map_cons, List.map_nil]); first | done | rfl | (simp only [List.length_drop, List.length_take]; rfl) | (simp only [Int.toNat_natCast, Nat.sub_self, List.length_drop, List.length_take]; rfl)) ?_; (with_reducible refine (skerryref01_inside.calls _ _ l0 a1 a2 false _ ?side1 ?side2 A8.out).mono ?_); (case side1 => repeat (first | exact HR0.out | (with_reducible refine Kd.C_alloc ?_ _) | (with_reducible refine Kd.C_drewN ?_ _) | (with_reducible refine Kd.C_drew ?_))); (case side2 => exact HC0.out); rintro e w' ⟨rfl, ⟨nd, rfl⟩⟩; refine ⟨_, rfl, ?_⟩))
          go_ret2
          exact ⟨by first | rfl | (simp; done) | (simp [*]; done), by repeat (first | exact Drawn0.refl _ | apply Drawn0.step)⟩

end Go.Proofs.Ytbplffdmggbcdaa.PCodecRecords
