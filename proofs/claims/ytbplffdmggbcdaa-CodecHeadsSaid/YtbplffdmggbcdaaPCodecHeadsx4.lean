-- Written by this session's own tool (prn.py) over the kit's printer; its templates are the session's own. Lean checks it.
import Derived.Test.YtbplffdmggbcdaaPCodecHeadsx0
import Derived.Test.YtbplffdmggbcdaaPCodecHeadsx3
namespace Go.Proofs.Ytbplffdmggbcdaa.PCodecHeads
open Go.RowKit Go.Proofs.YtbplffdmggbcdaaW.PrintWords Go.Proofs.YtbplffdmggbcdaaW.PrintLast Go.Proofs.YtbplffdmggbcdaaW.PrintMore
attribute [local go_sem] max2_int min2_int max_two min_two max_three min_three max_four min_four   -- for this text's walks alone
set_option linter.unusedVariables false
set_option linter.unusedSimpArgs false

/-! ### crc_roll: function 49 -/
def crc_roll.f (a0 : Int) (l1 : List Int) : Option Int := if 0 ≤ a0 ∧ a0 < 4294967296 then (if Plain.Bytes l1 then some (Plain.crc a0 l1) else none) else none
def crc_roll.cells : Array Value := #[.int .u32 (crc_nibbles.T 0), .int .u32 (crc_nibbles.T 1), .int .u32 (crc_nibbles.T 2), .int .u32 (crc_nibbles.T 3), .int .u32 (crc_nibbles.T 4), .int .u32 (crc_nibbles.T 5), .int .u32 (crc_nibbles.T 6), .int .u32 (crc_nibbles.T 7), .int .u32 (crc_nibbles.T 8), .int .u32 (crc_nibbles.T 9), .int .u32 (crc_nibbles.T 10), .int .u32 (crc_nibbles.T 11), .int .u32 (crc_nibbles.T 12), .int .u32 (crc_nibbles.T 13), .int .u32 (crc_nibbles.T 14), .int .u32 (crc_nibbles.T 15)]
theorem crc_roll.row : ∀ m : Nat, m < 16 → crc_roll.cells[m]? = some (.int .u32 (crc_nibbles.T m))
  | 0, _ => rfl
  | 1, _ => rfl
  | 2, _ => rfl
  | 3, _ => rfl
  | 4, _ => rfl
  | 5, _ => rfl
  | 6, _ => rfl
  | 7, _ => rfl
  | 8, _ => rfl
  | 9, _ => rfl
  | 10, _ => rfl
  | 11, _ => rfl
  | 12, _ => rfl
  | 13, _ => rfl
  | 14, _ => rfl
  | 15, _ => rfl
  | n + 16, h => by omega
theorem crc_roll.cell (w1 : World) (t : TypeId) (m : Nat) (hm : m < 16) : (w1.alloc (.cells crc_roll.cells t)).cell? ⟨w1.heap.size, m, none⟩ = some (.int .u32 (crc_nibbles.T m)) := by
  rw [blk_cell (heap_alloc_new w1 (.cells crc_roll.cells t)) m]
  exact crc_roll.row m hm
/-- Half a byte: the table's number and the rest of the sum. -/
theorem crc_roll.half {c : Int} (h0 : 0 ≤ c) (h1 : c < 4294967296) : Go.bits .xor .u32 (crc_nibbles.T (c % 16).toNat) (c / 16) = ((Plain.cs4 c.toNat : Nat) : Int) := by
  have hl : Plain.cs4 (c % 16).toNat < 4294967296 := Plain.cs4_lt (by omega)
  rw [Plain.xor_u32 (by unfold crc_nibbles.T; omega) (by unfold crc_nibbles.T; omega) (by omega) (by omega)]
  unfold crc_nibbles.T
  rw [Plain.cs4_table c.toNat, show (c % 16).toNat = c.toNat % 16 by omega, show (c / 16).toNat = c.toNat / 16 by omega, Int.toNat_natCast]
theorem crc_roll.rd_byte {l : List Int} (h : Plain.Bytes l) (i : Int) : 0 ≤ rd l i ∧ rd l i < 256 := h.rd i
theorem crc_roll.craw_snoc (c : Nat) (l : List Int) (k : Nat) (h : k < l.length) : Plain.craw c (Plain.nat (l.take (k + 1))) = Plain.cstep (Plain.craw c (Plain.nat (l.take k))) (rd l k).toNat := by
  rw [List.take_succ_eq_append_getElem h, Plain.nat_append, Plain.craw_append, Plain.rd_get (by simpa using h)]
  rfl
theorem crc_roll.ret {a b : Int} (h : a = b) : Ending.returned (.int .u32 a) = .returned (.int .u32 b) := by rw [h]
set_option maxRecDepth 100000 in
set_option maxHeartbeats 4000000 in
theorem crc_roll.calls (a0 : Int) (A1 : Option Addr) (c1 : Nat) (l1 : List Int) (r : Int) (w : World) (hr1 : Kd.C (Kd.int .u8) w A1 l1.length l1) (hc1 : l1.length ≤ c1) (h : crc_roll.f a0 l1 = some r) :
    Calls Try.prog 49 #[.int .u32 a0, .slice A1 l1.length c1] w fun e w' => e = .returned (.int .u32 r) ∧ Below w.heap.size w w' := by
  unfold crc_roll.f at h
  by_cases h0 : 0 ≤ a0 ∧ a0 < 4294967296
  · by_cases hb : Plain.Bytes l1
    · rw [if_pos h0, if_pos hb] at h
      obtain rfl := Option.some.inj h
      obtain ⟨h00, h01⟩ := h0
      clear h
      have HB := Aside0.mk hb
      have HR := Aside0.mk hr1
      have hlen : l1.length ≤ 9223372036854775807 := by have := hr1.2.1; omega
      obtain ⟨cc, hcc⟩ : ∃ cc : Int, Go.bits .xor .u32 IntKind.u32.max a0 = cc := ⟨_, rfl⟩
      have hcv : cc = ((a0.toNat ^^^ 4294967295 : Nat) : Int) := by
        rw [← hcc, show IntKind.u32.max = 4294967295 from rfl, Plain.xor_u32 (by omega) (by omega) h00 h01, Nat.xor_comm]
        rfl
      have hcl : a0.toNat ^^^ 4294967295 < 4294967296 := Nat.xor_lt_two_pow (n := 32) (by omega) (by omega)
      have HCV := Aside0.mk hcv
      have cc0 : 0 ≤ cc := by omega
      have cc1 : cc < 4294967296 := by omega
      have HCL := Aside0.mk hcl
      clear hb hr1 hc1 hcv hcl
      go_enter Try.func49, Try.ntmps49
      go_wp2_with (go_at_call 63; (with_reducible refine (crc_nibbles.calls _).mono ?_); rintro e w1 ⟨rfl, hb1⟩)
      have hcell : ∀ m : Nat, m < 16 → (w1.alloc (.cells crc_roll.cells 98)).cell? ⟨w1.heap.size, m, none⟩ = some (.int .u32 (crc_nibbles.T m)) := fun m hm => crc_roll.cell w1 _ m hm
      have HCELL := Aside0.mk hcell
      have HB1 := Aside0.mk hb1
      clear hcell hb1 hcc
      go_loop [0, 13] (fun v0 v13 => ∃ (k : Nat) (c : Int), k ≤ l1.length ∧ v13 = .int .i64 k ∧ v0 = .int .u32 c ∧ 0 ≤ c ∧ c < 4294967296 ∧ Aside0 (c = ((Plain.craw (a0.toNat ^^^ 4294967295) (Plain.nat (l1.take k)) : Nat) : Int))) (fun _ i => l1.length - (intOf i).toNat)
      case atStart => exact ⟨0, cc, Nat.zero_le _, rfl, rfl, cc0, cc1, ⟨HCV.out⟩⟩
      case round =>
        obtain ⟨k, c, hk, rfl, rfl, c0, c1', HC⟩ := hrel
        by_cases hlt : k < l1.length
        · obtain ⟨ad, e, hx⟩ := Kd.at_int HR.out (k : Int) (by omega) (by omega)
          cases e
          have hbW : Below w.heap.size w (w1.alloc (.cells crc_roll.cells 98)) := below_alloc HB1.out _
          replace hx := (hbW.cell (World.block_lt_of_cell? w _ hx)).trans hx
          simp only [Int.toNat_natCast] at hx
          have hxb := HB.out.rd (k : Int)
          have HN : Plain.craw (a0.toNat ^^^ 4294967295) (Plain.nat (l1.take (k + 1))) = Plain.cstep c.toNat (rd l1 (k : Int)).toNat := by
            rw [crc_roll.craw_snoc _ _ _ hlt]
            congr 1
            have := HC.out
            omega
          obtain ⟨x, hxx⟩ : ∃ x : Int, rd l1 (k : Int) = x := ⟨_, rfl⟩
          rw [hxx] at hx hxb HN
          obtain ⟨x0, x1⟩ := hxb
          obtain ⟨c2, e2⟩ : ∃ z : Int, Go.bits .xor .u32 c x = z := ⟨_, rfl⟩
          have v2 : c2 = ((c.toNat ^^^ x.toNat : Nat) : Int) := by rw [← e2]; exact Plain.xor_u32 c0 c1' (by omega) (by omega)
          have l2 : c.toNat ^^^ x.toNat < 4294967296 := Nat.xor_lt_two_pow (n := 32) (by omega) (by omega)
          have c20 : 0 ≤ c2 := by omega
          have c21 : c2 < 4294967296 := by omega
          obtain ⟨m2, f2⟩ : ∃ z : Int, Go.bits .and .u32 c2 15 = z := ⟨_, rfl⟩
          have g2 : m2 = c2 % 16 := by rw [← f2]; exact Plain.and15_u32 c20 c21
          have m20 : 0 ≤ m2 := by omega
          have m21 : m2 < 16 := by omega
          have y2 := HCELL.out m2.toNat (by omega)
          obtain ⟨t2, u2⟩ : ∃ z : Int, crc_nibbles.T m2.toNat = z := ⟨_, rfl⟩
          rw [u2] at y2
          obtain ⟨c3, e3⟩ : ∃ z : Int, Go.bits .xor .u32 t2 (c2 / 16) = z := ⟨_, rfl⟩
          have v3 : c3 = ((Plain.cs4 c2.toNat : Nat) : Int) := by rw [← e3, ← u2, g2]; exact crc_roll.half c20 c21
          have l3 : Plain.cs4 c2.toNat < 4294967296 := Plain.cs4_lt (by omega)
          have c30 : 0 ≤ c3 := by omega
          have c31 : c3 < 4294967296 := by omega
          obtain ⟨m3, f3⟩ : ∃ z : Int, Go.bits .and .u32 c3 15 = z := ⟨_, rfl⟩
          have g3 : m3 = c3 % 16 := by rw [← f3]; exact Plain.and15_u32 c30 c31
          have m30 : 0 ≤ m3 := by omega
          have m31 : m3 < 16 := by omega
          have y3 := HCELL.out m3.toNat (by omega)
          obtain ⟨t3, u3⟩ : ∃ z : Int, crc_nibbles.T m3.toNat = z := ⟨_, rfl⟩
          rw [u3] at y3
          obtain ⟨c4, e4⟩ : ∃ z : Int, Go.bits .xor .u32 t3 (c3 / 16) = z := ⟨_, rfl⟩
          have v4 : c4 = ((Plain.cs4 c3.toNat : Nat) : Int) := by rw [← e4, ← u3, g3]; exact crc_roll.half c30 c31
          have l4 : Plain.cs4 c3.toNat < 4294967296 := Plain.cs4_lt (by omega)
          have c40 : 0 ≤ c4 := by omega
          have c41 : c4 < 4294967296 := by omega
          have HF : Aside0 (c4 = ((Plain.craw (a0.toNat ^^^ 4294967295) (Plain.nat (l1.take (k + 1))) : Nat) : Int)) := ⟨by
            rw [HN, v4, v3, v2]
            unfold Plain.cstep Plain.cs8
            simp only [Int.toNat_natCast]⟩
          clear HN HC v2 v3 v4 l2 l3 l4 g2 g3 u2 u3 hxx hbW
          unfold crc_roll.cells at y2 y3 hx
          go_wp2
          go_round
          case rel => exact ⟨k + 1, c4, by omega, by go_num, rfl, c40, c41, HF⟩
          case measure => simp [intOf]; omega
        · have hk' : k = l1.length := by omega
          have HK := Aside0.mk hk'
          clear hk'
          obtain ⟨z, hz⟩ : ∃ z : Int, Go.bits .xor .u32 IntKind.u32.max c = z := ⟨_, rfl⟩
          have hv : Plain.crc a0 l1 = z := by
            have hl := Plain.craw_lt (c := a0.toNat ^^^ 4294967295) (Nat.xor_lt_two_pow (n := 32) (by omega) (by omega)) (Plain.nat_lt HB.out)
            have hc := HC.out
            rw [HK.out, List.take_length] at hc
            rw [← hz, show IntKind.u32.max = 4294967295 from rfl, Plain.xor_u32 (by omega) (by omega) c0 c1', hc]
            unfold Plain.crc Plain.csum
            rw [Int.toNat_natCast, Nat.xor_comm]
            rfl
          have HV := Aside0.mk hv
          clear hv HC
          go_wp2
          go_ret
          exact ⟨by rw [HV.out]; rfl, below_alloc HB1.out _⟩
    · rw [if_pos h0, if_neg hb] at h
      exact absurd h (by simp)
  · rw [if_neg h0] at h
    exact absurd h (by simp)

/-! ### crc_Sum: function 32 -/
def crc_Sum.f (l0 : List Int) : Option (Int) := (crc_roll.f 0 l0).bind fun t126 => (some (wrap64 (t126)))
set_option maxHeartbeats 8000000 in
set_option maxRecDepth 100000 in
theorem crc_Sum.calls (A0 : Option Addr) (c0 : Nat) (l0 : List Int) (r : Int) (w : World) (hr0 : Kd.C (Kd.int .u8) w A0 l0.length l0) (hc0 : l0.length ≤ c0) (h : crc_Sum.f l0 = some r) :
    Calls Try.prog 32 #[.slice A0 l0.length c0] w fun e w' => e = .returned (.int .i64 r) ∧ Below w.heap.size w w' := by
  have HR0 := Aside0.mk hr0
  have HC0 := Aside0.mk hc0
  clear hr0 hc0
  have HB := Aside0.mk (Below.refl w.heap.size w)
  have H : ((crc_roll.f 0 l0).bind fun t126 => (some (wrap64 (t126)))) = some r := h
  clear h
  replace H := Option.bind_eq_some_iff.mp H
  obtain ⟨t126, A20, H⟩ := H
  replace H : (some (wrap64 (t126))) = some r := H
  have A2 := Aside0.mk A20
  clear A20
  obtain rfl := Option.some.inj H
  go_enter Try.func32, Try.ntmps32
  go_wp2_with (first | ((with_reducible refine gate_callee (f := 49) rfl ?_); refine goesL_ (some 4) rfl rfl Try.func49 (by kernel_rfl) rfl #[.int .u32 0, .slice A0 l0.length c0] rfl (by (try simp only [List.map_toArray, List.map_cons, List.map_nil]); first | done | rfl | (simp only [List.length_drop, List.length_take]; rfl) | (simp only [Int.toNat_natCast, Nat.sub_self, List.length_drop, List.length_take]; rfl)) ?_; (with_reducible refine (crc_roll.calls 0 _ _ l0 t126 _ ?side1 ?side2 A2.out).mono ?_); (case side1 => repeat (first | exact HR0.out | (with_reducible refine Kd.C_alloc ?_ _) | (with_reducible refine Kd.C_drewN ?_ _) | (with_reducible refine Kd.C_drew ?_))); (case side2 => exact HC0.out); rintro e w3 ⟨rfl, hb⟩; refine ⟨_, rfl, ?_⟩; have n0_ := Aside0.mk (below_step (by repeat (first | (with_reducible first | exact HB.out | apply below_alloc | apply pw_below_drewN | apply below_drew1) | with_reducible_and_instances exact HB.out)) hb); clear HB; have HB := n0_; clear n0_; (try clear hb); (try clear hb2); (try clear hk); (try clear hi)))
  go_ret
  exact ⟨by first | rfl | (simp [errW_none, errW_some] <;> rfl) | (simp [*, errW_none, errW_some] <;> rfl), by repeat (first | (with_reducible first | exact HB.out | apply below_alloc | apply pw_below_drewN | apply below_drew1) | with_reducible_and_instances exact HB.out)⟩

-- NOT PRINTED: function 11 (codec_Super)

/-! ### skerryref06_put: function 23 -/
def skerryref06_put.l0 : Nat → List Int → Int → Int → Int → Option (List Int)
  | 0, _, _, _, _ => none
  | k + 1, x0, x1, x2, x7 => if x7 < x1 then (if x0.length < 140737488355328 then (skerryref06_put.l0 k (x0 ++ [(Int.tmod x2 256) % 256]) x1 (wrap64 (Int.tdiv x2 256)) (wrap64 (x7 + 1))) else (none)) else (some x0)
def skerryref06_put.f (k : Nat) (l0 : List Int) (a1 : Int) (a2 : Int) : Option (List Int) := skerryref06_put.l0 k l0 a1 a2 0
theorem skerryref06_put.mono_l : ∀ k, (∀ y0 y1 y2 y3, LeO (skerryref06_put.l0 k y0 y1 y2 y3) (skerryref06_put.l0 (k + 1) y0 y1 y2 y3))
  | 0 => fun _ _ _ _ r h => by simp [skerryref06_put.l0] at h
  | k + 1 => by
    have ih0 := skerryref06_put.mono_l k
    · intro y0 y1 y2 y3
      unfold skerryref06_put.l0
      repeat' first
      | (with_reducible exact ih0 _ _ _ _)
      | (with_reducible exact LeO.refl _)
      | (with_reducible exact LeO.none _)
      | (with_reducible refine LeO.ite ?_ ?_)
      | (with_reducible refine LeO.bind ?_ (fun _ => ?_))
      | exact ih0 _ _ _ _
      | exact LeO.none _
      | refine LeO.ite ?_ ?_
      | refine LeO.bind ?_ (fun _ => ?_)
theorem skerryref06_put.mono : ∀ a0 a1 a2 k, LeO (skerryref06_put.f k a0 a1 a2) (skerryref06_put.f (k + 1) a0 a1 a2) := by
  intro a0 a1 a2 k
  have ih0 := skerryref06_put.mono_l k
  unfold skerryref06_put.f
  repeat' first
      | (with_reducible exact ih0 _ _ _ _)
      | (with_reducible exact LeO.refl _)
      | (with_reducible exact LeO.none _)
      | (with_reducible refine LeO.ite ?_ ?_)
      | (with_reducible refine LeO.bind ?_ (fun _ => ?_))
      | exact ih0 _ _ _ _
      | exact LeO.none _
      | refine LeO.ite ?_ ?_
      | refine LeO.bind ?_ (fun _ => ?_)
set_option maxHeartbeats 8000000 in
set_option maxRecDepth 100000 in
theorem skerryref06_put.calls (k : Nat) (P0_ : Nat → Prop) (u9000_ : Value) (l0 : List Int) (a1 : Int) (a2 : Int) (r : List Int) (w0 w : World) (hB : Below w0.heap.size w0 w) (ho0 : Kd.R (Kd.int .u8) 5 w w0.heap.size P0_ u9000_ l0) (h : skerryref06_put.f k l0 a1 a2 = some r) :
    Calls Try.prog 23 #[u9000_, .int .i64 a1, .int .i64 a2] w fun e w' => ∃ v0_ : Value, e = .returned (v0_) ∧ Kd.R (Kd.int .u8) 5 w' w0.heap.size (fun k_ => (P0_ k_ ∨ w.heap.size ≤ k_)) v0_ r ∧ Below w0.heap.size w0 w' ∧ Kept w w' (fun k_ => P0_ k_) := by
  have HO0 := Aside0.mk (show Kd.R (Kd.int .u8) 5 w w0.heap.size (fun k_ => (P0_ k_ ∨ w.heap.size ≤ k_)) u9000_ l0 from Kd.R_mono ho0 (fun k_ hk => (.inl hk)))
  have HK := Aside0.mk (Kept.refl w (fun k_ => P0_ k_))
  have HW0 := Aside0.mk hB.size
  have HB := Aside0.mk hB
  clear hB
  have H : (skerryref06_put.l0 k l0 a1 a2 0) = some r := h
  clear h
  have H' := Aside0.mk H
  clear H
  go_enter Try.func23, Try.ntmps23
  go_wp2
  go_loopg [0, 2, 7] k (fun kq v0 v2 v7 w' => ∃ (x0_1 : List Int) (x2_1 : Int) (x7_1 : Int), v2 = .int .i64 x2_1 ∧ v7 = .int .i64 x7_1 ∧ Aside0 (skerryref06_put.l0 kq x0_1 a1 x2_1 x7_1 = some r) ∧ Aside0 (kq ≤ k) ∧ Aside0 (Kd.R (Kd.int .u8) 5 w' w0.heap.size (fun k_ => (P0_ k_ ∨ w.heap.size ≤ k_)) v0 x0_1) ∧ Aside0 (Kept w w' (fun k_ => P0_ k_)) ∧ Aside0 (Below w0.heap.size w0 w'))
  case atStart => exact ⟨(l0), (a2), (0), (by first | rfl | (simp; done) | (simp [*]; done)), (by first | rfl | (simp; done) | (simp [*]; done)), H', ⟨Nat.le_refl _⟩, ⟨by (with_reducible repeat (first | apply Kd.R_alloc | apply Kd.R_drewN | apply Kd.R_drew)); exact HO0.out⟩, ⟨by repeat (first | (with_reducible first | exact HK.out | apply Kept.alloc | apply Kept.drewN | apply Kept.drew) | with_reducible_and_instances exact HK.out)⟩, ⟨by repeat (first | (with_reducible first | exact HB.out | apply below_alloc | apply pw_below_drewN | apply below_drew1) | with_reducible_and_instances exact HB.out)⟩⟩
  case round =>
    clear H'
    try clear c2
    try clear p2
    obtain ⟨x0_1, x2_1, x7_1, rfl, rfl, HA, HK1, HO_0, HK, HB⟩ := hrel
    cases gk with
    | zero => exact absurd HA.out (by simp [skerryref06_put.l0])
    | succ k1 =>
      have H := HA.out
      clear HA
      simp only [skerryref06_put.l0] at H
      by_cases c4 : x7_1 < a1
      · rw [if_pos c4] at H
        have c4b0 : decide (x7_1 < a1) = true := decide_eq_true c4
        clear c4
        by_cases c5 : x0_1.length < 140737488355328
        · rw [if_pos c5] at H
          have LMc5 := Aside0.mk c5
          clear c5
          obtain ⟨y136, hy136⟩ : ∃ y_ : List Int, y_ = (x0_1 ++ [(Int.tmod x2_1 256) % 256]) := ⟨_, rfl⟩
          replace H : (skerryref06_put.l0 k1 y136 a1 (wrap64 (Int.tdiv x2_1 256)) (wrap64 (x7_1 + 1))) = some r := by first | (rw [hy136]; with_reducible exact H) | (have H2_ := (Option.bind_some _ _).symm.trans H; rw [hy136]; with_reducible exact H2_) | (have H2_ := (Option.bind_some _ _).symm.trans H; with_reducible exact H2_) | with_reducible exact H | (rw [hy136]; exact H) | exact H
          have Ny136 := Aside0.mk hy136
          clear hy136
          have H' := Aside0.mk H
          clear H
          go_wp2_with (first | ((with_reducible refine gate_builtin (b := .append) (xs := #[.tmp 13, .tmp 17]) rfl ?_); at_builtin; refine Kd.R_append (Kd.int .u8) (w0 := w0) w0.heap.size rfl (.tmp 13) (.tmp 17) 27 5 (.int .u8 0) 1 rfl Try.underlying27 info5 rfl (by decide) (by omega) u0 x0_1 ((Int.tmod x2_1 256) % 256) [.int .u8 ((Int.tmod x2_1 256) % 256)] (fun k_ => (P0_ k_ ∨ w.heap.size ≤ k_)) (fun _ => False) rfl rfl ?aP (fun _ hk => hk.elim) ?aF ?aO ?aB ?aS ?aL ?_; (case aP => exact rfl); (case aB => exact (by repeat (first | (with_reducible first | exact HB.out | apply below_alloc | apply pw_below_drewN | apply below_drew1) | with_reducible_and_instances exact HB.out))); (case aF => exact (fun k_ hk => (.inr (Nat.le_trans (by first | exact HK.out.1 | exact (show Kept w _ (fun k_ => P0_ k_) from by repeat (first | (with_reducible first | exact HK.out | apply Kept.alloc | apply Kept.drewN | apply Kept.drew) | with_reducible_and_instances exact HK.out)).1) hk)))); (case aO => exact (by (with_reducible repeat (first | apply Kd.R_alloc | apply Kd.R_drewN | apply Kd.R_drew)); exact HO_0.out)); (case aS => exact (below_size (by repeat (first | (with_reducible first | exact HB.out | apply below_alloc | apply pw_below_drewN | apply below_drew1) | with_reducible_and_instances exact HB.out)))); (case aL => have := LMc5.out; omega); intro v137 w6 ho hb hg hat; rw [← Ny136.out] at ho; have n0_ := Aside0.mk (hb); have n1_ := Aside0.mk (Kept.of_grown (S := (fun k_ => P0_ k_)) hg (by repeat (first | (with_reducible first | exact HK.out | apply Kept.alloc | apply Kept.drewN | apply Kept.drew) | with_reducible_and_instances exact HK.out)) (fun k_ e_ => (HO_0.out.1 k_ e_))); have n2_ := Aside0.mk (ho); clear HB; clear HK; clear HO_0; have HB := n0_; have HK := n1_; have HO138 := n2_; clear n0_ n1_ n2_; clear ho hb hg hat))
          go_roundg k1
          case measure => have := HK1.out; omega
          case rel => exact ⟨(y136), (wrap64 (Int.tdiv x2_1 256)), (wrap64 (x7_1 + 1)), (by first | rfl | (simp; done) | (simp [*]; done)), (by first | rfl | (simp; done) | (simp [*]; done)), H', ⟨by have := HK1.out; omega⟩, ⟨by (with_reducible repeat (first | apply Kd.R_alloc | apply Kd.R_drewN | apply Kd.R_drew)); exact HO138.out⟩, ⟨by repeat (first | (with_reducible first | exact HK.out | apply Kept.alloc | apply Kept.drewN | apply Kept.drew) | with_reducible_and_instances exact HK.out)⟩, ⟨by repeat (first | (with_reducible first | exact HB.out | apply below_alloc | apply pw_below_drewN | apply below_drew1) | with_reducible_and_instances exact HB.out)⟩⟩
        · rw [if_neg c5] at H
          exact absurd H (by simp)
      · rw [if_neg c4] at H
        have c4b0 : decide (x7_1 < a1) = false := decide_eq_false c4
        clear c4
        obtain rfl := Option.some.inj H
        go_wp2
        go_ret
        exact ⟨_, by first | rfl | (simp [errW_none, errW_some] <;> rfl) | (simp [*, errW_none, errW_some] <;> rfl), by (with_reducible repeat (first | apply Kd.R_alloc | apply Kd.R_drewN | apply Kd.R_drew)); exact HO_0.out, by repeat (first | (with_reducible first | exact HB.out | apply below_alloc | apply pw_below_drewN | apply below_drew1) | with_reducible_and_instances exact HB.out), by repeat (first | (with_reducible first | exact HK.out | apply Kept.alloc | apply Kept.drewN | apply Kept.drew) | with_reducible_and_instances exact HK.out)⟩

/-! ### skerryref05_Size: function 38 -/
def skerryref05_Size.l0 : Nat → Int → Int → Option (Bool)
  | 0, _, _ => none
  | k + 1, x0, x3 => if x3 ≤ 4096 then (if x3 = x0 then (some true) else (skerryref05_Size.l0 k x0 (wrap64 (x3 * 2)))) else (some false)
def skerryref05_Size.f (k : Nat) (a0 : Int) : Option (Bool) := skerryref05_Size.l0 k a0 64
theorem skerryref05_Size.mono_l : ∀ k, (∀ y0 y1, LeO (skerryref05_Size.l0 k y0 y1) (skerryref05_Size.l0 (k + 1) y0 y1))
  | 0 => fun _ _ r h => by simp [skerryref05_Size.l0] at h
  | k + 1 => by
    have ih0 := skerryref05_Size.mono_l k
    · intro y0 y1
      unfold skerryref05_Size.l0
      repeat' first
      | (with_reducible exact ih0 _ _)
      | (with_reducible exact LeO.refl _)
      | (with_reducible exact LeO.none _)
      | (with_reducible refine LeO.ite ?_ ?_)
      | (with_reducible refine LeO.bind ?_ (fun _ => ?_))
      | exact ih0 _ _
      | exact LeO.none _
      | refine LeO.ite ?_ ?_
      | refine LeO.bind ?_ (fun _ => ?_)
theorem skerryref05_Size.mono : ∀ a0 k, LeO (skerryref05_Size.f k a0) (skerryref05_Size.f (k + 1) a0) := by
  intro a0 k
  have ih0 := skerryref05_Size.mono_l k
  unfold skerryref05_Size.f
  repeat' first
      | (with_reducible exact ih0 _ _)
      | (with_reducible exact LeO.refl _)
      | (with_reducible exact LeO.none _)
      | (with_reducible refine LeO.ite ?_ ?_)
      | (with_reducible refine LeO.bind ?_ (fun _ => ?_))
      | exact ih0 _ _
      | exact LeO.none _
      | refine LeO.ite ?_ ?_
      | refine LeO.bind ?_ (fun _ => ?_)
set_option maxHeartbeats 8000000 in
set_option maxRecDepth 100000 in
theorem skerryref05_Size.calls (k : Nat) (a0 : Int) (r : Bool) (w : World) (h : skerryref05_Size.f k a0 = some r) :
    Calls Try.prog 38 #[.int .i64 a0] w fun e w' => e = .returned (.bool r) ∧ Drawn0 w w' := by
  have H : (skerryref05_Size.l0 k a0 64) = some r := h
  clear h
  have H' := Aside0.mk H
  clear H
  go_enter Try.func38, Try.ntmps38
  go_wp2
  go_loopg [3] k (fun kq v3 w' => ∃ (x3_1 : Int), v3 = .int .i64 x3_1 ∧ Aside0 (skerryref05_Size.l0 kq a0 x3_1 = some r) ∧ Aside0 (kq ≤ k) ∧ Drawn0 w w')
  case atStart => exact ⟨(64), (by first | rfl | (simp; done) | (simp [*]; done)), H', ⟨Nat.le_refl _⟩, by repeat (first | exact Drawn0.refl _ | apply Drawn0.step)⟩
  case round =>
    clear H'
    obtain ⟨x3_1, rfl, HA, HK1, ⟨m1, rfl⟩⟩ := hrel
    cases gk with
    | zero => exact absurd HA.out (by simp [skerryref05_Size.l0])
    | succ k1 =>
      have H := HA.out
      clear HA
      simp only [skerryref05_Size.l0] at H
      by_cases c2 : x3_1 ≤ 4096
      · rw [if_pos c2] at H
        have c2b0 : decide (x3_1 ≤ 4096) = true := decide_eq_true c2
        clear c2
        by_cases c3 : x3_1 = a0
        · rw [if_pos c3] at H
          have c3b0 : (x3_1 == a0) = true := beq_iff_eq.mpr c3
          have c3b1 : (x3_1 != a0) = false := bne_eq_false_iff_eq.mpr c3
          clear c3
          obtain rfl := Option.some.inj H
          go_wp2
          go_ret
          exact ⟨by first | rfl | (simp; done) | (simp [*]; done), by repeat (first | exact Drawn0.refl _ | apply Drawn0.step)⟩
        · rw [if_neg c3] at H
          have c3b0 : (x3_1 == a0) = false := beq_eq_false_iff_ne.mpr c3
          have c3b1 : (x3_1 != a0) = true := bne_iff_ne.mpr c3
          have H' := Aside0.mk H
          clear H
          go_wp2
          go_roundg k1
          case measure => have := HK1.out; omega
          case rel => exact ⟨(wrap64 (x3_1 * 2)), (by first | rfl | (simp; done) | (simp [*]; done)), H', ⟨by have := HK1.out; omega⟩, by repeat (first | exact Drawn0.refl _ | apply Drawn0.step)⟩
      · rw [if_neg c2] at H
        have c2b0 : decide (x3_1 ≤ 4096) = false := decide_eq_false c2
        clear c2
        obtain rfl := Option.some.inj H
        go_wp2
        go_ret
        exact ⟨by first | rfl | (simp; done) | (simp [*]; done), by repeat (first | exact Drawn0.refl _ | apply Drawn0.step)⟩

/-! ### skerryref05_blocksFor: function 56 -/
def skerryref05_blocksFor.l0 : Nat → Int → Int → Int → Option (Int)
  | 0, _, _, _ => none
  | k + 1, x0, x1, x5 => if (wrap64 (x5 * x1)) < x0 then (skerryref05_blocksFor.l0 k x0 x1 (wrap64 (x5 + 1))) else (some x5)
def skerryref05_blocksFor.f (k : Nat) (a0 : Int) (a1 : Int) : Option (Int) := skerryref05_blocksFor.l0 k a0 a1 0
theorem skerryref05_blocksFor.mono_l : ∀ k, (∀ y0 y1 y2, LeO (skerryref05_blocksFor.l0 k y0 y1 y2) (skerryref05_blocksFor.l0 (k + 1) y0 y1 y2))
  | 0 => fun _ _ _ r h => by simp [skerryref05_blocksFor.l0] at h
  | k + 1 => by
    have ih0 := skerryref05_blocksFor.mono_l k
    · intro y0 y1 y2
      unfold skerryref05_blocksFor.l0
      repeat' first
      | (with_reducible exact ih0 _ _ _)
      | (with_reducible exact LeO.refl _)
      | (with_reducible exact LeO.none _)
      | (with_reducible refine LeO.ite ?_ ?_)
      | (with_reducible refine LeO.bind ?_ (fun _ => ?_))
      | exact ih0 _ _ _
      | exact LeO.none _
      | refine LeO.ite ?_ ?_
      | refine LeO.bind ?_ (fun _ => ?_)
theorem skerryref05_blocksFor.mono : ∀ a0 a1 k, LeO (skerryref05_blocksFor.f k a0 a1) (skerryref05_blocksFor.f (k + 1) a0 a1) := by
  intro a0 a1 k
  have ih0 := skerryref05_blocksFor.mono_l k
  unfold skerryref05_blocksFor.f
  repeat' first
      | (with_reducible exact ih0 _ _ _)
      | (with_reducible exact LeO.refl _)
      | (with_reducible exact LeO.none _)
      | (with_reducible refine LeO.ite ?_ ?_)
      | (with_reducible refine LeO.bind ?_ (fun _ => ?_))
      | exact ih0 _ _ _
      | exact LeO.none _
      | refine LeO.ite ?_ ?_
      | refine LeO.bind ?_ (fun _ => ?_)
set_option maxHeartbeats 8000000 in
set_option maxRecDepth 100000 in
theorem skerryref05_blocksFor.calls (k : Nat) (a0 : Int) (a1 : Int) (r : Int) (w : World) (h : skerryref05_blocksFor.f k a0 a1 = some r) :
    Calls Try.prog 56 #[.int .i64 a0, .int .i64 a1] w fun e w' => e = .returned (.int .i64 r) ∧ Drawn0 w w' := by
  have H : (skerryref05_blocksFor.l0 k a0 a1 0) = some r := h
  clear h
  have H' := Aside0.mk H
  clear H
  go_enter Try.func56, Try.ntmps56
  go_wp2
  go_loopg [5] k (fun kq v5 w' => ∃ (x5_1 : Int), v5 = .int .i64 x5_1 ∧ Aside0 (skerryref05_blocksFor.l0 kq a0 a1 x5_1 = some r) ∧ Aside0 (kq ≤ k) ∧ Drawn0 w w')
  case atStart => exact ⟨(0), (by first | rfl | (simp; done) | (simp [*]; done)), H', ⟨Nat.le_refl _⟩, by repeat (first | exact Drawn0.refl _ | apply Drawn0.step)⟩
  case round =>
    clear H'
    try clear p2
    obtain ⟨x5_1, rfl, HA, HK1, ⟨m1, rfl⟩⟩ := hrel
    cases gk with
    | zero => exact absurd HA.out (by simp [skerryref05_blocksFor.l0])
    | succ k1 =>
      have H := HA.out
      clear HA
      simp only [skerryref05_blocksFor.l0] at H
      by_cases c3 : (wrap64 (x5_1 * a1)) < a0
      · rw [if_pos c3] at H
        have c3b0 : decide ((wrap64 (x5_1 * a1)) < a0) = true := decide_eq_true c3
        clear c3
        have H' := Aside0.mk H
        clear H
        go_wp2
        go_roundg k1
        case measure => have := HK1.out; omega
        case rel => exact ⟨(wrap64 (x5_1 + 1)), (by first | rfl | (simp; done) | (simp [*]; done)), H', ⟨by have := HK1.out; omega⟩, by repeat (first | exact Drawn0.refl _ | apply Drawn0.step)⟩
      · rw [if_neg c3] at H
        have c3b0 : decide ((wrap64 (x5_1 * a1)) < a0) = false := decide_eq_false c3
        clear c3
        obtain rfl := Option.some.inj H
        go_wp2
        go_ret
        exact ⟨by first | rfl | (simp; done) | (simp [*]; done), by repeat (first | exact Drawn0.refl _ | apply Drawn0.step)⟩

/-! ### skerryref05_Make: function 41 -/
def skerryref05_Make.j0 : Nat → Int → Int → Int → Int → Bool → Option (Int × Int × Int × Int × Int × Int × Int × Int × Int × Int × Int × Int × Int)
  | 0, _, _, _, _, _ => none
  | k + 1, x0, x1, x2, x3, x37 => if x37 = true then (some (0, 0, 0, 0, 0, 0, 0, 0, 0, 0, 0, 0, 1)) else (if (wrap64 (x0 * x1)) > 1048576 then (some (0, 0, 0, 0, 0, 0, 0, 0, 0, 0, 0, 0, 5)) else ((skerryref05_blocksFor.f k x2 (wrap64 (8 * x0))).bind fun t119 => ((skerryref05_blocksFor.f k x1 (wrap64 (8 * x0))).bind fun t120 => ((skerryref05_blocksFor.f k x2 (wrap64 (Int.tdiv x0 32))).bind fun t121 => (if (wrap64 ((wrap64 ((wrap64 ((wrap64 (2 + x3)) + t119)) + t120)) + t121)) ≥ x1 then (some (0, 0, 0, 0, 0, 0, 0, 0, 0, 0, 0, 0, 6)) else (some (x0, x1, x2, x3, 2, wrap64 (2 + x3), t119, wrap64 ((wrap64 (2 + x3)) + t119), t120, wrap64 ((wrap64 ((wrap64 (2 + x3)) + t119)) + t120), t121, wrap64 ((wrap64 ((wrap64 ((wrap64 (2 + x3)) + t119)) + t120)) + t121), 0)))))))
def skerryref05_Make.f (k : Nat) (a0 : Int) (a1 : Int) (a2 : Int) (a3 : Int) : Option (Int × Int × Int × Int × Int × Int × Int × Int × Int × Int × Int × Int × Int) := (skerryref05_Size.f k a0).bind fun t117 => (if t117 = true then (if a1 < 1 then (skerryref05_Make.j0 k a0 a1 a2 a3 true) else (if a1 > 4096 then (skerryref05_Make.j0 k a0 a1 a2 a3 true) else (if a2 < 2 then (skerryref05_Make.j0 k a0 a1 a2 a3 true) else (if a2 > 1024 then (skerryref05_Make.j0 k a0 a1 a2 a3 true) else (if a3 < 4 then (skerryref05_Make.j0 k a0 a1 a2 a3 true) else (skerryref05_Make.j0 k a0 a1 a2 a3 (decide (a3 > 512)))))))) else (skerryref05_Make.j0 k a0 a1 a2 a3 true))
theorem skerryref05_Make.mono_l : ∀ k, (∀ y0 y1 y2 y3 y4, LeO (skerryref05_Make.j0 k y0 y1 y2 y3 y4) (skerryref05_Make.j0 (k + 1) y0 y1 y2 y3 y4))
  | 0 => fun _ _ _ _ _ r h => by simp [skerryref05_Make.j0] at h
  | k + 1 => by
    have ih0 := skerryref05_Make.mono_l k
    · intro y0 y1 y2 y3 y4
      unfold skerryref05_Make.j0
      repeat' first
      | (with_reducible exact ih0 _ _ _ _ _)
      | (with_reducible exact skerryref05_Size.mono _ _)
      | (with_reducible exact skerryref05_blocksFor.mono _ _ _)
      | (with_reducible exact LeO.refl _)
      | (with_reducible exact LeO.none _)
      | (with_reducible refine LeO.ite ?_ ?_)
      | (with_reducible refine LeO.bind ?_ (fun _ => ?_))
      | exact ih0 _ _ _ _ _
      | exact skerryref05_Size.mono _ _
      | exact skerryref05_blocksFor.mono _ _ _
      | exact LeO.none _
      | refine LeO.ite ?_ ?_
      | refine LeO.bind ?_ (fun _ => ?_)
theorem skerryref05_Make.mono : ∀ a0 a1 a2 a3 k, LeO (skerryref05_Make.f k a0 a1 a2 a3) (skerryref05_Make.f (k + 1) a0 a1 a2 a3) := by
  intro a0 a1 a2 a3 k
  have ih0 := skerryref05_Make.mono_l k
  unfold skerryref05_Make.f
  repeat' first
      | (with_reducible exact ih0 _ _ _ _ _)
      | (with_reducible exact skerryref05_Size.mono _ _)
      | (with_reducible exact skerryref05_blocksFor.mono _ _ _)
      | (with_reducible exact LeO.refl _)
      | (with_reducible exact LeO.none _)
      | (with_reducible refine LeO.ite ?_ ?_)
      | (with_reducible refine LeO.bind ?_ (fun _ => ?_))
      | exact ih0 _ _ _ _ _
      | exact skerryref05_Size.mono _ _
      | exact skerryref05_blocksFor.mono _ _ _
      | exact LeO.none _
      | refine LeO.ite ?_ ?_
      | refine LeO.bind ?_ (fun _ => ?_)
theorem skerryref05_Make.carry_ {P : Program} {c : Code} {Q : Exit → Act → World → Prop} {a : Act} {w : World} (F : World → Prop) (hF : F w) (h : ∀ W, F W → Code.wp P c Q a W) : Code.wp P c Q a w := h w hF
set_option maxHeartbeats 8000000 in
set_option maxRecDepth 100000 in
theorem skerryref05_Make.calls (k : Nat) (a0 : Int) (a1 : Int) (a2 : Int) (a3 : Int) (r1 : Int) (r2 : Int) (r3 : Int) (r4 : Int) (r5 : Int) (r6 : Int) (r7 : Int) (r8 : Int) (r9 : Int) (r10 : Int) (r11 : Int) (r12 : Int) (r13 : Int) (w : World) (h : skerryref05_Make.f k a0 a1 a2 a3 = some (r1, r2, r3, r4, r5, r6, r7, r8, r9, r10, r11, r12, r13)) :
    Calls Try.prog 41 #[.int .i64 a0, .int .i64 a1, .int .i64 a2, .int .i64 a3] w fun e w' => e = .returned (.tuple #[.agg #[.int .i64 r1, .int .i64 r2, .int .i64 r3, .int .i64 r4, .int .i64 r5, .int .i64 r6, .int .i64 r7, .int .i64 r8, .int .i64 r9, .int .i64 r10, .int .i64 r11, .int .i64 r12], .int .i64 r13]) ∧ Below w.heap.size w w' := by
  have hu24 := Try.underlying37
  have HB := Aside0.mk (Below.refl w.heap.size w)
  have H : ((skerryref05_Size.f k a0).bind fun t117 => (if t117 = true then (if a1 < 1 then (skerryref05_Make.j0 k a0 a1 a2 a3 true) else (if a1 > 4096 then (skerryref05_Make.j0 k a0 a1 a2 a3 true) else (if a2 < 2 then (skerryref05_Make.j0 k a0 a1 a2 a3 true) else (if a2 > 1024 then (skerryref05_Make.j0 k a0 a1 a2 a3 true) else (if a3 < 4 then (skerryref05_Make.j0 k a0 a1 a2 a3 true) else (skerryref05_Make.j0 k a0 a1 a2 a3 (decide (a3 > 512)))))))) else (skerryref05_Make.j0 k a0 a1 a2 a3 true))) = some (r1, r2, r3, r4, r5, r6, r7, r8, r9, r10, r11, r12, r13) := h
  clear h
  have HC5 := Aside0.mk H
  clear H
  go_enter Try.func41, Try.ntmps41
  go_upto_region 1 with (first | ((with_reducible refine gate_dst (N := 8) rfl ?_); refine box_event ?hg (N := 8) ?hd (cs := #[.int .i64 0, .int .i64 0, .int .i64 0, .int .i64 0, .int .i64 0, .int .i64 0, .int .i64 0, .int .i64 0, .int .i64 0, .int .i64 0, .int .i64 0, .int .i64 0]) (t := 37) ?hr ?_; (case hd => rfl); (case hg => rfl); (case hr => first | (go_simp; done) | (go_simp; rfl)); intro gb116 hg w6 hbox hb; have n0_ := Aside0.mk (below_step (by repeat (first | (with_reducible first | exact HB.out | apply below_alloc | apply pw_below_drewN | apply below_drew1) | exact HB.out)) hb); have n1_ := Aside0.mk (hbox); have n2_ := Aside0.mk ((by rw [hg]; exact (below_size (by repeat (first | (with_reducible first | exact HB.out | apply below_alloc | apply pw_below_drewN | apply below_drew1) | exact HB.out))) : w.heap.size ≤ gb116)); have n3_ := Aside0.mk ((by rw [hg]; exact (below_size (by repeat (first | (with_reducible first | exact HB.out | apply below_alloc | apply pw_below_drewN | apply below_drew1) | exact HB.out))) : w.heap.size ≤ gb116)); clear HB; have HB := n0_; have BK116 := n1_; have GW116 := n2_; have GE116 := n3_; clear n0_ n1_ n2_ n3_; clear hb hbox hg))
  (try simp only [Act.put, List.setIfInBounds_toArray, List.set_cons_zero, List.set_cons_succ])
  go_cut [37] (fun v37 wc => ∃ (kq : Nat) (x37_4 : Bool), v37 = .bool x37_4 ∧ Aside0 (skerryref05_Make.j0 kq a0 a1 a2 a3 x37_4 = some (r1, r2, r3, r4, r5, r6, r7, r8, r9, r10, r11, r12, r13)) ∧ Aside0 (kq ≤ k) ∧ Aside0 (wc.heap[gb116]? = some (.cells #[.int .i64 0, .int .i64 0, .int .i64 0, .int .i64 0, .int .i64 0, .int .i64 0, .int .i64 0, .int .i64 0, .int .i64 0, .int .i64 0, .int .i64 0, .int .i64 0] 37 (0, 0))) ∧ Aside0 (Below w.heap.size w wc))
  case first =>
    have H := HC5.out
    clear HC5
    replace H := Option.bind_eq_some_iff.mp H
    obtain ⟨t117, A70, H⟩ := H
    replace H : (if t117 = true then (if a1 < 1 then (skerryref05_Make.j0 k a0 a1 a2 a3 true) else (if a1 > 4096 then (skerryref05_Make.j0 k a0 a1 a2 a3 true) else (if a2 < 2 then (skerryref05_Make.j0 k a0 a1 a2 a3 true) else (if a2 > 1024 then (skerryref05_Make.j0 k a0 a1 a2 a3 true) else (if a3 < 4 then (skerryref05_Make.j0 k a0 a1 a2 a3 true) else (skerryref05_Make.j0 k a0 a1 a2 a3 (decide (a3 > 512)))))))) else (skerryref05_Make.j0 k a0 a1 a2 a3 true)) = some (r1, r2, r3, r4, r5, r6, r7, r8, r9, r10, r11, r12, r13) := H
    have A7 := Aside0.mk A70
    clear A70
    by_cases c8 : t117 = true
    · subst c8
      have H1 : (if a1 < 1 then (skerryref05_Make.j0 k a0 a1 a2 a3 true) else (if a1 > 4096 then (skerryref05_Make.j0 k a0 a1 a2 a3 true) else (if a2 < 2 then (skerryref05_Make.j0 k a0 a1 a2 a3 true) else (if a2 > 1024 then (skerryref05_Make.j0 k a0 a1 a2 a3 true) else (if a3 < 4 then (skerryref05_Make.j0 k a0 a1 a2 a3 true) else (skerryref05_Make.j0 k a0 a1 a2 a3 (decide (a3 > 512)))))))) = some (r1, r2, r3, r4, r5, r6, r7, r8, r9, r10, r11, r12, r13) := by rw [if_pos rfl] at H; exact H
      clear H
      have H := H1
      clear H1
      by_cases c9 : a1 < 1
      · rw [if_pos c9] at H
        have c9b0 : decide (a1 < 1) = true := decide_eq_true c9
        clear c9
        (first | rw [c9b0] | (simp only [i64_w, i32_w]; rw [c9b0]) | rw [c9b1] | skip)
        have H' := Aside0.mk H
        clear H
        go_wp2_with (first | ((with_reducible refine gate_callee (f := 38) rfl ?_); refine goesL_ (some 12) rfl rfl Try.func38 (by kernel_rfl) rfl #[.int .i64 a0] rfl (by (try simp only [List.map_toArray, List.map_cons, List.map_nil]); first | done | rfl | (simp only [List.length_drop, List.length_take]; rfl) | (simp only [Int.toNat_natCast, Nat.sub_self, List.length_drop, List.length_take]; rfl)) ?_; (with_reducible refine (skerryref05_Size.calls k a0 true _ A7.out).mono ?_); rintro e w' ⟨rfl, ⟨nd, rfl⟩⟩; refine ⟨_, rfl, ?_⟩))
        go_meet
        case rel => exact ⟨_, (true), (by first | rfl | (simp; done) | (simp [*]; done)), H', ⟨by first | omega | exact Nat.le_refl _⟩, ⟨by (with_reducible repeat (first | refine blk_drewN ?_ _ | refine blk_drew ?_ | refine blk_alloc ?_ _)); exact BK116.out⟩, ⟨by repeat (first | (with_reducible first | exact HB.out | apply below_alloc | apply pw_below_drewN | apply below_drew1 | refine below_set ?_ GE116.out))⟩⟩
      · rw [if_neg c9] at H
        have c9b0 : decide (a1 < 1) = false := decide_eq_false c9
        clear c9
        (first | rw [c9b0] | (simp only [i64_w, i32_w]; rw [c9b0]) | rw [c9b1] | skip)
        by_cases c10 : a1 > 4096
        · rw [if_pos c10] at H
          have c10b0 : decide (4096 < a1) = true := decide_eq_true c10
          clear c10
          have H' := Aside0.mk H
          clear H
          go_wp2_with (first | ((with_reducible refine gate_callee (f := 38) rfl ?_); refine goesL_ (some 12) rfl rfl Try.func38 (by kernel_rfl) rfl #[.int .i64 a0] rfl (by (try simp only [List.map_toArray, List.map_cons, List.map_nil]); first | done | rfl | (simp only [List.length_drop, List.length_take]; rfl) | (simp only [Int.toNat_natCast, Nat.sub_self, List.length_drop, List.length_take]; rfl)) ?_; (with_reducible refine (skerryref05_Size.calls k a0 true _ A7.out).mono ?_); rintro e w' ⟨rfl, ⟨nd, rfl⟩⟩; refine ⟨_, rfl, ?_⟩))
          go_meet
          case rel => exact ⟨_, (true), (by first | rfl | (simp; done) | (simp [*]; done)), H', ⟨by first | omega | exact Nat.le_refl _⟩, ⟨by (with_reducible repeat (first | refine blk_drewN ?_ _ | refine blk_drew ?_ | refine blk_alloc ?_ _)); exact BK116.out⟩, ⟨by repeat (first | (with_reducible first | exact HB.out | apply below_alloc | apply pw_below_drewN | apply below_drew1 | refine below_set ?_ GE116.out))⟩⟩
        · rw [if_neg c10] at H
          have c10b0 : decide (4096 < a1) = false := decide_eq_false c10
          clear c10
          by_cases c11 : a2 < 2
          · rw [if_pos c11] at H
            have c11b0 : decide (a2 < 2) = true := decide_eq_true c11
            clear c11
            have H' := Aside0.mk H
            clear H
            go_wp2_with (first | ((with_reducible refine gate_callee (f := 38) rfl ?_); refine goesL_ (some 12) rfl rfl Try.func38 (by kernel_rfl) rfl #[.int .i64 a0] rfl (by (try simp only [List.map_toArray, List.map_cons, List.map_nil]); first | done | rfl | (simp only [List.length_drop, List.length_take]; rfl) | (simp only [Int.toNat_natCast, Nat.sub_self, List.length_drop, List.length_take]; rfl)) ?_; (with_reducible refine (skerryref05_Size.calls k a0 true _ A7.out).mono ?_); rintro e w' ⟨rfl, ⟨nd, rfl⟩⟩; refine ⟨_, rfl, ?_⟩))
            go_meet
            case rel => exact ⟨_, (true), (by first | rfl | (simp; done) | (simp [*]; done)), H', ⟨by first | omega | exact Nat.le_refl _⟩, ⟨by (with_reducible repeat (first | refine blk_drewN ?_ _ | refine blk_drew ?_ | refine blk_alloc ?_ _)); exact BK116.out⟩, ⟨by repeat (first | (with_reducible first | exact HB.out | apply below_alloc | apply pw_below_drewN | apply below_drew1 | refine below_set ?_ GE116.out))⟩⟩
          · rw [if_neg c11] at H
            have c11b0 : decide (a2 < 2) = false := decide_eq_false c11
            clear c11
            by_cases c12 : a2 > 1024
            · rw [if_pos c12] at H
              have c12b0 : decide (1024 < a2) = true := decide_eq_true c12
              clear c12
              have H' := Aside0.mk H
              clear H
              go_wp2_with (first | ((with_reducible refine gate_callee (f := 38) rfl ?_); refine goesL_ (some 12) rfl rfl Try.func38 (by kernel_rfl) rfl #[.int .i64 a0] rfl (by (try simp only [List.map_toArray, List.map_cons, List.map_nil]); first | done | rfl | (simp only [List.length_drop, List.length_take]; rfl) | (simp only [Int.toNat_natCast, Nat.sub_self, List.length_drop, List.length_take]; rfl)) ?_; (with_reducible refine (skerryref05_Size.calls k a0 true _ A7.out).mono ?_); rintro e w' ⟨rfl, ⟨nd, rfl⟩⟩; refine ⟨_, rfl, ?_⟩))
              go_meet
              case rel => exact ⟨_, (true), (by first | rfl | (simp; done) | (simp [*]; done)), H', ⟨by first | omega | exact Nat.le_refl _⟩, ⟨by (with_reducible repeat (first | refine blk_drewN ?_ _ | refine blk_drew ?_ | refine blk_alloc ?_ _)); exact BK116.out⟩, ⟨by repeat (first | (with_reducible first | exact HB.out | apply below_alloc | apply pw_below_drewN | apply below_drew1 | refine below_set ?_ GE116.out))⟩⟩
            · rw [if_neg c12] at H
              have c12b0 : decide (1024 < a2) = false := decide_eq_false c12
              clear c12
              by_cases c13 : a3 < 4
              · rw [if_pos c13] at H
                have c13b0 : decide (a3 < 4) = true := decide_eq_true c13
                clear c13
                have H' := Aside0.mk H
                clear H
                go_wp2_with (first | ((with_reducible refine gate_callee (f := 38) rfl ?_); refine goesL_ (some 12) rfl rfl Try.func38 (by kernel_rfl) rfl #[.int .i64 a0] rfl (by (try simp only [List.map_toArray, List.map_cons, List.map_nil]); first | done | rfl | (simp only [List.length_drop, List.length_take]; rfl) | (simp only [Int.toNat_natCast, Nat.sub_self, List.length_drop, List.length_take]; rfl)) ?_; (with_reducible refine (skerryref05_Size.calls k a0 true _ A7.out).mono ?_); rintro e w' ⟨rfl, ⟨nd, rfl⟩⟩; refine ⟨_, rfl, ?_⟩))
                go_meet
                case rel => exact ⟨_, (true), (by first | rfl | (simp; done) | (simp [*]; done)), H', ⟨by first | omega | exact Nat.le_refl _⟩, ⟨by (with_reducible repeat (first | refine blk_drewN ?_ _ | refine blk_drew ?_ | refine blk_alloc ?_ _)); exact BK116.out⟩, ⟨by repeat (first | (with_reducible first | exact HB.out | apply below_alloc | apply pw_below_drewN | apply below_drew1 | refine below_set ?_ GE116.out))⟩⟩
              · rw [if_neg c13] at H
                have c13b0 : decide (a3 < 4) = false := decide_eq_false c13
                clear c13
                have H' := Aside0.mk H
                clear H
                go_wp2_with (first | ((with_reducible refine gate_callee (f := 38) rfl ?_); refine goesL_ (some 12) rfl rfl Try.func38 (by kernel_rfl) rfl #[.int .i64 a0] rfl (by (try simp only [List.map_toArray, List.map_cons, List.map_nil]); first | done | rfl | (simp only [List.length_drop, List.length_take]; rfl) | (simp only [Int.toNat_natCast, Nat.sub_self, List.length_drop, List.length_take]; rfl)) ?_; (with_reducible refine (skerryref05_Size.calls k a0 true _ A7.out).mono ?_); rintro e w' ⟨rfl, ⟨nd, rfl⟩⟩; refine ⟨_, rfl, ?_⟩))
                go_meet
                case rel => exact ⟨_, (decide (a3 > 512)), (by first | rfl | (simp; done) | (simp [*]; done)), H', ⟨by first | omega | exact Nat.le_refl _⟩, ⟨by (with_reducible repeat (first | refine blk_drewN ?_ _ | refine blk_drew ?_ | refine blk_alloc ?_ _)); exact BK116.out⟩, ⟨by repeat (first | (with_reducible first | exact HB.out | apply below_alloc | apply pw_below_drewN | apply below_drew1 | refine below_set ?_ GE116.out))⟩⟩
    · replace c8 := Bool.eq_false_iff.mpr c8
      subst c8
      have H1 : (skerryref05_Make.j0 k a0 a1 a2 a3 true) = some (r1, r2, r3, r4, r5, r6, r7, r8, r9, r10, r11, r12, r13) := by rw [if_neg (show ¬ (false = true) by decide)] at H; exact H
      clear H
      have H := H1
      clear H1
      have H' := Aside0.mk H
      clear H
      go_wp2_with (first | ((with_reducible refine gate_callee (f := 38) rfl ?_); refine goesL_ (some 12) rfl rfl Try.func38 (by kernel_rfl) rfl #[.int .i64 a0] rfl (by (try simp only [List.map_toArray, List.map_cons, List.map_nil]); first | done | rfl | (simp only [List.length_drop, List.length_take]; rfl) | (simp only [Int.toNat_natCast, Nat.sub_self, List.length_drop, List.length_take]; rfl)) ?_; (with_reducible refine (skerryref05_Size.calls k a0 false _ A7.out).mono ?_); rintro e w' ⟨rfl, ⟨nd, rfl⟩⟩; refine ⟨_, rfl, ?_⟩))
      go_meet
      case rel => exact ⟨_, (true), (by first | rfl | (simp; done) | (simp [*]; done)), H', ⟨by first | omega | exact Nat.le_refl _⟩, ⟨by (with_reducible repeat (first | refine blk_drewN ?_ _ | refine blk_drew ?_ | refine blk_alloc ?_ _)); exact BK116.out⟩, ⟨by repeat (first | (with_reducible first | exact HB.out | apply below_alloc | apply pw_below_drewN | apply below_drew1 | refine below_set ?_ GE116.out))⟩⟩
  case rest =>
    clear HC5
    try clear c1
    try clear c2
    try clear p2
    try clear c8
    try clear c9
    try clear c9b0
    try clear c9b1
    try clear c10
    try clear c10b0
    try clear c11
    try clear c11b0
    try clear c12
    try clear c12b0
    try clear c13
    try clear c13b0
    obtain ⟨kq, x37_4, rfl, HA, HJ4, BK116, HB⟩ := hcut
    cases kq with
    | zero => exact absurd HA.out (by simp [skerryref05_Make.j0])
    | succ kj4 =>
      have H := HA.out
      clear HA
      simp only [skerryref05_Make.j0] at H
      by_cases c14 : x37_4 = true
      · subst c14
        have H1 : (some (0, 0, 0, 0, 0, 0, 0, 0, 0, 0, 0, 0, 1)) = some (r1, r2, r3, r4, r5, r6, r7, r8, r9, r10, r11, r12, r13) := by rw [if_pos rfl] at H; exact H
        clear H
        have H := H1
        clear H1
        simp only [Option.some.injEq, Prod.mk.injEq] at H
        obtain ⟨rfl, rfl, rfl, rfl, rfl, rfl, rfl, rfl, rfl, rfl, rfl, rfl, rfl⟩ := H
        have hcz15_0 : wc.cell? ⟨gb116, 0, none⟩ = some (.int .i64 0) := (blk_cell BK116.out 0).trans rfl
        have hcz15_1 : wc.cell? ⟨gb116, 1, none⟩ = some (.int .i64 0) := (blk_cell BK116.out 1).trans rfl
        have hcz15_2 : wc.cell? ⟨gb116, 2, none⟩ = some (.int .i64 0) := (blk_cell BK116.out 2).trans rfl
        have hcz15_3 : wc.cell? ⟨gb116, 3, none⟩ = some (.int .i64 0) := (blk_cell BK116.out 3).trans rfl
        have hcz15_4 : wc.cell? ⟨gb116, 4, none⟩ = some (.int .i64 0) := (blk_cell BK116.out 4).trans rfl
        have hcz15_5 : wc.cell? ⟨gb116, 5, none⟩ = some (.int .i64 0) := (blk_cell BK116.out 5).trans rfl
        have hcz15_6 : wc.cell? ⟨gb116, 6, none⟩ = some (.int .i64 0) := (blk_cell BK116.out 6).trans rfl
        have hcz15_7 : wc.cell? ⟨gb116, 7, none⟩ = some (.int .i64 0) := (blk_cell BK116.out 7).trans rfl
        have hcz15_8 : wc.cell? ⟨gb116, 8, none⟩ = some (.int .i64 0) := (blk_cell BK116.out 8).trans rfl
        have hcz15_9 : wc.cell? ⟨gb116, 9, none⟩ = some (.int .i64 0) := (blk_cell BK116.out 9).trans rfl
        have hcz15_10 : wc.cell? ⟨gb116, 10, none⟩ = some (.int .i64 0) := (blk_cell BK116.out 10).trans rfl
        have hcz15_11 : wc.cell? ⟨gb116, 11, none⟩ = some (.int .i64 0) := (blk_cell BK116.out 11).trans rfl
        have hfz15_0 := blk_frozen BK116.out 0
        have hfz15_1 := blk_frozen BK116.out 1
        have hfz15_2 := blk_frozen BK116.out 2
        have hfz15_3 := blk_frozen BK116.out 3
        have hfz15_4 := blk_frozen BK116.out 4
        have hfz15_5 := blk_frozen BK116.out 5
        have hfz15_6 := blk_frozen BK116.out 6
        have hfz15_7 := blk_frozen BK116.out 7
        have hfz15_8 := blk_frozen BK116.out 8
        have hfz15_9 := blk_frozen BK116.out 9
        have hfz15_10 := blk_frozen BK116.out 10
        have hfz15_11 := blk_frozen BK116.out 11
        go_wp2
        refine bodyPost_ret (results_ct rfl _ _ gb116 37 #[.int .i64 0, .int .i64 0, .int .i64 0, .int .i64 0, .int .i64 0, .int .i64 0, .int .i64 0, .int .i64 0, .int .i64 0, .int .i64 0, .int .i64 0, .int .i64 0] (0, 0) _ rfl (by (with_reducible repeat (first | refine blk_drewN ?_ _ | refine blk_drew ?_ | refine blk_alloc ?_ _)); refine blk_put (cs := #[.int .i64 0, .int .i64 0, .int .i64 0, .int .i64 0, .int .i64 0, .int .i64 0, .int .i64 0, .int .i64 0, .int .i64 0, .int .i64 0, .int .i64 0, .int .i64 0]) ?_ 11 _ rfl; (with_reducible repeat (first | refine blk_drewN ?_ _ | refine blk_drew ?_ | refine blk_alloc ?_ _)); refine blk_put (cs := #[.int .i64 0, .int .i64 0, .int .i64 0, .int .i64 0, .int .i64 0, .int .i64 0, .int .i64 0, .int .i64 0, .int .i64 0, .int .i64 0, .int .i64 0, .int .i64 0]) ?_ 10 _ rfl; (with_reducible repeat (first | refine blk_drewN ?_ _ | refine blk_drew ?_ | refine blk_alloc ?_ _)); refine blk_put (cs := #[.int .i64 0, .int .i64 0, .int .i64 0, .int .i64 0, .int .i64 0, .int .i64 0, .int .i64 0, .int .i64 0, .int .i64 0, .int .i64 0, .int .i64 0, .int .i64 0]) ?_ 9 _ rfl; (with_reducible repeat (first | refine blk_drewN ?_ _ | refine blk_drew ?_ | refine blk_alloc ?_ _)); refine blk_put (cs := #[.int .i64 0, .int .i64 0, .int .i64 0, .int .i64 0, .int .i64 0, .int .i64 0, .int .i64 0, .int .i64 0, .int .i64 0, .int .i64 0, .int .i64 0, .int .i64 0]) ?_ 8 _ rfl; (with_reducible repeat (first | refine blk_drewN ?_ _ | refine blk_drew ?_ | refine blk_alloc ?_ _)); refine blk_put (cs := #[.int .i64 0, .int .i64 0, .int .i64 0, .int .i64 0, .int .i64 0, .int .i64 0, .int .i64 0, .int .i64 0, .int .i64 0, .int .i64 0, .int .i64 0, .int .i64 0]) ?_ 7 _ rfl; (with_reducible repeat (first | refine blk_drewN ?_ _ | refine blk_drew ?_ | refine blk_alloc ?_ _)); refine blk_put (cs := #[.int .i64 0, .int .i64 0, .int .i64 0, .int .i64 0, .int .i64 0, .int .i64 0, .int .i64 0, .int .i64 0, .int .i64 0, .int .i64 0, .int .i64 0, .int .i64 0]) ?_ 6 _ rfl; (with_reducible repeat (first | refine blk_drewN ?_ _ | refine blk_drew ?_ | refine blk_alloc ?_ _)); refine blk_put (cs := #[.int .i64 0, .int .i64 0, .int .i64 0, .int .i64 0, .int .i64 0, .int .i64 0, .int .i64 0, .int .i64 0, .int .i64 0, .int .i64 0, .int .i64 0, .int .i64 0]) ?_ 5 _ rfl; (with_reducible repeat (first | refine blk_drewN ?_ _ | refine blk_drew ?_ | refine blk_alloc ?_ _)); refine blk_put (cs := #[.int .i64 0, .int .i64 0, .int .i64 0, .int .i64 0, .int .i64 0, .int .i64 0, .int .i64 0, .int .i64 0, .int .i64 0, .int .i64 0, .int .i64 0, .int .i64 0]) ?_ 4 _ rfl; (with_reducible repeat (first | refine blk_drewN ?_ _ | refine blk_drew ?_ | refine blk_alloc ?_ _)); refine blk_put (cs := #[.int .i64 0, .int .i64 0, .int .i64 0, .int .i64 0, .int .i64 0, .int .i64 0, .int .i64 0, .int .i64 0, .int .i64 0, .int .i64 0, .int .i64 0, .int .i64 0]) ?_ 3 _ rfl; (with_reducible repeat (first | refine blk_drewN ?_ _ | refine blk_drew ?_ | refine blk_alloc ?_ _)); refine blk_put (cs := #[.int .i64 0, .int .i64 0, .int .i64 0, .int .i64 0, .int .i64 0, .int .i64 0, .int .i64 0, .int .i64 0, .int .i64 0, .int .i64 0, .int .i64 0, .int .i64 0]) ?_ 2 _ rfl; (with_reducible repeat (first | refine blk_drewN ?_ _ | refine blk_drew ?_ | refine blk_alloc ?_ _)); refine blk_put (cs := #[.int .i64 0, .int .i64 0, .int .i64 0, .int .i64 0, .int .i64 0, .int .i64 0, .int .i64 0, .int .i64 0, .int .i64 0, .int .i64 0, .int .i64 0, .int .i64 0]) ?_ 1 _ rfl; (with_reducible repeat (first | refine blk_drewN ?_ _ | refine blk_drew ?_ | refine blk_alloc ?_ _)); refine blk_put (cs := #[.int .i64 0, .int .i64 0, .int .i64 0, .int .i64 0, .int .i64 0, .int .i64 0, .int .i64 0, .int .i64 0, .int .i64 0, .int .i64 0, .int .i64 0, .int .i64 0]) ?_ 0 _ rfl; (with_reducible repeat (first | refine blk_drewN ?_ _ | refine blk_drew ?_ | refine blk_alloc ?_ _)); exact BK116.out) Try.underlying37 rfl (by kernel_rfl)) rfl ?_
        exact ⟨by first | rfl | (simp [errW_none, errW_some] <;> rfl) | (simp [*, errW_none, errW_some] <;> rfl), by repeat (first | (with_reducible first | exact HB.out | apply below_alloc | apply pw_below_drewN | apply below_drew1 | refine below_set ?_ GE116.out))⟩
      · replace c14 := Bool.eq_false_iff.mpr c14
        subst c14
        have H1 : (if (wrap64 (a0 * a1)) > 1048576 then (some (0, 0, 0, 0, 0, 0, 0, 0, 0, 0, 0, 0, 5)) else ((skerryref05_blocksFor.f kj4 a2 (wrap64 (8 * a0))).bind fun t119 => ((skerryref05_blocksFor.f kj4 a1 (wrap64 (8 * a0))).bind fun t120 => ((skerryref05_blocksFor.f kj4 a2 (wrap64 (Int.tdiv a0 32))).bind fun t121 => (if (wrap64 ((wrap64 ((wrap64 ((wrap64 (2 + a3)) + t119)) + t120)) + t121)) ≥ a1 then (some (0, 0, 0, 0, 0, 0, 0, 0, 0, 0, 0, 0, 6)) else (some (a0, a1, a2, a3, 2, wrap64 (2 + a3), t119, wrap64 ((wrap64 (2 + a3)) + t119), t120, wrap64 ((wrap64 ((wrap64 (2 + a3)) + t119)) + t120), t121, wrap64 ((wrap64 ((wrap64 ((wrap64 (2 + a3)) + t119)) + t120)) + t121), 0))))))) = some (r1, r2, r3, r4, r5, r6, r7, r8, r9, r10, r11, r12, r13) := by rw [if_neg (show ¬ (false = true) by decide)] at H; exact H
        clear H
        have H := H1
        clear H1
        by_cases c16 : (wrap64 (a0 * a1)) > 1048576
        · rw [if_pos c16] at H
          have c16b0 : decide (1048576 < (wrap64 (a0 * a1))) = true := decide_eq_true c16
          clear c16
          simp only [Option.some.injEq, Prod.mk.injEq] at H
          obtain ⟨rfl, rfl, rfl, rfl, rfl, rfl, rfl, rfl, rfl, rfl, rfl, rfl, rfl⟩ := H
          have hcz17_0 : wc.cell? ⟨gb116, 0, none⟩ = some (.int .i64 0) := (blk_cell BK116.out 0).trans rfl
          have hcz17_1 : wc.cell? ⟨gb116, 1, none⟩ = some (.int .i64 0) := (blk_cell BK116.out 1).trans rfl
          have hcz17_2 : wc.cell? ⟨gb116, 2, none⟩ = some (.int .i64 0) := (blk_cell BK116.out 2).trans rfl
          have hcz17_3 : wc.cell? ⟨gb116, 3, none⟩ = some (.int .i64 0) := (blk_cell BK116.out 3).trans rfl
          have hcz17_4 : wc.cell? ⟨gb116, 4, none⟩ = some (.int .i64 0) := (blk_cell BK116.out 4).trans rfl
          have hcz17_5 : wc.cell? ⟨gb116, 5, none⟩ = some (.int .i64 0) := (blk_cell BK116.out 5).trans rfl
          have hcz17_6 : wc.cell? ⟨gb116, 6, none⟩ = some (.int .i64 0) := (blk_cell BK116.out 6).trans rfl
          have hcz17_7 : wc.cell? ⟨gb116, 7, none⟩ = some (.int .i64 0) := (blk_cell BK116.out 7).trans rfl
          have hcz17_8 : wc.cell? ⟨gb116, 8, none⟩ = some (.int .i64 0) := (blk_cell BK116.out 8).trans rfl
          have hcz17_9 : wc.cell? ⟨gb116, 9, none⟩ = some (.int .i64 0) := (blk_cell BK116.out 9).trans rfl
          have hcz17_10 : wc.cell? ⟨gb116, 10, none⟩ = some (.int .i64 0) := (blk_cell BK116.out 10).trans rfl
          have hcz17_11 : wc.cell? ⟨gb116, 11, none⟩ = some (.int .i64 0) := (blk_cell BK116.out 11).trans rfl
          have hfz17_0 := blk_frozen BK116.out 0
          have hfz17_1 := blk_frozen BK116.out 1
          have hfz17_2 := blk_frozen BK116.out 2
          have hfz17_3 := blk_frozen BK116.out 3
          have hfz17_4 := blk_frozen BK116.out 4
          have hfz17_5 := blk_frozen BK116.out 5
          have hfz17_6 := blk_frozen BK116.out 6
          have hfz17_7 := blk_frozen BK116.out 7
          have hfz17_8 := blk_frozen BK116.out 8
          have hfz17_9 := blk_frozen BK116.out 9
          have hfz17_10 := blk_frozen BK116.out 10
          have hfz17_11 := blk_frozen BK116.out 11
          go_wp2
          refine bodyPost_ret (results_ct rfl _ _ gb116 37 #[.int .i64 0, .int .i64 0, .int .i64 0, .int .i64 0, .int .i64 0, .int .i64 0, .int .i64 0, .int .i64 0, .int .i64 0, .int .i64 0, .int .i64 0, .int .i64 0] (0, 0) _ rfl (by (with_reducible repeat (first | refine blk_drewN ?_ _ | refine blk_drew ?_ | refine blk_alloc ?_ _)); refine blk_put (cs := #[.int .i64 0, .int .i64 0, .int .i64 0, .int .i64 0, .int .i64 0, .int .i64 0, .int .i64 0, .int .i64 0, .int .i64 0, .int .i64 0, .int .i64 0, .int .i64 0]) ?_ 11 _ rfl; (with_reducible repeat (first | refine blk_drewN ?_ _ | refine blk_drew ?_ | refine blk_alloc ?_ _)); refine blk_put (cs := #[.int .i64 0, .int .i64 0, .int .i64 0, .int .i64 0, .int .i64 0, .int .i64 0, .int .i64 0, .int .i64 0, .int .i64 0, .int .i64 0, .int .i64 0, .int .i64 0]) ?_ 10 _ rfl; (with_reducible repeat (first | refine blk_drewN ?_ _ | refine blk_drew ?_ | refine blk_alloc ?_ _)); refine blk_put (cs := #[.int .i64 0, .int .i64 0, .int .i64 0, .int .i64 0, .int .i64 0, .int .i64 0, .int .i64 0, .int .i64 0, .int .i64 0, .int .i64 0, .int .i64 0, .int .i64 0]) ?_ 9 _ rfl; (with_reducible repeat (first | refine blk_drewN ?_ _ | refine blk_drew ?_ | refine blk_alloc ?_ _)); refine blk_put (cs := #[.int .i64 0, .int .i64 0, .int .i64 0, .int .i64 0, .int .i64 0, .int .i64 0, .int .i64 0, .int .i64 0, .int .i64 0, .int .i64 0, .int .i64 0, .int .i64 0]) ?_ 8 _ rfl; (with_reducible repeat (first | refine blk_drewN ?_ _ | refine blk_drew ?_ | refine blk_alloc ?_ _)); refine blk_put (cs := #[.int .i64 0, .int .i64 0, .int .i64 0, .int .i64 0, .int .i64 0, .int .i64 0, .int .i64 0, .int .i64 0, .int .i64 0, .int .i64 0, .int .i64 0, .int .i64 0]) ?_ 7 _ rfl; (with_reducible repeat (first | refine blk_drewN ?_ _ | refine blk_drew ?_ | refine blk_alloc ?_ _)); refine blk_put (cs := #[.int .i64 0, .int .i64 0, .int .i64 0, .int .i64 0, .int .i64 0, .int .i64 0, .int .i64 0, .int .i64 0, .int .i64 0, .int .i64 0, .int .i64 0, .int .i64 0]) ?_ 6 _ rfl; (with_reducible repeat (first | refine blk_drewN ?_ _ | refine blk_drew ?_ | refine blk_alloc ?_ _)); refine blk_put (cs := #[.int .i64 0, .int .i64 0, .int .i64 0, .int .i64 0, .int .i64 0, .int .i64 0, .int .i64 0, .int .i64 0, .int .i64 0, .int .i64 0, .int .i64 0, .int .i64 0]) ?_ 5 _ rfl; (with_reducible repeat (first | refine blk_drewN ?_ _ | refine blk_drew ?_ | refine blk_alloc ?_ _)); refine blk_put (cs := #[.int .i64 0, .int .i64 0, .int .i64 0, .int .i64 0, .int .i64 0, .int .i64 0, .int .i64 0, .int .i64 0, .int .i64 0, .int .i64 0, .int .i64 0, .int .i64 0]) ?_ 4 _ rfl; (with_reducible repeat (first | refine blk_drewN ?_ _ | refine blk_drew ?_ | refine blk_alloc ?_ _)); refine blk_put (cs := #[.int .i64 0, .int .i64 0, .int .i64 0, .int .i64 0, .int .i64 0, .int .i64 0, .int .i64 0, .int .i64 0, .int .i64 0, .int .i64 0, .int .i64 0, .int .i64 0]) ?_ 3 _ rfl; (with_reducible repeat (first | refine blk_drewN ?_ _ | refine blk_drew ?_ | refine blk_alloc ?_ _)); refine blk_put (cs := #[.int .i64 0, .int .i64 0, .int .i64 0, .int .i64 0, .int .i64 0, .int .i64 0, .int .i64 0, .int .i64 0, .int .i64 0, .int .i64 0, .int .i64 0, .int .i64 0]) ?_ 2 _ rfl; (with_reducible repeat (first | refine blk_drewN ?_ _ | refine blk_drew ?_ | refine blk_alloc ?_ _)); refine blk_put (cs := #[.int .i64 0, .int .i64 0, .int .i64 0, .int .i64 0, .int .i64 0, .int .i64 0, .int .i64 0, .int .i64 0, .int .i64 0, .int .i64 0, .int .i64 0, .int .i64 0]) ?_ 1 _ rfl; (with_reducible repeat (first | refine blk_drewN ?_ _ | refine blk_drew ?_ | refine blk_alloc ?_ _)); refine blk_put (cs := #[.int .i64 0, .int .i64 0, .int .i64 0, .int .i64 0, .int .i64 0, .int .i64 0, .int .i64 0, .int .i64 0, .int .i64 0, .int .i64 0, .int .i64 0, .int .i64 0]) ?_ 0 _ rfl; (with_reducible repeat (first | refine blk_drewN ?_ _ | refine blk_drew ?_ | refine blk_alloc ?_ _)); exact BK116.out) Try.underlying37 rfl (by kernel_rfl)) rfl ?_
          exact ⟨by first | rfl | (simp [errW_none, errW_some] <;> rfl) | (simp [*, errW_none, errW_some] <;> rfl), by repeat (first | (with_reducible first | exact HB.out | apply below_alloc | apply pw_below_drewN | apply below_drew1 | refine below_set ?_ GE116.out))⟩
        · rw [if_neg c16] at H
          have c16b0 : decide (1048576 < (wrap64 (a0 * a1))) = false := decide_eq_false c16
          clear c16
          replace H := Option.bind_eq_some_iff.mp H
          obtain ⟨t119, A180, H⟩ := H
          replace H : ((skerryref05_blocksFor.f kj4 a1 (wrap64 (8 * a0))).bind fun t120 => ((skerryref05_blocksFor.f kj4 a2 (wrap64 (Int.tdiv a0 32))).bind fun t121 => (if (wrap64 ((wrap64 ((wrap64 ((wrap64 (2 + a3)) + t119)) + t120)) + t121)) ≥ a1 then (some (0, 0, 0, 0, 0, 0, 0, 0, 0, 0, 0, 0, 6)) else (some (a0, a1, a2, a3, 2, wrap64 (2 + a3), t119, wrap64 ((wrap64 (2 + a3)) + t119), t120, wrap64 ((wrap64 ((wrap64 (2 + a3)) + t119)) + t120), t121, wrap64 ((wrap64 ((wrap64 ((wrap64 (2 + a3)) + t119)) + t120)) + t121), 0))))) = some (r1, r2, r3, r4, r5, r6, r7, r8, r9, r10, r11, r12, r13) := H
          have A18 := Aside0.mk A180
          clear A180
          replace H := Option.bind_eq_some_iff.mp H
          obtain ⟨t120, A190, H⟩ := H
          replace H : ((skerryref05_blocksFor.f kj4 a2 (wrap64 (Int.tdiv a0 32))).bind fun t121 => (if (wrap64 ((wrap64 ((wrap64 ((wrap64 (2 + a3)) + t119)) + t120)) + t121)) ≥ a1 then (some (0, 0, 0, 0, 0, 0, 0, 0, 0, 0, 0, 0, 6)) else (some (a0, a1, a2, a3, 2, wrap64 (2 + a3), t119, wrap64 ((wrap64 (2 + a3)) + t119), t120, wrap64 ((wrap64 ((wrap64 (2 + a3)) + t119)) + t120), t121, wrap64 ((wrap64 ((wrap64 ((wrap64 (2 + a3)) + t119)) + t120)) + t121), 0)))) = some (r1, r2, r3, r4, r5, r6, r7, r8, r9, r10, r11, r12, r13) := H
          have A19 := Aside0.mk A190
          clear A190
          replace H := Option.bind_eq_some_iff.mp H
          obtain ⟨t121, A200, H⟩ := H
          replace H : (if (wrap64 ((wrap64 ((wrap64 ((wrap64 (2 + a3)) + t119)) + t120)) + t121)) ≥ a1 then (some (0, 0, 0, 0, 0, 0, 0, 0, 0, 0, 0, 0, 6)) else (some (a0, a1, a2, a3, 2, wrap64 (2 + a3), t119, wrap64 ((wrap64 (2 + a3)) + t119), t120, wrap64 ((wrap64 ((wrap64 (2 + a3)) + t119)) + t120), t121, wrap64 ((wrap64 ((wrap64 ((wrap64 (2 + a3)) + t119)) + t120)) + t121), 0))) = some (r1, r2, r3, r4, r5, r6, r7, r8, r9, r10, r11, r12, r13) := H
          have A20 := Aside0.mk A200
          clear A200
          have HL := Aside0.mk H
          clear H
          go_upto_region 6 with (first | ((with_reducible refine gate_dst (N := 10) rfl ?_); refine box_event ?hg (N := 10) ?hd (cs := #[.int .i64 0, .int .i64 0, .int .i64 0, .int .i64 0, .int .i64 0, .int .i64 0, .int .i64 0, .int .i64 0, .int .i64 0, .int .i64 0, .int .i64 0, .int .i64 0]) (t := 37) ?hr ?_; (case hd => rfl); (case hg => rfl); (case hr => first | (go_simp; done) | (go_simp; rfl)); intro gb118 hg w22 hbox hb; have n0_ := Aside0.mk (blk_below (g := gb116) (o := .cells #[.int .i64 0, .int .i64 0, .int .i64 0, .int .i64 0, .int .i64 0, .int .i64 0, .int .i64 0, .int .i64 0, .int .i64 0, .int .i64 0, .int .i64 0, .int .i64 0] 37 (0, 0)) (by (with_reducible repeat (first | refine blk_drewN ?_ _ | refine blk_drew ?_ | refine blk_alloc ?_ _)); exact BK116.out) hb); have n1_ := Aside0.mk (below_step (by repeat (first | (with_reducible first | exact HB.out | apply below_alloc | apply pw_below_drewN | apply below_drew1 | refine below_set ?_ GE116.out))) hb); have n2_ := Aside0.mk (hbox); have n3_ := Aside0.mk ((by rw [hg]; exact (below_size (by repeat (first | (with_reducible first | exact HB.out | apply below_alloc | apply pw_below_drewN | apply below_drew1 | refine below_set ?_ GE116.out)))) : w.heap.size ≤ gb118)); have n4_ := Aside0.mk ((by rw [hg]; exact (below_size (by repeat (first | (with_reducible first | exact HB.out | apply below_alloc | apply pw_below_drewN | apply below_drew1 | refine below_set ?_ GE116.out)))) : w.heap.size ≤ gb118)); have n5_ := Aside0.mk ((by rw [hg]; exact Nat.ne_of_lt (blk_lt (g := gb116) (o := .cells #[.int .i64 0, .int .i64 0, .int .i64 0, .int .i64 0, .int .i64 0, .int .i64 0, .int .i64 0, .int .i64 0, .int .i64 0, .int .i64 0, .int .i64 0, .int .i64 0] 37 (0, 0)) (by (with_reducible repeat (first | refine blk_drewN ?_ _ | refine blk_drew ?_ | refine blk_alloc ?_ _)); exact BK116.out)) : gb116 ≠ gb118)); have n6_ := Aside0.mk ((by rw [hg]; exact Nat.ne_of_gt (blk_lt (g := gb116) (o := .cells #[.int .i64 0, .int .i64 0, .int .i64 0, .int .i64 0, .int .i64 0, .int .i64 0, .int .i64 0, .int .i64 0, .int .i64 0, .int .i64 0, .int .i64 0, .int .i64 0] 37 (0, 0)) (by (with_reducible repeat (first | refine blk_drewN ?_ _ | refine blk_drew ?_ | refine blk_alloc ?_ _)); exact BK116.out)) : gb118 ≠ gb116)); clear BK116; clear HB; have BK116 := n0_; have HB := n1_; have BK118 := n2_; have GW118 := n3_; have GE118 := n4_; have NB116_118 := n5_; have NB118_116 := n6_; clear n0_ n1_ n2_ n3_ n4_ n5_ n6_; clear hb hbox hg; have hnb23 := NB118_116.out; have hnc23 := NB116_118.out; have hcz24_0 : w22.cell? ⟨gb118, 0, none⟩ = some (.int .i64 0) := (blk_cell BK118.out 0).trans rfl; have hcz24_1 : w22.cell? ⟨gb118, 1, none⟩ = some (.int .i64 0) := (blk_cell BK118.out 1).trans rfl; have hcz24_2 : w22.cell? ⟨gb118, 2, none⟩ = some (.int .i64 0) := (blk_cell BK118.out 2).trans rfl; have hcz24_3 : w22.cell? ⟨gb118, 3, none⟩ = some (.int .i64 0) := (blk_cell BK118.out 3).trans rfl; have hcz24_4 : w22.cell? ⟨gb118, 4, none⟩ = some (.int .i64 0) := (blk_cell BK118.out 4).trans rfl; have hcz24_5 : w22.cell? ⟨gb118, 5, none⟩ = some (.int .i64 0) := (blk_cell BK118.out 5).trans rfl; have hcz24_6 : w22.cell? ⟨gb118, 6, none⟩ = some (.int .i64 0) := (blk_cell BK118.out 6).trans rfl; have hcz24_7 : w22.cell? ⟨gb118, 7, none⟩ = some (.int .i64 0) := (blk_cell BK118.out 7).trans rfl; have hcz24_8 : w22.cell? ⟨gb118, 8, none⟩ = some (.int .i64 0) := (blk_cell BK118.out 8).trans rfl; have hcz24_9 : w22.cell? ⟨gb118, 9, none⟩ = some (.int .i64 0) := (blk_cell BK118.out 9).trans rfl; have hcz24_10 : w22.cell? ⟨gb118, 10, none⟩ = some (.int .i64 0) := (blk_cell BK118.out 10).trans rfl; have hcz24_11 : w22.cell? ⟨gb118, 11, none⟩ = some (.int .i64 0) := (blk_cell BK118.out 11).trans rfl; have hfz24_0 := blk_frozen BK118.out 0; have hfz24_1 := blk_frozen BK118.out 1; have hfz24_2 := blk_frozen BK118.out 2; have hfz24_3 := blk_frozen BK118.out 3; have hfz24_4 := blk_frozen BK118.out 4; have hfz24_5 := blk_frozen BK118.out 5; have hfz24_6 := blk_frozen BK118.out 6; have hfz24_7 := blk_frozen BK118.out 7; have hfz24_8 := blk_frozen BK118.out 8; have hfz24_9 := blk_frozen BK118.out 9; have hfz24_10 := blk_frozen BK118.out 10; have hfz24_11 := blk_frozen BK118.out 11))
          refine skerryref05_Make.carry_ (fun W => W.heap[gb116]? = some (.cells #[.int .i64 0, .int .i64 0, .int .i64 0, .int .i64 0, .int .i64 0, .int .i64 0, .int .i64 0, .int .i64 0, .int .i64 0, .int .i64 0, .int .i64 0, .int .i64 0] 37 (0, 0)) ∧ W.heap[gb118]? = some (.cells #[.int .i64 a0, .int .i64 a1, .int .i64 a2, .int .i64 a3, .int .i64 2, .int .i64 0, .int .i64 0, .int .i64 0, .int .i64 0, .int .i64 0, .int .i64 0, .int .i64 0] 37 (0, 0)) ∧ Below w.heap.size w W) ?_ (fun W hW => ?_)
          · refine ⟨?_, ?_, ?_⟩
            · repeat (first | (with_reducible exact BK116.out) | (with_reducible refine blk_drewN ?_ _) | (with_reducible refine blk_drew ?_) | (with_reducible refine blk_alloc ?_ _) | refine blk_far ?_ NB116_118.out _)
            · (with_reducible repeat (first | refine blk_drewN ?_ _ | refine blk_drew ?_ | refine blk_alloc ?_ _)); refine blk_put (cs := #[.int .i64 a0, .int .i64 a1, .int .i64 a2, .int .i64 a3, .int .i64 2, .int .i64 0, .int .i64 0, .int .i64 0, .int .i64 0, .int .i64 0, .int .i64 0, .int .i64 0]) ?_ 11 _ rfl; (with_reducible repeat (first | refine blk_drewN ?_ _ | refine blk_drew ?_ | refine blk_alloc ?_ _)); refine blk_put (cs := #[.int .i64 a0, .int .i64 a1, .int .i64 a2, .int .i64 a3, .int .i64 2, .int .i64 0, .int .i64 0, .int .i64 0, .int .i64 0, .int .i64 0, .int .i64 0, .int .i64 0]) ?_ 10 _ rfl; (with_reducible repeat (first | refine blk_drewN ?_ _ | refine blk_drew ?_ | refine blk_alloc ?_ _)); refine blk_put (cs := #[.int .i64 a0, .int .i64 a1, .int .i64 a2, .int .i64 a3, .int .i64 2, .int .i64 0, .int .i64 0, .int .i64 0, .int .i64 0, .int .i64 0, .int .i64 0, .int .i64 0]) ?_ 9 _ rfl; (with_reducible repeat (first | refine blk_drewN ?_ _ | refine blk_drew ?_ | refine blk_alloc ?_ _)); refine blk_put (cs := #[.int .i64 a0, .int .i64 a1, .int .i64 a2, .int .i64 a3, .int .i64 2, .int .i64 0, .int .i64 0, .int .i64 0, .int .i64 0, .int .i64 0, .int .i64 0, .int .i64 0]) ?_ 8 _ rfl; (with_reducible repeat (first | refine blk_drewN ?_ _ | refine blk_drew ?_ | refine blk_alloc ?_ _)); refine blk_put (cs := #[.int .i64 a0, .int .i64 a1, .int .i64 a2, .int .i64 a3, .int .i64 2, .int .i64 0, .int .i64 0, .int .i64 0, .int .i64 0, .int .i64 0, .int .i64 0, .int .i64 0]) ?_ 7 _ rfl; (with_reducible repeat (first | refine blk_drewN ?_ _ | refine blk_drew ?_ | refine blk_alloc ?_ _)); refine blk_put (cs := #[.int .i64 a0, .int .i64 a1, .int .i64 a2, .int .i64 a3, .int .i64 2, .int .i64 0, .int .i64 0, .int .i64 0, .int .i64 0, .int .i64 0, .int .i64 0, .int .i64 0]) ?_ 6 _ rfl; (with_reducible repeat (first | refine blk_drewN ?_ _ | refine blk_drew ?_ | refine blk_alloc ?_ _)); refine blk_put (cs := #[.int .i64 a0, .int .i64 a1, .int .i64 a2, .int .i64 a3, .int .i64 2, .int .i64 0, .int .i64 0, .int .i64 0, .int .i64 0, .int .i64 0, .int .i64 0, .int .i64 0]) ?_ 5 _ rfl; (with_reducible repeat (first | refine blk_drewN ?_ _ | refine blk_drew ?_ | refine blk_alloc ?_ _)); refine blk_put (cs := #[.int .i64 a0, .int .i64 a1, .int .i64 a2, .int .i64 a3, .int .i64 0, .int .i64 0, .int .i64 0, .int .i64 0, .int .i64 0, .int .i64 0, .int .i64 0, .int .i64 0]) ?_ 4 _ rfl; (with_reducible repeat (first | refine blk_drewN ?_ _ | refine blk_drew ?_ | refine blk_alloc ?_ _)); refine blk_put (cs := #[.int .i64 a0, .int .i64 a1, .int .i64 a2, .int .i64 0, .int .i64 0, .int .i64 0, .int .i64 0, .int .i64 0, .int .i64 0, .int .i64 0, .int .i64 0, .int .i64 0]) ?_ 3 _ rfl; (with_reducible repeat (first | refine blk_drewN ?_ _ | refine blk_drew ?_ | refine blk_alloc ?_ _)); refine blk_put (cs := #[.int .i64 a0, .int .i64 a1, .int .i64 0, .int .i64 0, .int .i64 0, .int .i64 0, .int .i64 0, .int .i64 0, .int .i64 0, .int .i64 0, .int .i64 0, .int .i64 0]) ?_ 2 _ rfl; (with_reducible repeat (first | refine blk_drewN ?_ _ | refine blk_drew ?_ | refine blk_alloc ?_ _)); refine blk_put (cs := #[.int .i64 a0, .int .i64 0, .int .i64 0, .int .i64 0, .int .i64 0, .int .i64 0, .int .i64 0, .int .i64 0, .int .i64 0, .int .i64 0, .int .i64 0, .int .i64 0]) ?_ 1 _ rfl; (with_reducible repeat (first | refine blk_drewN ?_ _ | refine blk_drew ?_ | refine blk_alloc ?_ _)); refine blk_put (cs := #[.int .i64 0, .int .i64 0, .int .i64 0, .int .i64 0, .int .i64 0, .int .i64 0, .int .i64 0, .int .i64 0, .int .i64 0, .int .i64 0, .int .i64 0, .int .i64 0]) ?_ 0 _ rfl; (with_reducible repeat (first | refine blk_drewN ?_ _ | refine blk_drew ?_ | refine blk_alloc ?_ _)); with_reducible exact BK118.out
            · exact (by with_reducible (repeat (first | exact HB.out | apply below_alloc | apply pw_below_drewN | apply below_drew1 | refine below_set ?_ GE116.out | refine below_set ?_ GE118.out)))
          clear BK116 BK118 HB
          have BK116 := Aside0.mk hW.1
          have BK118 := Aside0.mk hW.2.1
          have HB := Aside0.mk hW.2.2
          clear hW
          clear hcz24_0 hcz24_1 hcz24_2 hcz24_3 hcz24_4 hcz24_5 hcz24_6 hcz24_7 hcz24_8 hcz24_9 hcz24_10 hcz24_11 hfz24_0 hfz24_1 hfz24_2 hfz24_3 hfz24_4 hfz24_5 hfz24_6 hfz24_7 hfz24_8 hfz24_9 hfz24_10 hfz24_11
          have hka_4 : W.cell? ⟨gb118, 4, none⟩ = some (.int .i64 2) := (blk_cell BK118.out 4).trans rfl
          have hza_4 := blk_frozen BK118.out 4
          have hka_5 : W.cell? ⟨gb118, 5, none⟩ = some (.int .i64 0) := (blk_cell BK118.out 5).trans rfl
          have hza_5 := blk_frozen BK118.out 5
          have hka_6 : W.cell? ⟨gb118, 6, none⟩ = some (.int .i64 0) := (blk_cell BK118.out 6).trans rfl
          have hza_6 := blk_frozen BK118.out 6
          go_upto_region 8 with (first | ((with_reducible refine gate_callee (f := 56) rfl ?_); refine goesL_ (some 57) rfl rfl Try.func56 (by kernel_rfl) rfl #[.int .i64 a2, .int .i64 (wrap64 (8 * a0))] rfl (by (try simp only [List.map_toArray, List.map_cons, List.map_nil]); first | done | rfl | (simp only [List.length_drop, List.length_take]; rfl) | (simp only [Int.toNat_natCast, Nat.sub_self, List.length_drop, List.length_take]; rfl)) ?_; (with_reducible refine (skerryref05_blocksFor.calls kj4 a2 (wrap64 (8 * a0)) t119 _ A18.out).mono ?_); rintro e w' ⟨rfl, ⟨nd, rfl⟩⟩; refine ⟨_, rfl, ?_⟩))
          refine skerryref05_Make.carry_ (fun W => W.heap[gb116]? = some (.cells #[.int .i64 0, .int .i64 0, .int .i64 0, .int .i64 0, .int .i64 0, .int .i64 0, .int .i64 0, .int .i64 0, .int .i64 0, .int .i64 0, .int .i64 0, .int .i64 0] 37 (0, 0)) ∧ W.heap[gb118]? = some (.cells #[.int .i64 a0, .int .i64 a1, .int .i64 a2, .int .i64 a3, .int .i64 2, .int .i64 (wrap64 (2 + a3)), .int .i64 t119, .int .i64 0, .int .i64 0, .int .i64 0, .int .i64 0, .int .i64 0] 37 (0, 0)) ∧ Below w.heap.size w W) ?_ (fun W hW => ?_)
          · refine ⟨?_, ?_, ?_⟩
            · repeat (first | (with_reducible exact BK116.out) | (with_reducible refine blk_drewN ?_ _) | (with_reducible refine blk_drew ?_) | (with_reducible refine blk_alloc ?_ _) | refine blk_far ?_ NB116_118.out _)
            · (with_reducible repeat (first | refine blk_drewN ?_ _ | refine blk_drew ?_ | refine blk_alloc ?_ _)); refine blk_put (cs := #[.int .i64 a0, .int .i64 a1, .int .i64 a2, .int .i64 a3, .int .i64 2, .int .i64 (wrap64 (2 + a3)), .int .i64 0, .int .i64 0, .int .i64 0, .int .i64 0, .int .i64 0, .int .i64 0]) ?_ 6 _ rfl; (with_reducible repeat (first | refine blk_drewN ?_ _ | refine blk_drew ?_ | refine blk_alloc ?_ _)); refine blk_put (cs := #[.int .i64 a0, .int .i64 a1, .int .i64 a2, .int .i64 a3, .int .i64 2, .int .i64 0, .int .i64 0, .int .i64 0, .int .i64 0, .int .i64 0, .int .i64 0, .int .i64 0]) ?_ 5 _ rfl; (with_reducible repeat (first | refine blk_drewN ?_ _ | refine blk_drew ?_ | refine blk_alloc ?_ _)); with_reducible exact BK118.out
            · exact (by with_reducible (repeat (first | exact HB.out | apply below_alloc | apply pw_below_drewN | apply below_drew1 | refine below_set ?_ GE116.out | refine below_set ?_ GE118.out)))
          clear BK116 BK118 HB
          have BK116 := Aside0.mk hW.1
          have BK118 := Aside0.mk hW.2.1
          have HB := Aside0.mk hW.2.2
          clear hW
          clear hka_4 hza_4 hka_5 hza_5 hka_6 hza_6
          have hkb_5 : W.cell? ⟨gb118, 5, none⟩ = some (.int .i64 (wrap64 (2 + a3))) := (blk_cell BK118.out 5).trans rfl
          have hzb_5 := blk_frozen BK118.out 5
          have hkb_6 : W.cell? ⟨gb118, 6, none⟩ = some (.int .i64 t119) := (blk_cell BK118.out 6).trans rfl
          have hzb_6 := blk_frozen BK118.out 6
          have hkb_7 : W.cell? ⟨gb118, 7, none⟩ = some (.int .i64 0) := (blk_cell BK118.out 7).trans rfl
          have hzb_7 := blk_frozen BK118.out 7
          have hkb_8 : W.cell? ⟨gb118, 8, none⟩ = some (.int .i64 0) := (blk_cell BK118.out 8).trans rfl
          have hzb_8 := blk_frozen BK118.out 8
          go_upto_region 10 with (first | ((with_reducible refine gate_callee (f := 56) rfl ?_); refine goesL_ (some 68) rfl rfl Try.func56 (by kernel_rfl) rfl #[.int .i64 a1, .int .i64 (wrap64 (8 * a0))] rfl (by (try simp only [List.map_toArray, List.map_cons, List.map_nil]); first | done | rfl | (simp only [List.length_drop, List.length_take]; rfl) | (simp only [Int.toNat_natCast, Nat.sub_self, List.length_drop, List.length_take]; rfl)) ?_; (with_reducible refine (skerryref05_blocksFor.calls kj4 a1 (wrap64 (8 * a0)) t120 _ A19.out).mono ?_); rintro e w' ⟨rfl, ⟨nd, rfl⟩⟩; refine ⟨_, rfl, ?_⟩))
          refine skerryref05_Make.carry_ (fun W => W.heap[gb116]? = some (.cells #[.int .i64 0, .int .i64 0, .int .i64 0, .int .i64 0, .int .i64 0, .int .i64 0, .int .i64 0, .int .i64 0, .int .i64 0, .int .i64 0, .int .i64 0, .int .i64 0] 37 (0, 0)) ∧ W.heap[gb118]? = some (.cells #[.int .i64 a0, .int .i64 a1, .int .i64 a2, .int .i64 a3, .int .i64 2, .int .i64 (wrap64 (2 + a3)), .int .i64 t119, .int .i64 (wrap64 ((wrap64 (2 + a3)) + t119)), .int .i64 t120, .int .i64 0, .int .i64 0, .int .i64 0] 37 (0, 0)) ∧ Below w.heap.size w W) ?_ (fun W hW => ?_)
          · refine ⟨?_, ?_, ?_⟩
            · repeat (first | (with_reducible exact BK116.out) | (with_reducible refine blk_drewN ?_ _) | (with_reducible refine blk_drew ?_) | (with_reducible refine blk_alloc ?_ _) | refine blk_far ?_ NB116_118.out _)
            · (with_reducible repeat (first | refine blk_drewN ?_ _ | refine blk_drew ?_ | refine blk_alloc ?_ _)); refine blk_put (cs := #[.int .i64 a0, .int .i64 a1, .int .i64 a2, .int .i64 a3, .int .i64 2, .int .i64 (wrap64 (2 + a3)), .int .i64 t119, .int .i64 (wrap64 ((wrap64 (2 + a3)) + t119)), .int .i64 0, .int .i64 0, .int .i64 0, .int .i64 0]) ?_ 8 _ rfl; (with_reducible repeat (first | refine blk_drewN ?_ _ | refine blk_drew ?_ | refine blk_alloc ?_ _)); refine blk_put (cs := #[.int .i64 a0, .int .i64 a1, .int .i64 a2, .int .i64 a3, .int .i64 2, .int .i64 (wrap64 (2 + a3)), .int .i64 t119, .int .i64 0, .int .i64 0, .int .i64 0, .int .i64 0, .int .i64 0]) ?_ 7 _ rfl; (with_reducible repeat (first | refine blk_drewN ?_ _ | refine blk_drew ?_ | refine blk_alloc ?_ _)); with_reducible exact BK118.out
            · exact (by with_reducible (repeat (first | exact HB.out | apply below_alloc | apply pw_below_drewN | apply below_drew1 | refine below_set ?_ GE116.out | refine below_set ?_ GE118.out)))
          clear BK116 BK118 HB
          have BK116 := Aside0.mk hW.1
          have BK118 := Aside0.mk hW.2.1
          have HB := Aside0.mk hW.2.2
          clear hW
          clear hkb_5 hzb_5 hkb_6 hzb_6 hkb_7 hzb_7 hkb_8 hzb_8
          have hkc_7 : W.cell? ⟨gb118, 7, none⟩ = some (.int .i64 (wrap64 ((wrap64 (2 + a3)) + t119))) := (blk_cell BK118.out 7).trans rfl
          have hzc_7 := blk_frozen BK118.out 7
          have hkc_8 : W.cell? ⟨gb118, 8, none⟩ = some (.int .i64 t120) := (blk_cell BK118.out 8).trans rfl
          have hzc_8 := blk_frozen BK118.out 8
          have hkc_9 : W.cell? ⟨gb118, 9, none⟩ = some (.int .i64 0) := (blk_cell BK118.out 9).trans rfl
          have hzc_9 := blk_frozen BK118.out 9
          have hkc_10 : W.cell? ⟨gb118, 10, none⟩ = some (.int .i64 0) := (blk_cell BK118.out 10).trans rfl
          have hzc_10 := blk_frozen BK118.out 10
          go_upto_region 12 with (first | ((with_reducible refine gate_callee (f := 56) rfl ?_); refine goesL_ (some 79) rfl rfl Try.func56 (by kernel_rfl) rfl #[.int .i64 a2, .int .i64 (wrap64 (Int.tdiv a0 32))] rfl (by (try simp only [List.map_toArray, List.map_cons, List.map_nil]); first | done | rfl | (simp only [List.length_drop, List.length_take]; rfl) | (simp only [Int.toNat_natCast, Nat.sub_self, List.length_drop, List.length_take]; rfl)) ?_; (with_reducible refine (skerryref05_blocksFor.calls kj4 a2 (wrap64 (Int.tdiv a0 32)) t121 _ A20.out).mono ?_); rintro e w' ⟨rfl, ⟨nd, rfl⟩⟩; refine ⟨_, rfl, ?_⟩))
          refine skerryref05_Make.carry_ (fun W => W.heap[gb116]? = some (.cells #[.int .i64 0, .int .i64 0, .int .i64 0, .int .i64 0, .int .i64 0, .int .i64 0, .int .i64 0, .int .i64 0, .int .i64 0, .int .i64 0, .int .i64 0, .int .i64 0] 37 (0, 0)) ∧ W.heap[gb118]? = some (.cells #[.int .i64 a0, .int .i64 a1, .int .i64 a2, .int .i64 a3, .int .i64 2, .int .i64 (wrap64 (2 + a3)), .int .i64 t119, .int .i64 (wrap64 ((wrap64 (2 + a3)) + t119)), .int .i64 t120, .int .i64 (wrap64 ((wrap64 ((wrap64 (2 + a3)) + t119)) + t120)), .int .i64 t121, .int .i64 0] 37 (0, 0)) ∧ Below w.heap.size w W) ?_ (fun W hW => ?_)
          · refine ⟨?_, ?_, ?_⟩
            · repeat (first | (with_reducible exact BK116.out) | (with_reducible refine blk_drewN ?_ _) | (with_reducible refine blk_drew ?_) | (with_reducible refine blk_alloc ?_ _) | refine blk_far ?_ NB116_118.out _)
            · (with_reducible repeat (first | refine blk_drewN ?_ _ | refine blk_drew ?_ | refine blk_alloc ?_ _)); refine blk_put (cs := #[.int .i64 a0, .int .i64 a1, .int .i64 a2, .int .i64 a3, .int .i64 2, .int .i64 (wrap64 (2 + a3)), .int .i64 t119, .int .i64 (wrap64 ((wrap64 (2 + a3)) + t119)), .int .i64 t120, .int .i64 (wrap64 ((wrap64 ((wrap64 (2 + a3)) + t119)) + t120)), .int .i64 0, .int .i64 0]) ?_ 10 _ rfl; (with_reducible repeat (first | refine blk_drewN ?_ _ | refine blk_drew ?_ | refine blk_alloc ?_ _)); refine blk_put (cs := #[.int .i64 a0, .int .i64 a1, .int .i64 a2, .int .i64 a3, .int .i64 2, .int .i64 (wrap64 (2 + a3)), .int .i64 t119, .int .i64 (wrap64 ((wrap64 (2 + a3)) + t119)), .int .i64 t120, .int .i64 0, .int .i64 0, .int .i64 0]) ?_ 9 _ rfl; (with_reducible repeat (first | refine blk_drewN ?_ _ | refine blk_drew ?_ | refine blk_alloc ?_ _)); with_reducible exact BK118.out
            · exact (by with_reducible (repeat (first | exact HB.out | apply below_alloc | apply pw_below_drewN | apply below_drew1 | refine below_set ?_ GE116.out | refine below_set ?_ GE118.out)))
          clear BK116 BK118 HB
          have BK116 := Aside0.mk hW.1
          have BK118 := Aside0.mk hW.2.1
          have HB := Aside0.mk hW.2.2
          clear hW
          clear hkc_7 hzc_7 hkc_8 hzc_8 hkc_9 hzc_9 hkc_10 hzc_10
          have hkd_9 : W.cell? ⟨gb118, 9, none⟩ = some (.int .i64 (wrap64 ((wrap64 ((wrap64 (2 + a3)) + t119)) + t120))) := (blk_cell BK118.out 9).trans rfl
          have hzd_9 := blk_frozen BK118.out 9
          have hkd_10 : W.cell? ⟨gb118, 10, none⟩ = some (.int .i64 t121) := (blk_cell BK118.out 10).trans rfl
          have hzd_10 := blk_frozen BK118.out 10
          have hkd_11 : W.cell? ⟨gb118, 11, none⟩ = some (.int .i64 0) := (blk_cell BK118.out 11).trans rfl
          have hzd_11 := blk_frozen BK118.out 11
          go_upto_region 13 with (fail)
          refine skerryref05_Make.carry_ (fun W => W.heap[gb116]? = some (.cells #[.int .i64 0, .int .i64 0, .int .i64 0, .int .i64 0, .int .i64 0, .int .i64 0, .int .i64 0, .int .i64 0, .int .i64 0, .int .i64 0, .int .i64 0, .int .i64 0] 37 (0, 0)) ∧ W.heap[gb118]? = some (.cells #[.int .i64 a0, .int .i64 a1, .int .i64 a2, .int .i64 a3, .int .i64 2, .int .i64 (wrap64 (2 + a3)), .int .i64 t119, .int .i64 (wrap64 ((wrap64 (2 + a3)) + t119)), .int .i64 t120, .int .i64 (wrap64 ((wrap64 ((wrap64 (2 + a3)) + t119)) + t120)), .int .i64 t121, .int .i64 (wrap64 ((wrap64 ((wrap64 ((wrap64 (2 + a3)) + t119)) + t120)) + t121))] 37 (0, 0)) ∧ Below w.heap.size w W) ?_ (fun W hW => ?_)
          · refine ⟨?_, ?_, ?_⟩
            · repeat (first | (with_reducible exact BK116.out) | (with_reducible refine blk_drewN ?_ _) | (with_reducible refine blk_drew ?_) | (with_reducible refine blk_alloc ?_ _) | refine blk_far ?_ NB116_118.out _)
            · (with_reducible repeat (first | refine blk_drewN ?_ _ | refine blk_drew ?_ | refine blk_alloc ?_ _)); refine blk_put (cs := #[.int .i64 a0, .int .i64 a1, .int .i64 a2, .int .i64 a3, .int .i64 2, .int .i64 (wrap64 (2 + a3)), .int .i64 t119, .int .i64 (wrap64 ((wrap64 (2 + a3)) + t119)), .int .i64 t120, .int .i64 (wrap64 ((wrap64 ((wrap64 (2 + a3)) + t119)) + t120)), .int .i64 t121, .int .i64 0]) ?_ 11 _ rfl; (with_reducible repeat (first | refine blk_drewN ?_ _ | refine blk_drew ?_ | refine blk_alloc ?_ _)); with_reducible exact BK118.out
            · exact (by with_reducible (repeat (first | exact HB.out | apply below_alloc | apply pw_below_drewN | apply below_drew1 | refine below_set ?_ GE116.out | refine below_set ?_ GE118.out)))
          clear BK116 BK118 HB
          have BK116 := Aside0.mk hW.1
          have BK118 := Aside0.mk hW.2.1
          have HB := Aside0.mk hW.2.2
          clear hW
          clear hkd_9 hzd_9 hkd_10 hzd_10 hkd_11 hzd_11
          have H := HL.out
          clear HL
          by_cases c21 : (wrap64 ((wrap64 ((wrap64 ((wrap64 (2 + a3)) + t119)) + t120)) + t121)) ≥ a1
          · rw [if_pos c21] at H
            have c21b0 : decide (a1 ≤ (wrap64 ((wrap64 ((wrap64 ((wrap64 (2 + a3)) + t119)) + t120)) + t121))) = true := decide_eq_true c21
            clear c21
            simp only [Option.some.injEq, Prod.mk.injEq] at H
            obtain ⟨rfl, rfl, rfl, rfl, rfl, rfl, rfl, rfl, rfl, rfl, rfl, rfl, rfl⟩ := H
            have hke_11 : W.cell? ⟨gb118, 11, none⟩ = some (.int .i64 (wrap64 ((wrap64 ((wrap64 ((wrap64 (2 + a3)) + t119)) + t120)) + t121))) := (blk_cell BK118.out 11).trans rfl
            have hze_11 := blk_frozen BK118.out 11
            have hkf_0 : W.cell? ⟨gb116, 0, none⟩ = some (.int .i64 0) := (blk_cell BK116.out 0).trans rfl
            have hzf_0 := blk_frozen BK116.out 0
            have hkf_1 : W.cell? ⟨gb116, 1, none⟩ = some (.int .i64 0) := (blk_cell BK116.out 1).trans rfl
            have hzf_1 := blk_frozen BK116.out 1
            have hkf_2 : W.cell? ⟨gb116, 2, none⟩ = some (.int .i64 0) := (blk_cell BK116.out 2).trans rfl
            have hzf_2 := blk_frozen BK116.out 2
            have hkf_3 : W.cell? ⟨gb116, 3, none⟩ = some (.int .i64 0) := (blk_cell BK116.out 3).trans rfl
            have hzf_3 := blk_frozen BK116.out 3
            have hkf_4 : W.cell? ⟨gb116, 4, none⟩ = some (.int .i64 0) := (blk_cell BK116.out 4).trans rfl
            have hzf_4 := blk_frozen BK116.out 4
            have hkf_5 : W.cell? ⟨gb116, 5, none⟩ = some (.int .i64 0) := (blk_cell BK116.out 5).trans rfl
            have hzf_5 := blk_frozen BK116.out 5
            have hkf_6 : W.cell? ⟨gb116, 6, none⟩ = some (.int .i64 0) := (blk_cell BK116.out 6).trans rfl
            have hzf_6 := blk_frozen BK116.out 6
            have hkf_7 : W.cell? ⟨gb116, 7, none⟩ = some (.int .i64 0) := (blk_cell BK116.out 7).trans rfl
            have hzf_7 := blk_frozen BK116.out 7
            have hkf_8 : W.cell? ⟨gb116, 8, none⟩ = some (.int .i64 0) := (blk_cell BK116.out 8).trans rfl
            have hzf_8 := blk_frozen BK116.out 8
            have hkf_9 : W.cell? ⟨gb116, 9, none⟩ = some (.int .i64 0) := (blk_cell BK116.out 9).trans rfl
            have hzf_9 := blk_frozen BK116.out 9
            have hkf_10 : W.cell? ⟨gb116, 10, none⟩ = some (.int .i64 0) := (blk_cell BK116.out 10).trans rfl
            have hzf_10 := blk_frozen BK116.out 10
            have hkf_11 : W.cell? ⟨gb116, 11, none⟩ = some (.int .i64 0) := (blk_cell BK116.out 11).trans rfl
            have hzf_11 := blk_frozen BK116.out 11
            go_wp2
            refine bodyPost_ret (results_ct rfl _ _ gb116 37 #[.int .i64 0, .int .i64 0, .int .i64 0, .int .i64 0, .int .i64 0, .int .i64 0, .int .i64 0, .int .i64 0, .int .i64 0, .int .i64 0, .int .i64 0, .int .i64 0] (0, 0) _ rfl (by (with_reducible repeat (first | refine blk_drewN ?_ _ | refine blk_drew ?_ | refine blk_alloc ?_ _)); refine blk_put (cs := #[.int .i64 0, .int .i64 0, .int .i64 0, .int .i64 0, .int .i64 0, .int .i64 0, .int .i64 0, .int .i64 0, .int .i64 0, .int .i64 0, .int .i64 0, .int .i64 0]) ?_ 11 _ rfl; (with_reducible repeat (first | refine blk_drewN ?_ _ | refine blk_drew ?_ | refine blk_alloc ?_ _)); refine blk_put (cs := #[.int .i64 0, .int .i64 0, .int .i64 0, .int .i64 0, .int .i64 0, .int .i64 0, .int .i64 0, .int .i64 0, .int .i64 0, .int .i64 0, .int .i64 0, .int .i64 0]) ?_ 10 _ rfl; (with_reducible repeat (first | refine blk_drewN ?_ _ | refine blk_drew ?_ | refine blk_alloc ?_ _)); refine blk_put (cs := #[.int .i64 0, .int .i64 0, .int .i64 0, .int .i64 0, .int .i64 0, .int .i64 0, .int .i64 0, .int .i64 0, .int .i64 0, .int .i64 0, .int .i64 0, .int .i64 0]) ?_ 9 _ rfl; (with_reducible repeat (first | refine blk_drewN ?_ _ | refine blk_drew ?_ | refine blk_alloc ?_ _)); refine blk_put (cs := #[.int .i64 0, .int .i64 0, .int .i64 0, .int .i64 0, .int .i64 0, .int .i64 0, .int .i64 0, .int .i64 0, .int .i64 0, .int .i64 0, .int .i64 0, .int .i64 0]) ?_ 8 _ rfl; (with_reducible repeat (first | refine blk_drewN ?_ _ | refine blk_drew ?_ | refine blk_alloc ?_ _)); refine blk_put (cs := #[.int .i64 0, .int .i64 0, .int .i64 0, .int .i64 0, .int .i64 0, .int .i64 0, .int .i64 0, .int .i64 0, .int .i64 0, .int .i64 0, .int .i64 0, .int .i64 0]) ?_ 7 _ rfl; (with_reducible repeat (first | refine blk_drewN ?_ _ | refine blk_drew ?_ | refine blk_alloc ?_ _)); refine blk_put (cs := #[.int .i64 0, .int .i64 0, .int .i64 0, .int .i64 0, .int .i64 0, .int .i64 0, .int .i64 0, .int .i64 0, .int .i64 0, .int .i64 0, .int .i64 0, .int .i64 0]) ?_ 6 _ rfl; (with_reducible repeat (first | refine blk_drewN ?_ _ | refine blk_drew ?_ | refine blk_alloc ?_ _)); refine blk_put (cs := #[.int .i64 0, .int .i64 0, .int .i64 0, .int .i64 0, .int .i64 0, .int .i64 0, .int .i64 0, .int .i64 0, .int .i64 0, .int .i64 0, .int .i64 0, .int .i64 0]) ?_ 5 _ rfl; (with_reducible repeat (first | refine blk_drewN ?_ _ | refine blk_drew ?_ | refine blk_alloc ?_ _)); refine blk_put (cs := #[.int .i64 0, .int .i64 0, .int .i64 0, .int .i64 0, .int .i64 0, .int .i64 0, .int .i64 0, .int .i64 0, .int .i64 0, .int .i64 0, .int .i64 0, .int .i64 0]) ?_ 4 _ rfl; (with_reducible repeat (first | refine blk_drewN ?_ _ | refine blk_drew ?_ | refine blk_alloc ?_ _)); refine blk_put (cs := #[.int .i64 0, .int .i64 0, .int .i64 0, .int .i64 0, .int .i64 0, .int .i64 0, .int .i64 0, .int .i64 0, .int .i64 0, .int .i64 0, .int .i64 0, .int .i64 0]) ?_ 3 _ rfl; (with_reducible repeat (first | refine blk_drewN ?_ _ | refine blk_drew ?_ | refine blk_alloc ?_ _)); refine blk_put (cs := #[.int .i64 0, .int .i64 0, .int .i64 0, .int .i64 0, .int .i64 0, .int .i64 0, .int .i64 0, .int .i64 0, .int .i64 0, .int .i64 0, .int .i64 0, .int .i64 0]) ?_ 2 _ rfl; (with_reducible repeat (first | refine blk_drewN ?_ _ | refine blk_drew ?_ | refine blk_alloc ?_ _)); refine blk_put (cs := #[.int .i64 0, .int .i64 0, .int .i64 0, .int .i64 0, .int .i64 0, .int .i64 0, .int .i64 0, .int .i64 0, .int .i64 0, .int .i64 0, .int .i64 0, .int .i64 0]) ?_ 1 _ rfl; (with_reducible repeat (first | refine blk_drewN ?_ _ | refine blk_drew ?_ | refine blk_alloc ?_ _)); refine blk_put (cs := #[.int .i64 0, .int .i64 0, .int .i64 0, .int .i64 0, .int .i64 0, .int .i64 0, .int .i64 0, .int .i64 0, .int .i64 0, .int .i64 0, .int .i64 0, .int .i64 0]) ?_ 0 _ rfl; repeat (first | (with_reducible exact BK116.out) | (with_reducible refine blk_drewN ?_ _) | (with_reducible refine blk_drew ?_) | refine blk_far ?_ NB116_118.out _)) Try.underlying37 rfl (by kernel_rfl)) rfl ?_
            exact ⟨rfl, (by with_reducible (repeat (first | exact HB.out | apply below_alloc | apply pw_below_drewN | apply below_drew1 | refine below_set ?_ GE116.out | refine below_set ?_ GE118.out)))⟩
          · rw [if_neg c21] at H
            have c21b0 : decide (a1 ≤ (wrap64 ((wrap64 ((wrap64 ((wrap64 (2 + a3)) + t119)) + t120)) + t121))) = false := decide_eq_false c21
            clear c21
            simp only [Option.some.injEq, Prod.mk.injEq] at H
            obtain ⟨rfl, rfl, rfl, rfl, rfl, rfl, rfl, rfl, rfl, rfl, rfl, rfl, rfl⟩ := H
            have hke_0 : W.cell? ⟨gb118, 0, none⟩ = some (.int .i64 a0) := (blk_cell BK118.out 0).trans rfl
            have hze_0 := blk_frozen BK118.out 0
            have hke_1 : W.cell? ⟨gb118, 1, none⟩ = some (.int .i64 a1) := (blk_cell BK118.out 1).trans rfl
            have hze_1 := blk_frozen BK118.out 1
            have hke_2 : W.cell? ⟨gb118, 2, none⟩ = some (.int .i64 a2) := (blk_cell BK118.out 2).trans rfl
            have hze_2 := blk_frozen BK118.out 2
            have hke_3 : W.cell? ⟨gb118, 3, none⟩ = some (.int .i64 a3) := (blk_cell BK118.out 3).trans rfl
            have hze_3 := blk_frozen BK118.out 3
            have hke_4 : W.cell? ⟨gb118, 4, none⟩ = some (.int .i64 2) := (blk_cell BK118.out 4).trans rfl
            have hze_4 := blk_frozen BK118.out 4
            have hke_5 : W.cell? ⟨gb118, 5, none⟩ = some (.int .i64 (wrap64 (2 + a3))) := (blk_cell BK118.out 5).trans rfl
            have hze_5 := blk_frozen BK118.out 5
            have hke_6 : W.cell? ⟨gb118, 6, none⟩ = some (.int .i64 t119) := (blk_cell BK118.out 6).trans rfl
            have hze_6 := blk_frozen BK118.out 6
            have hke_7 : W.cell? ⟨gb118, 7, none⟩ = some (.int .i64 (wrap64 ((wrap64 (2 + a3)) + t119))) := (blk_cell BK118.out 7).trans rfl
            have hze_7 := blk_frozen BK118.out 7
            have hke_8 : W.cell? ⟨gb118, 8, none⟩ = some (.int .i64 t120) := (blk_cell BK118.out 8).trans rfl
            have hze_8 := blk_frozen BK118.out 8
            have hke_9 : W.cell? ⟨gb118, 9, none⟩ = some (.int .i64 (wrap64 ((wrap64 ((wrap64 (2 + a3)) + t119)) + t120))) := (blk_cell BK118.out 9).trans rfl
            have hze_9 := blk_frozen BK118.out 9
            have hke_10 : W.cell? ⟨gb118, 10, none⟩ = some (.int .i64 t121) := (blk_cell BK118.out 10).trans rfl
            have hze_10 := blk_frozen BK118.out 10
            have hke_11 : W.cell? ⟨gb118, 11, none⟩ = some (.int .i64 (wrap64 ((wrap64 ((wrap64 ((wrap64 (2 + a3)) + t119)) + t120)) + t121))) := (blk_cell BK118.out 11).trans rfl
            have hze_11 := blk_frozen BK118.out 11
            have hkf_0 : W.cell? ⟨gb116, 0, none⟩ = some (.int .i64 0) := (blk_cell BK116.out 0).trans rfl
            have hzf_0 := blk_frozen BK116.out 0
            have hkf_1 : W.cell? ⟨gb116, 1, none⟩ = some (.int .i64 0) := (blk_cell BK116.out 1).trans rfl
            have hzf_1 := blk_frozen BK116.out 1
            have hkf_2 : W.cell? ⟨gb116, 2, none⟩ = some (.int .i64 0) := (blk_cell BK116.out 2).trans rfl
            have hzf_2 := blk_frozen BK116.out 2
            have hkf_3 : W.cell? ⟨gb116, 3, none⟩ = some (.int .i64 0) := (blk_cell BK116.out 3).trans rfl
            have hzf_3 := blk_frozen BK116.out 3
            have hkf_4 : W.cell? ⟨gb116, 4, none⟩ = some (.int .i64 0) := (blk_cell BK116.out 4).trans rfl
            have hzf_4 := blk_frozen BK116.out 4
            have hkf_5 : W.cell? ⟨gb116, 5, none⟩ = some (.int .i64 0) := (blk_cell BK116.out 5).trans rfl
            have hzf_5 := blk_frozen BK116.out 5
            have hkf_6 : W.cell? ⟨gb116, 6, none⟩ = some (.int .i64 0) := (blk_cell BK116.out 6).trans rfl
            have hzf_6 := blk_frozen BK116.out 6
            have hkf_7 : W.cell? ⟨gb116, 7, none⟩ = some (.int .i64 0) := (blk_cell BK116.out 7).trans rfl
            have hzf_7 := blk_frozen BK116.out 7
            have hkf_8 : W.cell? ⟨gb116, 8, none⟩ = some (.int .i64 0) := (blk_cell BK116.out 8).trans rfl
            have hzf_8 := blk_frozen BK116.out 8
            have hkf_9 : W.cell? ⟨gb116, 9, none⟩ = some (.int .i64 0) := (blk_cell BK116.out 9).trans rfl
            have hzf_9 := blk_frozen BK116.out 9
            have hkf_10 : W.cell? ⟨gb116, 10, none⟩ = some (.int .i64 0) := (blk_cell BK116.out 10).trans rfl
            have hzf_10 := blk_frozen BK116.out 10
            have hkf_11 : W.cell? ⟨gb116, 11, none⟩ = some (.int .i64 0) := (blk_cell BK116.out 11).trans rfl
            have hzf_11 := blk_frozen BK116.out 11
            go_wp2
            refine bodyPost_ret (results_ct rfl _ _ gb116 37 #[.int .i64 a0, .int .i64 a1, .int .i64 a2, .int .i64 a3, .int .i64 2, .int .i64 (wrap64 (2 + a3)), .int .i64 t119, .int .i64 (wrap64 ((wrap64 (2 + a3)) + t119)), .int .i64 t120, .int .i64 (wrap64 ((wrap64 ((wrap64 (2 + a3)) + t119)) + t120)), .int .i64 t121, .int .i64 (wrap64 ((wrap64 ((wrap64 ((wrap64 (2 + a3)) + t119)) + t120)) + t121))] (0, 0) _ rfl (by (with_reducible repeat (first | refine blk_drewN ?_ _ | refine blk_drew ?_ | refine blk_alloc ?_ _)); refine blk_put (cs := #[.int .i64 a0, .int .i64 a1, .int .i64 a2, .int .i64 a3, .int .i64 2, .int .i64 (wrap64 (2 + a3)), .int .i64 t119, .int .i64 (wrap64 ((wrap64 (2 + a3)) + t119)), .int .i64 t120, .int .i64 (wrap64 ((wrap64 ((wrap64 (2 + a3)) + t119)) + t120)), .int .i64 t121, .int .i64 0]) ?_ 11 _ rfl; (with_reducible repeat (first | refine blk_drewN ?_ _ | refine blk_drew ?_ | refine blk_alloc ?_ _)); refine blk_put (cs := #[.int .i64 a0, .int .i64 a1, .int .i64 a2, .int .i64 a3, .int .i64 2, .int .i64 (wrap64 (2 + a3)), .int .i64 t119, .int .i64 (wrap64 ((wrap64 (2 + a3)) + t119)), .int .i64 t120, .int .i64 (wrap64 ((wrap64 ((wrap64 (2 + a3)) + t119)) + t120)), .int .i64 0, .int .i64 0]) ?_ 10 _ rfl; (with_reducible repeat (first | refine blk_drewN ?_ _ | refine blk_drew ?_ | refine blk_alloc ?_ _)); refine blk_put (cs := #[.int .i64 a0, .int .i64 a1, .int .i64 a2, .int .i64 a3, .int .i64 2, .int .i64 (wrap64 (2 + a3)), .int .i64 t119, .int .i64 (wrap64 ((wrap64 (2 + a3)) + t119)), .int .i64 t120, .int .i64 0, .int .i64 0, .int .i64 0]) ?_ 9 _ rfl; (with_reducible repeat (first | refine blk_drewN ?_ _ | refine blk_drew ?_ | refine blk_alloc ?_ _)); refine blk_put (cs := #[.int .i64 a0, .int .i64 a1, .int .i64 a2, .int .i64 a3, .int .i64 2, .int .i64 (wrap64 (2 + a3)), .int .i64 t119, .int .i64 (wrap64 ((wrap64 (2 + a3)) + t119)), .int .i64 0, .int .i64 0, .int .i64 0, .int .i64 0]) ?_ 8 _ rfl; (with_reducible repeat (first | refine blk_drewN ?_ _ | refine blk_drew ?_ | refine blk_alloc ?_ _)); refine blk_put (cs := #[.int .i64 a0, .int .i64 a1, .int .i64 a2, .int .i64 a3, .int .i64 2, .int .i64 (wrap64 (2 + a3)), .int .i64 t119, .int .i64 0, .int .i64 0, .int .i64 0, .int .i64 0, .int .i64 0]) ?_ 7 _ rfl; (with_reducible repeat (first | refine blk_drewN ?_ _ | refine blk_drew ?_ | refine blk_alloc ?_ _)); refine blk_put (cs := #[.int .i64 a0, .int .i64 a1, .int .i64 a2, .int .i64 a3, .int .i64 2, .int .i64 (wrap64 (2 + a3)), .int .i64 0, .int .i64 0, .int .i64 0, .int .i64 0, .int .i64 0, .int .i64 0]) ?_ 6 _ rfl; (with_reducible repeat (first | refine blk_drewN ?_ _ | refine blk_drew ?_ | refine blk_alloc ?_ _)); refine blk_put (cs := #[.int .i64 a0, .int .i64 a1, .int .i64 a2, .int .i64 a3, .int .i64 2, .int .i64 0, .int .i64 0, .int .i64 0, .int .i64 0, .int .i64 0, .int .i64 0, .int .i64 0]) ?_ 5 _ rfl; (with_reducible repeat (first | refine blk_drewN ?_ _ | refine blk_drew ?_ | refine blk_alloc ?_ _)); refine blk_put (cs := #[.int .i64 a0, .int .i64 a1, .int .i64 a2, .int .i64 a3, .int .i64 0, .int .i64 0, .int .i64 0, .int .i64 0, .int .i64 0, .int .i64 0, .int .i64 0, .int .i64 0]) ?_ 4 _ rfl; (with_reducible repeat (first | refine blk_drewN ?_ _ | refine blk_drew ?_ | refine blk_alloc ?_ _)); refine blk_put (cs := #[.int .i64 a0, .int .i64 a1, .int .i64 a2, .int .i64 0, .int .i64 0, .int .i64 0, .int .i64 0, .int .i64 0, .int .i64 0, .int .i64 0, .int .i64 0, .int .i64 0]) ?_ 3 _ rfl; (with_reducible repeat (first | refine blk_drewN ?_ _ | refine blk_drew ?_ | refine blk_alloc ?_ _)); refine blk_put (cs := #[.int .i64 a0, .int .i64 a1, .int .i64 0, .int .i64 0, .int .i64 0, .int .i64 0, .int .i64 0, .int .i64 0, .int .i64 0, .int .i64 0, .int .i64 0, .int .i64 0]) ?_ 2 _ rfl; (with_reducible repeat (first | refine blk_drewN ?_ _ | refine blk_drew ?_ | refine blk_alloc ?_ _)); refine blk_put (cs := #[.int .i64 a0, .int .i64 0, .int .i64 0, .int .i64 0, .int .i64 0, .int .i64 0, .int .i64 0, .int .i64 0, .int .i64 0, .int .i64 0, .int .i64 0, .int .i64 0]) ?_ 1 _ rfl; (with_reducible repeat (first | refine blk_drewN ?_ _ | refine blk_drew ?_ | refine blk_alloc ?_ _)); refine blk_put (cs := #[.int .i64 0, .int .i64 0, .int .i64 0, .int .i64 0, .int .i64 0, .int .i64 0, .int .i64 0, .int .i64 0, .int .i64 0, .int .i64 0, .int .i64 0, .int .i64 0]) ?_ 0 _ rfl; repeat (first | (with_reducible exact BK116.out) | (with_reducible refine blk_drewN ?_ _) | (with_reducible refine blk_drew ?_) | refine blk_far ?_ NB116_118.out _)) Try.underlying37 rfl (by kernel_rfl)) rfl ?_
            exact ⟨rfl, (by with_reducible (repeat (first | exact HB.out | apply below_alloc | apply pw_below_drewN | apply below_drew1 | refine below_set ?_ GE116.out | refine below_set ?_ GE118.out)))⟩

end Go.Proofs.Ytbplffdmggbcdaa.PCodecHeads
