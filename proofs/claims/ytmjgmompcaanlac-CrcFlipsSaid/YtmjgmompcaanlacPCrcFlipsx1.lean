-- Written by this session's own tool (prn.py) over the kit's printer; its templates are the session's own. Lean checks it.
import Derived.Test.YtmjgmompcaanlacPCrcFlipsx0
namespace Go.Proofs.Ytmjgmompcaanlac.PCrcFlips
open Go.RowKit Go.Proofs.YtmjgmompcaanlacW.PrintWords Go.Proofs.YtmjgmompcaanlacW.PrintLast Go.Proofs.YtmjgmompcaanlacW.PrintMore
attribute [local go_sem] max2_int min2_int max_two min_two max_three min_three max_four min_four   -- for this text's walks alone
set_option linter.unusedVariables false
set_option linter.unusedSimpArgs false

/-! ### crc_nibbles: function 30 -/
/-- What four steps make of each of sixteen beginnings. -/
def crc_nibbles.T (i : Nat) : Int := ((Plain.cs4 i : Nat) : Int)
set_option maxRecDepth 100000 in
theorem crc_nibbles.calls (w : World) : Calls Try.prog 30 #[] w fun e w' => e = .returned (.agg #[.int .u32 (crc_nibbles.T 0), .int .u32 (crc_nibbles.T 1), .int .u32 (crc_nibbles.T 2), .int .u32 (crc_nibbles.T 3), .int .u32 (crc_nibbles.T 4), .int .u32 (crc_nibbles.T 5), .int .u32 (crc_nibbles.T 6), .int .u32 (crc_nibbles.T 7), .int .u32 (crc_nibbles.T 8), .int .u32 (crc_nibbles.T 9), .int .u32 (crc_nibbles.T 10), .int .u32 (crc_nibbles.T 11), .int .u32 (crc_nibbles.T 12), .int .u32 (crc_nibbles.T 13), .int .u32 (crc_nibbles.T 14), .int .u32 (crc_nibbles.T 15)]) ∧ Below w.heap.size w w' := by
  have ht : #[Value.int .u32 0, .int .u32 498536548, .int .u32 997073096,
              .int .u32 651767980, .int .u32 1994146192, .int .u32 1802195444,
              .int .u32 1303535960, .int .u32 1342533948, .int .u32 3988292384,
              .int .u32 4027552580, .int .u32 3604390888, .int .u32 3412177804,
              .int .u32 2607071920, .int .u32 2262029012, .int .u32 2685067896,
              .int .u32 3183342108] = #[.int .u32 (crc_nibbles.T 0), .int .u32 (crc_nibbles.T 1), .int .u32 (crc_nibbles.T 2), .int .u32 (crc_nibbles.T 3), .int .u32 (crc_nibbles.T 4), .int .u32 (crc_nibbles.T 5), .int .u32 (crc_nibbles.T 6), .int .u32 (crc_nibbles.T 7), .int .u32 (crc_nibbles.T 8), .int .u32 (crc_nibbles.T 9), .int .u32 (crc_nibbles.T 10), .int .u32 (crc_nibbles.T 11), .int .u32 (crc_nibbles.T 12), .int .u32 (crc_nibbles.T 13), .int .u32 (crc_nibbles.T 14), .int .u32 (crc_nibbles.T 15)] := by kernel_rfl
  have HT := Aside0.mk ht
  clear ht
  go_enter Try.func30, Try.ntmps30
  go_wp2
  refine bodyPost_ret (v := .agg #[.int .u32 (crc_nibbles.T 0), .int .u32 (crc_nibbles.T 1), .int .u32 (crc_nibbles.T 2), .int .u32 (crc_nibbles.T 3), .int .u32 (crc_nibbles.T 4), .int .u32 (crc_nibbles.T 5), .int .u32 (crc_nibbles.T 6), .int .u32 (crc_nibbles.T 7), .int .u32 (crc_nibbles.T 8), .int .u32 (crc_nibbles.T 9), .int .u32 (crc_nibbles.T 10), .int .u32 (crc_nibbles.T 11), .int .u32 (crc_nibbles.T 12), .int .u32 (crc_nibbles.T 13), .int .u32 (crc_nibbles.T 14), .int .u32 (crc_nibbles.T 15)]) ?_ rfl ⟨rfl, (Below.refl _ _).alloc (Nat.le_refl _) _⟩
  rw [← HT.out]
  simp [results, Try.results30, go_sem]

/-! ### crc_roll: function 22 -/
def crc_roll.f (a0 : Int) (l1 : List Int) : Option Int := if 0 ≤ a0 ∧ a0 < 4294967296 then (if Plain.Bytes l1 then some (Plain.crc a0 l1) else none) else none
def crc_roll.cells : Array Value := #[.int .u32 (crc_nibbles.T 0), .int .u32 (crc_nibbles.T 1), .int .u32 (crc_nibbles.T 2), .int .u32 (crc_nibbles.T 3), .int .u32 (crc_nibbles.T 4), .int .u32 (crc_nibbles.T 5), .int .u32 (crc_nibbles.T 6), .int .u32 (crc_nibbles.T 7), .int .u32 (crc_nibbles.T 8), .int .u32 (crc_nibbles.T 9), .int .u32 (crc_nibbles.T 10), .int .u32 (crc_nibbles.T 11), .int .u32 (crc_nibbles.T 12), .int .u32 (crc_nibbles.T 13), .int .u32 (crc_nibbles.T 14), .int .u32 (crc_nibbles.T 15)]
theorem crc_roll.row : ∀ m : Nat, m < 16 → crc_roll.cells[m]? = some (.int .u32 (crc_nibbles.T m))
  | 0, _ => rfl
  | 1, _ => rfl
  | 2, _ => rfl
  | 3, _ => rfl
  | 4, _ => rfl
  | 5, _ => rfl
  | 6, _ => rfl
  | 7, _ => rfl
  | 8, _ => rfl
  | 9, _ => rfl
  | 10, _ => rfl
  | 11, _ => rfl
  | 12, _ => rfl
  | 13, _ => rfl
  | 14, _ => rfl
  | 15, _ => rfl
  | n + 16, h => by omega
theorem crc_roll.cell (w1 : World) (t : TypeId) (m : Nat) (hm : m < 16) : (w1.alloc (.cells crc_roll.cells t)).cell? ⟨w1.heap.size, m, none⟩ = some (.int .u32 (crc_nibbles.T m)) := by
  rw [blk_cell (heap_alloc_new w1 (.cells crc_roll.cells t)) m]
  exact crc_roll.row m hm
/-- Half a byte: the table's number and the rest of the sum. -/
theorem crc_roll.half {c : Int} (h0 : 0 ≤ c) (h1 : c < 4294967296) : Go.bits .xor .u32 (crc_nibbles.T (c % 16).toNat) (c / 16) = ((Plain.cs4 c.toNat : Nat) : Int) := by
  have hl : Plain.cs4 (c % 16).toNat < 4294967296 := Plain.cs4_lt (by omega)
  rw [Plain.xor_u32 (by unfold crc_nibbles.T; omega) (by unfold crc_nibbles.T; omega) (by omega) (by omega)]
  unfold crc_nibbles.T
  rw [Plain.cs4_table c.toNat, show (c % 16).toNat = c.toNat % 16 by omega, show (c / 16).toNat = c.toNat / 16 by omega, Int.toNat_natCast]
theorem crc_roll.rd_byte {l : List Int} (h : Plain.Bytes l) (i : Int) : 0 ≤ rd l i ∧ rd l i < 256 := h.rd i
theorem crc_roll.craw_snoc (c : Nat) (l : List Int) (k : Nat) (h : k < l.length) : Plain.craw c (Plain.nat (l.take (k + 1))) = Plain.cstep (Plain.craw c (Plain.nat (l.take k))) (rd l k).toNat := by
  rw [List.take_succ_eq_append_getElem h, Plain.nat_append, Plain.craw_append, Plain.rd_get (by simpa using h)]
  rfl
theorem crc_roll.ret {a b : Int} (h : a = b) : Ending.returned (.int .u32 a) = .returned (.int .u32 b) := by rw [h]
set_option maxRecDepth 100000 in
set_option maxHeartbeats 4000000 in
theorem crc_roll.calls (a0 : Int) (A1 : Option Addr) (c1 : Nat) (l1 : List Int) (r : Int) (w : World) (hr1 : Kd.C (Kd.int .u8) w A1 l1.length l1) (hc1 : l1.length ≤ c1) (h : crc_roll.f a0 l1 = some r) :
    Calls Try.prog 22 #[.int .u32 a0, .slice A1 l1.length c1] w fun e w' => e = .returned (.int .u32 r) ∧ Below w.heap.size w w' := by
  unfold crc_roll.f at h
  by_cases h0 : 0 ≤ a0 ∧ a0 < 4294967296
  · by_cases hb : Plain.Bytes l1
    · rw [if_pos h0, if_pos hb] at h
      obtain rfl := Option.some.inj h
      obtain ⟨h00, h01⟩ := h0
      clear h
      have HB := Aside0.mk hb
      have HR := Aside0.mk hr1
      have hlen : l1.length ≤ 9223372036854775807 := by have := hr1.2.1; omega
      obtain ⟨cc, hcc⟩ : ∃ cc : Int, Go.bits .xor .u32 IntKind.u32.max a0 = cc := ⟨_, rfl⟩
      have hcv : cc = ((a0.toNat ^^^ 4294967295 : Nat) : Int) := by
        rw [← hcc, show IntKind.u32.max = 4294967295 from rfl, Plain.xor_u32 (by omega) (by omega) h00 h01, Nat.xor_comm]
        rfl
      have hcl : a0.toNat ^^^ 4294967295 < 4294967296 := Nat.xor_lt_two_pow (n := 32) (by omega) (by omega)
      have HCV := Aside0.mk hcv
      have cc0 : 0 ≤ cc := by omega
      have cc1 : cc < 4294967296 := by omega
      have HCL := Aside0.mk hcl
      clear hb hr1 hc1 hcv hcl
      go_enter Try.func22, Try.ntmps22
      go_wp2_with (go_at_call 30; (with_reducible refine (crc_nibbles.calls _).mono ?_); rintro e w1 ⟨rfl, hb1⟩)
      have hcell : ∀ m : Nat, m < 16 → (w1.alloc (.cells crc_roll.cells 47)).cell? ⟨w1.heap.size, m, none⟩ = some (.int .u32 (crc_nibbles.T m)) := fun m hm => crc_roll.cell w1 _ m hm
      have HCELL := Aside0.mk hcell
      have HB1 := Aside0.mk hb1
      clear hcell hb1 hcc
      go_loop [0, 13] (fun v0 v13 => ∃ (k : Nat) (c : Int), k ≤ l1.length ∧ v13 = .int .i64 k ∧ v0 = .int .u32 c ∧ 0 ≤ c ∧ c < 4294967296 ∧ Aside0 (c = ((Plain.craw (a0.toNat ^^^ 4294967295) (Plain.nat (l1.take k)) : Nat) : Int))) (fun _ i => l1.length - (intOf i).toNat)
      case atStart => exact ⟨0, cc, Nat.zero_le _, rfl, rfl, cc0, cc1, ⟨HCV.out⟩⟩
      case round =>
        obtain ⟨k, c, hk, rfl, rfl, c0, c1', HC⟩ := hrel
        by_cases hlt : k < l1.length
        · obtain ⟨ad, e, hx⟩ := Kd.at_int HR.out (k : Int) (by omega) (by omega)
          cases e
          have hbW : Below w.heap.size w (w1.alloc (.cells crc_roll.cells 47)) := below_alloc HB1.out _
          replace hx := (hbW.cell (World.block_lt_of_cell? w _ hx)).trans hx
          simp only [Int.toNat_natCast] at hx
          have hxb := HB.out.rd (k : Int)
          have HN : Plain.craw (a0.toNat ^^^ 4294967295) (Plain.nat (l1.take (k + 1))) = Plain.cstep c.toNat (rd l1 (k : Int)).toNat := by
            rw [crc_roll.craw_snoc _ _ _ hlt]
            congr 1
            have := HC.out
            omega
          obtain ⟨x, hxx⟩ : ∃ x : Int, rd l1 (k : Int) = x := ⟨_, rfl⟩
          rw [hxx] at hx hxb HN
          obtain ⟨x0, x1⟩ := hxb
          obtain ⟨c2, e2⟩ : ∃ z : Int, Go.bits .xor .u32 c x = z := ⟨_, rfl⟩
          have v2 : c2 = ((c.toNat ^^^ x.toNat : Nat) : Int) := by rw [← e2]; exact Plain.xor_u32 c0 c1' (by omega) (by omega)
          have l2 : c.toNat ^^^ x.toNat < 4294967296 := Nat.xor_lt_two_pow (n := 32) (by omega) (by omega)
          have c20 : 0 ≤ c2 := by omega
          have c21 : c2 < 4294967296 := by omega
          obtain ⟨m2, f2⟩ : ∃ z : Int, Go.bits .and .u32 c2 15 = z := ⟨_, rfl⟩
          have g2 : m2 = c2 % 16 := by rw [← f2]; exact Plain.and15_u32 c20 c21
          have m20 : 0 ≤ m2 := by omega
          have m21 : m2 < 16 := by omega
          have y2 := HCELL.out m2.toNat (by omega)
          obtain ⟨t2, u2⟩ : ∃ z : Int, crc_nibbles.T m2.toNat = z := ⟨_, rfl⟩
          rw [u2] at y2
          obtain ⟨c3, e3⟩ : ∃ z : Int, Go.bits .xor .u32 t2 (c2 / 16) = z := ⟨_, rfl⟩
          have v3 : c3 = ((Plain.cs4 c2.toNat : Nat) : Int) := by rw [← e3, ← u2, g2]; exact crc_roll.half c20 c21
          have l3 : Plain.cs4 c2.toNat < 4294967296 := Plain.cs4_lt (by omega)
          have c30 : 0 ≤ c3 := by omega
          have c31 : c3 < 4294967296 := by omega
          obtain ⟨m3, f3⟩ : ∃ z : Int, Go.bits .and .u32 c3 15 = z := ⟨_, rfl⟩
          have g3 : m3 = c3 % 16 := by rw [← f3]; exact Plain.and15_u32 c30 c31
          have m30 : 0 ≤ m3 := by omega
          have m31 : m3 < 16 := by omega
          have y3 := HCELL.out m3.toNat (by omega)
          obtain ⟨t3, u3⟩ : ∃ z : Int, crc_nibbles.T m3.toNat = z := ⟨_, rfl⟩
          rw [u3] at y3
          obtain ⟨c4, e4⟩ : ∃ z : Int, Go.bits .xor .u32 t3 (c3 / 16) = z := ⟨_, rfl⟩
          have v4 : c4 = ((Plain.cs4 c3.toNat : Nat) : Int) := by rw [← e4, ← u3, g3]; exact crc_roll.half c30 c31
          have l4 : Plain.cs4 c3.toNat < 4294967296 := Plain.cs4_lt (by omega)
          have c40 : 0 ≤ c4 := by omega
          have c41 : c4 < 4294967296 := by omega
          have HF : Aside0 (c4 = ((Plain.craw (a0.toNat ^^^ 4294967295) (Plain.nat (l1.take (k + 1))) : Nat) : Int)) := ⟨by
            rw [HN, v4, v3, v2]
            unfold Plain.cstep Plain.cs8
            simp only [Int.toNat_natCast]⟩
          clear HN HC v2 v3 v4 l2 l3 l4 g2 g3 u2 u3 hxx hbW
          unfold crc_roll.cells at y2 y3 hx
          go_wp2
          go_round
          case rel => exact ⟨k + 1, c4, by omega, by go_num, rfl, c40, c41, HF⟩
          case measure => simp [intOf]; omega
        · have hk' : k = l1.length := by omega
          have HK := Aside0.mk hk'
          clear hk'
          obtain ⟨z, hz⟩ : ∃ z : Int, Go.bits .xor .u32 IntKind.u32.max c = z := ⟨_, rfl⟩
          have hv : Plain.crc a0 l1 = z := by
            have hl := Plain.craw_lt (c := a0.toNat ^^^ 4294967295) (Nat.xor_lt_two_pow (n := 32) (by omega) (by omega)) (Plain.nat_lt HB.out)
            have hc := HC.out
            rw [HK.out, List.take_length] at hc
            rw [← hz, show IntKind.u32.max = 4294967295 from rfl, Plain.xor_u32 (by omega) (by omega) c0 c1', hc]
            unfold Plain.crc Plain.csum
            rw [Int.toNat_natCast, Nat.xor_comm]
            rfl
          have HV := Aside0.mk hv
          clear hv HC
          go_wp2
          go_ret
          exact ⟨by rw [HV.out]; rfl, below_alloc HB1.out _⟩
    · rw [if_pos h0, if_neg hb] at h
      exact absurd h (by simp)
  · rw [if_neg h0] at h
    exact absurd h (by simp)

/-! ### crc_Sum: function 10 -/
def crc_Sum.f (l0 : List Int) : Option (Int) := (crc_roll.f 0 l0).bind fun t101 => (some (wrap64 (t101)))
set_option maxHeartbeats 8000000 in
set_option maxRecDepth 100000 in
theorem crc_Sum.calls (A0 : Option Addr) (c0 : Nat) (l0 : List Int) (r : Int) (w : World) (hr0 : Kd.C (Kd.int .u8) w A0 l0.length l0) (hc0 : l0.length ≤ c0) (h : crc_Sum.f l0 = some r) :
    Calls Try.prog 10 #[.slice A0 l0.length c0] w fun e w' => e = .returned (.int .i64 r) ∧ Below w.heap.size w w' := by
  have HR0 := Aside0.mk hr0
  have HC0 := Aside0.mk hc0
  clear hr0 hc0
  have HB := Aside0.mk (Below.refl w.heap.size w)
  have H : ((crc_roll.f 0 l0).bind fun t101 => (some (wrap64 (t101)))) = some r := h
  clear h
  replace H := Option.bind_eq_some_iff.mp H
  obtain ⟨t101, A20, H⟩ := H
  replace H : (some (wrap64 (t101))) = some r := H
  have A2 := Aside0.mk A20
  clear A20
  obtain rfl := Option.some.inj H
  go_enter Try.func10, Try.ntmps10
  go_wp2_with (first | ((with_reducible refine gate_callee (f := 22) rfl ?_); refine goesL_ (some 4) rfl rfl Try.func22 (by kernel_rfl) rfl #[.int .u32 0, .slice A0 l0.length c0] rfl (by (try simp only [List.map_toArray, List.map_cons, List.map_nil]); first | done | rfl | (simp only [List.length_drop, List.length_take]; rfl) | (simp only [Int.toNat_natCast, Nat.sub_self, List.length_drop, List.length_take]; rfl)) ?_; (with_reducible refine (crc_roll.calls 0 _ _ l0 t101 _ ?side1 ?side2 A2.out).mono ?_); (case side1 => repeat (first | exact HR0.out | (with_reducible refine Kd.C_alloc ?_ _) | (with_reducible refine Kd.C_drewN ?_ _) | (with_reducible refine Kd.C_drew ?_))); (case side2 => exact HC0.out); rintro e w3 ⟨rfl, hb⟩; refine ⟨_, rfl, ?_⟩; have n0_ := Aside0.mk (below_step (by repeat (first | (with_reducible first | exact HB.out | apply below_alloc | apply pw_below_drewN | apply below_drew1) | exact HB.out)) hb); clear HB; have HB := n0_; clear n0_; (try clear hb); (try clear hb2); (try clear hk); (try clear hi)))
  go_ret
  exact ⟨by first | rfl | (simp [errW_none, errW_some] <;> rfl) | (simp [*, errW_none, errW_some] <;> rfl), by repeat (first | (with_reducible first | exact HB.out | apply below_alloc | apply pw_below_drewN | apply below_drew1) | exact HB.out)⟩

/-! ### skerrylaw02_wakes: function 9 -/
def skerrylaw02_wakes.f : Option Bool := some true
set_option maxRecDepth 100000 in
theorem skerrylaw02_wakes.calls (r : Bool) (w : World) (h : skerrylaw02_wakes.f = some r) :
    Calls Try.prog 9 #[] w fun e w' => e = .returned (.bool r) ∧ Below w.heap.size w w' := by
  obtain rfl := Option.some.inj h
  have hs : crc_Sum.f [49, 50, 51, 52, 53, 54, 55, 56, 57] = some 3421780262 := by decide +kernel
  have hC : Kd.C (Kd.int .u8) (w.alloc (.cells #[.int .u8 49, .int .u8 50, .int .u8 51, .int .u8 52, .int .u8 53, .int .u8 54, .int .u8 55, .int .u8 56, .int .u8 57] 5 (9, 10))) (some ⟨w.heap.size, 0, none⟩) 9 [49, 50, 51, 52, 53, 54, 55, 56, 57] :=
    Mem.C_block (k := .u8) (xs := [49, 50, 51, 52, 53, 54, 55, 56, 57]) (extra := []) (t := 5) (fr := (9, 10)) (heap_alloc_new w _) (by decide)
  have HS := Aside0.mk hs
  have HC := Aside0.mk hC
  clear h hs hC
  have kc := fun (w : World) (C : Array Value) (n c : Nat) => Lib.run_convert_bytes_const (P := Try.prog) w 22 5 C n c Try.underlying22 Try.underlying5
  go_enter Try.func9, Try.ntmps9
  go_wp2_with (go_at_call 10; (refine (crc_Sum.calls _ 9 [49, 50, 51, 52, 53, 54, 55, 56, 57] 3421780262 _ HC.out (by decide) HS.out).mono ?_); rintro e w1 ⟨rfl, hb⟩)
  go_ret
  exact ⟨rfl, Below.trans (below_alloc (Below.refl _ _) _) (hb.mono (by simp))⟩

end Go.Proofs.Ytmjgmompcaanlac.PCrcFlips
