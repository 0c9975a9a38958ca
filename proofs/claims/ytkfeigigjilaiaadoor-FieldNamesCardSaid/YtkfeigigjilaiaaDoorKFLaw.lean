/- A text that is written is read again, no other byte has changed; a second one leaves nothing of the first: the law. -/
import Derived.Test.YtkfeigigjilaiaaDoorKFText
namespace Go.Proofs.YtkfeigigjilaiaaDoor.Field
open Go.RowKit Go.Proofs.YtkfeigigjilaiaaDoor.PFieldNames Go.Proofs.YtkfeigigjilaiaaDoor.Plain Go.Proofs.YtkfeigigjilaiaaDoorW.PrintWords Go.Proofs.YtkfeigigjilaiaaDoorW.PrintLast Go.Proofs.YtkfeigigjilaiaaDoorW.PrintMore
set_option linter.unusedVariables false
set_option linter.unusedSimpArgs false
theorem putT_length {l : List Int} {a n : Nat} {s : ByteArray} (h : a + n ≤ l.length) (hs : s.size ≤ n) : (putT l a n s).length = l.length := by
  unfold putT
  simp only [List.length_append, List.length_take, List.length_drop, List.length_replicate, nums8_length]
  omega
theorem putT_seg {l : List Int} {a n : Nat} {s : ByteArray} (h : a + n ≤ l.length) (hs : s.size ≤ n) : field_part.seg (putT l a n s) (a : Int) (n : Int) = nums8 s ++ List.replicate (n - s.size) 0 := by
  unfold field_part.seg putT
  have h1 : (l.take a).length = a := by rw [List.length_take]; omega
  have h2 : (nums8 s ++ List.replicate (n - s.size) 0).length = n := by rw [List.length_append, nums8_length, List.length_replicate]; omega
  have e : ((a : Int) + (n : Int)).toNat = a + n := by omega
  rw [e, Int.toNat_natCast, List.take_append, h1, List.take_of_length_le (l := l.take a) (by omega), show a + n - a = n by omega, List.drop_append, h1, List.drop_of_length_le (l := l.take a) (by omega), Nat.sub_self, List.nil_append, List.drop_zero, List.take_append_of_le_length (by omega), List.take_of_length_le (by omega)]
theorem first_zeros (l : List UInt8) (k : Nat) (h : first l = l.length) : first (l ++ List.replicate k 0) = l.length := by
  induction l with
  | nil =>
    cases k with
    | zero => rfl
    | succ k => simp [first, List.replicate_succ]
  | cons b l ih =>
    rw [first_cons] at h
    by_cases c : b = 0
    · rw [if_pos c] at h; simp at h
    · rw [if_neg c, List.length_cons] at h
      rw [List.cons_append, first_cons, if_neg c, ih (by omega), List.length_cons]
theorem text_back (s : ByteArray) (k : Nat) (h : first s.data.toList = s.size) : textOut (nums8 s ++ List.replicate k 0) = (s, 0) := by
  have hd : (strOfNums (nums8 s ++ List.replicate k 0)).data.toList = s.data.toList ++ List.replicate k 0 := by
    rw [strOfNums_data, List.map_append]
    congr 1
    · unfold nums8
      rw [List.map_map]
      conv => rhs; rw [← List.map_id s.data.toList]
      congr 1
      funext b
      simp
    · simp
  obtain ⟨S, hS⟩ : ∃ S, strOfNums (nums8 s ++ List.replicate k 0) = S := ⟨_, rfl⟩
  unfold textOut
  rw [hS] at hd ⊢
  have hf : first S.data.toList = s.size := by rw [hd, first_zeros _ _ (by rw [h, size_list]), size_list]
  have hsz : S.size = s.size + k := by rw [← size_list, hd, List.length_append, List.length_replicate, size_list]
  have ha : ahead S = s := by
    unfold ahead
    rw [hf, Lib.extract_upto, hd, ← size_list s, List.take_left]
  have hb : ∀ b ∈ (behind S).data.toList, b = 0 := by
    intro b hm
    unfold behind at hm
    rw [hf, hsz] at hm
    split at hm
    · simp at hm
    · rw [show s.size + k = S.size from hsz.symm, Lib.extract_from, hd] at hm
      have hm2 : b ∈ (s.data.toList ++ List.replicate k 0).drop (s.size + 1) := by simpa using hm
      rw [← size_list s, List.drop_append, List.drop_of_length_le (by omega), List.nil_append] at hm2
      exact List.eq_of_mem_replicate (List.mem_of_mem_drop hm2)
  rw [if_pos hb, ha]
theorem putT_twice {l : List Int} {a n : Nat} {s t : ByteArray} (h : a + n ≤ l.length) (hs : s.size ≤ n) : putT (putT l a n s) a n t = putT l a n t := by
  have h1 : (l.take a).length = a := by rw [List.length_take]; omega
  have h2 : (nums8 s ++ List.replicate (n - s.size) 0).length = n := by rw [List.length_append, nums8_length, List.length_replicate]; omega
  have e1 : (putT l a n s).take a = l.take a := by
    unfold putT
    rw [List.take_append_of_le_length (by omega), List.take_of_length_le (by omega)]
  have e2 : (putT l a n s).drop (a + n) = l.drop (a + n) := by
    unfold putT
    rw [List.drop_append, h1, List.drop_of_length_le (by omega), List.nil_append, show a + n - a = n by omega, List.drop_append, h2, List.drop_of_length_le (by omega), List.nil_append, Nat.sub_self, List.drop_zero]
  show (putT l a n s).take a ++ ((nums8 t ++ List.replicate (n - t.size) 0) ++ (putT l a n s).drop (a + n)) = _
  rw [e1, e2]
  rfl
theorem putOut_twice {l : List Int} {a n : Nat} {s t : ByteArray} (h : a + n ≤ l.length) (hs : s.size ≤ n) : putOut (putT l a n s) (a : Int) (n : Int) t = putOut l (a : Int) (n : Int) t := by
  have e : (field_part.Inside (putT l a n s) (a : Int) (n : Int)) = field_part.Inside l (a : Int) (n : Int) := by unfold field_part.Inside; rw [putT_length h hs]
  unfold putOut
  simp only [Int.toNat_natCast, putT_twice h hs, e]
theorem putT_other {l : List Int} {a n : Nat} {s : ByteArray} (h : a + n ≤ l.length) (hs : s.size ≤ n) (i : Int) (h0 : 0 ≤ i) (hc : i < (a : Int) ∨ (n : Int) ≤ i - (a : Int)) : rd (putT l a n s) i = rd l i := by
  obtain ⟨i, rfl⟩ := Int.eq_ofNat_of_zero_le h0
  have h1 : (l.take a).length = a := by rw [List.length_take]; omega
  have h2 : (nums8 s ++ List.replicate (n - s.size) 0).length = n := by rw [List.length_append, nums8_length, List.length_replicate]; omega
  unfold rd putT
  simp only [Int.toNat_natCast, List.getD_eq_getElem?_getD]
  congr 1
  by_cases c : i < a
  · rw [List.getElem?_append_left (by omega), List.getElem?_take, if_pos c]
  · rw [List.getElem?_append_right (by omega), h1, List.getElem?_append_right (by omega), h2, List.getElem?_drop]
    congr 1
    omega
set_option maxRecDepth 100000 in
set_option maxHeartbeats 4000000 in
theorem names_no (A0 : Option Addr) (c0 : Nat) (l : List Int) (a n er : Int) (s t : ByteArray) (w : World) (hr : Kd.C (Kd.int .u8) w A0 l.length l) (hc0 : l.length ≤ c0) (hl : l.length ≤ 140737488351232) (he : putOut l a n s = ([], er)) (hne : (er != 0) = true) :
    Calls Tryd.prog 3 #[.slice A0 l.length c0, .int .i64 a, .int .i64 n, .string s, .string t] w fun e w' => e = .returned (.bool true) ∧ Below w.heap.size w w' := by
  have hput := fun w hr => put_calls A0 c0 l a n s w hr hc0 hl
  rw [he] at hput
  have HW := Aside0.mk (skerrylaw01_wakes.calls true w (by decide +kernel))
  have HP := Aside0.mk hput
  have HR := Aside0.mk hr
  clear hput hr hc0 he
  go_enter Tryd.func3, Tryd.ntmps3
  go_wp2_with fail
  refine HW.out.mono ?_
  rintro e w1 ⟨rfl, hb1⟩
  have HB1 := Aside0.mk hb1
  have HR1 := Aside0.mk (Kd.C_below HR.out hb1)
  clear HW HR hb1
  go_wp2_with fail
  refine (HP.out _ HR1.out).mono ?_
  rintro e w2 ⟨v, rfl, ho, hb2⟩
  obtain ⟨A1, c1, rfl⟩ := Kd.R_slice ho
  have HB2 := Aside0.mk (below_step HB1.out hb2)
  clear HP HR1 ho hb2 HB1
  simp only [List.length_nil]
  go_wp2
  go_ret
  exact ⟨rfl, HB2.out⟩
set_option maxRecDepth 100000 in
set_option maxHeartbeats 8000000 in
theorem names_yes (A0 : Option Addr) (c0 : Nat) (l : List Int) (a n : Nat) (s t : ByteArray) (w : World) (hr : Kd.C (Kd.int .u8) w A0 l.length l) (hc0 : l.length ≤ c0) (hl : l.length ≤ 140737488351232) (h : a + n ≤ l.length) (hs : s.size ≤ n) (hz : first s.data.toList = s.size) :
    Calls Tryd.prog 3 #[.slice A0 l.length c0, .int .i64 (a : Int), .int .i64 (n : Int), .string s, .string t] w fun e w' => e = .returned (.bool true) ∧ Below w.heap.size w w' := by
  have hin : field_part.Inside l (a : Int) (n : Int) := ⟨by omega, by omega, by omega, by omega⟩
  have he : putOut l (a : Int) (n : Int) s = (putT l a n s, 0) := by unfold putOut; rw [if_neg (by omega), if_pos hin, if_neg (by omega), if_pos hz, Int.toNat_natCast, Int.toNat_natCast]
  have hput := fun w hr => put_calls A0 c0 l a n s w hr hc0 hl
  have hput2 := fun w hr => put_calls A0 c0 l a n t w hr hc0 hl
  rw [he] at hput
  have hlen := putT_length (l := l) (s := s) h hs
  have hoth := fun i h0 hc => putT_other (l := l) (s := s) h hs i h0 hc
  have hqin : field_part.Inside (putT l a n s) (a : Int) (n : Int) := ⟨by omega, by omega, by omega, by omega⟩
  have htext := fun A1 c1 w hr hc => text_ok A1 c1 (putT l a n s) a n w hr hc (by omega) hqin
  rw [putT_seg h hs, text_back s _ hz] at htext
  have hput3 := fun A1 c1 w hr hc => put_calls A1 c1 (putT l a n s) a n t w hr hc (by omega)
  rw [putOut_twice h hs] at hput3
  obtain ⟨q, hq⟩ : ∃ q, putT l a n s = q := ⟨_, rfl⟩
  rw [hq] at hput hlen htext hput3 hoth
  simp only [hlen] at hput3
  obtain ⟨⟨r, er⟩, hre⟩ : ∃ z, putOut l (a : Int) (n : Int) t = z := ⟨_, rfl⟩
  rw [hre] at hput2 hput3
  have HSB := Aside0.mk (fun A0 c0 A1 c1 w h0 h1 h2 h3 => skerryref01_SameBytes.calls A0 c0 r A1 c1 r true w h0 h1 h2 h3 (by unfold skerryref01_SameBytes.f; simp))
  have HW := Aside0.mk (skerrylaw01_wakes.calls true w (by decide +kernel))
  have HP := Aside0.mk hput
  have HP2 := Aside0.mk hput2
  have HP3 := Aside0.mk hput3
  have HT := Aside0.mk htext
  have HR := Aside0.mk hr
  have HL := Aside0.mk hlen
  have HO := Aside0.mk hoth
  have HC := Aside0.mk hc0
  clear hput hput2 hput3 htext hr hlen hc0 he hin hqin hq hre hs hz hoth
  go_enter Tryd.func3, Tryd.ntmps3
  go_wp2_with fail
  refine HW.out.mono ?_
  rintro e w1 ⟨rfl, hb1⟩
  have HB1 := Aside0.mk hb1
  have HR1 := Aside0.mk (Kd.C_below HR.out hb1)
  clear HW HR hb1
  go_wp2_with fail
  refine (HP.out _ HR1.out).mono ?_
  rintro e w2 ⟨v, rfl, ho, hb2⟩
  obtain ⟨A1, c1, rfl⟩ := Kd.R_slice ho
  obtain ⟨_, hc1, hq2⟩ := Kd.R_reads' ho
  have HB2 := Aside0.mk (below_step HB1.out hb2)
  have HR2 := Aside0.mk (Kd.C_below HR1.out hb2)
  have HQ2 := Aside0.mk hq2
  have HC1 := Aside0.mk hc1
  clear HP HR1 ho hb2 HB1 hc1 hq2
  have HTC := Aside0.mk (HT.out A1 c1 _ HQ2.out HC1.out)
  go_wp2_with fail
  refine HTC.out.mono ?_
  rintro e w3 ⟨rfl, nd, rfl⟩
  have HB3 := Aside0.mk (pw_below_drewN HB2.out nd)
  have HR3 := Aside0.mk (Kd.C_drewN HR2.out nd)
  have HQ3 := Aside0.mk (Kd.C_drewN HQ2.out nd)
  clear HTC HT HB2 HR2 HQ2
  obtain ⟨w4, hw4⟩ : ∃ w4, w2.drewN nd = w4 := ⟨_, rfl⟩
  rw [hw4] at HB3 HR3 HQ3 ⊢
  clear hw4
  have hlq := HL.out
  rw [hlq] at HQ3
  have HLQ := Aside0.mk hlq
  simp only [hlq]
  clear hlq
  go_wp2
  go_loopw [15] (fun v wr => ∃ i : Nat, i ≤ l.length ∧ v = .int .i64 (i : Int) ∧ ∃ nd, wr = w4.drewN nd) (fun v _ => l.length - (intOf v).toNat)
  case atStart => exact ⟨0, Nat.zero_le _, rfl, 0, rfl⟩
  case round =>
    obtain ⟨i, hi, rfl, nd, rfl⟩ := hrel
    by_cases hlt : i < l.length
    · have hxi := HO.out (i : Int) (by omega)
      obtain ⟨ad1, e1, hx1⟩ := Kd.at_int HQ3.out (i : Int) (by omega) (by omega)
      obtain ⟨ad2, e2, hx2⟩ := Kd.at_int HR3.out (i : Int) (by omega) (by omega)
      subst e1
      subst e2
      simp only [Int.toNat_natCast] at hx1 hx2
      have hsub : IntKind.i64.wrap ((i : Int) - (a : Int)) = (i : Int) - (a : Int) := by rw [IntKind.wrap_i64]; omega
      by_cases c1 : (i : Int) < (a : Int)
      · have hxe := hxi (.inl c1)
        have d1 : decide (i < a) = true := decide_eq_true (by omega)
        rw [hxe] at hx1
        obtain ⟨x, hx⟩ : ∃ x, rd l (i : Int) = x := ⟨_, rfl⟩
        rw [hx] at hx1 hx2
        clear hxi hxe hx
        go_wp2
        go_quiet (fail)
        go_wp2
        go_roundw
        case rel => exact ⟨i + 1, by omega, by go_num, _, rfl⟩
        case measure => simp [intOf]; omega
      · by_cases c2 : (n : Int) ≤ (i : Int) - (a : Int)
        · have hxe := hxi (.inr c2)
          have d1 : decide (i < a) = false := decide_eq_false (by omega)
          have d2 : decide ((n : Int) ≤ (i : Int) - (a : Int)) = true := decide_eq_true c2
          rw [hxe] at hx1
          obtain ⟨x, hx⟩ : ∃ x, rd l (i : Int) = x := ⟨_, rfl⟩
          rw [hx] at hx1 hx2
          clear hxi hxe hx
          go_wp2
          go_quiet (fail)
          go_wp2
          go_roundw
          case rel => exact ⟨i + 1, by omega, by go_num, _, rfl⟩
          case measure => simp [intOf]; omega
        · have d1 : decide (i < a) = false := decide_eq_false (by omega)
          have d2 : decide ((n : Int) ≤ (i : Int) - (a : Int)) = false := decide_eq_false c2
          clear hxi hx1 hx2
          go_wp2
          go_quiet (fail)
          go_wp2
          go_roundw
          case rel => exact ⟨i + 1, by omega, by go_num, _, rfl⟩
          case measure => simp [intOf]; omega
    · have HLQ2 := HLQ.out
      go_wp2_with fail
      refine (HP3.out A1 _ _ (Kd.C_drewN HQ3.out nd) (by have := HC1.out; rw [HLQ.out] at this; exact this)).mono ?_
      rintro e w5 ⟨v5, rfl, ho5, hb5⟩
      obtain ⟨A5, c5, rfl⟩ := Kd.R_slice ho5
      obtain ⟨_, hc5, hr5⟩ := Kd.R_reads' ho5
      have HB5 := Aside0.mk (below_step (pw_below_drewN HB3.out nd) hb5)
      have HR5 := Aside0.mk (Kd.C_below (Kd.C_drewN HR3.out nd) hb5)
      have HV5 := Aside0.mk hr5
      have HC5 := Aside0.mk hc5
      clear HP3 ho5 hb5 hc5 hr5 HB3 HR3 HQ3
      go_wp2_with fail
      refine (HP2.out _ HR5.out).mono ?_
      rintro e w6 ⟨v6, rfl, ho6, hb6⟩
      obtain ⟨A6, c6, rfl⟩ := Kd.R_slice ho6
      obtain ⟨_, hc6, hr6⟩ := Kd.R_reads' ho6
      have HB6 := Aside0.mk (below_step HB5.out hb6)
      have HV56 := Aside0.mk (Kd.C_below HV5.out hb6)
      have HSC := Aside0.mk (HSB.out A5 c5 A6 c6 _ HV56.out HC5.out hr6 hc6)
      clear HP2 ho6 hb6 hc6 hr6 HB5 HR5 HV5 HV56 HSB HC5
      go_wp2_with fail
      refine HSC.out.mono ?_
      rintro e w7 ⟨rfl, hd⟩
      have HB7 := Aside0.mk (below_step HB6.out (Drawn0.below hd))
      clear HSC HB6 hd
      go_wp2
      go_ret
      exact ⟨rfl, HB7.out⟩
theorem names_calls (A0 : Option Addr) (c0 : Nat) (l : List Int) (a n : Int) (s t : ByteArray) (w : World) (hr : Kd.C (Kd.int .u8) w A0 l.length l) (hc0 : l.length ≤ c0) (hl : l.length ≤ 140737488351232) :
    Calls Tryd.prog 3 #[.slice A0 l.length c0, .int .i64 a, .int .i64 n, .string s, .string t] w fun e w' => e = .returned (.bool true) ∧ Below w.heap.size w w' := by
  by_cases h1 : n < 0
  · exact names_no A0 c0 l a n 1 s t w hr hc0 hl (by unfold putOut; rw [if_pos h1]) rfl
  · by_cases h2 : field_part.Inside l a n
    · by_cases h3 : n < s.size
      · exact names_no A0 c0 l a n 5 s t w hr hc0 hl (by unfold putOut; rw [if_neg h1, if_pos h2, if_pos h3]) rfl
      · by_cases h4 : first s.data.toList = s.size
        · obtain ⟨i0, i1, i2, i3⟩ := h2
          obtain ⟨n, rfl⟩ := Int.eq_ofNat_of_zero_le i1
          obtain ⟨a, rfl⟩ := Int.eq_ofNat_of_zero_le i0
          exact names_yes A0 c0 l a n s t w hr hc0 hl (by omega) (by omega) h4
        · exact names_no A0 c0 l a n 3 s t w hr hc0 hl (by unfold putOut; rw [if_neg h1, if_pos h2, if_neg h3, if_neg h4]) rfl
    · exact names_no A0 c0 l a n 2 s t w hr hc0 hl (by unfold putOut; rw [if_neg h1, if_neg h2]) rfl
end Go.Proofs.YtkfeigigjilaiaaDoor.Field
namespace Go.Proofs.YtkfeigigjilaiaaDoor.Field
open Go.RowKit Go.Proofs.YtkfeigigjilaiaaDoor.Plain Go.Proofs.YtkfeigigjilaiaaDoorW.PrintWords
theorem names_row (A : Option Addr) (c : Nat) (l : List Int) (a n : Int) (s t : ByteArray) (w : World) (hr : ReadsInt w .u8 A l.length l) (hc : l.length ≤ c) (_ : ∀ x ∈ l, (Lit.int .u8 x).wf = true) (y : l.length * 1 ≤ 140737488351232) (_ : (Lit.int .i64 a).wf = true) (_ : (Lit.int .i64 n).wf = true) (_ : s.size ≤ 1125899906842624) (_ : t.size ≤ 1125899906842624) :
    Calls Tryd.prog 3 #[.slice A l.length c, .int .i64 a, .int .i64 n, .string s, .string t] w fun e w' => e = .returned (.bool true) ∧ Below w.heap.size w w' :=
  names_calls A c l a n s t w (Kd.C_of_reads (h1 := fun _ => rfl) hr) hc (by omega)
end Go.Proofs.YtkfeigigjilaiaaDoor.Field
