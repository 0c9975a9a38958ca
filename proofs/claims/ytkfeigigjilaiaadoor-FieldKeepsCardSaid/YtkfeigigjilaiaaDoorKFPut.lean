/- A text is written at a place: contracts. -/
import Derived.Test.YtkfeigigjilaiaaDoorKFTrim
import Derived.Lib.LazyBuf
import Derived.Lib.SliceRun
import Derived.Lib.BufferWrite
namespace Go.Proofs.YtkfeigigjilaiaaDoor.Field
open Go.RowKit Go.Proofs.YtkfeigigjilaiaaDoor.PFieldKeeps Go.Proofs.YtkfeigigjilaiaaDoor.Plain Go.Proofs.YtkfeigigjilaiaaDoorW.PrintWords Go.Proofs.YtkfeigigjilaiaaDoorW.PrintLast Go.Proofs.YtkfeigigjilaiaaDoorW.PrintMore
set_option linter.unusedVariables false
set_option linter.unusedSimpArgs false
theorem span_yes (A0 : Option Addr) (c0 : Nat) (l : List Int) (a n : Int) (hc0 : l.length ≤ c0) (hl : l.length ≤ 140737488351232) (h : field_part.Inside l a n) :
    ∃ A' : Option Addr, (∀ w, Calls Tryd.prog 15 #[.slice A0 l.length c0, .int .i64 a, .int .i64 n] w fun e w' => e = .returned (.tuple #[.slice A' (field_part.seg l a n).length (c0 - a.toNat), .int .i64 0]) ∧ w = w') ∧
      (∀ w, Kd.C (Kd.int .u8) w A0 l.length l → Kd.C (Kd.int .u8) w A' (field_part.seg l a n).length (field_part.seg l a n)) ∧ (field_part.seg l a n).length ≤ c0 - a.toNat := by
  obtain ⟨A', hcall, hA, hC⟩ := field_part.yes A0 c0 l a n hc0 hl h
  have HK := Aside0.mk hcall
  have hn := h.2.1
  refine ⟨A', fun w => ?_, hA, hC⟩
  clear hcall hA hC h hc0
  go_enter Tryd.func15, Tryd.ntmps15
  go_wp2_with (go_at_call 25; refine (HK.out _).mono ?_; rintro e w' ⟨rfl, rfl⟩)
  go_ret2
  exact ⟨rfl, rfl⟩
theorem span_range (A0 : Option Addr) (c0 : Nat) (l : List Int) (a n : Int) (hl : l.length ≤ 140737488351232) (hn : 0 ≤ n) (h : ¬ field_part.Inside l a n) (w : World) :
    Calls Tryd.prog 15 #[.slice A0 l.length c0, .int .i64 a, .int .i64 n] w fun e w' => e = .returned (.tuple #[.slice none 0 0, .int .i64 2]) ∧ w = w' := by
  have HK := Aside0.mk (field_part.no A0 c0 l a n hl h)
  clear h
  go_enter Tryd.func15, Tryd.ntmps15
  go_wp2_with (go_at_call 25; refine (HK.out _).mono ?_; rintro e w' ⟨rfl, rfl⟩)
  go_ret2
  exact ⟨rfl, rfl⟩
theorem span_arg (A0 : Option Addr) (c0 : Nat) (l : List Int) (a n : Int) (hn : n < 0) (w : World) :
    Calls Tryd.prog 15 #[.slice A0 l.length c0, .int .i64 a, .int .i64 n] w fun e w' => e = .returned (.tuple #[.slice none 0 0, .int .i64 1]) ∧ w = w' := by
  go_enter Tryd.func15, Tryd.ntmps15
  go_wp2
  go_ret2
  exact ⟨rfl, rfl⟩
def nums8 (s : ByteArray) : List Int := s.data.toList.map fun b => (b.toNat : Int)
theorem nums8_length (s : ByteArray) : (nums8 s).length = s.size := by unfold nums8; rw [List.length_map, size_list]
/-- The bytes with a text at a place, bytes 0 behind it. -/
def putT (l : List Int) (a n : Nat) (s : ByteArray) : List Int := l.take a ++ ((nums8 s ++ List.replicate (n - s.size) 0) ++ l.drop (a + n))
/-- Many cells of a row of one's own are written. -/
theorem R_many {e base g n cap : Nat} {ok : Nat → Prop} : ∀ (vs : List Int) (o : Nat) (W : World) (xs : List Int), Kd.R (Kd.int .u8) e W base ok (.slice (some ⟨g, 0, none⟩) n cap) xs → o + vs.length ≤ n →
    Kd.R (Kd.int .u8) e (W.setCells g o (vs.map (Value.int .u8))) base ok (.slice (some ⟨g, 0, none⟩) n cap) (xs.take o ++ (vs ++ xs.drop (o + vs.length)))
  | [], o, W, xs, h, _ => by simpa [World.setCells] using h
  | v :: vs, o, W, xs, h, hb => by
    have hx : xs.length = n := ((Kd.R_reads' h).1).symm
    rw [List.length_cons] at hb
    have h2 := Kd.R_putn h (o : Int) v
    simp only [Int.toNat_natCast] at h2
    have h3 := R_many vs (o + 1) _ _ h2 (by omega)
    have e1 : (xs.set o v).take (o + 1) ++ (vs ++ (xs.set o v).drop (o + 1 + vs.length)) = xs.take o ++ ((v :: vs) ++ xs.drop (o + (v :: vs).length)) := by
      rw [List.take_add_one, List.take_set_of_le (by omega), List.drop_set_of_lt (by omega)]
      simp [List.getElem?_set, show o < xs.length by omega, Nat.add_assoc, Nat.add_comm 1]
    rw [e1] at h3
    exact h3
theorem R_row {e base g n cap : Nat} {ok : Nat → Prop} {W : World} {xs : List Int} (h : Kd.R (Kd.int .u8) e W base ok (.slice (some ⟨g, 0, none⟩) n cap) xs) (j : Nat) (hj : j < n) : (W.cell? ⟨g, j, none⟩).isSome = true ∧ W.frozen? ⟨g, j, none⟩ = false := by
  have h2 := Kd.R_celln 0 h (j : Int) (by omega) (by omega)
  simp only [Int.toNat_natCast] at h2
  exact ⟨by rw [h2.1]; rfl, h2.2⟩
theorem replicate_map (n : Nat) : (List.replicate n (0 : Int)).map (Value.int .u8) = List.replicate n (.int .u8 0) := by simp
theorem putT_two (l : List Int) (a n : Nat) (s : ByteArray) (ha : a + n ≤ l.length) (hs : s.size ≤ n) :
    (l.take a ++ (List.replicate n 0 ++ l.drop (a + n))).take a ++ (nums8 s ++ (l.take a ++ (List.replicate n 0 ++ l.drop (a + n))).drop (a + (nums8 s).length)) = putT l a n s := by
  unfold putT
  have hl : (l.take a).length = a := by rw [List.length_take]; omega
  rw [nums8_length]
  congr 1
  · rw [List.take_append_of_le_length (by omega), List.take_of_length_le (by omega)]
  · rw [List.append_assoc]
    congr 1
    rw [List.drop_append, hl, List.drop_of_length_le (by omega), List.nil_append, show a + s.size - a = s.size by omega, List.drop_append_of_le_length (by simp; omega), List.drop_replicate]
set_option maxRecDepth 100000 in
set_option maxHeartbeats 4000000 in
theorem put_err (A0 : Option Addr) (c0 : Nat) (l : List Int) (a n er : Int) (s : ByteArray) (w : World) (he : (er != 0) = true)
    (hcall : ∀ w, Calls Tryd.prog 15 #[.slice A0 l.length c0, .int .i64 a, .int .i64 n] w fun e w' => e = .returned (.tuple #[.slice none 0 0, .int .i64 er]) ∧ w = w') :
    Calls Tryd.prog 6 #[.slice A0 l.length c0, .int .i64 a, .int .i64 n, .string s] w fun e w' => e = .returned (.tuple #[.slice none 0 0, .int .i64 er]) ∧ w = w' := by
  have HK := Aside0.mk hcall
  clear hcall
  go_enter Tryd.func6, Tryd.ntmps6
  go_wp2_with (go_at_call 15; refine (HK.out _).mono ?_; rintro e w' ⟨rfl, rfl⟩)
  go_ret2
  exact ⟨rfl, rfl⟩
set_option maxRecDepth 100000 in
set_option maxHeartbeats 4000000 in
theorem put_large (A0 : Option Addr) (c0 : Nat) (l : List Int) (a n : Int) (s : ByteArray) (w : World) (hc0 : l.length ≤ c0) (hl : l.length ≤ 140737488351232) (hin : field_part.Inside l a n) (hs : n < s.size) :
    Calls Tryd.prog 6 #[.slice A0 l.length c0, .int .i64 a, .int .i64 n, .string s] w fun e w' => e = .returned (.tuple #[.slice none 0 0, .int .i64 5]) ∧ w = w' := by
  obtain ⟨A', hcall, hA, hC⟩ := span_yes A0 c0 l a n hc0 hl hin
  have HK := Aside0.mk hcall
  clear hcall hA hC hin hc0
  go_enter Tryd.func6, Tryd.ntmps6
  go_wp2_with (go_at_call 15; refine (HK.out _).mono ?_; rintro e w' ⟨rfl, rfl⟩)
  go_ret2
  exact ⟨rfl, rfl⟩
set_option maxRecDepth 100000 in
set_option maxHeartbeats 4000000 in
theorem put_value (A0 : Option Addr) (c0 : Nat) (l : List Int) (a n : Int) (s : ByteArray) (w : World) (hc0 : l.length ≤ c0) (hl : l.length ≤ 140737488351232) (hin : field_part.Inside l a n) (hs : (s.size : Int) ≤ n) (hz : first s.data.toList ≠ s.size) :
    Calls Tryd.prog 6 #[.slice A0 l.length c0, .int .i64 a, .int .i64 n, .string s] w fun e w' => e = .returned (.tuple #[.slice none 0 0, .int .i64 3]) ∧ w = w' := by
  obtain ⟨A', hcall, hA, hC⟩ := span_yes A0 c0 l a n hc0 hl hin
  have HK := Aside0.mk hcall
  have hct := contains_calls s
  rw [decide_eq_true hz] at hct
  have HT := Aside0.mk hct
  clear hcall hA hC hin hc0 hct hz
  go_enter Tryd.func6, Tryd.ntmps6
  go_wp2_with (first | (go_at_call 15; refine (HK.out _).mono ?_; rintro e w' ⟨rfl, rfl⟩) | (go_at_call 16; refine (HT.out _).mono ?_; rintro e w' ⟨rfl, rfl⟩))
  go_ret2
  exact ⟨rfl, rfl⟩
theorem clear_none (A : Option Addr) (c : Nat) (t ty : TypeId) (e : TypeId) (ht : Tryd.prog.underlying t = some (.slice e)) (W : World) : (Builtin.clear_ #[t] ty #[.slice A 0 c]).run Tryd.prog W = .ok (.tuple #[]) W := by
  cases A <;> simp [Builtin.clear_, run_underlying ht]
set_option maxRecDepth 100000 in
set_option maxHeartbeats 4000000 in
theorem put_none (A0 : Option Addr) (c0 : Nat) (l : List Int) (a : Int) (w : World) (hr : Kd.C (Kd.int .u8) w A0 l.length l) (hc0 : l.length ≤ c0) (hl : l.length ≤ 140737488351232) (hin : field_part.Inside l a 0) (s : ByteArray) (hs : s = ⟨#[]⟩) :
    Calls Tryd.prog 6 #[.slice A0 l.length c0, .int .i64 a, .int .i64 0, .string s] w fun e w' => ∃ v0_ : Value, e = .returned (.tuple #[v0_, .int .i64 0]) ∧ Kd.R (Kd.int .u8) 5 w' w.heap.size (fun _ => True) v0_ l ∧ Below w.heap.size w w' := by
  subst hs
  obtain ⟨A', hcall, hA, hC⟩ := span_yes A0 c0 l a 0 hc0 hl hin
  have hct := contains_calls ⟨#[]⟩
  rw [decide_eq_false (by decide)] at hct
  have hf : slices_Clone_byte_byte.f l = some l := by unfold slices_Clone_byte_byte.f; rw [if_pos (by omega)]
  have HT := Aside0.mk hct
  have HK := Aside0.mk hcall
  have HR := Aside0.mk hr
  have HC := Aside0.mk hc0
  have HF := Aside0.mk hf
  have HIN := Aside0.mk hin
  obtain ⟨i0, hi0, _, hsz, _⟩ := info_parts info5
  have HI0 := Aside0.mk hi0
  have HSZ := Aside0.mk hsz
  clear hcall hA hC hr hc0 hf hct hi0 hsz
  obtain ⟨h0, _, h2, h3⟩ := hin
  go_enter Tryd.func6, Tryd.ntmps6
  go_wp2_with (first | (go_at_call 15; refine (HK.out _).mono ?_; rintro e w' ⟨rfl, rfl⟩) | (go_at_call 16; refine (HT.out _).mono ?_; rintro e w' ⟨rfl, rfl⟩) | fail)
  refine (slices_Clone_byte_byte.calls _ _ l l _ HR.out HC.out HF.out).mono ?_
  rintro e w1 ⟨v1, rfl, ho1, hb1⟩
  obtain ⟨A1, c1, rfl⟩ := Kd.R_slice ho1
  have hc1 := (Kd.R_reads' ho1).2.1
  obtain ⟨A2, hcut, _, _⟩ := print_mid_of (P := Tryd.prog) (Value.int .u8) 0 22 5 .i64 .i64 Tryd.underlying22 HI0.out HSZ.out A1 c1 l a a h0 (by omega) (by omega) hc1
  obtain ⟨A3, hcut3, _, _⟩ := print_drop_of (P := Tryd.prog) (Value.int .u8) 0 22 5 .i64 Tryd.underlying22 HI0.out HSZ.out A1 c1 l a h0 (by omega) hc1
  have hz0 : ((l.take a.toNat).drop a.toNat).length = 0 := by simp
  rw [hz0] at hcut
  rw [List.length_drop] at hcut3
  have hcl := clear_none A2 (c1 - a.toNat) 22 0 5 Tryd.underlying22
  have hcp := fun W : World => Lib.run_copy_empty_string (P := Tryd.prog) W 22 9 3 5 A3 (l.length - a.toNat) (c1 - a.toNat) ⟨#[]⟩ Tryd.underlying22 (by rw [HI0.out]; rfl) rfl
  have HO1 := Aside0.mk ho1
  have HB1 := Aside0.mk hb1
  clear ho1 hb1 hc1 hz0 HIN
  go_wp2
  go_ret2
  exact ⟨_, rfl, HO1.out, HB1.out⟩
set_option maxRecDepth 100000 in
set_option maxHeartbeats 4000000 in
theorem put_some (A0 : Option Addr) (c0 : Nat) (l : List Int) (a n : Nat) (s : ByteArray) (w : World) (hr : Kd.C (Kd.int .u8) w A0 l.length l) (hc0 : l.length ≤ c0) (hl : l.length ≤ 140737488351232) (hn : 0 < n) (han : a + n ≤ l.length) (hs : s.size ≤ n) (hz : first s.data.toList = s.size) :
    Calls Tryd.prog 6 #[.slice A0 l.length c0, .int .i64 (a : Int), .int .i64 (n : Int), .string s] w fun e w' => ∃ v0_ : Value, e = .returned (.tuple #[v0_, .int .i64 0]) ∧ Kd.R (Kd.int .u8) 5 w' w.heap.size (fun _ => True) v0_ (putT l a n s) ∧ Below w.heap.size w w' := by
  have hin : field_part.Inside l (a : Int) (n : Int) := ⟨by omega, by omega, by omega, by omega⟩
  obtain ⟨A', hcall, hA, hC⟩ := span_yes A0 c0 l a n hc0 hl hin
  have hct := contains_calls s
  rw [decide_eq_false (by simpa using hz)] at hct
  have hf : slices_Clone_byte_byte.f l = some l := by unfold slices_Clone_byte_byte.f; rw [if_pos (by omega)]
  have hput := putT_two l a n s han hs
  have HP := Aside0.mk hput
  have HT := Aside0.mk hct
  have HK := Aside0.mk hcall
  have HR := Aside0.mk hr
  have HC := Aside0.mk hc0
  have HF := Aside0.mk hf
  obtain ⟨i0, hi0, _, hsz, _⟩ := info_parts info5
  have HI0 := Aside0.mk hi0
  have HSZ := Aside0.mk hsz
  have hs' : (s.size : Int) ≤ (n : Int) := by omega
  clear hcall hA hC hr hc0 hf hct hi0 hsz hin hz hput
  go_enter Tryd.func6, Tryd.ntmps6
  go_wp2_with (first | (go_at_call 15; refine (HK.out _).mono ?_; rintro e w' ⟨rfl, rfl⟩) | (go_at_call 16; refine (HT.out _).mono ?_; rintro e w' ⟨rfl, rfl⟩) | fail)
  refine (slices_Clone_byte_byte.calls _ _ l l _ HR.out HC.out HF.out).mono ?_
  rintro e w1 ⟨v1, rfl, ho1, hb1⟩
  obtain ⟨g, c1, rfl, hg0, hg1, _⟩ := Kd.R_form ho1 (by omega)
  have hc1 := (Kd.R_reads' ho1).2.1
  have hu := Tryd.underlying22
  have hcut : ∀ W : World, (Instr.slice 22 (.slice (some ⟨g, 0, none⟩) l.length c1) (some (.int .i64 (a : Int))) (some (.int .i64 ((a : Int) + (n : Int)))) none).run Tryd.prog W = .ok (.slice (some ⟨g, a, none⟩) n (c1 - a)) W := by
    intro W
    have hel : Tryd.prog.elem 22 = 5 := by simp [Program.elem, hu]
    have hu' : Tryd.prog.underlying 22 = some (.slice (Tryd.prog.elem 22)) := by rw [hel]; exact hu
    rw [run_slice_lh W 22 _ l.length c1 hu' .i64 .i64 (a : Int) ((a : Int) + (n : Int)) (by omega) (by omega) (by omega), hel]
    simp only [sizeOf, typeInfo]
    simp [HI0.out, HSZ.out, sliced, Result.andThen, show ¬ c1 = a by omega, Addr.add]
    omega
  have hcut3 : ∀ W : World, (Instr.slice 22 (.slice (some ⟨g, 0, none⟩) l.length c1) (some (.int .i64 (a : Int))) none none).run Tryd.prog W = .ok (.slice (some ⟨g, a, none⟩) (l.length - a) (c1 - a)) W := by
    intro W
    have hel : Tryd.prog.elem 22 = 5 := by simp [Program.elem, hu]
    have hu' : Tryd.prog.underlying 22 = some (.slice (Tryd.prog.elem 22)) := by rw [hel]; exact hu
    rw [run_slice_l W 22 _ l.length c1 hu' .i64 (a : Int) (by omega) (by omega), hel]
    simp only [sizeOf, typeInfo]
    simp [HI0.out, HSZ.out, sliced, Result.andThen, show ¬ c1 = a by omega, Addr.add]
    exact fun h => h.symm
  have hcl := Lib.run_clear_slice (P := Tryd.prog) w1 22 5 0 (.int .u8 0) hu (fun _ => by kernel_rfl) rfl rfl g a n (c1 - a) hn (fun j hj => (R_row ho1 (a + j) (by omega)).1) (fun j hj => (R_row ho1 (a + j) (by omega)).2)
  have h2 := R_many (List.replicate n 0) a w1 l ho1 (by rw [List.length_replicate]; omega)
  rw [replicate_map, List.length_replicate] at h2
  have hb2 := below_setCells hg0 (List.replicate n (.int .u8 0)) a w1 hb1
  obtain ⟨w2, hw2⟩ : ∃ w2, w1.setCells g a (List.replicate n (.int .u8 0)) = w2 := ⟨_, rfl⟩
  rw [hw2] at hcl h2 hb2
  have hcp := run_copy_string (P := Tryd.prog) w2 22 9 3 5 g a (l.length - a) (c1 - a) s hu (fun _ => by kernel_rfl) (by omega) (fun j hj => (R_row h2 (a + j) (by omega)).1) (fun j hj => (R_row h2 (a + j) (by omega)).2)
  have h3 := R_many (nums8 s) a w2 _ h2 (by rw [nums8_length]; omega)
  rw [HP.out] at h3
  have e8 : (nums8 s).map (Value.int .u8) = s.data.toList.map fun x => Value.int .u8 (x.toNat : Int) := by unfold nums8; rw [List.map_map]; rfl
  rw [e8] at h3
  have hb3 := below_setCells hg0 (s.data.toList.map fun x => Value.int .u8 (x.toNat : Int)) a w2 hb2
  obtain ⟨w3, hw3⟩ : ∃ w3, w2.setCells g a (s.data.toList.map fun x => Value.int .u8 (x.toNat : Int)) = w3 := ⟨_, rfl⟩
  rw [hw3] at hcp h3 hb3
  have HO3 := Aside0.mk h3
  have HB3 := Aside0.mk hb3
  clear ho1 hb1 hc1 h2 hb2 h3 hb3 hw2 hw3 e8 HP hg0 hg1 HR HC HF HI0 HSZ
  go_wp2
  go_ret2
  exact ⟨_, rfl, HO3.out, HB3.out⟩
end Go.Proofs.YtkfeigigjilaiaaDoor.Field
