/- Lists that are handed in are not changed, what is answered is new memory: the walk of the law WalkKeeps. -/
import Derived.Test.YtdihhdmndjjknaaDoorKWOrder
namespace Go.Proofs.YtdihhdmndjjknaaDoor.Walk
open Go.RowKit Go.Shelf Go.Proofs.YtdihhdmndjjknaaDoor.PWalkKeeps Go.Proofs.YtdihhdmndjjknaaDoor.Plain Go.Proofs.YtdihhdmndjjknaaDoor.Codec Go.Proofs.YtdihhdmndjjknaaDoorW.PrintWords Go.Proofs.YtdihhdmndjjknaaDoorW.PrintLast Go.Proofs.YtdihhdmndjjknaaDoorW.PrintMore
set_option linter.unusedVariables false
set_option linter.unusedSimpArgs false
/-- One row of texts may have been turned, nothing else. -/
structure Own (w w' : World) (g n : Nat) : Prop where
  os : w'.os = w.os
  tape : w'.tape = w.tape
  output : w'.output = w.output
  size : w.heap.size ≤ w'.heap.size
  block : ∀ k, k < w.heap.size → (n = 0 ∨ k ≠ g) → w'.heap[k]? = w.heap[k]?
  cells : 0 < n → ∃ cs, w'.heap[g]? = some (.cells cs 9 (0, 0)) ∧ n ≤ cs.size
theorem Own.put {w w' : World} {g n : Nat} (h : Own w w' g n) (i : Nat) (v : Value) (hn : 0 < n) : Own w (w'.setCell ⟨g, i, none⟩ v) g n := by
  obtain ⟨cs, h1, h2⟩ := h.cells hn
  exact ⟨h.os, h.tape, h.output, by simpa [World.setCell] using h.size, fun k hk hne => (Below.heap_setCell w' ⟨g, i, none⟩ v k (hne.elim (fun e => by omega) id)).trans (h.block k hk hne), fun _ => ⟨_, blk_put h1 i v rfl, by simpa using h2⟩⟩
theorem Own.drewN {w w' : World} {g n : Nat} (h : Own w w' g n) (k : Nat) : Own w (w'.drewN k) g n := ⟨h.os, h.tape, h.output, h.size, h.block, h.cells⟩
theorem Own.below {w w' : World} {g n B : Nat} (h : Own w w' g n) (hB : B ≤ w.heap.size) (hg : 0 < n → B ≤ g) : Below B w w' :=
  ⟨h.os, h.tape, h.output, h.size, fun k hk => h.block k (by omega) ((Nat.eq_zero_or_pos n).imp id fun e => by have := hg e; omega)⟩
theorem own_of {w : World} {base : Nat} {v : Value} {xs : List ByteArray} (h : Kd.R Kd.string 9 w base (fun _ => True) v xs) : ∃ A c g, v = .slice A xs.length c ∧ xs.length ≤ c ∧ Kd.C Kd.string w A xs.length xs ∧ (0 < xs.length → A = some ⟨g, 0, none⟩ ∧ base ≤ g ∧ g < w.heap.size) ∧ Own w w g xs.length ∧ PlainAt A xs := by
  obtain ⟨A, c, e, hc, hr, hp⟩ := texts_reads h
  have h2 := texts_own h
  rcases h2.2 with ⟨h3, h4⟩ | ⟨g, cap, cur, h3, hg, hgg, hcc, hm, rest⟩
  · exact ⟨A, c, w.heap.size, e, hc, hr, fun q => by omega, ⟨rfl, rfl, rfl, Nat.le_refl _, fun _ _ _ => rfl, fun q => by omega⟩, hp⟩
  · rw [e] at h3
    injection h3 with h5 h6 h7
    exact ⟨A, c, g, e, hc, hr, fun q => ⟨h5, hg, blk_lt hgg⟩, ⟨rfl, rfl, rfl, Nat.le_refl _, fun _ _ _ => rfl, fun q => ⟨cur, hgg, by omega⟩⟩, hp⟩
theorem Own.keeps {w w' : World} {g n : Nat} (h : Own w w' g n) {A : Option Addr} {l : List ByteArray} (hr : Kd.C Kd.string w A l.length l) (ha : ∀ ad, A = some ad → 0 < l.length → ad.block < w.heap.size ∧ (0 < n → ad.block ≠ g)) : Kd.C Kd.string w' A l.length l :=
  C_keep hr fun ad e hn => h.block _ (ha ad e hn).1 ((Nat.eq_zero_or_pos n).imp id fun q => (ha ad e hn).2 q)
theorem C_pre {w : World} {A : Option Addr} {l r : List ByteArray} (h : Kd.C Kd.string w A (l ++ r).length (l ++ r)) : Kd.C Kd.string w A l.length l := by
  have hr := Kd.reads_of_C (enc := Value.string) (d := (⟨#[]⟩ : ByteArray)) (h1 := fun _ => rfl) h
  have hl : (l ++ r).length = l.length + r.length := List.length_append
  refine Kd.C_of_reads (enc := Value.string) (d := (⟨#[]⟩ : ByteArray)) (h1 := fun _ => rfl) ⟨rfl, by have := hr.2.1; omega, fun hn => ?_⟩
  obtain ⟨ad, e, hc⟩ := hr.2.2 (by omega)
  refine ⟨ad, e, fun j hj => ?_⟩
  rw [hc j (by omega), List.getD_eq_getElem?_getD, List.getD_eq_getElem?_getD, List.getElem?_append_left hj]
theorem C_lt {w : World} {A : Option Addr} {l : List ByteArray} (h : Kd.C Kd.string w A l.length l) : ∀ ad, A = some ad → 0 < l.length → ad.block < w.heap.size := by
  intro ad e hn
  obtain ⟨ad2, e2, hc⟩ := (Kd.reads_of_C (enc := Value.string) (d := (⟨#[]⟩ : ByteArray)) (h1 := fun _ => rfl) h).2.2 hn
  rw [e] at e2
  obtain rfl := Option.some.inj e2
  have h2 := World.block_lt_of_cell? w _ (hc 0 hn)
  have hb : (ad.add 0).block = ad.block := by unfold Addr.add; split <;> rfl
  rw [hb] at h2
  exact h2
theorem addr_add3 (b k : Nat) : (⟨b, 0, none⟩ : Addr).add k = ⟨b, k, none⟩ := by unfold Addr.add; split <;> simp_all
theorem info9s : (Tryd.prog.info? 9).map (·.size) = some 1 := by kernel_rfl
theorem cut_row (A : Option Addr) (n c hi_ : Nat) (h : hi_ ≤ c) (W : World) : (Instr.slice 22 (.slice A n c) none (some (.int .i64 (hi_ : Int))) none).run Tryd.prog W = .ok (.slice A hi_ c) W := by
  obtain ⟨i, hi, hs⟩ := Option.map_eq_some_iff.1 info9s
  have hel : Tryd.prog.elem 22 = 9 := by simp [Program.elem, Tryd.underlying22]
  have hu : Tryd.prog.underlying 22 = some (.slice (Tryd.prog.elem 22)) := by rw [hel]; exact Tryd.underlying22
  have ha : (A.map fun x => x.add 0) = A := by cases A <;> simp [Addr.add]
  rw [run_slice_h W 22 A n c hu .i64 hi_ (by omega) (by omega), hel]
  simp [sizeOf, typeInfo, hi, hs, sliced, Result.andThen, ha]
theorem keeps_step {n i g : Nat} (h : n - i ≤ g + 1) : n - (i + 1) ≤ g := by omega
/-- What walk.Order answers: nothing, or a list of texts that its input tells. -/
theorem order_told (l : List ByteArray) (hl : l.length ≤ 1048576) (hsz : ∀ p ∈ l, p.size ≤ 9223372036854775807) : ∃ (X : List ByteArray) (er : Int), X.length ≤ 1048576 ∧ (∀ x ∈ X, x.size ≤ 200) ∧ ∀ (A : Option Addr) (c : Nat) (w : World), Kd.C Kd.string w A l.length l →
    Calls Tryd.prog 17 #[.slice A l.length c] w fun e w' => ∃ v, e = .returned (.tuple #[v, .int .i64 er]) ∧ Kd.R Kd.string 9 w' w.heap.size (fun _ => True) v X ∧ Below w.heap.size w w' := by
  by_cases hall : AllSplit l
  · by_cases hN : ∃ N, OrderOf l N
    · obtain ⟨N, hN⟩ := hN
      refine ⟨N.map fun x => (joinOut x).1, 0, by rw [List.length_map]; exact Nat.le_trans hN.len hl, fun x hx => ?_, fun A c w hr => ?_⟩
      · obtain ⟨y, hy, e⟩ := List.mem_map.1 hx
        have e : (joinOut y).1 = x := e
        rw [← e]
        unfold joinOut
        split
        · rename_i q; exact q.2
        · exact Nat.zero_le _
      · refine (order_calls A c l w hr hl hsz).mono ?_
        rintro e w' ⟨ho, hb⟩
        rcases ho with ⟨hno, _⟩ | ⟨_, v, M, hM, rfl, hrow⟩
        · exact absurd hall hno
        · obtain rfl : M = N := hM.uniq hN
          exact ⟨v, rfl, hrow, hb⟩
    · refine ⟨[], 0, by simp, by simp, fun A c w hr => ?_⟩
      refine (order_calls A c l w hr hl hsz).mono ?_
      rintro e w' ⟨ho, hb⟩
      rcases ho with ⟨hno, _⟩ | ⟨_, v, M, hM, _, _⟩
      · exact absurd hall hno
      · exact absurd ⟨M, hM⟩ hN
  · refine ⟨[], 16, by simp, by simp, fun A c w hr => ?_⟩
    refine (order_calls A c l w hr hl hsz).mono ?_
    rintro e w' ⟨ho, hb⟩
    rcases ho with ⟨_, rfl⟩ | ⟨h, _⟩
    · exact ⟨_, rfl, texts_nil _ _, hb⟩
    · exact absurd h hall
/-- The bytes of all, and one more of each. -/
def sumS : List ByteArray → Nat
  | [] => 0
  | x :: l => x.size + 1 + sumS l
theorem join_sum (l : List ByteArray) : (Lib.join (l.map (fun x => x.data.toList)) [47]).length ≤ sumS l := by
  cases l with
  | nil => simp [Lib.join]
  | cons x r =>
    have h : ∀ q : List ByteArray, (joined q).length = sumS q := by
      intro q
      induction q with
      | nil => rfl
      | cons y q ih =>
        show (47 :: (y.data.toList ++ joined q)).length = _
        rw [List.length_cons, List.length_append, list_len, ih]
        show _ = y.size + 1 + sumS q
        omega
    have h2 := congrArg ByteArray.size (pathOf_joined (x :: r) (by simp))
    rw [bs_size, h] at h2
    unfold pathOf at h2
    rw [bs_size, List.length_cons] at h2
    omega
theorem sum_len (l : List ByteArray) : l.length ≤ sumS l := by
  induction l with
  | nil => exact Nat.le_refl _
  | cons x l ih => show l.length + 1 ≤ x.size + 1 + sumS l; omega
theorem plain_C {w : World} {A : Option Addr} {l : List ByteArray} (h : Kd.C Kd.string w A l.length l) : PlainAt A l := by
  by_cases c : l = []
  · exact .inl c
  · right
    have hpos : 0 < l.length := by cases l with | nil => exact absurd rfl c | cons _ _ => simp
    obtain ⟨ad, e, hc⟩ := (Kd.reads_of_C (enc := Value.string) (d := (⟨#[]⟩ : ByteArray)) (h1 := fun _ => rfl) h).2.2 hpos
    have hs := World.cell?_spot (hc 0 hpos)
    have ha : ad.add 0 = ad := by simp [Addr.add]
    rw [ha] at hs
    obtain ⟨g, o, sp⟩ := ad
    simp only at hs
    subst hs
    exact ⟨g, o, e⟩
theorem sum_mem (l : List ByteArray) (p : ByteArray) (h : p ∈ l) : p.size ≤ sumS l := by
  induction l with
  | nil => cases h
  | cons x l ih =>
    show p.size ≤ x.size + 1 + sumS l
    rcases List.mem_cons.1 h with e | e
    · subst e; omega
    · have := ih e; omega
set_option maxHeartbeats 8000000 in
set_option maxRecDepth 100000 in
theorem keeps_calls (s : ByteArray) (hs : s.size ≤ 1125899906842624) (A : Option Addr) (c : Nat) (l : List ByteArray) (w : World) (hr : Kd.C Kd.string w A l.length l) (hc : l.length ≤ c) (hA : PlainAt A l) (hl : l.length ≤ 1048576) (hz : (Lib.join (l.map (fun x => x.data.toList)) [47]).length ≤ 8388607) (hsz : ∀ p ∈ l, p.size ≤ 9223372036854775807) :
    Calls Tryd.prog 5 #[.string s, .slice A l.length c] w fun e w' => e = .returned (.bool true) ∧ Below w.heap.size w w' := by
  have HW := Aside0.mk (wakes_calls w)
  have HSP := Aside0.mk (fun W => split_calls s (by omega) W)
  unfold SplitEnds at HSP
  have hle := splitOut_le s
  have hok := splitOut_ok s
  obtain ⟨⟨L, er⟩, hL⟩ : ∃ z, splitOut s = z := ⟨_, rfl⟩
  rw [hL] at HSP hle hok
  have HLE := Aside0.mk hle
  have HOK := Aside0.mk hok
  obtain ⟨X, ex, hX1, hX2, hX3⟩ := order_told l hl hsz
  have HX1 := Aside0.mk hX1
  have HX2 := Aside0.mk hX2
  have HOR := Aside0.mk hX3
  have HJ := Aside0.mk (fun A c W h1 h2 h3 => join_calls A c l W h1 h2 h3 hl hz)
  obtain ⟨⟨jp, je⟩, hJ⟩ : ∃ z, joinOut l = z := ⟨_, rfl⟩
  rw [hJ] at HJ
  have HR0 := Aside0.mk hr
  have HC := Aside0.mk hc
  have HL := Aside0.mk hl
  have HST := Aside0.mk (fun A1 k1 A2 k2 W h1 h2 h3 h4 => skerryref01_SameTexts.calls (l.length + 1) A1 k1 l A2 k2 l true W h1 h2 h3 h4 (same_texts l hl))
  clear hs hle hok hL hX1 hX2 hX3 hJ hr hc hA hl hz hsz
  go_enter Tryd.func5, Tryd.ntmps5
  go_wp2_with fail
  ((refine HW.out.mono ?_); rintro e w1 ⟨rfl, hb⟩)
  have H1 := Aside0.mk hb
  have HR1 := Aside0.mk (Kd.C_below HR0.out hb)
  clear hb HW
  have hsz : (w1.alloc (.cells #[] 9)).heap.size = w1.heap.size + 1 := by simp
  have hf1 : (0 + l.length) * 16 ≤ 140737488355328 := by have := HL.out; omega
  have hf2 : (l.length + 1) * 16 ≤ 140737488355328 := by have := HL.out; omega
  go_wp2_with (first
    | ((with_reducible refine gate_builtin (b := .append) (xs := #[.tmp 20, .tmp 21]) rfl ?_); at_builtin; refine Kd.R_append_rows Kd.string (w0 := w1) w1.heap.size rfl (.tmp 20) (.tmp 21) 22 9 (.string ⟨#[]⟩) 16 rfl Tryd.underlying22 info9 rfl (by decide) (by omega) (.slice (some ⟨w1.heap.size, 0, none⟩) 0 0) [] l A l.length c (fun _ => True) (fun _ => False) (by rfl) (by rfl) (lit_R0 w1) (Kd.C_below HR1.out (below_alloc (Below.refl _ _) _)) (fun _ _ h => h) (fun _ h => h.elim) (fun _ _ => trivial) (below_alloc (Below.refl _ _) _) (by rw [hsz]; omega) hf1 ?_; intro v2 w2 ho hb hg hat; have H2 := Aside0.mk (below_then H1.out H1.out.size hb); have HB2 := Aside0.mk hb; have HR2 := Aside0.mk ho; have HZ2 := Aside0.mk hb.size; (obtain ⟨A2, k2, rfl, hx1, hx2, hx3⟩ := texts_reads ho); clear ho hb hg hat hx1 hx2 hx3)
    | ((with_reducible refine gate_builtin (b := .append) (xs := #[.tmp 23, .tmp 24]) rfl ?_); at_builtin; refine Kd.R_append_rows Kd.string (w0 := w2) w1.heap.size rfl (.tmp 23) (.tmp 24) 22 9 (.string ⟨#[]⟩) 16 rfl Tryd.underlying22 info9 rfl (by decide) (by omega) (.slice A2 l.length k2) l [⟨#[35]⟩] (some ⟨w2.heap.size, 0, none⟩) 1 1 (fun _ => True) (fun _ => False) (by rfl) (by rfl) (Kd.R_alloc HR2.out _) (lit_C w2 [⟨#[35]⟩] (by simp)) (fun _ _ h => h) (fun _ h => h.elim) (fun _ _ => trivial) ((below_alloc (Below.refl _ _) _).mono HZ2.out) (alloc_le HZ2.out _) hf2 ?_; intro v3 w3 ho hb hg hat; have H3 := Aside0.mk (HB2.out.trans hb); have HR3 := Aside0.mk ho; have HLA := Aside0.mk (show (l ++ [(⟨#[35]⟩ : ByteArray)]).length = l.length + 1 by rw [List.length_append]; rfl); (obtain ⟨A3, k3, g3, rfl, hk3, hc3, hg3, ho3, hp3⟩ := own_of ho); rw [HLA.out] at hk3; have hct : ∀ W : World, (Instr.slice 22 (.slice A3 (l.length + 1) k3) none (some (.int .i64 (l.length : Int))) none).run Tryd.prog W = .ok (.slice A3 l.length k3) W := (fun W => cut_row A3 (l.length + 1) k3 l.length (by omega) W); obtain ⟨rfl, hg3, hg3l⟩ := hg3 (by rw [HLA.out]; omega); have HI3 := Aside0.mk hc3; have HK3 := Aside0.mk (show l.length ≤ k3 by omega); have HG3 := Aside0.mk (And.intro hg3 hg3l); have HJ3 := Aside0.mk (HJ.out (some ⟨g3, 0, none⟩) k3 w3 (C_pre hc3) HK3.out (.inr ⟨g3, 0, rfl⟩)); clear ho hb hg hat hk3 hc3 hg3 hg3l ho3 hp3))
  clear hsz hf1 hf2
  ((refine HJ3.out.mono ?_); rintro e w4 ⟨rfl, hb⟩)
  have H4 := Aside0.mk (below_then H3.out H3.out.size hb)
  have HI4 := Aside0.mk (Kd.C_below HI3.out hb)
  have HZ4 := Aside0.mk hb.size
  have HR4 := Aside0.mk (Kd.C_below HR1.out H4.out)
  clear hb HJ3 HJ HI3 HR3 HR2 HB2
  have HO4 := Aside0.mk (HOR.out (some ⟨g3, 0, none⟩) k3 w4 (C_pre HI4.out))
  go_wp2_with fail
  ((refine HO4.out.mono ?_); rintro e w5 ⟨v5, rfl, hr, hb⟩)
  have H5 := Aside0.mk (below_then H4.out H4.out.size hb)
  have HI5 := Aside0.mk (Kd.C_below HI4.out hb)
  have HR5 := Aside0.mk (Kd.C_below HR4.out hb)
  obtain ⟨A5, k5, g5, rfl, hk5, hc5, hg5, ho5, hp5⟩ := own_of hr
  have HX5 := Aside0.mk hc5
  have HG5 := Aside0.mk hg5
  have HK5 := Aside0.mk hk5
  have HZ5 := Aside0.mk hb.size
  have HW5 := Aside0.mk ho5
  clear hb hr hk5 hc5 hg5 ho5 hp5 HI4 HR4 HO4
  have HO5 := Aside0.mk (HOR.out (some ⟨g3, 0, none⟩) k3 w5 (C_pre HI5.out))
  go_wp2_with fail
  ((refine HO5.out.mono ?_); rintro e w6 ⟨v6, rfl, hr, hb⟩)
  have H6 := Aside0.mk (below_then H5.out H5.out.size hb)
  have HI6 := Aside0.mk (Kd.C_below HI5.out hb)
  have HR6 := Aside0.mk (Kd.C_below HR5.out hb)
  have HX6 := Aside0.mk (Kd.C_below HX5.out hb)
  obtain ⟨A6, k6, g6, rfl, hk6, hc6, hg6, ho6, hp6⟩ := own_of hr
  have HY6 := Aside0.mk hc6
  have HG6 := Aside0.mk hg6
  have HK6 := Aside0.mk hk6
  have HZ6 := Aside0.mk hb.size
  have HXB6 := Aside0.mk hb
  clear hb hr hk6 hc6 hg6 ho6 hp6 HI5 HR5 HO5 HX5 HOR
  have HS6 := Aside0.mk (HST.out (some ⟨g3, 0, none⟩) k3 A c w6 (C_pre HI6.out) HK3.out HR6.out HC.out)
  have hq : w6.cell? ⟨g3, l.length, none⟩ = some (.string ⟨#[35]⟩) := by
    obtain ⟨ad, e, hcell⟩ := load_str HI6.out l.length (by rw [HLA.out]; omega)
    obtain rfl := Option.some.inj e
    rw [addr_add3] at hcell
    rw [hcell, List.getD_eq_getElem?_getD, List.getElem?_append_right (Nat.le_refl _), Nat.sub_self]
    rfl
  go_wp2_with fail
  ((refine HS6.out.mono ?_); rintro e w7 ⟨rfl, hd⟩)
  have hb := hd.below
  have H7 := Aside0.mk (below_then H6.out H6.out.size hb)
  have HI7 := Aside0.mk (Kd.C_below HI6.out hb)
  have HR7 := Aside0.mk (Kd.C_below HR6.out hb)
  have HX7 := Aside0.mk (Kd.C_below HX6.out hb)
  have HY7 := Aside0.mk (Kd.C_below HY6.out hb)
  have HXB7 := Aside0.mk (below_then HXB6.out HZ6.out hb)
  have HZ67 := Aside0.mk hb.size
  have hq7 : w7.cell? ⟨g3, l.length, none⟩ = some (.string ⟨#[35]⟩) := by rw [hb.cell (World.block_lt_of_cell? w6 _ hq)]; exact hq
  have b1 : (l.length : Int) < (l.length : Int) + 1 := by omega
  have b0 : (0 : Int) ≤ (l.length : Int) := by omega
  clear hd hb HI6 HR6 HX6 HY6 HS6 hq
  go_wp2_with fail
  ((refine (HSP.out _).mono ?_); rintro e w8 ⟨v8, rfl, hr, hb⟩)
  have H8 := Aside0.mk (below_then H7.out H7.out.size hb)
  have HI8 := Aside0.mk (Kd.C_below HI7.out hb)
  have HR8 := Aside0.mk (Kd.C_below HR7.out hb)
  have HX8 := Aside0.mk (Kd.C_below HX7.out hb)
  have HY8 := Aside0.mk (Kd.C_below HY7.out hb)
  have HXB8 := Aside0.mk (below_then HXB7.out HXB7.out.size hb)
  obtain ⟨A8, k8, g8, rfl, hk8, hc8, hg8, ho8, hp8⟩ := own_of hr
  have HL8 := Aside0.mk hc8
  have HG8 := Aside0.mk hg8
  have HK8 := Aside0.mk hk8
  have HW8 := Aside0.mk ho8
  have HZ8 := Aside0.mk hb.size
  clear hb hr hk8 hc8 hg8 ho8 hp8 HI7 HR7 HX7 HY7 hq7 b1 b0
  go_wp2_with fail
  ((refine (HSP.out _).mono ?_); rintro e w9 ⟨v9, rfl, hr, hb⟩)
  have H9 := Aside0.mk (below_then H8.out H8.out.size hb)
  have HI9 := Aside0.mk (Kd.C_below HI8.out hb)
  have HR9 := Aside0.mk (Kd.C_below HR8.out hb)
  have HX9 := Aside0.mk (Kd.C_below HX8.out hb)
  have HY9 := Aside0.mk (Kd.C_below HY8.out hb)
  have HXB9 := Aside0.mk (below_then HXB8.out HXB8.out.size hb)
  obtain ⟨A9, k9, g9, rfl, hk9, hc9, hg9, ho9, hp9⟩ := own_of hr
  have HM9 := Aside0.mk hc9
  have HG9 := Aside0.mk hg9
  have HK9 := Aside0.mk hk9
  have HW9 : Aside0 (Own w9 w9 g8 L.length) := ⟨⟨rfl, rfl, rfl, Nat.le_refl _, fun _ _ _ => rfl, fun q => by
    obtain ⟨cs, h1, h2⟩ := HW8.out.cells q
    exact ⟨cs, (hb.block g8 (HG8.out q).2.2).trans h1, h2⟩⟩⟩
  have HZ9 := Aside0.mk hb.size
  clear hb hr hk9 hc9 hg9 ho9 hp9 HI8 HR8 HX8 HY8 HSP HL8 HW8
  go_wp2_with fail
  go_loopg [14] L.length (fun kq v14 w' => ∃ i : Nat, v14 = .int .i64 (i : Int) ∧ i ≤ L.length ∧ L.length - i ≤ kq ∧ Aside0 (Own w9 w' g8 L.length))
  case atStart => exact ⟨0, rfl, by omega, by omega, HW9⟩
  case round =>
    obtain ⟨i, rfl, hi, hiq, HOW⟩ := hrel
    by_cases hil : i < L.length
    · cases gk with
      | zero => omega
      | succ g1 =>
        have HKI : Aside0 (i + 1 ≤ L.length ∧ L.length - (i + 1) ≤ g1) := ⟨⟨hil, keeps_step hiq⟩⟩
        obtain ⟨rfl, hlo8, hhi8⟩ := HG8.out (by omega)
        obtain ⟨rfl, hlo9, hhi9⟩ := HG9.out (by omega)
        have hM : ∀ {W : World}, Own w9 W g8 L.length → Kd.C Kd.string W (some ⟨g9, 0, none⟩) L.length L := fun h => h.keeps HM9.out fun ad e hn => by
          obtain rfl := Option.some.inj e
          exact ⟨hhi9, fun _ => by show g9 ≠ g8; omega⟩
        have hcell : ∀ {W : World}, Own w9 W g8 L.length → W.cell? ⟨g9, i, none⟩ = some (.string (L.getD i ⟨#[]⟩)) := fun h => by
          obtain ⟨ad, e, hc⟩ := load_str (hM h) i hil
          obtain rfl := Option.some.inj e
          rw [addr_add3] at hc
          exact hc
        have hx0 : (L.getD i ⟨#[]⟩) ∈ L := by rw [List.getD_eq_getElem?_getD, List.getElem?_eq_getElem hil]; exact List.getElem_mem hil
        obtain ⟨x, hx⟩ : ∃ x, L.getD i ⟨#[]⟩ = x := ⟨_, rfl⟩
        rw [hx] at hcell hx0
        have hxs : x.size ≤ 13 := (HOK.out x hx0).2.1
        have c0 := hcell HOW.out
        have hadd := run_string_add (P := Tryd.prog) (a := x) (b := (⟨#[33]⟩ : ByteArray)) (ha := by omega) (hb := by decide)
        obtain ⟨y, hy⟩ : ∃ y, x ++ (⟨#[33]⟩ : ByteArray) = y := ⟨_, rfl⟩
        rw [hy] at hadd
        have HP := Aside0.mk (HOW.out.put i (.string y) (by omega))
        have c1 := hcell HP.out
        obtain ⟨cs, h1, h2⟩ := HOW.out.cells (by omega)
        have x0 : wr.cell? ⟨g8, i, none⟩ = some cs[i] := (blk_cell h1 i).trans (Array.getElem?_eq_getElem (by omega))
        have f0 : wr.frozen? ⟨g8, i, none⟩ = false := blk_frozen h1 i
        have d1 : decide ((i : Int) < (L.length : Int)) = true := decide_eq_true (by omega)
        have d1n : decide (i < L.length) = true := decide_eq_true hil
        have q0 : (0 : Int) ≤ (i : Int) := by omega
        have q1 : (i : Int) < (L.length : Int) := by omega
        have wi : wrap64 ((i : Int) + 1) = (i : Int) + 1 := w64 (by omega) (by have := HLE.out; omega)
        have ne1 : (x.toList != x.toList) = false := bne_eq_false_iff_eq.2 rfl
        clear hM hcell hx0 hx hxs hy hi hiq
        go_wp2_with fail
        go_roundg g1
        case measure => omega
        case rel => exact ⟨i + 1, by go_num, HKI.out.1, HKI.out.2, HP⟩
    · rename World => wq
      obtain rfl : i = L.length := by omega
      have d1 : decide ((L.length : Int) < (L.length : Int)) = false := decide_eq_false (by omega)
      have hb9 : ∀ B, B ≤ w9.heap.size → (0 < L.length → B ≤ g8) → Below B w9 wq := fun B h1 h2 => HOW.out.below h1 h2
      have hz := HZ9.out
      have hb5 := hb9 w7.heap.size (by have := HZ8.out; omega) fun h => (HG8.out h).2.1
      have hz7 := HXB7.out.size
      have hz6 := HZ6.out
      have hz5 := HZ5.out
      have hz4 := HZ4.out
      have hz8 := HZ8.out
      have hz76 := HZ67.out
      have hz13 := H3.out.size
      have hz17 := H7.out.size
      have HBW := Aside0.mk (H9.out.trans (hb5.mono (by omega)))
      have hk : ∀ {A0 : Option Addr} {m : List ByteArray}, Kd.C Kd.string w9 A0 m.length m → (∀ ad, A0 = some ad → 0 < m.length → ad.block < w7.heap.size) → Kd.C Kd.string wq A0 m.length m := fun h h2 => C_keep h fun ad e hn => hb5.block _ (h2 ad e hn)
      have HI := Aside0.mk (hk HI9.out fun ad e _ => by obtain rfl := Option.some.inj e; have := HG3.out; show g3 < _; omega)
      have HRR := Aside0.mk (hk HR9.out fun ad e hn => by have := C_lt HR1.out ad e hn; omega)
      have HY := Aside0.mk (hk HY9.out fun ad e hn => by obtain ⟨e2, _, h3⟩ := HG6.out hn; rw [e] at e2; obtain rfl := Option.some.inj e2; show g6 < _; omega)
      have HOX : Aside0 (Own wq wq g5 X.length) := ⟨⟨rfl, rfl, rfl, Nat.le_refl _, fun _ _ _ => rfl, fun q => by
        obtain ⟨cs, h1, h2⟩ := HW5.out.cells q
        have hg := (HG5.out q).2.2
        exact ⟨cs, (hb5.block g5 (by omega)).trans ((HXB9.out.block g5 hg).trans h1), h2⟩⟩⟩
      have HSZ := Aside0.mk (And.intro HOW.out.size (And.intro hz hz8))
      clear hb9 hb5 hk hi hiq hil hz hz7 hz6 hz5 hz4 hz8 hz76 hz13 hz17
      go_wp2_with fail
      clear d1
      go_loopg [16] X.length (fun kq v16 w' => ∃ i : Nat, v16 = .int .i64 (i : Int) ∧ i ≤ X.length ∧ X.length - i ≤ kq ∧ Aside0 (Own wq w' g5 X.length))
      case atStart => exact ⟨0, rfl, by omega, by omega, HOX⟩
      case round =>
        obtain ⟨i, rfl, hi, hiq, HOW2⟩ := hrel
        by_cases hil : i < X.length
        · cases gk with
          | zero => omega
          | succ g1 =>
            have HKI : Aside0 (i + 1 ≤ X.length ∧ X.length - (i + 1) ≤ g1) := ⟨⟨hil, keeps_step hiq⟩⟩
            obtain ⟨rfl, hlo5, hhi5⟩ := HG5.out (by omega)
            obtain ⟨rfl, hlo6, hhi6⟩ := HG6.out (by omega)
            have hlt6 := C_lt HY.out _ rfl (by omega)
            have hM : ∀ {W : World}, Own wq W g5 X.length → Kd.C Kd.string W (some ⟨g6, 0, none⟩) X.length X := fun h => h.keeps HY.out fun ad e hn => by
              obtain rfl := Option.some.inj e
              exact ⟨hlt6, fun _ => by show g6 ≠ g5; omega⟩
            have hcell : ∀ {W : World}, Own wq W g5 X.length → W.cell? ⟨g6, i, none⟩ = some (.string (X.getD i ⟨#[]⟩)) := fun h => by
              obtain ⟨ad, e, hc⟩ := load_str (hM h) i hil
              obtain rfl := Option.some.inj e
              rw [addr_add3] at hc
              exact hc
            have hx0 : (X.getD i ⟨#[]⟩) ∈ X := by rw [List.getD_eq_getElem?_getD, List.getElem?_eq_getElem hil]; exact List.getElem_mem hil
            obtain ⟨x, hx⟩ : ∃ x, X.getD i ⟨#[]⟩ = x := ⟨_, rfl⟩
            rw [hx] at hcell hx0
            have hxs : x.size ≤ 200 := HX2.out x hx0
            have c0 := hcell HOW2.out
            have hadd := run_string_add (P := Tryd.prog) (a := x) (b := (⟨#[33]⟩ : ByteArray)) (ha := by omega) (hb := by decide)
            obtain ⟨y, hy⟩ : ∃ y, x ++ (⟨#[33]⟩ : ByteArray) = y := ⟨_, rfl⟩
            rw [hy] at hadd
            have HP := Aside0.mk (HOW2.out.put i (.string y) (by omega))
            have c1 := hcell HP.out
            obtain ⟨cs, h1, h2⟩ := HOW2.out.cells (by omega)
            have x0 : wr.cell? ⟨g5, i, none⟩ = some cs[i] := (blk_cell h1 i).trans (Array.getElem?_eq_getElem (by omega))
            have f0 : wr.frozen? ⟨g5, i, none⟩ = false := blk_frozen h1 i
            have d1 : decide ((i : Int) < (X.length : Int)) = true := decide_eq_true (by omega)
            have d1n : decide (i < X.length) = true := decide_eq_true hil
            have q0 : (0 : Int) ≤ (i : Int) := by omega
            have q1 : (i : Int) < (X.length : Int) := by omega
            have wi : wrap64 ((i : Int) + 1) = (i : Int) + 1 := w64 (by omega) (by have := HX1.out; omega)
            have ne1 : (x.toList != x.toList) = false := bne_eq_false_iff_eq.2 rfl
            clear hM hcell hx0 hx hxs hy hi hiq
            go_wp2_with fail
            go_roundg g1
            case measure => omega
            case rel => exact ⟨i + 1, by go_num, HKI.out.1, HKI.out.2, HP⟩
        · obtain rfl : i = X.length := by omega
          have d1 : decide ((X.length : Int) < (X.length : Int)) = false := decide_eq_false (by omega)
          have hsz := HSZ.out
          have hz13 := H3.out.size
          have hz17 := H7.out.size
          have hz4 := HZ4.out
          have hz5 := HZ5.out
          have hbb := HOW2.out.below (B := w4.heap.size) (by have := HZ6.out; have := HZ67.out; omega) (fun h => (HG5.out h).2.1)
          have HBX := Aside0.mk (HBW.out.trans (hbb.mono (by have := HZ4.out; omega)))
          have hIc := C_pre HI.out
          have hI2 : Kd.C Kd.string wr (some ⟨g3, 0, none⟩) l.length l := C_keep hIc fun ad e _ => by obtain rfl := Option.some.inj e; exact hbb.block _ (by have := HG3.out; show g3 < _; omega)
          have hR2 : Kd.C Kd.string wr A l.length l := C_keep HRR.out fun ad e hn => hbb.block _ (by have := C_lt HR1.out ad e hn; omega)
          have HS := Aside0.mk (HST.out (some ⟨g3, 0, none⟩) k3 A c wr hI2 HK3.out hR2 HC.out)
          clear hsz hz13 hz17 hz4 hz5 hbb hIc hI2 hR2 hi hiq hil
          go_wp2_with fail
          ((refine HS.out.mono ?_); rintro e wz ⟨rfl, hd⟩)
          have HBZ := Aside0.mk (below_then (H1.out.trans (HBX.out.mono H1.out.size)) (below_then H1.out H1.out.size HBX.out).size hd.below)
          clear hd HS
          go_wp2
          go_ret
          exact ⟨rfl, HBZ.out⟩
theorem keeps_row (s : ByteArray) (A : Option Addr) (c : Nat) (l : List ByteArray) (w : World) (hs : s.size ≤ 1048576) (hr : Kd.C Kd.string w A l.length l) (hc : l.length ≤ c) (hz : sumS l ≤ 1048576) :
    Calls Tryd.prog 5 #[.string s, .slice A l.length c] w fun e w' => e = .returned (.bool true) ∧ Below w.heap.size w w' :=
  keeps_calls s (by omega) A c l w hr hc (plain_C hr) (Nat.le_trans (sum_len l) hz) (Nat.le_trans (Nat.le_trans (join_sum l) hz) (by decide)) (fun p hp => by have := sum_mem l p hp; omega)
end Go.Proofs.YtdihhdmndjjknaaDoor.Walk
