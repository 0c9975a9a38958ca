/- Lists of names, each once: slices.CompactFunc by slices.Equal, as a contract. -/
import Derived.Test.YtdihhdmndjjknaaDoorKWSort
import Derived.Test.YtdihhdmndjjknaaDoorKWEqual
import Derived.Lib.SliceRun
namespace Go.Proofs.YtdihhdmndjjknaaDoor.Walk
open Go.RowKit Go.Shelf Go.Proofs.YtdihhdmndjjknaaDoor.PWalkOrders Go.Proofs.YtdihhdmndjjknaaDoor.Plain Go.Proofs.YtdihhdmndjjknaaDoor.Codec Go.Proofs.YtdihhdmndjjknaaDoorW.PrintWords Go.Proofs.YtdihhdmndjjknaaDoorW.PrintLast Go.Proofs.YtdihhdmndjjknaaDoorW.PrintMore
set_option linter.unusedVariables false
set_option linter.unusedSimpArgs false
abbrev Nm : Type := Value × List ByteArray
/-- Behind an element: what has other names than the one ahead of it. -/
def compG (p : Nm) : List Nm → List Nm
  | [] => []
  | y :: l => if y.2 = p.2 then compG y l else y :: compG y l
/-- Each run of equal names once. -/
def comp : List Nm → List Nm
  | [] => []
  | x :: l => x :: compG x l
theorem compG_snoc (p : Nm) (l : List Nm) (y : Nm) : compG p (l ++ [y]) = compG p l ++ (if y.2 = (l.getLastD p).2 then [] else [y]) := by
  induction l generalizing p with
  | nil =>
    show (if y.2 = p.2 then [] else [y]) = _
    rfl
  | cons x l ih =>
    have e : (x :: l).getLastD p = l.getLastD x := by cases l <;> rfl
    rw [e]
    show (if x.2 = p.2 then compG x (l ++ [y]) else x :: compG x (l ++ [y])) = (if x.2 = p.2 then compG x l else x :: compG x l) ++ _
    rw [ih]
    split <;> rfl
theorem comp_snoc (l : List Nm) (x y : Nm) : comp (l ++ [x] ++ [y]) = comp (l ++ [x]) ++ (if y.2 = x.2 then [] else [y]) := by
  cases l with
  | nil => exact congrArg (x :: ·) (compG_snoc x [] y)
  | cons z l =>
    show z :: compG z (l ++ [x] ++ [y]) = z :: compG z (l ++ [x]) ++ _
    rw [compG_snoc, List.getLastD_concat]
    rfl
theorem comp_take (qs : List Nm) (i : Nat) (h1 : 1 ≤ i) (h : i < qs.length) (x y : Nm) (hx : qs[i - 1]? = some x) (hy : qs[i]? = some y) : comp (qs.take (i + 1)) = comp (qs.take i) ++ (if y.2 = x.2 then [] else [y]) := by
  obtain ⟨j, rfl⟩ : ∃ j, i = j + 1 := ⟨i - 1, by omega⟩
  have hx' : qs[j]? = some x := hx
  have e1 : qs.take (j + 1) = qs.take j ++ [x] := by rw [List.take_add_one, hx']; rfl
  have e2 : qs.take (j + 1 + 1) = qs.take j ++ [x] ++ [y] := by rw [List.take_add_one, hy, e1]; rfl
  rw [e1, e2]
  exact comp_snoc _ _ _
theorem comp_len (l : List Nm) : (comp l).length ≤ l.length := by
  have h : ∀ (p : Nm) (l : List Nm), (compG p l).length ≤ l.length := by
    intro p l
    induction l generalizing p with
    | nil => exact Nat.le_refl _
    | cons y l ih =>
      show (if y.2 = p.2 then compG y l else y :: compG y l).length ≤ l.length + 1
      split
      · exact Nat.le_succ_of_le (ih y)
      · exact Nat.succ_le_succ (ih y)
  cases l with
  | nil => exact Nat.le_refl _
  | cons x l => exact Nat.succ_le_succ (h x l)
theorem equal_any (x y : List ByteArray) (hs : x.length ≤ 1048576) : slices_Equal_string_string.f (x.length + 1) x y = some (decide (x = y)) := by
  by_cases h : x.length = y.length
  · exact equal_is x y h hs
  · unfold slices_Equal_string_string.f
    rw [if_neg (by omega), decide_eq_false (fun q => h (by rw [q]))]
/-- A row's block: its cells, where nothing else has been turned. -/
structure RowIs (w0 w : World) (blk : Nat) (t : TypeId) (cs0 cs : Array Value) : Prop where
  cell : w.heap[blk]? = some (.cells cs t (0, 0))
  size : cs.size = cs0.size
  turned : Turned w0 w blk
theorem RowIs.put {w0 w : World} {blk : Nat} {t : TypeId} {cs0 cs : Array Value} (h : RowIs w0 w blk t cs0 cs) (i : Nat) (v : Value) : RowIs w0 (w.setCell ⟨blk, i, none⟩ v) blk t cs0 (cs.setIfInBounds i v) :=
  ⟨blk_put h.cell i v rfl, by simpa using h.size, h.turned.os, h.turned.tape, h.turned.output, by simpa [World.setCell] using h.turned.size, fun k hk hne => (Below.heap_setCell w ⟨blk, i, none⟩ v k hne).trans (h.turned.block k hk hne)⟩
theorem RowIs.drewN {w0 w : World} {blk : Nat} {t : TypeId} {cs0 cs : Array Value} (h : RowIs w0 w blk t cs0 cs) (n : Nat) : RowIs w0 (w.drewN n) blk t cs0 cs := ⟨h.cell, h.size, h.turned.os, h.turned.tape, h.turned.output, h.turned.size, h.turned.block⟩
theorem RowIs.cleared {w0 : World} {blk : Nat} {t : TypeId} {cs0 : Array Value} (l : List Value) : ∀ (o : Nat) (w : World) (cs : Array Value), RowIs w0 w blk t cs0 cs → ∃ cs', RowIs w0 (w.setCells blk o l) blk t cs0 cs' ∧ ∀ j, j < o → cs'[j]? = cs[j]? := by
  induction l with
  | nil => exact fun o w cs h => ⟨cs, h, fun _ _ => rfl⟩
  | cons v l ih =>
    intro o w cs h
    obtain ⟨cs', h1, h2⟩ := ih (o + 1) _ _ (h.put o v)
    refine ⟨cs', h1, fun j hj => ?_⟩
    rw [h2 j (by omega), Array.getElem?_setIfInBounds, if_neg (by omega)]
theorem info22 : (Tryd.prog.info? 22).map (·.size) = some 1 := by kernel_rfl
theorem slice_run (A : Option Addr) (n c lo : Nat) (h : lo ≤ n) (hlc : lo < c) (W : World) : (Instr.slice 45 (.slice A n c) (some (.int .i64 (lo : Int))) none none).run Tryd.prog W = .ok (.slice (A.map fun a => a.add lo) (n - lo) (c - lo)) W := by
  obtain ⟨i, hi, hs⟩ := Option.map_eq_some_iff.1 info22
  have hel : Tryd.prog.elem 45 = 22 := by simp [Program.elem, Tryd.underlying45]
  have hu : Tryd.prog.underlying 45 = some (.slice (Tryd.prog.elem 45)) := by rw [hel]; exact Tryd.underlying45
  rw [run_slice_l W 45 A n c hu .i64 lo (by omega) (by omega), hel]
  have hne : ¬ c = lo := by omega
  simp [sizeOf, typeInfo, hi, hs, sliced, Result.andThen, hne]
theorem slice_top (A : Option Addr) (n c hi_ : Nat) (h : hi_ ≤ c) (W : World) : (Instr.slice 45 (.slice A n c) none (some (.int .i64 (hi_ : Int))) none).run Tryd.prog W = .ok (.slice A hi_ c) W := by
  obtain ⟨i, hi, hs⟩ := Option.map_eq_some_iff.1 info22
  have hel : Tryd.prog.elem 45 = 22 := by simp [Program.elem, Tryd.underlying45]
  have hu : Tryd.prog.underlying 45 = some (.slice (Tryd.prog.elem 45)) := by rw [hel]; exact Tryd.underlying45
  have ha : (A.map fun x => x.add 0) = A := by cases A <;> simp [Addr.add]
  rw [run_slice_h W 45 A n c hu .i64 hi_ (by omega) (by omega), hel]
  simp [sizeOf, typeInfo, hi, hs, sliced, Result.andThen, ha]
theorem quiet_add {P : Program} {f : FuncId} {args : Array Value} {w : World} {a n : Nat} {v : Value}
    (h : Calls P f args (w.drewN (a + n)) fun e w' => e = .returned v ∧ ∃ m, w' = (w.drewN (a + n)).drewN m) :
    Calls P f args (w.drewN (a + n)) fun e w'' => e = .returned v ∧ ∃ m, w'' = w.drewN (a + m) :=
  h.mono fun _ _ ⟨he, m, hm⟩ => ⟨he, n + m, by rw [hm, World.drewN_drewN, Nat.add_assoc]⟩
theorem quiet_one {P : Program} {f : FuncId} {args : Array Value} {w : World} {n : Nat} {v : Value}
    (h : Calls P f args (w.drewN n) fun e w' => e = .returned v ∧ ∃ m, w' = (w.drewN n).drewN m) :
    Calls P f args (w.drewN n) fun e w'' => e = .returned v ∧ ∃ m, w'' = w.drewN m :=
  h.mono fun _ _ ⟨he, m, hm⟩ => ⟨he, n + m, by rw [hm, World.drewN_drewN]⟩
theorem eq_reads {w : World} {A1 A2 : Option Addr} {c1 c2 : Nat} {l1 l2 : List ByteArray} {r : Bool} (h1 : Kd.C Kd.string w A1 l1.length l1) (k1 : l1.length ≤ c1) (h2 : Kd.C Kd.string w A2 l2.length l2) (k2 : l2.length ≤ c2) (hs : l1.length ≤ 16) (hr : decide (l1 = l2) = r) (n : Nat) :
    Calls Tryd.prog 25 #[.slice A1 l1.length c1, .slice A2 l2.length c2] (w.drewN n) fun e w' => e = .returned (.bool r) ∧ ∃ m, w' = (w.drewN n).drewN m := by
  refine (slices_Equal_string_string.calls (l1.length + 1) A1 c1 l1 A2 c2 l2 r (w.drewN n) h1 k1 h2 k2 (by rw [equal_any l1 l2 (by omega), hr])).mono ?_
  rintro e w' ⟨he, hd⟩
  obtain ⟨hq⟩ := hd
  exact ⟨he, hq⟩
theorem elem_at {cs : Array Value} {w : World} {blk : Nat} {t : TypeId} (h : w.heap[blk]? = some (.cells cs t (0, 0))) {i : Nat} {v : Value} (hv : cs[i]? = some v) : w.cell? ⟨blk, i, none⟩ = some v := (blk_cell h i).trans hv
theorem addr_add (b k : Nat) : (⟨b, 0, none⟩ : Addr).add k = ⟨b, k, none⟩ := by unfold Addr.add; split <;> simp_all
theorem comp_arith2 {i m kk n : Nat} (h : i + 1 < m) (hm : m ≤ 1048576) (hk : kk < n) (hn : n ≤ 1048576) : (0 : Int) ≤ (i : Int) ∧ (i : Int) < (m : Int) ∧ (0 : Int) ≤ (i : Int) + 1 ∧ (i : Int) + 1 < (m : Int) ∧ decide ((i : Int) + 1 < (m : Int)) = true ∧ decide (i + 1 < m) = true ∧ wrap64 (i : Int) = (i : Int) ∧ wrap64 ((i : Int) + 1 + 1) = (i : Int) + 1 + 1 ∧ wrap64 ((kk : Int) + 1) = (kk : Int) + 1 ∧ (0 : Int) ≤ (kk : Int) ∧ (kk : Int) < (n : Int) :=
  ⟨by omega, by omega, by omega, by omega, decide_eq_true (by omega), decide_eq_true h, w64 (by omega) (by omega), w64 (by omega) (by omega), w64 (by omega) (by omega), by omega, by omega⟩
theorem comp_arith {j n : Nat} (h : j + 1 < n) (hl : n ≤ 1048576) : (0 : Int) ≤ (j : Int) ∧ (j : Int) < (n : Int) ∧ (0 : Int) ≤ (j : Int) + 1 ∧ (j : Int) + 1 < (n : Int) ∧ decide ((j : Int) + 1 < (n : Int)) = true ∧ decide (j + 1 < n) = true ∧ wrap64 (j : Int) = (j : Int) ∧ wrap64 ((j : Int) + 1 + 1) = (j : Int) + 1 + 1 :=
  ⟨by omega, by omega, by omega, by omega, decide_eq_true (by omega), decide_eq_true h, w64 (by omega) (by omega), w64 (by omega) (by omega)⟩
set_option maxHeartbeats 8000000 in
set_option maxRecDepth 100000 in
theorem compact_calls (w : World) (blk cap : Nat) (t : TypeId) (cs : Array Value) (qs : List Nm) (hcell : w.heap[blk]? = some (.cells cs t (0, 0))) (hpre : ∀ (j : Nat) (p : Nm), qs[j]? = some p → cs[j]? = some p.1) (hps : ∀ p ∈ qs, NamesAt w blk p) (hlen : qs.length ≤ 1048576) (hcap : qs.length ≤ cap) :
    Calls Tryd.prog 28 #[.slice (some ⟨blk, 0, none⟩) qs.length cap, .func (.func 25) #[] #[]] w fun e w' => ∃ cs', e = .returned (.slice (some ⟨blk, 0, none⟩) (comp qs).length cap) ∧ RowIs w w' blk t cs cs' ∧ ∀ (j : Nat) (p : Nm), (comp qs)[j]? = some p → cs'[j]? = some p.1 := by
  have HCE := Aside0.mk hcell
  have HPR := Aside0.mk hpre
  have HPS := Aside0.mk hps
  have HR0 : Aside0 (RowIs w w blk t cs cs) := ⟨⟨hcell, rfl, rfl, rfl, rfl, Nat.le_refl _, fun _ _ _ => rfl⟩⟩
  clear hcell hpre hps
  obtain ⟨n, hn⟩ : ∃ n, qs.length = n := ⟨_, rfl⟩
  have HN := Aside0.mk hn
  rw [hn] at hlen hcap ⊢
  clear hn
  by_cases h2 : n < 2
  · have hcq : comp qs = qs := by
      match qs, HN.out with
      | [], _ => rfl
      | [x], _ => rfl
      | x :: y :: l, h => simp at h; omega
    have d0 : decide ((n : Int) < 2) = true := decide_eq_true (by omega)
    have d0n : decide (n < 2) = true := decide_eq_true h2
    rw [hcq, HN.out]
    clear hcq hlen hcap
    go_enter Tryd.func28, Tryd.ntmps28
    go_wp2
    go_ret
    exact ⟨cs, rfl, HR0.out, HPR.out⟩
  have d0 : decide ((n : Int) < 2) = false := decide_eq_false (by omega)
  have d0n : decide (n < 2) = false := decide_eq_false h2
  have HL := Aside0.mk (And.intro hlen hcap)
  have h2' : 2 ≤ n := by omega
  clear h2 hlen hcap
  go_enter Tryd.func28, Tryd.ntmps28
  go_wp2_with fail
  go_loopg [5] n (fun kq v5 w' => ∃ k nd : Nat, v5 = .int .i64 (k : Int) ∧ 1 ≤ k ∧ k ≤ n ∧ n - k ≤ kq ∧ Aside0 (comp (qs.take k) = qs.take k) ∧ w' = w.drewN nd)
  case atStart =>
    refine ⟨1, 0, rfl, by omega, by omega, by omega, ⟨?_⟩, rfl⟩
    cases qs with
    | nil => rfl
    | cons x l => rfl
  case round =>
    obtain ⟨k, nd, rfl, hk1, hkn, hkq, HT, rfl⟩ := hrel
    by_cases hlt : k < n
    · cases gk with
      | zero => omega
      | succ k1 =>
        obtain ⟨j, rfl⟩ : ∃ j, k = j + 1 := ⟨k - 1, by omega⟩
        have hk2 : j + 1 < qs.length := by rw [HN.out]; exact hlt
        obtain ⟨x, hx⟩ : ∃ x, qs[j + 1]? = some x := ⟨_, List.getElem?_eq_getElem hk2⟩
        obtain ⟨y, hy⟩ : ∃ y, qs[j]? = some y := ⟨_, List.getElem?_eq_getElem (by omega)⟩
        obtain ⟨⟨vx, lx⟩, hX⟩ : ∃ z, x = z := ⟨_, rfl⟩
        obtain ⟨⟨vy, ly⟩, hY⟩ : ∃ z, y = z := ⟨_, rfl⟩
        subst hX
        subst hY
        obtain ⟨Ax, cx, ex, hx1, hx2, hx3, _⟩ := HPS.out _ (List.mem_of_getElem? hx)
        obtain ⟨Ay, cy, ey, hy1, hy2, hy3, _⟩ := HPS.out _ (List.mem_of_getElem? hy)
        simp only at ex ey hx1 hx2 hx3 hy1 hy2 hy3
        subst ex
        subst ey
        have hcx := elem_at (w := w) (cs := cs) HCE.out (HPR.out (j + 1) _ hx)
        have hcy := elem_at (w := w) (cs := cs) HCE.out (HPR.out j _ hy)
        simp only at hcx hcy
        have HX := Aside0.mk (And.intro hx hy)
        obtain ⟨r, hr⟩ : ∃ r, decide (lx = ly) = r := ⟨_, rfl⟩
        have HE := Aside0.mk (eq_reads (w := w) hx3 hx1 hy3 hy1 hx2 hr)
        obtain ⟨p0, p1, p2, p3, d1, d1n, w1, w2⟩ := comp_arith hlt HL.out.1
        have HK := Aside0.mk (And.intro hkq hlt)
        clear hx hy hx1 hx2 hx3 hy1 hy2 hy3 hk2 hkn hkq hk1 h2'
        have HRR := Aside0.mk hr
        clear hr
        go_wp2_with fail
        cases r with
        | false =>
          go_quiet ((go_at_call 25; exact quiet_add (HE.out _)))
          go_wp2
          go_roundg k1
          case measure => omega
          case rel =>
            refine ⟨j + 1 + 1, nd + nq, by go_num, by omega, by have := HK.out.2; omega, by have := HK.out; omega, ⟨?_⟩, rfl⟩
            have h := comp_take qs (j + 1) (by omega) (by rw [HN.out]; exact hlt) _ _ HX.out.2 HX.out.1
            rw [h, HT.out, if_neg (of_decide_eq_false HRR.out)]
            have e := List.take_add_one (l := qs) (i := j + 1)
            rw [HX.out.1] at e
            exact e.symm
        | true =>
          go_quiet ((go_at_call 25; exact quiet_add (HE.out _)))
          obtain ⟨m, hm⟩ : ∃ m, n = j + 1 + m := ⟨n - (j + 1), by have := HK.out.2; omega⟩
          have hsl : ∀ W : World, (Instr.slice 45 (.slice (some ⟨blk, 0, none⟩) n cap) (some (.int .i64 ((j : Int) + 1))) none none).run Tryd.prog W = .ok (.slice (some ⟨blk, j + 1, none⟩) m (cap - (j + 1))) W := by
            intro W
            have h := slice_run (some ⟨blk, 0, none⟩) n cap (j + 1) (by have := HK.out.2; omega) (by have := HK.out.2; have := HL.out.2; omega) W
            have e1 : n - (j + 1) = m := by omega
            have e2 : (⟨blk, 0, none⟩ : Addr).add (j + 1) = ⟨blk, j + 1, none⟩ := addr_add blk (j + 1)
            rw [e1] at h
            simp only [Option.map_some, e2] at h
            exact h
          have HM := Aside0.mk hm
          have HT2 : Aside0 (comp (qs.take (j + 2)) = qs.take (j + 1)) := ⟨by
            have h := comp_take qs (j + 1) (by omega) (by rw [HN.out]; exact HK.out.2) _ _ HX.out.2 HX.out.1
            rw [h, HT.out, if_pos (of_decide_eq_true HRR.out), List.append_nil]⟩
          clear hm hcx hcy HE HRR p0 p1 p2 p3 d1 d1n w1 w2
          go_wp2_with fail
          clear hsl
          go_loopg [5, 7] m (fun gq v5 v7 w' => ∃ (kk i : Nat) (cs' : Array Value), v5 = .int .i64 (kk : Int) ∧ v7 = .int .i64 ((i : Int) + 1) ∧ i + 1 ≤ m ∧ m - (i + 1) ≤ gq ∧ Aside0 (RowIs w w' blk t cs cs') ∧ Aside0 ((comp (qs.take (j + i + 2))).length = kk ∧ kk ≤ j + 1 + i) ∧ Aside0 (∀ (a : Nat) (p : Nm), (comp (qs.take (j + i + 2)))[a]? = some p → cs'[a]? = some p.1) ∧ Aside0 (∀ (a : Nat) (p : Nm), j + 1 + i ≤ a → qs[a]? = some p → cs'[a]? = some p.1))
          case atStart =>
            refine ⟨j + 1, 0, cs, by go_num, by go_num, by have := HM.out; have := HK.out.2; omega, by omega, ⟨HR0.out.drewN (nd + nq)⟩, ⟨?_, by omega⟩, ⟨?_⟩, ⟨fun a p _ h => HPR.out a p h⟩⟩
            · show (comp (qs.take (j + 2))).length = _
              rw [HT2.out, List.length_take, HN.out]
              have := HK.out.2
              omega
            · intro a p h
              have h : (comp (qs.take (j + 2)))[a]? = some p := h
              rw [HT2.out] at h
              have hlt2 : a < (qs.take (j + 1)).length := (List.getElem?_eq_some_iff.1 h).1
              rw [List.length_take] at hlt2
              rw [List.getElem?_take_of_lt (by omega)] at h
              exact HPR.out a p h
          case round =>
            obtain ⟨kk, i, cs', rfl, rfl, him, hgq, HRW, HC, HCA, HRE⟩ := hrel
            by_cases hil : i + 1 < m
            · cases gk with
              | zero => omega
              | succ g1 =>
                have hj2 : j + 1 + i + 1 < qs.length := by rw [HN.out]; have := HM.out; omega
                obtain ⟨⟨vu, lu⟩, hu⟩ : ∃ u, qs[j + 1 + i + 1]? = some u := ⟨_, List.getElem?_eq_getElem hj2⟩
                obtain ⟨⟨vv, lv⟩, hv⟩ : ∃ v, qs[j + 1 + i]? = some v := ⟨_, List.getElem?_eq_getElem (by omega)⟩
                obtain ⟨Au, cu, eu, hu1, hu2, hu3, hu4⟩ := (HPS.out _ (List.mem_of_getElem? hu)).turned HRW.out.turned
                obtain ⟨Av, cv, ev, hv1, hv2, hv3, hv4⟩ := (HPS.out _ (List.mem_of_getElem? hv)).turned HRW.out.turned
                simp only at eu ev hu1 hu2 hu3 hv1 hv2 hv3
                subst eu
                subst ev
                have hcu := elem_at (w := wr) (cs := cs') HRW.out.cell (HRE.out (j + 1 + i + 1) _ (by omega) hu)
                have hcv := elem_at (w := wr) (cs := cs') HRW.out.cell (HRE.out (j + 1 + i) _ (by omega) hv)
                simp only at hcu hcv
                rw [show j + 1 + i + 1 = j + 1 + (i + 1) by omega] at hcu
                obtain ⟨r, hr⟩ : ∃ r, decide (lu = lv) = r := ⟨_, rfl⟩
                have HE := Aside0.mk (eq_reads (w := wr) hu3 hu1 hv3 hv1 hu2 hr)
                have hkc : kk < cs'.size := by
                  have h1 := HRE.out (j + 1 + i) _ (by omega) hv
                  have h2 := (Array.getElem?_eq_some_iff.1 h1).1
                  have := HC.out.2
                  omega
                obtain ⟨old, hold⟩ : ∃ o, cs'[kk]? = some o := ⟨_, Array.getElem?_eq_getElem hkc⟩
                have hck := elem_at (w := wr) HRW.out.cell hold
                have hfk : wr.frozen? ⟨blk, kk, none⟩ = false := blk_frozen HRW.out.cell kk
                have hstep := comp_take qs (j + i + 2) (by omega) (by omega) (.slice Av lv.length cv, lv) (.slice Au lu.length cu, lu) (by rw [show j + i + 2 - 1 = j + 1 + i by omega]; exact hv) (by rw [show j + i + 2 = j + 1 + i + 1 by omega]; exact hu)
                have HST := Aside0.mk hstep
                obtain ⟨p0, p1, p2, p3, d1, d1n, w1, w2, w3, q0, q1⟩ := comp_arith2 hil (show m ≤ 1048576 by have := HM.out; have := HL.out.1; omega) (show kk < n by have := HC.out.2; have := HM.out; omega) HL.out.1
                have w1k : IntKind.i64.wrap (i : Int) = (i : Int) := (i64_w _).trans w1
                have HRR := Aside0.mk hr
                have HK2 := Aside0.mk (And.intro hil hgq)
                have HUV := Aside0.mk (And.intro hu hv)
                clear hr hu hv hu1 hu2 hu3 hu4 hv1 hv2 hv3 hv4 hstep hkc hold hj2 hil hgq him
                go_wp2_with fail
                cases r with
                | true =>
                  go_quiet ((go_at_call 25; exact quiet_one (HE.out _)))
                  go_wp2
                  go_roundg g1
                  case measure => omega
                  case rel =>
                    refine ⟨kk, i + 1, cs', rfl, by go_num, by have := HK2.out; omega, by have := HK2.out; omega, ⟨HRW.out.drewN _⟩, ⟨?_, by have := HC.out.2; omega⟩, ⟨?_⟩, ⟨fun a p h q => HRE.out a p (by omega) q⟩⟩
                    · rw [show j + (i + 1) + 2 = j + i + 2 + 1 by omega, HST.out, if_pos (of_decide_eq_true HRR.out), List.append_nil]
                      exact HC.out.1
                    · rw [show j + (i + 1) + 2 = j + i + 2 + 1 by omega, HST.out, if_pos (of_decide_eq_true HRR.out), List.append_nil]
                      exact HCA.out
                | false =>
                  go_quiet ((go_at_call 25; exact quiet_one (HE.out _)))
                  go_wp2
                  go_roundg g1
                  case measure => omega
                  case rel =>
                    have hlen2 : (comp (qs.take (j + i + 2)) ++ [((Value.slice Au lu.length cu, lu) : Nm)]).length = kk + 1 := by rw [List.length_append, HC.out.1]; rfl
                    refine ⟨kk + 1, i + 1, cs'.setIfInBounds kk (.slice Au lu.length cu), by go_num, by go_num, by have := HK2.out; omega, by have := HK2.out; omega, ⟨(HRW.out.drewN _).put kk _⟩, ⟨?_, by have := HC.out.2; omega⟩, ⟨?_⟩, ⟨fun a p h q => ?_⟩⟩
                    · rw [show j + (i + 1) + 2 = j + i + 2 + 1 by omega, HST.out, if_neg (of_decide_eq_false HRR.out)]
                      exact hlen2
                    · rw [show j + (i + 1) + 2 = j + i + 2 + 1 by omega, HST.out, if_neg (of_decide_eq_false HRR.out)]
                      intro a p h
                      have ha := (List.getElem?_eq_some_iff.1 h).1
                      rw [hlen2] at ha
                      by_cases e : a = kk
                      · subst e
                        rw [List.getElem?_append_right (Nat.le_of_eq HC.out.1), HC.out.1, Nat.sub_self] at h
                        have hp : ((Value.slice Au lu.length cu, lu) : Nm) = p := by simpa using h
                        subst hp
                        have hsz : a < cs'.size := by
                          have h1 := HRE.out (j + 1 + i) _ (by omega) HUV.out.2
                          have h2 := (Array.getElem?_eq_some_iff.1 h1).1
                          have := HC.out.2
                          omega
                        rw [Array.getElem?_setIfInBounds, if_pos rfl, if_pos hsz]
                      · rw [List.getElem?_append_left (by rw [HC.out.1]; omega)] at h
                        rw [Array.getElem?_setIfInBounds, if_neg (by omega)]
                        exact HCA.out a p h
                    · rw [Array.getElem?_setIfInBounds, if_neg (by have := HC.out.2; omega)]
                      exact HRE.out a p (by omega) q
            · obtain rfl : m = i + 1 := by omega
              have hfin : qs.take (j + i + 2) = qs := List.take_of_length_le (by rw [HN.out]; have := HM.out; omega)
              have HF := Aside0.mk hfin
              have hkn2 : kk < n := by have := HC.out.2; have := HM.out; omega
              have hcsz : n ≤ cs'.size := by
                have h1 := HRE.out (j + 1 + i) _ (by omega) (List.getElem?_eq_getElem (show j + 1 + i < qs.length by rw [HN.out]; have := HM.out; omega))
                have h2 := (Array.getElem?_eq_some_iff.1 h1).1
                have := HM.out
                omega
              have hs1 : ∀ W : World, (Instr.slice 45 (.slice (some ⟨blk, 0, none⟩) n cap) (some (.int .i64 (kk : Int))) none none).run Tryd.prog W = .ok (.slice (some ⟨blk, kk, none⟩) (n - kk) (cap - kk)) W := by
                intro W
                have h := slice_run (some ⟨blk, 0, none⟩) n cap kk (by omega) (by have := HL.out.2; omega) W
                have e2 : (⟨blk, 0, none⟩ : Addr).add kk = ⟨blk, kk, none⟩ := addr_add blk kk
                simp only [Option.map_some, e2] at h
                exact h
              have hs2 : ∀ W : World, (Instr.slice 45 (.slice (some ⟨blk, 0, none⟩) n cap) none (some (.int .i64 (kk : Int))) none).run Tryd.prog W = .ok (.slice (some ⟨blk, 0, none⟩) kk cap) W := fun W => slice_top _ n cap kk (by have := HL.out.2; omega) W
              have hcl : ∀ ty, (Builtin.clear_ #[45] ty #[.slice (some ⟨blk, kk, none⟩) (n - kk) (cap - kk)]).run Tryd.prog wr = .ok (.tuple #[]) (wr.setCells blk kk (List.replicate (n - kk) (.slice none 0 0))) := fun ty =>
                Lib.run_clear_slice wr 45 22 ty (.slice none 0 0) Tryd.underlying45 Tryd.zeroValue22 rfl rfl blk kk (n - kk) (cap - kk) (by omega) (fun a ha => by rw [elem_at HRW.out.cell (Array.getElem?_eq_getElem (show kk + a < cs'.size by omega))]; rfl) (fun a ha => blk_frozen HRW.out.cell (kk + a))
              obtain ⟨cs2, hR2, hlow⟩ := RowIs.cleared (List.replicate (n - kk) (.slice none 0 0)) kk wr cs' HRW.out
              have HR2 := Aside0.mk hR2
              have HLO := Aside0.mk hlow
              have d1 : decide ((i : Int) + 1 < (i : Int) + 1) = false := decide_eq_false (by omega)
              clear hfin hkn2 hcsz hR2 hlow him hgq hil
              go_wp2
              go_ret
              have hlq : (comp qs).length = kk := by rw [← HF.out]; exact HC.out.1
              rw [hlq]
              refine ⟨cs2, rfl, HR2.out, fun a p h => ?_⟩
              have ha := (List.getElem?_eq_some_iff.1 h).1
              rw [hlq] at ha
              rw [HLO.out a ha]
              exact HCA.out a p (by rw [HF.out]; exact h)
    · obtain rfl : k = n := by omega
      have hcq : comp qs = qs := by have h := HT.out; rw [← HN.out, List.take_length] at h; exact h
      have d1 : decide ((k : Int) < (k : Int)) = false := decide_eq_false (by omega)
      have HCQ := Aside0.mk hcq
      clear hcq
      go_wp2
      go_ret
      rw [HCQ.out, HN.out]
      exact ⟨cs, rfl, HR0.out.drewN nd, HPR.out⟩
end Go.Proofs.YtdihhdmndjjknaaDoor.Walk
