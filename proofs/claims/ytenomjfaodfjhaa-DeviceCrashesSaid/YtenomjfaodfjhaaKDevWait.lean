/- A device's calls, more: Waiting, Load. -/
import Derived.Test.YtenomjfaodfjhaaKDevNew
namespace Go.Proofs.Ytenomjfaodfjhaa.Keeps
open Go.RowKit Go.Proofs.Ytenomjfaodfjhaa.PDeviceKeeps Go.Proofs.YtenomjfaodfjhaaW.PrintWords Go.Proofs.YtenomjfaodfjhaaW.PrintLast Go.Proofs.YtenomjfaodfjhaaW.PrintMore
set_option linter.unusedVariables false
set_option linter.unusedSimpArgs false
/-- One field of a cell is written. -/
theorem Dev.store2 {w : World} {base D C n Bk : Nat} {fl : Flags} {av wv : Nat → Value} {es : Nat → List Value} {st : Nat → List (List Int)} (H : Dev w base D C n Bk fl av wv es st) (i : Nat) (hi : i < n * 2) (x : Value) {av' wv' : Nat → Value} {es' : Nat → List Value} {st' : Nat → List (List Int)}
    (h1 : ∀ k, k < n → (i = k * 2 → av' k = x) ∧ (i ≠ k * 2 → av' k = av k) ∧ (i = k * 2 + 1 → wv' k = x) ∧ (i ≠ k * 2 + 1 → wv' k = wv k))
    (h2 : ∀ k, k < n → wv' k = wv k ∨ wv' k = .slice none 0 0) (h3 : ∀ k, k < n → w.ownsRow base 29 1 (wv' k) (es' k).length (es' k)) (h4 : ∀ k, k < n → (st' k).length = (es' k).length + 1)
    (h5 : ∀ k, k < n → ∀ (j : Nat) v, (av' k :: es' k)[j]? = some v → (∃ j' : Nat, (av k :: es k)[j']? = some v ∧ (st' k)[j]? = (st k)[j']?) ∨ ∃ g ys, Row w v (some g) ys ∧ (st' k)[j]? = some ys ∧ ys.length = Bk ∧ ¬ Mut D C n wv g) :
    Dev (w.setCell ⟨C, i, none⟩ x) base D C n Bk fl av' wv' es' st' ∧ Step w (w.setCell ⟨C, i, none⟩ x) (Mut D C n wv) (Mut D C n wv') := by
  have far : ∀ g, g ≠ C → (w.setCell ⟨C, i, none⟩ x).heap[g]? = w.heap[g]? := fun g hg => Below.heap_setCell _ _ _ _ hg
  have hb : ∀ k, k < n → ∀ g, (wv' k).ownBlock = some g → (wv k).ownBlock = some g := by
    intro k hk g e
    rcases h2 k hk with h | h
    · rw [← h]; exact e
    · rw [h] at e; cases e
  have hmut : ∀ g, Mut D C n wv' g → Mut D C n wv g := by
    rintro g (e | e | ⟨k, hk, e⟩)
    · exact .inl e
    · exact .inr (.inl e)
    · exact .inr (.inr ⟨k, hk, hb k hk g e⟩)
  obtain ⟨cc, hcc, hsz, hcell⟩ := H.cells
  have hcc' : w.heap[C]? = some (.cells cc.toList.toArray 62 (0, 0)) := by rw [show cc.toList.toArray = cc by simp]; exact hcc
  refine ⟨⟨(far D H.DC).trans H.head, ⟨(cc.toList.set i x).toArray, ?_, by simp; exact hsz, fun k hk => ?_⟩, fun k hk => owns_keep (h3 k hk) fun g e => far g (fun e' => (H.DW k hk).2 (by rw [hb k hk g e, e'])), h4, fun k hk j v hv => ?_, H.DC, fun k hk => ⟨fun e => (H.DW k hk).1 (hb k hk _ e), fun e => (H.DW k hk).2 (hb k hk _ e)⟩, fun a b ha hb' hab g e1 e2 => H.WW a b ha hb' hab g (hb a ha g e1) (hb b hb' g e2), H.lowD, H.lowC, H.hn, H.hB⟩, ⟨rfl, rfl, rfl, by simp [World.setCell], fun g hg hm => far g (fun e => hm (.inr (.inl e))), fun g _ hm => hmut g hm⟩⟩
  · rw [setCell_eq_setRow w C i _ 62 (0, 0) _ hcc', setRow_heap w C _ _ 62 (0, 0) hcc']
    simp only [List.setIfInBounds_toArray]
  · have hsz' : cc.toList.length = n * 2 := by simp [hsz]
    obtain ⟨a1, a2, a3, a4⟩ := h1 k hk
    rw [List.getElem?_toArray, List.getElem?_toArray, List.getElem?_set, List.getElem?_set]
    constructor
    · by_cases e : i = k * 2
      · rw [if_pos e, if_pos (by omega), a1 e]
      · rw [if_neg e, a2 e]; simpa using (hcell k hk).1
    · by_cases e : i = k * 2 + 1
      · rw [if_pos e, if_pos (by omega), a3 e]
      · rw [if_neg e, a4 e]; simpa using (hcell k hk).2
  · rcases h5 k hk j v hv with ⟨j', e1, e2⟩ | ⟨g, ys, q1, q2, q3, q4⟩
    · obtain ⟨g, xs, q1, q2, q3, q4⟩ := H.rows k hk j' v e1
      exact ⟨g, xs, by rw [e2]; exact q1, q2, q3.keep fun g' e => far g' (fun e' => by cases e; exact q4 (.inr (.inl e'))), fun hm => q4 (hmut g hm)⟩
    · exact ⟨g, ys, q2, q3, q1.keep fun g' e => far g' (fun e' => by cases e; exact q4 (.inr (.inl e'))), fun hm => q4 (hmut g hm)⟩
variable {base D C n Bk : Nat} {fl : Flags} {av wv : Nat → Value} {es : Nat → List Value} {st : Nat → List (List Int)}
/-- The blocks of which writes wait, and how many. -/
def waitN (st : Nat → List (List Int)) : Nat → List Int
  | 0 => []
  | i + 1 => if 1 < (st i).length then waitN st i ++ [(i : Int), ((st i).length : Int) - 1] else waitN st i
theorem waitN_len (st : Nat → List (List Int)) : ∀ i, (waitN st i).length ≤ 2 * i := by
  intro i
  induction i with
  | zero => simp [waitN]
  | succ i ih => unfold waitN; split <;> (try rw [List.length_append]) <;> (try simp only [List.length_cons, List.length_nil]) <;> omega
theorem news_two' (wr : World) (o : Obj) (a b : Value) (t : TypeId) : ∀ j u, [a, b][j]? = some u → ((wr.alloc o).alloc (.cells #[a, b] t)).cell? ((⟨wr.heap.size + 1, 0, none⟩ : Addr).add j) = some u := by
  intro j u hu
  have ha : (⟨wr.heap.size + 1, 0, none⟩ : Addr).add j = ⟨wr.heap.size + 1, j, none⟩ := by unfold Addr.add; split <;> simp_all
  have hb : ((wr.alloc o).alloc (.cells #[a, b] t)).heap[wr.heap.size + 1]? = some (.cells #[a, b] t) := by
    have := blk_new (wr.alloc o) (.cells #[a, b] t)
    simpa using this
  rw [ha, blk_cell hb j]
  simpa using hu
set_option maxHeartbeats 8000000 in
set_option maxRecDepth 100000 in
theorem waiting_calls (w : World) (H : Dev w base D C n Bk fl av wv es st) :
    Calls Try.prog 19 #[.pointer (some ⟨D, 0, none⟩)] w fun e w' => ∃ v, e = .returned v ∧ w'.ownsRow w.heap.size 3 1 v (waitN st n).length (nums .i64 (waitN st n)) ∧ Below w.heap.size w w' := by
  have hn := H.hn
  have HH := Aside0.mk H
  have hc1 := (H.headCell 1).1
  simp only [headOf] at hc1
  clear H
  go_enter Try.func19, Try.ntmps19
  go_wp2_with fail
  clear hc1
  go_loopg [3, 13] n (fun kq v3 v13 w' => ∃ i : Nat, v13 = .int .i64 (i : Int) ∧ i ≤ n ∧ n - i ≤ kq ∧ Aside0 (w'.ownsRow w.heap.size 3 1 v3 (waitN st i).length (nums .i64 (waitN st i))) ∧ Aside0 (Below w.heap.size w w'))
  case atStart => exact ⟨0, rfl, by omega, by omega, ⟨World.ownsRow_nil _ _ _ _⟩, ⟨Below.refl _ _⟩⟩
  case round =>
    obtain ⟨i, rfl, hi, hk, HO, HB⟩ := hrel
    by_cases hlt : i < n
    · cases gk with
      | zero => omega
      | succ k1 =>
        have hD := HH.out.below HB.out
        have d0 : decide ((i : Int) < (n : Int)) = true := decide_eq_true (by omega)
        have p0 : (0 : Int) ≤ (i : Int) := by omega
        have p1 : (i : Int) < (n : Int) := by omega
        have hcA := (hD.cellAv i hlt).1
        have hcW := (hD.cellWv i hlt).1
        obtain ⟨Aw, cw, hwv, _⟩ := owns_form (hD.wait i hlt)
        have hlen := hD.len i hlt
        obtain ⟨g0, xs0, _, _, hrow0, _⟩ := hD.rows i hlt 0 (av i) rfl
        obtain ⟨ca, hav, _⟩ := hrow0.slice
        rw [hwv] at hcW
        rw [hav] at hcA
        obtain ⟨na, hna⟩ : ∃ na, xs0.length = na := ⟨_, rfl⟩
        rw [hna] at hcA
        obtain ⟨m, hm⟩ : ∃ m, (es i).length = m := ⟨_, rfl⟩
        rw [hm] at hcW
        have HM : Aside0 ((st i).length = m + 1) := ⟨by rw [hlen, hm]⟩
        clear hD hwv hlen hrow0 hav hna hm
        by_cases hm0 : m = 0
        · subst hm0
          have hW : waitN st (i + 1) = waitN st i := by
            show (if 1 < (st i).length then _ else _) = _
            rw [if_neg (by rw [HM.out]; omega)]
          have HW := Aside0.mk hW
          clear hW
          go_wp2
          go_roundg k1
          case measure => omega
          case rel =>
            refine ⟨i + 1, by go_num, by omega, by omega, ⟨?_⟩, ⟨?_⟩⟩
            · rw [HW.out]; exact HO.out.alloc _
            · exact HB.out.alloc HB.out.size _
        · have d1 : decide (0 < m) = true := decide_eq_true (by omega)
          have d2 : 0 < m := by omega
          have hW : waitN st (i + 1) = waitN st i ++ [(i : Int), (m : Int)] := by
            show (if 1 < (st i).length then _ else _) = _
            rw [if_pos (by rw [HM.out]; omega), HM.out, show (((m + 1 : Nat) : Int) - 1) = (m : Int) by omega]
          have HW := Aside0.mk hW
          have HLen := Aside0.mk (waitN_len st i)
          clear hW
          obtain ⟨i3, hi3⟩ := Option.map_eq_some_iff.1 info3
          simp only [Prod.mk.injEq] at hi3
          obtain ⟨hi3, hz3, hs3, hb3⟩ := hi3
          go_wp2_with (at_builtin; refine wpList_append_own _ (by rfl) (.tmp 22) (.tmp 27) 30 (by rfl) w.heap.size 3 i3 (.int .i64 0) 1 8 Try.underlying30 hi3 hz3 hs3 hb3 rfl (by decide) _ _ _ (by rfl) ((HO.out.alloc _).alloc _) ⟨wr.heap.size + 1, 0, none⟩ 2 2 [.int .i64 (i : Int), .int .i64 (m : Int)] (by rfl) rfl (news_two' wr _ _ _ _) (by simp [Value.oneCell']) (by have := HLen.out; unfold maxLen; omega) (by have := HLen.out; omega) (by have := HB.out.size; simp; omega) ?_; intro v' w' hown hgr _; have HR := Aside0.mk hown; have HGr := Aside0.mk hgr; clear hown hgr)
          clear hi3 hz3 hs3 hb3
          go_roundg k1
          case measure => omega
          case rel =>
            refine ⟨i + 1, by go_num, by omega, by omega, ⟨?_⟩, ⟨?_⟩⟩
            · have h := HR.out
              rw [HW.out, List.length_append, nums_append]
              exact h
            · refine ((HB.out.alloc HB.out.size _).alloc (by have := HB.out.size; simp; omega) _).grown HGr.out (by have := HB.out.size; simp; omega) fun k e => (HO.out.lt k e).1
    · obtain rfl : i = n := by omega
      have d0 : decide ((i : Int) < (i : Int)) = false := decide_eq_false (by omega)
      go_wp2
      go_ret
      exact ⟨_, rfl, HO.out, HB.out⟩
theorem Dev.fresh {w : World} (H : Dev w base D C n Bk fl av wv es st) (b : Nat) (hb : b < n) {v : Value} {g : Nat} {xs : List Int} (hr : Row w v (some g) xs) (hl : xs.length = Bk) (hg : ¬ Mut D C n wv g) :
    Dev (w.setCell ⟨C, b * 2, none⟩ v) base D C n Bk fl (upd av b v) wv es (upd st b (xs :: (st b).tail)) ∧ Step w (w.setCell ⟨C, b * 2, none⟩ v) (Mut D C n wv) (Mut D C n wv) := by
  refine H.store2 (b * 2) (by omega) _ (fun k hk => ⟨fun e => ?_, fun e => upd_other _ _ (by omega), fun e => by omega, fun _ => rfl⟩) (fun k hk => .inl rfl) (fun k hk => H.wait k hk) (fun k hk => ?_) (fun k hk j u hu => ?_)
  · obtain rfl : k = b := by omega
    exact upd_same _ _ _
  · by_cases h : k = b
    · subst h; rw [upd_same]; have := H.len k hk; simp; omega
    · rw [upd_other _ _ h]; exact H.len k hk
  · by_cases h : k = b
    · subst h
      rw [upd_same] at hu ⊢
      cases j with
      | zero =>
        simp only [List.getElem?_cons_zero, Option.some.injEq] at hu
        subst hu
        exact .inr ⟨g, xs, hr, rfl, hl, hg⟩
      | succ j =>
        refine .inl ⟨j + 1, by simpa using hu, ?_⟩
        rw [List.getElem?_cons_succ, List.getElem?_tail]
    · rw [upd_other _ _ h] at hu ⊢; exact .inl ⟨j, hu, rfl⟩
set_option maxHeartbeats 8000000 in
set_option maxRecDepth 100000 in
theorem load_strong (w : World) (H : Dev w base D C n Bk fl av wv es st) (b : Nat) (hb : b < n) (A : Option Addr) (c : Nat) (xs : List Int) (hxs : xs.length = Bk) (hr : ReadsInt w .u8 A xs.length xs) (hcx : xs.length ≤ c) :
    Calls Try.prog 17 #[.pointer (some ⟨D, 0, none⟩), .int .i64 (b : Int), .slice A xs.length c] w fun e w' => e = .returned (.int .i64 0) ∧ ∃ v, Dev w' base D C n Bk fl (upd av b v) (upd wv b (.slice none 0 0)) (upd es b []) (upd st b [xs]) ∧ Step w w' (Mut D C n wv) (Mut D C n (upd wv b (.slice none 0 0))) ∧ ∀ g, v.ownBlock = some g → w.heap.size ≤ g := by
  have HH := Aside0.mk H
  have HFit := Aside0.mk (by have := fits_yes w H b hb A c; rw [← hxs] at this; exact this)
  have HAt := Aside0.mk (at_yes w H b hb)
  have HR := Aside0.mk hr
  have hBk := H.hB
  have HXS := Aside0.mk hxs
  rw [← hxs] at hBk
  clear H hr hxs
  go_enter Try.func17, Try.ntmps17
  go_wp2_with fail
  refine HFit.out.mono ?_
  rintro e w1 ⟨rfl, rfl⟩
  go_wp2_with fail
  refine HAt.out.mono ?_
  rintro e w1 ⟨rfl, rfl⟩
  clear HFit HAt
  go_wp2_with fail
  refine (slices_Clone_byte_byte.calls A c xs xs _ (row_int HR.out) hcx (by unfold slices_Clone_byte_byte.f; rw [if_pos (by omega)])).mono ?_
  rintro e w2 ⟨v, rfl, hr2, hb2⟩
  obtain ⟨g, hg, _, hrow⟩ := Row.of_owns' (Kd.own_of_R (enc := Value.int .u8) (h1 := fun _ => rfl) hr2) (by omega)
  obtain ⟨cv, hv, _⟩ := hrow.slice
  subst hv
  have HD2 := Aside0.mk (HH.out.below hb2)
  have hgM : ¬ Mut D C n wv g := fun hm => by have := HH.out.lt g hm; omega
  have S1 := HD2.out.fresh b hb hrow HXS.out hgM
  have S2 := S1.1.clear b hb xs (by rw [upd_same]; rfl)
  have HE := Aside0.mk (And.intro S2.1 ((Step.of_below (Mut D C n wv) hb2).trans (S1.2.trans S2.2)))
  have hcA := (HD2.out.cellAv b hb).1
  have hcW := (HD2.out.cellWv b hb).1
  have hfA := (HD2.out.cellAv b hb).2
  have hfW := (HD2.out.cellWv b hb).2
  have HU : Aside0 (upd (upd st b (xs :: (st b).tail)) b [xs] = upd st b [xs]) := ⟨upd_upd _ _ _ _⟩
  have HG := Aside0.mk hg
  clear hr2 hb2 hg hrow hgM S1 S2
  rename_i left0 right0
  clear left0 right0
  go_wp2_with fail
  go_ret
  exact ⟨rfl, _, (by have h := HE.out.1; rw [HU.out] at h; exact h), HE.out.2, fun g' e => by have e' : g = g' := Option.some.inj e; rw [← e']; exact HG.out⟩
end Go.Proofs.Ytenomjfaodfjhaa.Keeps
