/- A device's calls, more: settle, Flush, Fuse, Dead, Writes. -/
import Derived.Test.YtenomjfaodfjhaaKDevOps
namespace Go.Proofs.Ytenomjfaodfjhaa.Keeps
open Go.RowKit Go.Proofs.Ytenomjfaodfjhaa.PDeviceKeeps Go.Proofs.YtenomjfaodfjhaaW.PrintWords Go.Proofs.YtenomjfaodfjhaaW.PrintLast Go.Proofs.YtenomjfaodfjhaaW.PrintMore
set_option linter.unusedVariables false
set_option linter.unusedSimpArgs false
/-- One field of a cell is written. -/
theorem Dev.store {w : World} {base D C n Bk : Nat} {fl : Flags} {av wv : Nat → Value} {es : Nat → List Value} {st : Nat → List (List Int)} (H : Dev w base D C n Bk fl av wv es st) (i : Nat) (hi : i < n * 2) (x : Value) {av' wv' : Nat → Value} {es' : Nat → List Value} {st' : Nat → List (List Int)}
    (h1 : ∀ k, k < n → (i = k * 2 → av' k = x) ∧ (i ≠ k * 2 → av' k = av k) ∧ (i = k * 2 + 1 → wv' k = x) ∧ (i ≠ k * 2 + 1 → wv' k = wv k))
    (h2 : ∀ k, k < n → wv' k = wv k ∨ wv' k = .slice none 0 0) (h3 : ∀ k, k < n → w.ownsRow base 29 1 (wv' k) (es' k).length (es' k)) (h4 : ∀ k, k < n → (st' k).length = (es' k).length + 1)
    (h5 : ∀ k, k < n → ∀ (j : Nat) v, (av' k :: es' k)[j]? = some v → ∃ j' : Nat, (av k :: es k)[j']? = some v ∧ (st' k)[j]? = (st k)[j']?) :
    Dev (w.setCell ⟨C, i, none⟩ x) base D C n Bk fl av' wv' es' st' ∧ Step w (w.setCell ⟨C, i, none⟩ x) (Mut D C n wv) (Mut D C n wv') := by
  have far : ∀ g, g ≠ C → (w.setCell ⟨C, i, none⟩ x).heap[g]? = w.heap[g]? := fun g hg => Below.heap_setCell _ _ _ _ hg
  have hb : ∀ k, k < n → ∀ g, (wv' k).ownBlock = some g → (wv k).ownBlock = some g := by
    intro k hk g e
    rcases h2 k hk with h | h
    · rw [← h]; exact e
    · rw [h] at e; cases e
  have hmut : ∀ g, Mut D C n wv' g → Mut D C n wv g := by
    rintro g (e | e | ⟨k, hk, e⟩)
    · exact .inl e
    · exact .inr (.inl e)
    · exact .inr (.inr ⟨k, hk, hb k hk g e⟩)
  obtain ⟨cc, hcc, hsz, hcell⟩ := H.cells
  have hcc' : w.heap[C]? = some (.cells cc.toList.toArray 62 (0, 0)) := by rw [show cc.toList.toArray = cc by simp]; exact hcc
  refine ⟨⟨(far D H.DC).trans H.head, ⟨(cc.toList.set i x).toArray, ?_, by simp; exact hsz, fun k hk => ?_⟩, fun k hk => owns_keep (h3 k hk) fun g e => far g (fun e' => (H.DW k hk).2 (by rw [hb k hk g e, e'])), h4, fun k hk j v hv => ?_, H.DC, fun k hk => ⟨fun e => (H.DW k hk).1 (hb k hk _ e), fun e => (H.DW k hk).2 (hb k hk _ e)⟩, fun a b ha hb' hab g e1 e2 => H.WW a b ha hb' hab g (hb a ha g e1) (hb b hb' g e2), H.lowD, H.lowC, H.hn, H.hB⟩, ⟨rfl, rfl, rfl, by simp [World.setCell], fun g hg hm => far g (fun e => hm (.inr (.inl e))), fun g _ hm => hmut g hm⟩⟩
  · rw [setCell_eq_setRow w C i _ 62 (0, 0) _ hcc', setRow_heap w C _ _ 62 (0, 0) hcc']
    simp only [List.setIfInBounds_toArray]
  · have hsz' : cc.toList.length = n * 2 := by simp [hsz]
    obtain ⟨a1, a2, a3, a4⟩ := h1 k hk
    rw [List.getElem?_toArray, List.getElem?_toArray, List.getElem?_set, List.getElem?_set]
    constructor
    · by_cases e : i = k * 2
      · rw [if_pos e, if_pos (by omega), a1 e]
      · rw [if_neg e, a2 e]; simpa using (hcell k hk).1
    · by_cases e : i = k * 2 + 1
      · rw [if_pos e, if_pos (by omega), a3 e]
      · rw [if_neg e, a4 e]; simpa using (hcell k hk).2
  · obtain ⟨j', e1, e2⟩ := h5 k hk j v hv
    obtain ⟨g, xs, q1, q2, q3, q4⟩ := H.rows k hk j' v e1
    exact ⟨g, xs, by rw [e2]; exact q1, q2, q3.keep fun g' e => far g' (fun e' => by cases e; exact q4 (.inr (.inl e'))), fun hm => q4 (hmut g hm)⟩
variable {base D C n Bk : Nat} {fl : Flags} {av wv : Nat → Value} {es : Nat → List Value} {st : Nat → List (List Int)}
theorem Dev.clear {w : World} (H : Dev w base D C n Bk fl av wv es st) (b : Nat) (hb : b < n) (xs : List Int) (hx : (st b)[0]? = some xs) :
    Dev (w.setCell ⟨C, b * 2 + 1, none⟩ (.slice none 0 0)) base D C n Bk fl av (upd wv b (.slice none 0 0)) (upd es b []) (upd st b [xs]) ∧ Step w (w.setCell ⟨C, b * 2 + 1, none⟩ (.slice none 0 0)) (Mut D C n wv) (Mut D C n (upd wv b (.slice none 0 0))) := by
  refine H.store (b * 2 + 1) (by omega) _ (fun k hk => ⟨fun e => by omega, fun _ => rfl, fun e => ?_, fun e => upd_other _ _ (by omega)⟩) (fun k hk => ?_) (fun k hk => ?_) (fun k hk => ?_) (fun k hk j v hv => ?_)
  · obtain rfl : k = b := by omega
    exact upd_same _ _ _
  · by_cases h : k = b
    · subst h; exact .inr (upd_same _ _ _)
    · exact .inl (upd_other _ _ h)
  · by_cases h : k = b
    · subst h; rw [upd_same, upd_same]; exact World.ownsRow_nil _ _ _ _
    · rw [upd_other _ _ h, upd_other _ _ h]; exact H.wait k hk
  · by_cases h : k = b
    · subst h; rw [upd_same, upd_same]; rfl
    · rw [upd_other _ _ h, upd_other _ _ h]; exact H.len k hk
  · by_cases h : k = b
    · subst h
      rw [upd_same] at hv ⊢
      cases j with
      | zero => exact ⟨0, by simpa using hv, by simpa using hx.symm⟩
      | succ j => simp at hv
    · rw [upd_other _ _ h] at hv ⊢; exact ⟨j, hv, rfl⟩
theorem Dev.arrive {w : World} (H : Dev w base D C n Bk fl av wv es st) (b : Nat) (hb : b < n) (k0 : Nat) (v0 : Value) (hv0 : (av b :: es b)[k0]? = some v0) (xs : List Int) (hx : (st b)[k0]? = some xs) :
    Dev (w.setCell ⟨C, b * 2, none⟩ v0) base D C n Bk fl (upd av b v0) wv es (upd st b (xs :: (st b).tail)) ∧ Step w (w.setCell ⟨C, b * 2, none⟩ v0) (Mut D C n wv) (Mut D C n wv) := by
  refine H.store (b * 2) (by omega) _ (fun k hk => ⟨fun e => ?_, fun e => upd_other _ _ (by omega), fun e => by omega, fun _ => rfl⟩) (fun k hk => .inl rfl) (fun k hk => H.wait k hk) (fun k hk => ?_) (fun k hk j v hv => ?_)
  · obtain rfl : k = b := by omega
    exact upd_same _ _ _
  · by_cases h : k = b
    · subst h; rw [upd_same]; have := H.len k hk; simp; omega
    · rw [upd_other _ _ h]; exact H.len k hk
  · by_cases h : k = b
    · subst h
      rw [upd_same] at hv ⊢
      cases j with
      | zero => exact ⟨k0, by rw [hv0]; simpa using hv, by rw [hx]; rfl⟩
      | succ j =>
        refine ⟨j + 1, by simpa using hv, ?_⟩
        rw [List.getElem?_cons_succ, List.getElem?_tail]
    · rw [upd_other _ _ h] at hv ⊢; exact ⟨j, hv, rfl⟩
theorem upd_upd {α : Type} (f : Nat → α) (k : Nat) (x y : α) : upd (upd f k x) k y = upd f k y := by
  funext i; unfold upd; split <;> rfl
set_option maxHeartbeats 4000000 in
set_option maxRecDepth 100000 in
theorem settle_strong (w : World) (H : Dev w base D C n Bk fl av wv es st) (b : Nat) (hb : b < n) (k : Nat) (xs : List Int) (hx : (st b)[k]? = some xs) :
    Calls Try.prog 46 #[.pointer (some ⟨C, b * 2, none⟩), .int .i64 (k : Int)] w fun e w' => e = .returned (.tuple #[]) ∧ ∃ v, Dev w' base D C n Bk fl (upd av b v) (upd wv b (.slice none 0 0)) (upd es b []) (upd st b [xs]) ∧ Step w w' (Mut D C n wv) (Mut D C n (upd wv b (.slice none 0 0))) ∧ v ∈ av b :: es b := by
  have hlen := H.len b hb
  have hk : k < (st b).length := by
    rcases Nat.lt_or_ge k (st b).length with c | c
    · exact c
    · rw [List.getElem?_eq_none c] at hx; cases hx
  have hmax : (es b).length ≤ 9223372036854775807 := by
    rcases (H.wait b hb).2 with ⟨h1, h2⟩ | ⟨g, cap, cur, h1, _, _, h2, h3, _⟩
    · omega
    · unfold maxLen at h3; omega
  have hl0 : k < (av b :: es b).length := by simp; omega
  have hv0 := List.getElem?_eq_getElem hl0
  obtain ⟨v0, hv0'⟩ : ∃ v0, (av b :: es b)[k] = v0 := ⟨_, rfl⟩
  rw [hv0'] at hv0
  by_cases h0 : k = 0
  · subst h0
    have HC := Aside0.mk (H.clear b hb xs hx)
    have hf := (H.cellWv b hb).2
    have hc := (H.cellWv b hb).1
    obtain ⟨Aw, cw, hwv, _⟩ := owns_form (H.wait b hb)
    rw [hwv] at hc
    have HA : Aside0 (upd av b (av b) = av) := ⟨by funext i; unfold upd; split <;> simp_all⟩
    clear hv0 hv0' hl0 hmax hlen hx hk H hwv
    go_enter Try.func46, Try.ntmps46
    go_wp2_with fail
    go_end0
    exact ⟨rfl, av b, by rw [HA.out]; exact ⟨HC.out.1, HC.out.2, List.mem_cons_self⟩⟩
  · have HA := H.arrive b hb k v0 hv0 xs hx
    have HC := Aside0.mk (HA.1.clear b hb xs (by rw [upd_same]; rfl))
    have HS := Aside0.mk HA.2
    have hf2 := (HA.1.cellWv b hb).2
    have hf := (H.cellAv b hb).2
    have hc := (H.cellWv b hb).1
    have hc0 := (H.cellAv b hb).1
    have hc2 := (HA.1.cellWv b hb).1
    obtain ⟨m, hm⟩ : ∃ m, k - 1 = m := ⟨_, rfl⟩
    have hkm : k = m + 1 := by omega
    have hes : (es b)[m]? = some v0 := by rw [hkm, List.getElem?_cons_succ] at hv0; exact hv0
    have hml : m < (es b).length := by omega
    obtain ⟨g, cap, hwv, hcell⟩ : ∃ g cap, wv b = .slice (some ⟨g, 0, none⟩) (es b).length cap ∧ w.cell? ⟨g, m, none⟩ = some v0 := by
      rcases (H.wait b hb).2 with ⟨_, h2⟩ | ⟨g, cap, cur, h1, _⟩
      · omega
      · refine ⟨g, cap, h1, ?_⟩
        have := (H.wait b hb).cells (g := g) (by rw [h1]; rfl) m _ hes
        have ha : (⟨g, 0, none⟩ : Addr).add m = ⟨g, m, none⟩ := by unfold Addr.add; split <;> simp_all
        rw [ha] at this
        exact this
    obtain ⟨g0, n0, c0, hv0s⟩ : ∃ g0 n0 c0, v0 = .slice (some ⟨g0, 0, none⟩) n0 c0 := by
      obtain ⟨g0, xs0, _, _, hrow0, _⟩ := H.rows b hb k v0 hv0
      obtain ⟨c0, h, _⟩ := hrow0.slice
      exact ⟨g0, _, c0, h⟩
    rw [hwv] at hc hc2
    rw [hv0s] at hcell
    have d0 : decide (0 < k) = true := decide_eq_true (by omega)
    have d1 : 0 < k := by omega
    have hw : IntKind.i64.wrap ((k : Int) - 1) = (m : Int) := by rw [IntKind.wrap_i64]; omega
    have p0 : (0 : Int) ≤ (m : Int) := by omega
    have p1 : (m : Int) < ((es b).length : Int) := by omega
    have HU : Aside0 (upd (upd st b (xs :: (st b).tail)) b [xs] = upd st b [xs]) := ⟨upd_upd _ _ _ _⟩
    have HV := Aside0.mk hv0s
    have HMem := Aside0.mk (List.mem_of_getElem? hv0)
    rw [hv0s] at hf2 hc2
    clear hv0 hv0' hl0 hmax hlen hx hk H hwv HA hm hkm hes hml hv0s h0
    go_enter Try.func46, Try.ntmps46
    go_wp2_with fail
    go_end0
    refine ⟨rfl, v0, ?_⟩
    have h1 := HC.out.1
    rw [HU.out, HV.out] at h1
    have h2 := HS.out.trans HC.out.2
    rw [HV.out] at h2
    have h3 := HMem.out
    rw [HV.out] at h3 ⊢
    exact ⟨h1, h2, h3⟩
theorem settle_calls (w : World) (H : Dev w base D C n Bk fl av wv es st) (b : Nat) (hb : b < n) (k : Nat) (xs : List Int) (hx : (st b)[k]? = some xs) :
    Calls Try.prog 46 #[.pointer (some ⟨C, b * 2, none⟩), .int .i64 (k : Int)] w fun e w' => e = .returned (.tuple #[]) ∧ ∃ v, Dev w' base D C n Bk fl (upd av b v) (upd wv b (.slice none 0 0)) (upd es b []) (upd st b [xs]) ∧ Step w w' (Mut D C n wv) (Mut D C n (upd wv b (.slice none 0 0))) :=
  (settle_strong w H b hb k xs hx).mono fun _ _ ⟨h, v, h1, h2, _⟩ => ⟨h, v, h1, h2⟩
set_option maxHeartbeats 4000000 in
set_option maxRecDepth 100000 in
theorem fuse_calls (w : World) (H : Dev w base D C n Bk fl av wv es st) (hdead : fl.dead = false) (m : Int) (hm : 0 ≤ m) :
    Calls Try.prog 24 #[.pointer (some ⟨D, 0, none⟩), .int .i64 m] w fun e w' => e = .returned (.int .i64 0) ∧ Dev w' base D C n Bk { fl with fused := true, fuse := m } av wv es st ∧ Step w w' (Mut D C n wv) (Mut D C n wv) := by
  obtain ⟨fused, fuse, dead, writes⟩ := fl
  simp only at hdead
  subst hdead
  have hc4 := (H.headCell 4).1
  simp only [headOf] at hc4
  have S1 := H.setHead 2 (.bool true) ⟨true, fuse, false, writes⟩ rfl
  have S2 := S1.1.setHead 3 (.int .i64 m) ⟨true, m, false, writes⟩ rfl
  have HS := Aside0.mk (And.intro S2.1 (S1.2.trans S2.2))
  have c2 := (H.headCell 2).1
  have f2 := (H.headCell 2).2
  have c3 := (S1.1.headCell 3).1
  have f3 := (S1.1.headCell 3).2
  simp only [headOf] at c2 c3
  have d0 : decide (m < 0) = false := decide_eq_false (by omega)
  clear S1 S2 H
  go_enter Try.func24, Try.ntmps24
  go_wp2_with fail
  go_ret
  exact ⟨rfl, HS.out⟩
set_option maxHeartbeats 4000000 in
set_option maxRecDepth 100000 in
theorem dead_calls (w : World) (H : Dev w base D C n Bk fl av wv es st) :
    Calls Try.prog 25 #[.pointer (some ⟨D, 0, none⟩)] w fun e w' => e = .returned (.bool fl.dead) ∧ w' = w := by
  have hc4 := (H.headCell 4).1
  simp only [headOf] at hc4
  clear H
  go_enter Try.func25, Try.ntmps25
  go_wp2_with fail
  go_ret
  exact ⟨rfl, rfl⟩
set_option maxHeartbeats 4000000 in
set_option maxRecDepth 100000 in
theorem writes_calls (w : World) (H : Dev w base D C n Bk fl av wv es st) :
    Calls Try.prog 26 #[.pointer (some ⟨D, 0, none⟩)] w fun e w' => e = .returned (.int .i64 fl.writes) ∧ w' = w := by
  have hc4 := (H.headCell 5).1
  simp only [headOf] at hc4
  clear H
  go_enter Try.func26, Try.ntmps26
  go_wp2_with fail
  go_ret
  exact ⟨rfl, rfl⟩
end Go.Proofs.Ytenomjfaodfjhaa.Keeps
