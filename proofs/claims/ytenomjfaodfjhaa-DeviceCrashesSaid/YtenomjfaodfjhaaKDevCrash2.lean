/- Behind a crash each block is what had arrived, or one of the writes that waited, as its pick says: the plain part, more. -/
import Derived.Test.YtenomjfaodfjhaaKDevCrash0
import Derived.Test.YtenomjfaodfjhaaKDevWait
namespace Go.Proofs.Ytenomjfaodfjhaa.Keeps
open Go.RowKit Go.Proofs.Ytenomjfaodfjhaa.PDeviceKeeps Go.Proofs.Ytenomjfaodfjhaa.Plain Go.Proofs.YtenomjfaodfjhaaW.PrintWords Go.Proofs.YtenomjfaodfjhaaW.PrintLast Go.Proofs.YtenomjfaodfjhaaW.PrintMore
set_option linter.unusedVariables false
set_option linter.unusedSimpArgs false
def cntW (st : Nat → List (List Int)) : Nat → Nat
  | 0 => 0
  | b + 1 => if (st b).length ≤ 1 then cntW st b else cntW st b + 1
theorem cntW_le (st : Nat → List (List Int)) : ∀ b, cntW st b ≤ b := by
  intro b
  induction b with
  | zero => exact Nat.le_refl _
  | succ b ih => unfold cntW; split <;> omega
theorem crashN_snd (st : Nat → List (List Int)) (ps : List Int) : ∀ b, (crashN st ps b).2 = ps.drop (cntW st b) := by
  intro b
  induction b with
  | zero => rfl
  | succ b ih =>
    unfold crashN cntW
    split
    · exact ih
    · simp only
      rw [ih, List.tail_drop]
theorem crashN_val (st : Nat → List (List Int)) (ps : List Int) (b : Nat) (h : ¬ (st b).length ≤ 1) : ∀ i, b < i → (crashN st ps i).1 b = [((st b)[pickOf (ps.drop (cntW st b)) ((st b).length - 1)]?).getD []] := by
  intro i
  induction i with
  | zero => intro hi; omega
  | succ i ih =>
    intro hi
    unfold crashN
    by_cases e : b = i
    · subst e
      rw [if_neg h]
      simp only
      rw [upd_same, crashN_snd]
    · split
      · exact ih (by omega)
      · simp only
        rw [upd_other _ _ e]
        exact ih (by omega)
/-- Which of a list's bytes the crash leaves. -/
def wantOf (ps : List Int) (at_ : Nat) (l : List Int) : Int := if l.length ≤ 1 then l.getD 0 0 else l.getD (pickOf (ps.drop at_) (l.length - 1)) 0
theorem pickOf_le (ps : List Int) (m : Nat) : pickOf ps m ≤ m := by
  unfold pickOf
  split
  · omega
  · unfold mx mn; split <;> split <;> omega
theorem crash_want {st : Nat → List (List Int)} {ps : List Int} {b : Nat} {l : List Int} (hs : st b = l.map blk64) (hl : 0 < l.length) (i : Nat) (hi : b < i) : lastOf ((crashN st ps i).1 b) = blk64 (wantOf ps (cntW st b) l) := by
  have hlen : (st b).length = l.length := by rw [hs, List.length_map]
  unfold wantOf
  by_cases h : l.length ≤ 1
  · rw [if_pos h, crashN_one st ps b (by omega), hs]
    match l, hl, h with
    | [x], _, _ => rfl
  · rw [if_neg h, crashN_val st ps b (by omega) i hi, hlen]
    have hp := pickOf_le (ps.drop (cntW st b)) (l.length - 1)
    have hlt : pickOf (ps.drop (cntW st b)) (l.length - 1) < l.length := by omega
    rw [hs, List.getElem?_map, List.getElem?_eq_getElem hlt]
    simp [lastOf, List.getD_eq_getElem?_getD, List.getElem?_eq_getElem hlt]
theorem waitN_none (st : Nat → List (List Int)) : ∀ i, (∀ k, k < i → (st k).length ≤ 1) → waitN st i = [] := by
  intro i
  induction i with
  | zero => intro _; rfl
  | succ i ih =>
    intro h
    unfold waitN
    rw [if_neg (by have := h i (by omega); omega)]
    exact ih fun k hk => h k (by omega)
/-- The lists, as they read. -/
structure CrR (w w' : World) (base D C LL : Nat) (lv : Nat → Value) (lb : Nat → Nat) (ll : Nat → List Int) (fl : Flags) (av wv : Nat → Value) (es : Nat → List Value) (st : Nat → List (List Int)) : Prop where
  dev : DevIn w' (fun g => g ≠ LL ∧ ∀ k, k < 4 → g ≠ lb k) base D C 4 64 fl av wv es st
  live : fl.dead = false ∧ fl.fused = false
  lists : w'.heap[LL]? = some (.cells (listOf lv) 49 (0, 0))
  rows : ∀ k, k < 4 → ∃ off cap, lv k = .slice (some ⟨lb k, off, none⟩) (ll k).length cap ∧ (ll k).length ≤ cap ∧ ReadsInt w' .u8 (some ⟨lb k, off, none⟩) (ll k).length (ll k)
  pos : ∀ k, k < 4 → 0 < (ll k).length
  notLL : ∀ k, k < 4 → lb k ≠ LL
  bel : Below w.heap.size w w'
  low : w.heap.size ≤ base ∧ w.heap.size ≤ LL
variable {w w1 w2 : World} {base D C LL : Nat} {lv : Nat → Value} {lb : Nat → Nat} {ll : Nat → List Int} {fl : Flags} {av wv : Nat → Value} {es : Nat → List Value} {st : Nat → List (List Int)}
theorem Cr.reads (H : Cr w w1 base D C LL lv lb ll fl av wv es st) (hp : ∀ k, k < 4 → 0 < (ll k).length ∧ (ll k).length ≤ 9223372036854775807) : CrR w w1 base D C LL lv lb ll fl av wv es st := by
  refine ⟨H.dev, H.live, H.lists, fun k hk => ?_, fun k hk => (hp k hk).1, H.notLL, H.bel, H.low.1, H.low.2.1⟩
  obtain ⟨c, hv, hc⟩ := (H.rows k hk).slice
  refine ⟨0, c, hv, hc, ?_⟩
  have hr := H.rows k hk
  rw [hv] at hr
  exact (row_read hr (hp k hk).2).2.2
theorem CrR.lt (H : CrR w w1 base D C LL lv lb ll fl av wv es st) : LL < w1.heap.size := (Array.getElem?_eq_some_iff.1 H.lists).1
theorem CrR.below (H : CrR w w1 base D C LL lv lb ll fl av wv es st) (hb : Below w1.heap.size w1 w2) : CrR w w2 base D C LL lv lb ll fl av wv es st :=
  ⟨H.dev.below hb, H.live, (hb.block LL H.lt).trans H.lists, fun k hk => by obtain ⟨off, cap, h1, h2, h3⟩ := H.rows k hk; exact ⟨off, cap, h1, h2, h3.below hb⟩, H.pos, H.notLL, H.bel.trans (hb.mono H.bel.size), H.low⟩
/-- A call on the device leaves the lists. -/
theorem CrR.call {fl' : Flags} {av' wv' : Nat → Value} {es' : Nat → List Value} {st' : Nat → List (List Int)} (H : CrR w w1 base D C LL lv lb ll fl av wv es st) (hS : Step w1 w2 (Mut D C 4 wv) (Mut D C 4 wv')) :
    w2.heap[LL]? = some (.cells (listOf lv) 49 (0, 0)) ∧ (∀ k, k < 4 → ∃ off cap, lv k = .slice (some ⟨lb k, off, none⟩) (ll k).length cap ∧ (ll k).length ≤ cap ∧ ReadsInt w2 .u8 (some ⟨lb k, off, none⟩) (ll k).length (ll k)) ∧ Below w.heap.size w w2 := by
  refine ⟨(hS.block LL H.lt fun hm => (H.dev.muts LL hm).1 rfl).trans H.lists, fun k hk => ?_, H.bel.trans (hS.below H.bel.size fun g hm => Nat.le_trans H.low.1 (H.dev.dev.low g hm))⟩
  obtain ⟨off, cap, h1, h2, h3⟩ := H.rows k hk
  refine ⟨off, cap, h1, h2, reads_step h3 fun a ha hl => hS.block a.block hl fun hm => ?_⟩
  cases ha
  exact (H.dev.muts _ hm).2 k hk rfl
theorem CrR.flush {av' wv' : Nat → Value} {es' : Nat → List Value} (H : CrR w w1 base D C LL lv lb ll fl av wv es st) (hlen : ∀ k, k < 4 → lb k < w1.heap.size) (hD : Dev w2 base D C 4 64 fl.burn av' wv' es' (stF st 4)) (hS : Step w1 w2 (Mut D C 4 wv) (Mut D C 4 wv')) (hM : ∀ k, k < 4 → ∀ u, u ∈ av' k :: es' k → u ∈ av k :: es k) :
    CrR w w2 base D C LL lv lb ll fl.burn av' wv' es' (stF st 4) := by
  obtain ⟨h1, h2, h3⟩ := H.call (fl' := fl) (av' := av) (es' := es) (st' := st) hS
  refine ⟨(H.dev.step hD hS fun k hk u hu => .inl (hM k hk u hu)).mono fun g hg => ?_, burn_live H.live, h1, h2, H.pos, H.notLL, h3, H.low⟩
  rcases hg with h | h
  · exact h
  · exact ⟨by have := H.lt; omega, fun k hk => by have := hlen k hk; omega⟩
theorem CrR.blk (H : CrR w w1 base D C LL lv lb ll fl av wv es st) (k : Nat) (hk : k < 4) : lb k < w1.heap.size := by
  obtain ⟨off, cap, _, _, h3⟩ := H.rows k hk
  obtain ⟨a, ha, hc⟩ := h3.2.2 (H.pos k hk)
  cases ha
  have := World.block_lt_of_cell? w1 _ (hc 0 (H.pos k hk))
  have e : ((⟨lb k, off, none⟩ : Addr).add 0).block = lb k := rfl
  rw [e] at this
  exact this
def lastI (l : List Int) : Int := l.getD (l.length - 1) 0
/-- A list is cut down to its last. -/
theorem CrR.cut (H : CrR w w1 base D C LL lv lb ll fl av wv es st) (q : Nat) (hq : q < 4) {off cap : Nat} (hv : lv q = .slice (some ⟨lb q, off, none⟩) (ll q).length cap) :
    CrR w (w1.setCell ⟨LL, q, none⟩ (.slice (some ⟨lb q, off + ((ll q).length - 1), none⟩) 1 (cap - ((ll q).length - 1)))) base D C LL (upd lv q (.slice (some ⟨lb q, off + ((ll q).length - 1), none⟩) 1 (cap - ((ll q).length - 1)))) lb (upd ll q [lastI (ll q)]) fl av wv es st := by
  have far : ∀ g, g ≠ LL → (w1.setCell ⟨LL, q, none⟩ (.slice (some ⟨lb q, off + ((ll q).length - 1), none⟩) 1 (cap - ((ll q).length - 1)))).heap[g]? = w1.heap[g]? := fun g h => Below.heap_setCell _ _ _ _ h
  have keepR : ∀ k, k < 4 → ∀ (o m : Nat) (xs : List Int), ReadsInt w1 .u8 (some ⟨lb k, o, none⟩) m xs → ReadsInt (w1.setCell ⟨LL, q, none⟩ (.slice (some ⟨lb q, off + ((ll q).length - 1), none⟩) 1 (cap - ((ll q).length - 1)))) .u8 (some ⟨lb k, o, none⟩) m xs := by
    intro k hk o m xs h
    refine reads_step h fun a ha _ => ?_
    cases ha
    exact far _ (H.notLL k hk)
  refine ⟨H.dev.keep fun g _ hg => far g hg.1, H.live, list_store H.lists q _, fun k hk => ?_, fun k hk => ?_, H.notLL, H.bel.setCell H.low.2 _, H.low⟩
  · by_cases e : k = q
    · subst e
      rw [upd_same, upd_same]
      obtain ⟨off', cap', h1, h2, h3⟩ := H.rows k hk
      rw [hv] at h1
      injection h1 with a1 a2 a3
      have a4 : off = off' := by injection a1 with a1; injection a1
      subst a3
      subst a4
      have hp := H.pos k hk
      refine ⟨off + ((ll k).length - 1), cap - ((ll k).length - 1), rfl, by simp; omega, ?_⟩
      refine keepR k hk _ _ _ ?_
      have hd := h3.drop_ ((ll k).length - 1) (by omega) h2
      rw [if_neg (by omega)] at hd
      have e1 : ((some (⟨lb k, off, none⟩ : Addr)).map fun x => x.add ((ll k).length - 1)) = some ⟨lb k, off + ((ll k).length - 1), none⟩ := by
        simp only [Option.map_some, Option.some.injEq]
        unfold Addr.add
        split
        · rename_i h; rw [h]; rfl
        · rfl
      rw [e1] at hd
      have e2 : (ll k).drop ((ll k).length - 1) = [lastI (ll k)] := by
        unfold lastI
        apply List.ext_getElem?
        intro j
        rw [List.getElem?_drop]
        cases j with
        | zero => rw [Nat.add_zero, List.getElem?_eq_getElem (by omega), List.getElem?_cons_zero, List.getD_eq_getElem?_getD, List.getElem?_eq_getElem (by omega)]; rfl
        | succ j => rw [List.getElem?_eq_none (by omega)]; simp
      rw [e2, show (ll k).length - ((ll k).length - 1) = 1 by omega] at hd
      exact hd
    · rw [upd_other _ _ e, upd_other _ _ e]
      obtain ⟨off', cap', h1, h2, h3⟩ := H.rows k hk
      exact ⟨off', cap', h1, h2, keepR k hk _ _ _ h3⟩
  · by_cases e : k = q
    · subst e; rw [upd_same]; simp
    · rw [upd_other _ _ e]; exact H.pos k hk
theorem info5s' : ∃ i, Try.prog.info? 5 = some i ∧ i.size = 1 := by
  obtain ⟨i, hi, h3⟩ := Option.map_eq_some_iff.1 info5
  simp only [Prod.mk.injEq] at h3
  exact ⟨i, hi, h3.2.1⟩
theorem cut_last (b off L cap : Nat) (hL : 0 < L) (hc : L ≤ cap) (W : World) : (Instr.slice 29 (.slice (some ⟨b, off, none⟩) L cap) (some (.int .i64 ((L - 1 : Nat) : Int))) none none).run Try.prog W = .ok (.slice (some ⟨b, off + (L - 1), none⟩) 1 (cap - (L - 1))) W := by
  obtain ⟨i, hi, hs⟩ := info5s'
  have h1 := cut_from (P := Try.prog) 29 5 .i64 Try.underlying29 hi 1 hs (some ⟨b, off, none⟩) L cap ((L - 1 : Nat) : Int) (by omega) (by omega) W
  rw [h1, Int.toNat_natCast, if_neg (by omega), Nat.mul_one, show L - (L - 1) = 1 by omega]
  simp only [Option.map_some]
  congr 3
  unfold Addr.add
  split
  · rename_i h; rw [h]; rfl
  · rfl
theorem same_flush {l : List Int} (hl : 0 < l.length) {s : List (List Int)} (hs : s = l.map blk64) : [lastOf s] = [lastI l].map blk64 := by
  subst hs
  unfold lastOf lastI
  rw [List.getLastD_eq_getLast?, List.getLast?_eq_getElem?, List.length_map, List.getElem?_map, List.getElem?_eq_getElem (by omega), List.getD_eq_getElem?_getD, List.getElem?_eq_getElem (by omega)]
  rfl
end Go.Proofs.Ytenomjfaodfjhaa.Keeps
