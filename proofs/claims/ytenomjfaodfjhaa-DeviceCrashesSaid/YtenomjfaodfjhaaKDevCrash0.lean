/- Behind a crash each block is what had arrived, or one of the writes that waited, as its pick says: the plain part. -/
import Derived.Test.YtenomjfaodfjhaaKDevApart
namespace Go.Proofs.Ytenomjfaodfjhaa.Keeps
open Go.RowKit Go.Proofs.Ytenomjfaodfjhaa.PDeviceKeeps Go.Proofs.Ytenomjfaodfjhaa.Plain Go.Proofs.YtenomjfaodfjhaaW.PrintWords Go.Proofs.YtenomjfaodfjhaaW.PrintLast Go.Proofs.YtenomjfaodfjhaaW.PrintMore
set_option linter.unusedVariables false
set_option linter.unusedSimpArgs false
theorem and3z (n : Int) : Go.bits .and .i64 n 3 = n % 4 := by
  simp only [Go.bits]
  have e : (BitVec.ofInt IntKind.i64.bits n &&& BitVec.ofInt IntKind.i64.bits 3).toNat = (n % 4).toNat := by
    have h3 : (BitVec.ofInt IntKind.i64.bits 3).toNat = 2 ^ 2 - 1 := by decide
    rw [BitVec.toNat_and, h3, Nat.and_two_pow_sub_one_eq_mod, BitVec.toNat_ofInt]
    show (n % (2 ^ 64 : Nat)).toNat % 4 = (n % 4).toNat
    omega
  rw [e, IntKind.wrap_i64]
  omega
def blk64 (x : Int) : List Int := List.replicate 64 x
def listOf (lv : Nat → Value) : Array Value := ((List.range 4).map lv).toArray
theorem list_at (lv : Nat → Value) (k : Nat) (h : k < 4) : (listOf lv)[k]? = some (lv k) := by simp [listOf, h]
theorem list_set (lv : Nat → Value) (q : Nat) (x : Value) : (listOf lv).setIfInBounds q x = listOf (upd lv q x) := by
  unfold listOf
  rw [List.setIfInBounds_toArray]
  congr 1
  apply List.ext_getElem?
  intro k
  rw [List.getElem?_set]
  by_cases e : q = k
  · subst e
    rw [if_pos rfl]
    by_cases hk : q < 4
    · rw [if_pos (by simpa using hk)]; simp [hk, upd_same]
    · rw [if_neg (by simpa using hk)]; rw [List.getElem?_eq_none (by simp; omega)]
  · rw [if_neg e]
    by_cases hk : k < 4
    · simp [hk, upd_other lv x (show k ≠ q from fun h => e h.symm)]
    · rw [List.getElem?_eq_none (by simp; omega), List.getElem?_eq_none (by simp; omega)]
/-- The block of lists is written. -/
theorem list_store {w : World} {LL : Nat} {lv : Nat → Value} (h : w.heap[LL]? = some (.cells (listOf lv) 49 (0, 0))) (q : Nat) (x : Value) : (w.setCell ⟨LL, q, none⟩ x).heap[LL]? = some (.cells (listOf (upd lv q x)) 49 (0, 0)) := by
  have h0 : w.heap[LL]? = some (.cells (listOf lv).toList.toArray 49 (0, 0)) := by rw [show (listOf lv).toList.toArray = listOf lv by simp]; exact h
  rw [setCell_eq_setRow w LL q _ 49 (0, 0) _ h0, setRow_heap w LL _ _ 49 (0, 0) h0, ← list_set]
structure Cr (w w' : World) (base D C LL : Nat) (lv : Nat → Value) (lb : Nat → Nat) (ll : Nat → List Int) (fl : Flags) (av wv : Nat → Value) (es : Nat → List Value) (st : Nat → List (List Int)) : Prop where
  dev : DevIn w' (fun g => g ≠ LL ∧ ∀ k, k < 4 → g ≠ lb k) base D C 4 64 fl av wv es st
  live : fl.dead = false ∧ fl.fused = false
  same : ∀ k, k < 4 → st k = (ll k).map blk64
  lists : w'.heap[LL]? = some (.cells (listOf lv) 49 (0, 0))
  rows : ∀ k, k < 4 → Row w' (lv k) (some (lb k)) (ll k)
  apart : ∀ k l, k < 4 → l < 4 → k ≠ l → lb k ≠ lb l
  notLL : ∀ k, k < 4 → lb k ≠ LL
  bel : Below w.heap.size w w'
  low : w.heap.size ≤ base ∧ w.heap.size ≤ LL ∧ ∀ k, k < 4 → w.heap.size ≤ lb k
variable {w w1 w2 : World} {base D C LL : Nat} {lv : Nat → Value} {lb : Nat → Nat} {ll : Nat → List Int} {fl : Flags} {av wv : Nat → Value} {es : Nat → List Value} {st : Nat → List (List Int)}
theorem Cr.lt (H : Cr w w1 base D C LL lv lb ll fl av wv es st) : LL < w1.heap.size ∧ ∀ k, k < 4 → lb k < w1.heap.size := ⟨(Array.getElem?_eq_some_iff.1 H.lists).1, fun k hk => (H.rows k hk).lt _ rfl⟩
theorem Cr.below (H : Cr w w1 base D C LL lv lb ll fl av wv es st) (hb : Below w1.heap.size w1 w2) : Cr w w2 base D C LL lv lb ll fl av wv es st :=
  ⟨H.dev.below hb, H.live, H.same, (hb.block LL H.lt.1).trans H.lists, fun k hk => (H.rows k hk).keep fun g e => by cases e; exact hb.block _ (H.lt.2 k hk), H.apart, H.notLL, H.bel.trans (hb.mono H.bel.size), H.low⟩
/-- Behind a write to block q, ahead of the note: the lists are of the old. -/
structure CrW (w w' : World) (base D C LL q : Nat) (x : Int) (lv : Nat → Value) (lb : Nat → Nat) (ll : Nat → List Int) (fl : Flags) (av wv : Nat → Value) (es : Nat → List Value) (st : Nat → List (List Int)) : Prop where
  dev : DevIn w' (fun g => g ≠ LL ∧ ∀ k, k < 4 → g ≠ lb k) base D C 4 64 fl av wv es st
  live : fl.dead = false ∧ fl.fused = false
  same : ∀ k, k < 4 → st k = (upd ll q (ll q ++ [x]) k).map blk64
  lists : w'.heap[LL]? = some (.cells (listOf lv) 49 (0, 0))
  rows : ∀ k, k < 4 → Row w' (lv k) (some (lb k)) (ll k)
  apart : ∀ k l, k < 4 → l < 4 → k ≠ l → lb k ≠ lb l
  notLL : ∀ k, k < 4 → lb k ≠ LL
  bel : Below w.heap.size w w'
  low : w.heap.size ≤ base ∧ w.heap.size ≤ LL ∧ ∀ k, k < 4 → w.heap.size ≤ lb k
theorem CrW.lt {q : Nat} {x : Int} (H : CrW w w1 base D C LL q x lv lb ll fl av wv es st) : LL < w1.heap.size ∧ ∀ k, k < 4 → lb k < w1.heap.size := ⟨(Array.getElem?_eq_some_iff.1 H.lists).1, fun k hk => (H.rows k hk).lt _ rfl⟩
theorem CrW.keep {q : Nat} {x : Int} (H : CrW w w1 base D C LL q x lv lb ll fl av wv es st) (hb : Below w1.heap.size w1 w2) : CrW w w2 base D C LL q x lv lb ll fl av wv es st :=
  ⟨H.dev.below hb, H.live, H.same, (hb.block LL H.lt.1).trans H.lists, fun k hk => (H.rows k hk).keep fun g e => by cases e; exact hb.block _ (H.lt.2 k hk), H.apart, H.notLL, H.bel.trans (hb.mono H.bel.size), H.low⟩
theorem Cr.write (H : Cr w w1 base D C LL lv lb ll fl av wv es st) {q : Nat} (hq : q < 4) {x : Int} {v v' : Value} (hD : Dev w2 base D C 4 64 fl.burn av (upd wv q v') (upd es q (es q ++ [v])) (upd st q (st q ++ [List.replicate 64 x])))
    (hS : Step w1 w2 (Mut D C 4 wv) (Mut D C 4 (upd wv q v'))) (hnew : ∀ g, v.ownBlock = some g → w1.heap.size ≤ g) : CrW w w2 base D C LL q x lv lb ll fl.burn av (upd wv q v') (upd es q (es q ++ [v])) (upd st q (st q ++ [List.replicate 64 x])) := by
  have hkeep : ∀ g, g < w1.heap.size → (g = LL ∨ ∃ k, k < 4 ∧ g = lb k) → w2.heap[g]? = w1.heap[g]? := by
    intro g hl hg
    refine hS.block g hl fun hm => ?_
    have := H.dev.muts g hm
    rcases hg with rfl | ⟨k, hk, rfl⟩
    · exact this.1 rfl
    · exact this.2 k hk rfl
  refine ⟨(H.dev.step hD hS fun k hk u hu => ?_).mono fun g hg => ?_, burn_live H.live, fun k hk => ?_, (hkeep LL H.lt.1 (.inl rfl)).trans H.lists, fun k hk => (H.rows k hk).keep fun g e => by cases e; exact hkeep _ (H.lt.2 k hk) (.inr ⟨k, hk, rfl⟩), H.apart, H.notLL, H.bel.trans (hS.below H.bel.size fun g hm => Nat.le_trans H.low.1 (H.dev.dev.low g hm)), H.low⟩
  · rcases mem_upd_snoc hu with h | h
    · exact .inl h
    · subst h; exact .inr hnew
  · rcases hg with h | h
    · exact h
    · exact ⟨by have := H.lt.1; omega, fun k hk => by have := H.lt.2 k hk; omega⟩
  · by_cases e : k = q
    · subst e; rw [upd_same, upd_same, H.same k hk, List.map_append]; rfl
    · rw [upd_other _ _ e, upd_other _ _ e]; exact H.same k hk
/-- The note: the list's row is appended to, and put back. -/
theorem CrW.note {q : Nat} {x : Int} (H : CrW w w1 base D C LL q x lv lb ll fl av wv es st) (hq : q < 4) {v' : Value} {g' : Nat} (hr : Row w2 v' (some g') (ll q ++ [x])) (hg : (some (lb q) = some g' ∧ w1.grownBy w2 (some (lb q))) ∨ (w1.heap.size ≤ g' ∧ w1.grownBy w2 none)) :
    Cr w (w2.setCell ⟨LL, q, none⟩ v') base D C LL (upd lv q v') (upd lb q g') (upd ll q (ll q ++ [x])) fl av wv es st := by
  have hgsz : w1.heap.size ≤ w2.heap.size := by rcases hg with h | h <;> exact h.2.size
  have hblk : ∀ g, g < w1.heap.size → g ≠ lb q → w2.heap[g]? = w1.heap[g]? := by
    intro g hl hne
    rcases hg with ⟨_, h⟩ | ⟨_, h⟩
    · exact h.block g hl (fun e => hne (Option.some.inj e))
    · exact h.block g hl (by simp)
  have hos : w2.os = w1.os ∧ w2.tape = w1.tape ∧ w2.output = w1.output := by rcases hg with h | h <;> exact ⟨h.2.os, h.2.tape, h.2.output⟩
  have hg' : g' = lb q ∨ w1.heap.size ≤ g' := by
    rcases hg with ⟨h, _⟩ | ⟨h, _⟩
    · exact .inl (Option.some.inj h).symm
    · exact .inr h
  have hne : g' ≠ LL := by rcases hg' with h | h; rw [h]; exact H.notLL q hq; have := H.lt.1; omega
  have far : ∀ g, g ≠ LL → (w2.setCell ⟨LL, q, none⟩ v').heap[g]? = w2.heap[g]? := fun g h => Below.heap_setCell _ _ _ _ h
  refine ⟨?_, H.live, H.same, list_store ((hblk LL H.lt.1 (fun e => H.notLL q hq e.symm)).trans H.lists) q v', fun k hk => ?_, fun k l hk hl hkl => ?_, fun k hk => ?_, ?_, H.low.1, H.low.2.1, fun k hk => ?_⟩
  · have hd := H.dev.keep (W := w2.setCell ⟨LL, q, none⟩ v') fun g hl hg => (far g hg.1).trans (hblk g hl (hg.2 q hq))
    refine ⟨hd.dev, fun g hm => ?_, fun k hk v hv g e => ?_⟩
    · have h1 := H.dev.muts g hm
      refine ⟨h1.1, fun k hk => ?_⟩
      by_cases ek : k = q
      · subst ek; rw [upd_same]
        rcases hg' with h | h
        · rw [h]; exact h1.2 k hk
        · have := H.dev.dev.lt g hm; omega
      · rw [upd_other _ _ ek]; exact h1.2 k hk
    · have h1 := H.dev.row k hk v hv g e
      refine ⟨h1.1, fun l hl => ?_⟩
      by_cases el : l = q
      · subst el; rw [upd_same]
        rcases hg' with h | h
        · rw [h]; exact h1.2 l hl
        · obtain ⟨j, hj⟩ := List.getElem?_of_mem hv
          obtain ⟨g0, xs0, _, _, h3, _⟩ := H.dev.dev.rows k hk j v hj
          rw [h3.block] at e
          have := Option.some.inj e
          have := h3.lt g0 rfl
          omega
      · rw [upd_other _ _ el]; exact h1.2 l hl
  · by_cases ek : k = q
    · subst ek; rw [upd_same, upd_same, upd_same]; exact hr.keep fun g e => by cases e; exact far g' hne
    · rw [upd_other _ _ ek, upd_other _ _ ek, upd_other _ _ ek]
      exact (H.rows k hk).keep fun g e => by cases e; exact (far _ (H.notLL k hk)).trans (hblk _ (H.lt.2 k hk) (H.apart k q hk hq ek))
  · have new : ∀ j, j < 4 → j ≠ q → lb j ≠ g' := by
      intro j hj hjq
      rcases hg' with h | h
      · rw [h]; exact H.apart j q hj hq hjq
      · have := H.lt.2 j hj; omega
    by_cases e1 : k = q
    · subst e1; rw [upd_same, upd_other _ _ (by omega)]; exact fun e => new l hl (by omega) e.symm
    · rw [upd_other _ _ e1]
      by_cases e2 : l = q
      · subst e2; rw [upd_same]; exact new k hk e1
      · rw [upd_other _ _ e2]; exact H.apart k l hk hl hkl
  · by_cases e : k = q
    · subst e; rw [upd_same]; exact hne
    · rw [upd_other _ _ e]; exact H.notLL k hk
  · refine Below.setCell ?_ H.low.2.1 _
    refine H.bel.trans ⟨hos.1, hos.2.1, hos.2.2, hgsz, fun g hl => hblk g (by have := H.bel.size; omega) (by have := H.low.2.2 q hq; omega)⟩
  · by_cases e : k = q
    · subst e; rw [upd_same]
      rcases hg' with h | h
      · rw [h]; exact H.low.2.2 k hk
      · have := H.bel.size; omega
    · rw [upd_other _ _ e]; exact H.low.2.2 k hk
theorem step_append_row {ops : Array Oper} {o : Oper} {a : Act} {Q : Exit → Act → World → Prop} {Kc : Act → World → Prop} {W : World} (hw : Region.wanted o (yielded ops a.tmps) = true) (s y : Operand) (ho : o.op = .call { callee := .builtin .append, args := #[s, y], argTypes := #[29, 29] })
    (v : Value) (cb : Option Nat) (xs : List Int) (x : Int) (ad : Addr) (c : Nat) (hs : a.eval s = v) (hy : a.eval y = .slice (some ad) 1 c) (h : Row W v cb xs) (hx : W.cell? ad = some (.int .u8 x)) (hl : xs.length + 1 ≤ 140737488355328)
    (hK : ∀ v' w' h', Row w' v' (some h') (xs ++ [x]) → ((cb = some h' ∧ W.grownBy w' cb) ∨ (W.heap.size ≤ h' ∧ W.grownBy w' none)) → Kc (a.put o.dst v') w') : if Region.wanted o (yielded ops a.tmps) = true then Oper.wp Try.prog o a W Kc Q else Kc (a.put o.dst undef) W := by
  rw [if_pos hw]
  obtain ⟨v', w', h', hrun, h1, h2⟩ := run_append_row o.type W v cb xs x ad c h hx hl
  unfold Oper.wp
  simp [execOp, ho, resolve, invoke, builtin, hs, hy, hrun, Result.andThen]
  exact hK v' w' h' h1 h2
end Go.Proofs.Ytenomjfaodfjhaa.Keeps
