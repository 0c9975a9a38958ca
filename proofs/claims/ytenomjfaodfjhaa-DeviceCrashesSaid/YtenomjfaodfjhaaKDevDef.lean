/- A device in memory: what it holds, and what of it may be written. -/
import Derived.Test.YtenomjfaodfjhaaKGrow
import Derived.Laws.CopyOwn
namespace Go.Proofs.Ytenomjfaodfjhaa.Keeps
open Go.RowKit Go.Proofs.YtenomjfaodfjhaaW.PrintWords Go.Proofs.YtenomjfaodfjhaaW.PrintLast Go.Proofs.YtenomjfaodfjhaaW.PrintMore
set_option linter.unusedVariables false
set_option linter.unusedSimpArgs false
def upd {α : Type} (f : Nat → α) (k : Nat) (x : α) : Nat → α := fun i => if i = k then x else f i
theorem upd_same {α : Type} (f : Nat → α) (k : Nat) (x : α) : upd f k x k = x := if_pos rfl
theorem upd_other {α : Type} (f : Nat → α) {k i : Nat} (x : α) (h : i ≠ k) : upd f k x i = f i := if_neg h
/-- The blocks of a device that may be written. -/
def Mut (D C n : Nat) (wv : Nat → Value) (g : Nat) : Prop := g = D ∨ g = C ∨ ∃ k, k < n ∧ (wv k).ownBlock = some g
structure Flags where
  fused : Bool
  fuse : Int
  dead : Bool
  writes : Int
def headOf (Bk C n : Nat) (fl : Flags) : Array Value := #[.int .i64 Bk, .slice (some ⟨C, 0, none⟩) n n, .bool fl.fused, .int .i64 fl.fuse, .bool fl.dead, .int .i64 fl.writes]
structure Dev (w : World) (base D C n Bk : Nat) (fl : Flags) (av wv : Nat → Value) (es : Nat → List Value) (st : Nat → List (List Int)) : Prop where
  head : w.heap[D]? = some (.cells (headOf Bk C n fl) 60 (0, 0))
  cells : ∃ cc : Array Value, w.heap[C]? = some (.cells cc 62 (0, 0)) ∧ cc.size = n * 2 ∧ ∀ k, k < n → cc[k * 2]? = some (av k) ∧ cc[k * 2 + 1]? = some (wv k)
  wait : ∀ k, k < n → w.ownsRow base 29 1 (wv k) (es k).length (es k)
  len : ∀ k, k < n → (st k).length = (es k).length + 1
  rows : ∀ k, k < n → ∀ (j : Nat) v, (av k :: es k)[j]? = some v → ∃ g xs, (st k)[j]? = some xs ∧ xs.length = Bk ∧ Row w v (some g) xs ∧ ¬ Mut D C n wv g
  DC : D ≠ C
  DW : ∀ k, k < n → (wv k).ownBlock ≠ some D ∧ (wv k).ownBlock ≠ some C
  WW : ∀ k l, k < n → l < n → k ≠ l → ∀ g, (wv k).ownBlock = some g → (wv l).ownBlock ≠ some g
  lowD : base ≤ D
  lowC : base ≤ C
  hn : n ≤ 4096
  hB : 0 < Bk ∧ Bk ≤ 4096
/-- What a call on a device leaves: all else as it was; what may be written now could be written then, or is new. -/
structure Step (w w' : World) (M M' : Nat → Prop) : Prop where
  os : w'.os = w.os
  tape : w'.tape = w.tape
  output : w'.output = w.output
  size : w.heap.size ≤ w'.heap.size
  block : ∀ k, k < w.heap.size → ¬ M k → w'.heap[k]? = w.heap[k]?
  old : ∀ k, k < w.heap.size → M' k → M k
theorem Step.refl (w : World) (M : Nat → Prop) : Step w w M M := ⟨rfl, rfl, rfl, Nat.le_refl _, fun _ _ _ => rfl, fun _ _ h => h⟩
theorem Step.trans {a b c : World} {M1 M2 M3 : Nat → Prop} (h : Step a b M1 M2) (k : Step b c M2 M3) : Step a c M1 M3 :=
  ⟨k.os.trans h.os, k.tape.trans h.tape, k.output.trans h.output, Nat.le_trans h.size k.size, fun i hi hm => (k.block i (Nat.lt_of_lt_of_le hi h.size) (fun h2 => hm (h.old i hi h2))).trans (h.block i hi hm), fun i hi h3 => h.old i hi (k.old i (Nat.lt_of_lt_of_le hi h.size) h3)⟩
theorem Step.drewN {a b : World} {M1 M2 : Nat → Prop} (h : Step a b M1 M2) (n : Nat) : Step a (b.drewN n) M1 M2 := ⟨h.os, h.tape, h.output, h.size, h.block, h.old⟩
theorem Step.of_below {a b : World} (M : Nat → Prop) (h : Below a.heap.size a b) : Step a b M M := ⟨h.os, h.tape, h.output, h.size, fun k hk _ => h.block k hk, fun _ _ h => h⟩
theorem Step.below {a b : World} {M M' : Nat → Prop} {B : Nat} (h : Step a b M M') (hB : B ≤ a.heap.size) (hM : ∀ g, M g → B ≤ g) : Below B a b := ⟨h.os, h.tape, h.output, h.size, fun k hk => h.block k (by omega) (fun h2 => by have := hM k h2; omega)⟩
variable {w W : World} {base D C n Bk : Nat} {fl : Flags} {av wv : Nat → Value} {es : Nat → List Value} {st : Nat → List (List Int)}
theorem Dev.low (H : Dev w base D C n Bk fl av wv es st) : ∀ g, Mut D C n wv g → base ≤ g := by
  rintro g (rfl | rfl | ⟨k, hk, e⟩)
  · exact H.lowD
  · exact H.lowC
  · exact ((H.wait k hk).lt g e).1
theorem Dev.lt (H : Dev w base D C n Bk fl av wv es st) : ∀ g, Mut D C n wv g → g < w.heap.size := by
  rintro g (rfl | rfl | ⟨k, hk, e⟩)
  · exact (Array.getElem?_eq_some_iff.1 H.head).1
  · obtain ⟨cc, h, _⟩ := H.cells
    exact (Array.getElem?_eq_some_iff.1 h).1
  · exact ((H.wait k hk).lt g e).2
theorem Dev.keep (H : Dev w base D C n Bk fl av wv es st) (hk : ∀ g, g < w.heap.size → W.heap[g]? = w.heap[g]?) : Dev W base D C n Bk fl av wv es st := by
  refine ⟨(hk D (H.lt D (.inl rfl))).trans H.head, ?_, fun k h => owns_keep (H.wait k h) fun g e => hk g ((H.wait k h).lt g e).2, H.len, fun k h j v hv => ?_, H.DC, H.DW, H.WW, H.lowD, H.lowC, H.hn, H.hB⟩
  · obtain ⟨cc, h, r⟩ := H.cells
    exact ⟨cc, (hk C (H.lt C (.inr (.inl rfl)))).trans h, r⟩
  · obtain ⟨g, xs, h1, h2, h3, h4⟩ := H.rows k h j v hv
    exact ⟨g, xs, h1, h2, h3.keep fun g' e => hk g' (h3.lt g' e), h4⟩
theorem Dev.below (H : Dev w base D C n Bk fl av wv es st) (hb : Below w.heap.size w W) : Dev W base D C n Bk fl av wv es st := H.keep hb.block
/-- Another call has written, but nothing of this device's. -/
theorem Dev.far (H : Dev w base D C n Bk fl av wv es st) {M M' : Nat → Prop} (S : Step w W M M') (hd : ∀ g, Mut D C n wv g → ¬ M g) (hr : ∀ k, k < n → ∀ v, v ∈ av k :: es k → ∀ g, v.ownBlock = some g → ¬ M g) : Dev W base D C n Bk fl av wv es st := by
  have hk : ∀ g, Mut D C n wv g → W.heap[g]? = w.heap[g]? := fun g hg => S.block g (H.lt g hg) (hd g hg)
  refine ⟨(hk D (.inl rfl)).trans H.head, ?_, fun k h => owns_keep (H.wait k h) fun g e => hk g (.inr (.inr ⟨k, h, e⟩)), H.len, fun k h j v hv => ?_, H.DC, H.DW, H.WW, H.lowD, H.lowC, H.hn, H.hB⟩
  · obtain ⟨cc, h, r⟩ := H.cells
    exact ⟨cc, (hk C (.inr (.inl rfl))).trans h, r⟩
  · obtain ⟨g, xs, h1, h2, h3, h4⟩ := H.rows k h j v hv
    refine ⟨g, xs, h1, h2, h3.keep fun g' e => S.block g' (h3.lt g' e) ?_, h4⟩
    refine hr k h v (List.mem_of_getElem? hv) g' ?_
    cases e
    rcases h3 with ⟨_, h, _⟩ | ⟨g'', cap, cur, rfl, e, _⟩
    · cases h
    · cases e; rfl
theorem Dev.cellAv (H : Dev w base D C n Bk fl av wv es st) (k : Nat) (hk : k < n) : w.cell? ⟨C, k * 2, none⟩ = some (av k) ∧ w.frozen? ⟨C, k * 2, none⟩ = false := by
  obtain ⟨cc, h, _, r⟩ := H.cells
  exact ⟨(blk_cell h _).trans (r k hk).1, blk_frozen h _⟩
theorem Dev.cellWv (H : Dev w base D C n Bk fl av wv es st) (k : Nat) (hk : k < n) : w.cell? ⟨C, k * 2 + 1, none⟩ = some (wv k) ∧ w.frozen? ⟨C, k * 2 + 1, none⟩ = false := by
  obtain ⟨cc, h, _, r⟩ := H.cells
  exact ⟨(blk_cell h _).trans (r k hk).2, blk_frozen h _⟩
theorem Dev.headCell (H : Dev w base D C n Bk fl av wv es st) (i : Nat) : w.cell? ⟨D, i, none⟩ = (headOf Bk C n fl)[i]? ∧ w.frozen? ⟨D, i, none⟩ = false := ⟨blk_cell H.head i, blk_frozen H.head _⟩
theorem owns_form {base : Nat} {e : TypeId} {s : Nat} {v : Value} {m : Nat} {xs : List Value} (h : w.ownsRow base e s v m xs) : ∃ A c, v = .slice A m c ∧ m ≤ c := by
  rcases h.2 with ⟨rfl, rfl⟩ | ⟨g, cap, cur, rfl, _, _, h, _⟩
  · exact ⟨none, 0, rfl, Nat.le_refl _⟩
  · exact ⟨_, cap, rfl, h⟩
/-- The head is written. -/
theorem Dev.setHead (H : Dev w base D C n Bk fl av wv es st) (i : Nat) (x : Value) (fl' : Flags) (he : (headOf Bk C n fl).setIfInBounds i x = headOf Bk C n fl') :
    Dev (w.setCell ⟨D, i, none⟩ x) base D C n Bk fl' av wv es st ∧ Step w (w.setCell ⟨D, i, none⟩ x) (Mut D C n wv) (Mut D C n wv) := by
  have far : ∀ g, g ≠ D → (w.setCell ⟨D, i, none⟩ x).heap[g]? = w.heap[g]? := fun g hg => Below.heap_setCell _ _ _ _ hg
  have hl : (headOf Bk C n fl).toList.toArray = headOf Bk C n fl := by simp
  have h0 : w.heap[D]? = some (.cells (headOf Bk C n fl).toList.toArray 60 (0, 0)) := by rw [hl]; exact H.head
  refine ⟨⟨?_, ?_, fun k h => owns_keep (H.wait k h) fun g e => far g (fun e' => (H.DW k h).1 (by rw [e, e'])), H.len, fun k h j v hv => ?_, H.DC, H.DW, H.WW, H.lowD, H.lowC, H.hn, H.hB⟩, ⟨rfl, rfl, rfl, by simp [World.setCell], fun k hk hm => far k (fun e => hm (.inl e)), fun _ _ h => h⟩⟩
  · rw [setCell_eq_setRow w D i _ 60 (0, 0) _ h0, setRow_heap w D _ _ 60 (0, 0) h0, ← he]
  · obtain ⟨cc, h, r⟩ := H.cells
    exact ⟨cc, (far C (fun e => H.DC e.symm)).trans h, r⟩
  · obtain ⟨g, xs, h1, h2, h3, h4⟩ := H.rows k h j v hv
    exact ⟨g, xs, h1, h2, h3.keep fun g' e => far g' (fun e' => by cases e; exact h4 (.inl e')), h4⟩
/-- A write is appended to those that wait. -/
theorem Dev.push (H : Dev w base D C n Bk fl av wv es st) {k : Nat} (hk : k < n) {v : Value} {g : Nat} {xs : List Int} (hr : Row w v (some g) xs) (hl : xs.length = Bk) (hg : ¬ Mut D C n wv g) {v' : Value} {w' : World}
    (ho : w'.ownsRow base 29 1 v' ((es k).length + 1) (es k ++ [v])) (hgr : w.grownBy w' (wv k).ownBlock) (hat : v'.ownBlock = (wv k).ownBlock ∨ v'.ownBlock = some w.heap.size) :
    Dev (w'.setCell ⟨C, k * 2 + 1, none⟩ v') base D C n Bk fl av (upd wv k v') (upd es k (es k ++ [v])) (upd st k (st k ++ [xs])) ∧ Step w (w'.setCell ⟨C, k * 2 + 1, none⟩ v') (Mut D C n wv) (Mut D C n (upd wv k v')) := by
  have far : ∀ q, q < w.heap.size → q ≠ C → (wv k).ownBlock ≠ some q → (w'.setCell ⟨C, k * 2 + 1, none⟩ v').heap[q]? = w.heap[q]? := fun q h1 h2 h3 => (Below.heap_setCell _ _ _ _ h2).trans (hgr.block q h1 (fun e => h3 e.symm))
  have hmut : ∀ q, q < w.heap.size → Mut D C n (upd wv k v') q → Mut D C n wv q := by
    rintro q hq (e | e | ⟨l, hl, e⟩)
    · exact .inl e
    · exact .inr (.inl e)
    · by_cases h : l = k
      · subst h
        rw [upd_same] at e
        rcases hat with a | a
        · exact .inr (.inr ⟨l, hl, by rw [← a]; exact e⟩)
        · rw [a] at e; have := Option.some.inj e; omega
      · rw [upd_other _ _ h] at e
        exact .inr (.inr ⟨l, hl, e⟩)
  have hCs : C < w.heap.size := H.lt C (.inr (.inl rfl))
  have hDs : D < w.heap.size := H.lt D (.inl rfl)
  have hC' : v'.ownBlock ≠ some C := by
    rcases hat with a | a
    · rw [a]; exact (H.DW k hk).2
    · rw [a]; intro e; have := Option.some.inj e; omega
  obtain ⟨cc, hcc, hsz, hcell⟩ := H.cells
  have hcc' : w'.heap[C]? = some (.cells cc.toList.toArray 62 (0, 0)) := by rw [show cc.toList.toArray = cc by simp, ← hcc]; exact hgr.block C hCs (fun e => (H.DW k hk).2 e.symm)
  refine ⟨⟨?_, ?_, fun l hl' => ?_, fun l hl' => ?_, fun l hl' j u hu => ?_, H.DC, fun l hl' => ?_, fun a b ha hb hab q e1 e2 => ?_, H.lowD, H.lowC, H.hn, H.hB⟩, ⟨hgr.os, hgr.tape, hgr.output, by have := hgr.size; simp [World.setCell]; omega, fun q hq hm => far q hq (fun e => hm (.inr (.inl e))) (fun e => hm (.inr (.inr ⟨k, hk, e⟩))), hmut⟩⟩
  · exact (far D hDs H.DC (H.DW k hk).1).trans H.head
  · refine ⟨(cc.toList.set (k * 2 + 1) v').toArray, ?_, by simp; exact hsz, fun l hl' => ?_⟩
    · rw [setCell_eq_setRow w' C (k * 2 + 1) _ 62 (0, 0) _ hcc', setRow_heap w' C _ _ 62 (0, 0) hcc']
      simp only [List.setIfInBounds_toArray]
    · have h1 := (hcell l hl').1
      have h2 := (hcell l hl').2
      have hsz' : cc.toList.length = n * 2 := by simp [hsz]
      rw [List.getElem?_toArray, List.getElem?_toArray, List.getElem?_set, List.getElem?_set]
      constructor
      · rw [if_neg (by omega)]; simpa using h1
      · by_cases h : l = k
        · subst h
          rw [upd_same, if_pos rfl, if_pos (by omega)]
        · rw [upd_other _ _ h, if_neg (by omega)]; simpa using h2
  · by_cases h : l = k
    · subst h
      rw [upd_same, upd_same, List.length_append]
      exact owns_keep ho fun q e => Below.heap_setCell _ _ _ _ (fun e' => hC' (by rw [e, e']))
    · rw [upd_other _ _ h, upd_other _ _ h]
      exact owns_keep (H.wait l hl') fun q e => far q ((H.wait l hl').lt q e).2 (fun e' => (H.DW l hl').2 (by rw [e, e'])) (fun e' => H.WW l k hl' hk h q e e')
  · by_cases h : l = k
    · subst h; rw [upd_same, upd_same, List.length_append, List.length_append, H.len l hl']; rfl
    · rw [upd_other _ _ h, upd_other _ _ h]; exact H.len l hl'
  · have main : ∀ (j : Nat) u, (av l :: es l)[j]? = some u → ∃ g xs, (st l)[j]? = some xs ∧ xs.length = Bk ∧ Row (w'.setCell ⟨C, k * 2 + 1, none⟩ v') u (some g) xs ∧ ¬ Mut D C n (upd wv k v') g := by
      intro j u hu
      obtain ⟨g0, xs0, h1, h2, h3, h4⟩ := H.rows l hl' j u hu
      have hlt := h3.lt g0 rfl
      exact ⟨g0, xs0, h1, h2, h3.keep fun q e => by cases e; exact far g0 hlt (fun e => h4 (.inr (.inl e))) (fun e => h4 (.inr (.inr ⟨k, hk, e⟩))), fun hm => h4 (hmut g0 hlt hm)⟩
    by_cases h : l = k
    · subst h
      rw [upd_same] at hu ⊢
      rw [← List.cons_append] at hu
      rcases Nat.lt_or_ge j (av l :: es l).length with c | c
      · rw [List.getElem?_append_left c] at hu
        obtain ⟨g0, xs0, h1, r⟩ := main j u hu
        have hj : j < (st l).length := by rw [H.len l hl']; simpa using c
        exact ⟨g0, xs0, by rw [List.getElem?_append_left hj]; exact h1, r⟩
      · rw [List.getElem?_append_right c] at hu
        have hj0 : j - (av l :: es l).length = 0 := by
          rcases Nat.eq_zero_or_pos (j - (av l :: es l).length) with h0 | h0
          · exact h0
          · rw [List.getElem?_eq_none (by simp only [List.length_cons, List.length_nil] at h0 ⊢; omega)] at hu; cases hu
        rw [hj0] at hu
        simp only [List.getElem?_cons_zero, Option.some.injEq] at hu
        subst hu
        have hlt := hr.lt g rfl
        refine ⟨g, xs, ?_, hl, hr.keep fun q e => by cases e; exact far g hlt (fun e => hg (.inr (.inl e))) (fun e => hg (.inr (.inr ⟨l, hk, e⟩))), fun hm => hg (hmut g hlt hm)⟩
        have hlen := H.len l hl'
        simp only [List.length_cons] at c hj0
        rw [List.getElem?_append_right (by omega), show j - (st l).length = 0 by omega]
        rfl
    · rw [upd_other _ _ h] at hu ⊢
      exact main j u hu
  · by_cases h : l = k
    · subst h
      rw [upd_same]
      refine ⟨?_, hC'⟩
      rcases hat with a | a
      · rw [a]; exact (H.DW l hl').1
      · rw [a]; intro e; have := Option.some.inj e; omega
    · rw [upd_other _ _ h]; exact H.DW l hl'
  · have fresh : ∀ l, l < n → l ≠ k → ∀ q, (wv l).ownBlock = some q → v'.ownBlock ≠ some q := by
      intro l hl' hne q e e'
      rcases hat with a | a
      · rw [a] at e'; exact H.WW l k hl' hk hne q e e'
      · rw [a] at e'; have := Option.some.inj e'; have := ((H.wait l hl').lt q e).2; omega
    by_cases h1 : a = k
    · subst h1
      rw [upd_same] at e1
      rw [upd_other _ _ (by omega)] at e2
      exact fresh b hb (by omega) q e2 e1
    · rw [upd_other _ _ h1] at e1
      by_cases h2 : b = k
      · subst h2
        rw [upd_same] at e2
        exact fresh a ha h1 q e1 e2
      · rw [upd_other _ _ h2] at e2
        exact H.WW a b ha hb hab q e1 e2
theorem Row.slice {w : World} {v : Value} {g : Nat} {xs : List Int} (h : Row w v (some g) xs) : ∃ c, v = .slice (some ⟨g, 0, none⟩) xs.length c ∧ xs.length ≤ c := by
  rcases h with ⟨_, h, _⟩ | ⟨g', cap, cur, rfl, e, h3, _⟩
  · cases h
  · cases e; exact ⟨cap, rfl, h3⟩
theorem Row.reads {w : World} {v : Value} {b : Option Nat} {xs : List Int} (h : Row w v b xs) (hm : xs.length ≤ 9223372036854775807) : ∃ A c, v = .slice A xs.length c ∧ xs.length ≤ c ∧ ReadsInt w .u8 A xs.length xs := by
  rcases h with ⟨⟨A, rfl⟩, _, rfl⟩ | ⟨g, cap, cur, rfl, _, h3, h4, h5, h6, h7⟩
  · exact ⟨A, 0, rfl, Nat.le_refl _, rfl, by simp, by simp⟩
  · refine ⟨_, cap, rfl, h3, rfl, hm, fun _ => ⟨_, rfl, fun j hj => ?_⟩⟩
    have ha : (⟨g, 0, none⟩ : Addr).add j = ⟨g, j, none⟩ := by unfold Addr.add; split <;> simp_all
    have hx : cur.toList[j]? = (nums .u8 xs)[j]? := by rw [← h7, List.getElem?_take, if_pos hj]
    rw [ha, blk_cell h5 j, ← Array.getElem?_toList, hx]
    simp only [nums, List.getElem?_map]
    rw [List.getD_eq_getElem?_getD, List.getElem?_eq_getElem hj]
    rfl
/-- What is read of a block: the last. -/
def lastOf (l : List (List Int)) : List Int := l.getLastD []
theorem Dev.last {w : World} {base D C n Bk : Nat} {fl : Flags} {av wv : Nat → Value} {es : Nat → List Value} {st : Nat → List (List Int)} (H : Dev w base D C n Bk fl av wv es st) (k : Nat) (hk : k < n) :
    ∃ v g, (av k :: es k)[(es k).length]? = some v ∧ Row w v (some g) (lastOf (st k)) ∧ (lastOf (st k)).length = Bk ∧ ¬ Mut D C n wv g := by
  have hl : (es k).length < (av k :: es k).length := by simp
  obtain ⟨g, xs, h1, h2, h3, h4⟩ := H.rows k hk (es k).length _ (List.getElem?_eq_getElem hl)
  have : lastOf (st k) = xs := by
    unfold lastOf
    rw [List.getLastD_eq_getLast?, List.getLast?_eq_getElem?, H.len k hk, Nat.add_sub_cancel, h1]
    rfl
  rw [this]
  exact ⟨_, g, List.getElem?_eq_getElem hl, h3, h2, h4⟩
/-- The last write's slice stands in the cell, or behind those that wait. -/
theorem Dev.lastCell {w : World} {base D C n Bk : Nat} {fl : Flags} {av wv : Nat → Value} {es : Nat → List Value} {st : Nat → List (List Int)} (H : Dev w base D C n Bk fl av wv es st) (k : Nat) (hk : k < n) :
    (es k = [] ∧ wv k = .slice none 0 0 ∨ es k = [] ∧ ∃ g c, wv k = .slice (some ⟨g, 0, none⟩) 0 c) ∨ ∃ g c v, es k ≠ [] ∧ wv k = .slice (some ⟨g, 0, none⟩) (es k).length c ∧ (av k :: es k)[(es k).length]? = some v ∧ w.cell? ⟨g, (es k).length - 1, none⟩ = some v := by
  rcases (H.wait k hk).2 with ⟨h1, h2⟩ | ⟨g, cap, cur, h1, _⟩
  · exact .inl (.inl ⟨List.eq_nil_of_length_eq_zero h2, h1⟩)
  · rcases Nat.eq_zero_or_pos (es k).length with h0 | h0
    · exact .inl (.inr ⟨List.eq_nil_of_length_eq_zero h0, g, cap, by rw [h1, h0]⟩)
    · have hl : (es k).length - 1 < (es k).length := by omega
      have := (H.wait k hk).cells (g := g) (by rw [h1]; rfl) ((es k).length - 1) _ (List.getElem?_eq_getElem hl)
      have ha : (⟨g, 0, none⟩ : Addr).add ((es k).length - 1) = ⟨g, (es k).length - 1, none⟩ := by unfold Addr.add; split <;> simp_all
      rw [ha] at this
      refine .inr ⟨g, cap, _, List.ne_nil_of_length_pos h0, h1, ?_, this⟩
      obtain ⟨m, hm⟩ : ∃ m, (es k).length - 1 = m := ⟨_, rfl⟩
      have hm' : (es k).length = m + 1 := by omega
      have e1 : (av k :: es k)[(es k).length]? = (es k)[(es k).length - 1]? := by rw [hm, hm', List.getElem?_cons_succ]
      rw [e1, List.getElem?_eq_getElem hl]
theorem reads_step {w w1 : World} {k : IntKind} {A : Option Addr} {m : Nat} {xs : List Int} (h : ReadsInt w k A m xs) (hk : ∀ a, A = some a → a.block < w.heap.size → w1.heap[a.block]? = w.heap[a.block]?) : ReadsInt w1 k A m xs := by
  refine ⟨h.1, h.2.1, fun hn => ?_⟩
  obtain ⟨ad, e, hc⟩ := h.2.2 hn
  refine ⟨ad, e, fun j hj => ?_⟩
  have hb : (ad.add j).block = ad.block := by unfold Addr.add; split <;> rfl
  have hlt := World.block_lt_of_cell? w _ (hc j hj)
  rw [hb] at hlt
  exact (World.cell?_of_block (w := w) (by rw [hb]; exact hk ad e hlt)).trans (hc j hj)
/-- burn: what becomes of the flags, and whether the device goes on. -/
def Flags.dies (fl : Flags) : Bool := fl.dead || fl.fused && fl.fuse == 0
def Flags.burn (fl : Flags) : Flags := if fl.dies = true then { fl with dead := true } else { fl with dead := false, fuse := wrap64 (fl.fuse - 1), writes := wrap64 (fl.writes + 1) }
def Flags.code (fl : Flags) : Int := if fl.dies = true then 7 else 0
theorem step_append_own {P : Program} {ops : Array Oper} {o : Oper} {a : Act} {W : World} {Kc : Act → World → Prop} {Q : Exit → Act → World → Prop}
    (hw : Region.wanted o (yielded ops a.tmps) = true) (s x : Operand) (t : TypeId) (ho : o.op = .call { callee := .builtin .append, args := #[s, x], argTypes := #[t, t] })
    (base : Nat) (e : TypeId) (i : TypeInfo) (z : Value) (size bytes : Nat) (ht : P.underlying t = some (.slice e)) (hi : P.info? e = some i) (hz : i.zero = some z)
    (hsize : i.size = size) (hby : i.bytes = bytes) (hzs : z.cells.size = size) (hsz : 0 < size)
    (v : Value) (n : Nat) (xs : List Value) (hs : a.eval s = v) (hown : W.ownsRow base e size v n xs)
    (ad : Addr) (m c : Nat) (news : List Value) (hx : a.eval x = .slice (some ad) m c) (hl : news.length = m * size) (hnews : ∀ j u, news[j]? = some u → W.cell? (ad.add j) = some u) (h1 : ∀ u ∈ news, u.oneCell' = true)
    (h63 : n + m ≤ maxLen) (hbytes : (n + m) * bytes ≤ 140737488355328) (hbase : base ≤ W.heap.size)
    (h : ∀ v' w', w'.ownsRow base e size v' (n + m) (xs ++ news) → W.grownBy w' v.ownBlock → (v' = .slice none 0 0 ↔ v = .slice none 0 0 ∧ m = 0) → (v'.ownBlock = v.ownBlock ∨ v'.ownBlock = some W.heap.size) → Kc (a.put o.dst v') w') :
    if Region.wanted o (yielded ops a.tmps) = true then Oper.wp P o a W Kc Q else Kc (a.put o.dst undef) W := by
  rw [if_pos hw]
  obtain ⟨v', w', hr, h2, h3, h4, h5⟩ := run_append_own_at (P := P) W base t o.type e i z size bytes ht hi hz hsize hby hzs hsz v n xs hown ad m c news hl hnews h1 h63 hbytes hbase
  unfold Oper.wp execOp
  simp only [ho, resolve, invoke, builtin, Sem.run_bind, Sem.run_pure, Result.andThen_ok, List.map_toArray, List.map_cons, List.map_nil, hs, hx, hr]
  exact h v' w' h2 h3 h4 h5
theorem news_one {w : World} {g : Nat} {t : TypeId} {x : Value} (h : w.heap[g]? = some (.cells #[x] t (0, 0))) : ∀ j u, [x][j]? = some u → w.cell? ((⟨g, 0, none⟩ : Addr).add j) = some u := by
  intro j u hu
  have ha : (⟨g, 0, none⟩ : Addr).add j = ⟨g, j, none⟩ := by unfold Addr.add; split <;> simp_all
  rw [ha, blk_cell h j]
  simpa using hu
theorem infoSB : ∃ i, Try.prog.info? 29 = some i ∧ i.zero = some (.slice none 0 0) ∧ i.size = 1 ∧ i.bytes = 24 := by
  obtain ⟨i, hi, h3⟩ := Option.map_eq_some_iff.1 (show (Try.prog.info? 29).map (fun i => (i.zero, i.size, i.bytes)) = some (some (.slice none 0 0), 1, 24) by kernel_rfl)
  simp only [Prod.mk.injEq] at h3
  exact ⟨i, hi, h3⟩
end Go.Proofs.Ytenomjfaodfjhaa.Keeps
