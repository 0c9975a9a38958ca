/- Lists of names are sorted: slices.SortFunc by slices.Compare, as a contract. -/
import Derived.Test.YtdihhdmndjjknaaDoorKWOrd
import Derived.Test.YtdihhdmndjjknaaDoorSort
namespace Go.Proofs.YtdihhdmndjjknaaDoor.Walk
open Go.RowKit Go.Shelf Go.Proofs.YtdihhdmndjjknaaDoor.PWalkOrders Go.Proofs.YtdihhdmndjjknaaDoor.Plain Go.Proofs.YtdihhdmndjjknaaDoor.Codec Go.Proofs.YtdihhdmndjjknaaDoorW.PrintWords Go.Proofs.YtdihhdmndjjknaaDoorW.PrintLast Go.Proofs.YtdihhdmndjjknaaDoorW.PrintMore
set_option linter.unusedVariables false
set_option linter.unusedSimpArgs false
theorem nl_ntrans {x y z : List (List UInt8)} (h : ¬ x < y) (k : ¬ y < z) : ¬ x < z := by
  intro q
  rcases nl_tri x y with a | a | a
  · exact h a
  · exact k (a ▸ q)
  · exact k (nl_trans a q)
theorem cmp_neg (x y : List ByteArray) : cmpN x y < 0 ↔ nl x < nl y := by
  unfold cmpN
  by_cases h : nl x < nl y
  · rw [if_pos h]; exact ⟨fun _ => h, fun _ => by decide⟩
  · rw [if_neg h]
    by_cases k : nl y < nl x
    · rw [if_pos k]; exact ⟨fun q => absurd q (by decide), fun q => absurd q h⟩
    · rw [if_neg k]; exact ⟨fun q => absurd q (by decide), fun q => absurd q h⟩
/-- A value that holds names, in a world, away from a block. -/
def NamesAt (w : World) (blk : Nat) (p : Value × List ByteArray) : Prop := ∃ A c, p.1 = .slice A p.2.length c ∧ p.2.length ≤ c ∧ p.2.length ≤ 16 ∧ Kd.C Kd.string w A p.2.length p.2 ∧ ∀ ad, A = some ad → 0 < p.2.length → ad.block < w.heap.size ∧ ad.block ≠ blk
theorem NamesAt.nil (w : World) (blk : Nat) : NamesAt w blk (.slice none 0 0, []) := ⟨none, 0, rfl, Nat.le_refl _, by simp, ⟨rfl, by decide, fun h => absurd h (by decide)⟩, fun ad e => by cases e⟩
abbrev Elem (w : World) (blk : Nat) : Type := { p : Value × List ByteArray // NamesAt w blk p }
instance (w : World) (blk : Nat) : Inhabited (Elem w blk) := ⟨⟨_, NamesAt.nil w blk⟩⟩
def encE {w : World} {blk : Nat} (x : Elem w blk) : Value := x.1.1
def cmpE {w : World} {blk : Nat} (x y : Elem w blk) : Int := cmpN x.1.2 y.1.2
theorem encE_one {w : World} {blk : Nat} : OneCell (encE (w := w) (blk := blk)) := by
  intro x
  obtain ⟨A, c, e, _⟩ := x.2
  unfold encE
  rw [e]
  rfl
theorem cmpE_swo {w : World} {blk : Nat} : Sort.SWO (ltOf (cmpE (w := w) (blk := blk))) := by
  refine ⟨fun x => ?_, fun x y z h k => ?_, fun x y z h k => ?_⟩
  · unfold ltOf cmpE
    exact decide_eq_false fun q => nl_irrefl _ ((cmp_neg _ _).1 q)
  · unfold ltOf cmpE at *
    exact decide_eq_true ((cmp_neg _ _).2 (nl_trans ((cmp_neg _ _).1 (of_decide_eq_true h)) ((cmp_neg _ _).1 (of_decide_eq_true k))))
  · unfold ltOf cmpE at *
    refine decide_eq_false fun q => nl_ntrans (fun a => of_decide_eq_false h ((cmp_neg _ _).2 a)) (fun a => of_decide_eq_false k ((cmp_neg _ _).2 a)) ((cmp_neg _ _).1 q)
theorem C_keep {w W : World} {A : Option Addr} {l : List ByteArray} (h : Kd.C Kd.string w A l.length l) (hk : ∀ ad, A = some ad → 0 < l.length → W.heap[ad.block]? = w.heap[ad.block]?) : Kd.C Kd.string W A l.length l := by
  have hr := Kd.reads_of_C (enc := Value.string) (d := (⟨#[]⟩ : ByteArray)) (h1 := fun _ => rfl) h
  refine Kd.C_of_reads (enc := Value.string) (d := (⟨#[]⟩ : ByteArray)) (h1 := fun _ => rfl) ⟨hr.1, hr.2.1, fun hn => ?_⟩
  obtain ⟨ad, e, hc⟩ := hr.2.2 hn
  refine ⟨ad, e, fun j hj => ?_⟩
  have hj := hc j hj
  have hb : (ad.add j).block = ad.block := by unfold Addr.add; split <;> rfl
  rw [← hj]
  unfold World.cell?
  rw [hb, hk ad e hn]
theorem sortWorld_block {α : Type} [Inhabited α] (enc : α → Value) (w : World) (blk off m : Nat) (dk : Array α) (os : Array Obj) (k : Nat) (hk : k < w.heap.size) (hne : k ≠ blk) : (sortWorld enc w blk off m dk os).heap[k]? = w.heap[k]? := by
  have e : (sortWorld enc w blk off m dk os).heap = (w.heap.modify blk (Sort.onCells (Sort.putCells enc off dk))) ++ os := rfl
  rw [e, Array.getElem?_append_left (by simpa using hk), Array.getElem?_modify, if_neg (fun q => hne q.symm)]
theorem sortWorld_row {α : Type} [Inhabited α] (enc : α → Value) (w : World) (blk off m : Nat) (dk : Array α) (os : Array Obj) (cs : Array Value) (t : TypeId) (h : w.heap[blk]? = some (.cells cs t (0, 0))) : (sortWorld enc w blk off m dk os).heap[blk]? = some (.cells (Sort.putCells enc off dk cs) t (0, 0)) := by
  have e : (sortWorld enc w blk off m dk os).heap = (w.heap.modify blk (Sort.onCells (Sort.putCells enc off dk))) ++ os := rfl
  have hk : blk < w.heap.size := (Array.getElem?_eq_some_iff.1 h).1
  rw [e, Array.getElem?_append_left (by simpa using hk), Array.getElem?_modify, if_pos rfl, h]
  rfl
theorem cmp_reads (w : World) (blk size : Nat) : CmpReads Tryd.prog 27 #[] (encE (w := w) (blk := blk)) cmpE blk 0 size w := by
  intro m os dk _ x y
  obtain ⟨⟨v1, l1⟩, A1, c1, e1, h1, h16, hc1, hb1⟩ := x
  obtain ⟨⟨v2, l2⟩, A2, c2, e2, h2, h17, hc2, hb2⟩ := y
  simp only at e1 e2 h1 h2 h16 h17 hc1 hc2 hb1 hb2
  subst e1
  subst e2
  have k1 := C_keep (W := sortWorld (encE (w := w) (blk := blk)) w blk 0 m dk os) hc1 fun ad e h => sortWorld_block _ _ _ _ _ _ _ _ (hb1 ad e h).1 (hb1 ad e h).2
  have k2 := C_keep (W := sortWorld (encE (w := w) (blk := blk)) w blk 0 m dk os) hc2 fun ad e h => sortWorld_block _ _ _ _ _ _ _ _ (hb2 ad e h).1 (hb2 ad e h).2
  refine (slices_Compare_string_string.calls (l1.length + 1) A1 c1 l1 A2 c2 l2 (cmpN l1 l2) _ k1 h1 k2 h2 (compare_is l1 l2 (by omega))).mono ?_
  rintro e w' ⟨he, hd⟩
  obtain ⟨hq⟩ := hd
  exact ⟨he, hq⟩
/-- What a world is behind a call that turned one block alone. -/
structure Turned (w w' : World) (blk : Nat) : Prop where
  os : w'.os = w.os
  tape : w'.tape = w.tape
  output : w'.output = w.output
  size : w.heap.size ≤ w'.heap.size
  block : ∀ k, k < w.heap.size → k ≠ blk → w'.heap[k]? = w.heap[k]?
theorem Turned.below {w w' w0 : World} {blk base : Nat} (h : Turned w w' blk) (h0 : Below base w0 w) (hb : base ≤ w.heap.size) (hg : base ≤ blk) : Below base w0 w' :=
  h0.trans ⟨h.os, h.tape, h.output, h.size, fun k hk => h.block k (Nat.lt_of_lt_of_le hk hb) (by omega)⟩
theorem NamesAt.turned {w w' : World} {blk : Nat} {p : Value × List ByteArray} (h : NamesAt w blk p) (ht : Turned w w' blk) : NamesAt w' blk p := by
  obtain ⟨A, c, e, h1, h2, h3, h4⟩ := h
  exact ⟨A, c, e, h1, h2, C_keep h3 fun ad q hn => ht.block _ (h4 ad q hn).1 (h4 ad q hn).2, fun ad q hn => ⟨Nat.lt_of_lt_of_le (h4 ad q hn).1 ht.size, (h4 ad q hn).2⟩⟩
theorem sort_enters (args : Array Value) (w : World) : (callFunc 27 args).run Tryd.prog w = .ok (.enter 27 args) w := enters_ Tryd.func27 (by kernel_rfl) rfl args w
theorem sort_calls (w : World) (blk cap : Nat) (t : TypeId) (cs : Array Value) (ps : List (Value × List ByteArray)) (hcell : w.heap[blk]? = some (.cells cs t (0, 0))) (hpre : ∀ (j : Nat) (p : Value × List ByteArray), ps[j]? = some p → cs[j]? = some p.1) (hps : ∀ p ∈ ps, NamesAt w blk p) (hlen : ps.length ≤ 1048576) :
    Calls Tryd.prog 26 #[.slice (some ⟨blk, 0, none⟩) ps.length cap, .func (.func 27) #[] #[]] w fun e w' => e = .returned (.tuple #[]) ∧ ∃ (qs : List (Value × List ByteArray)) (cs' : Array Value), qs.Perm ps ∧ qs.Pairwise (fun a b => ¬ nl b.2 < nl a.2) ∧ w'.heap[blk]? = some (.cells cs' t (0, 0)) ∧ cs'.size = cs.size ∧ (∀ (j : Nat) (p : Value × List ByteArray), qs[j]? = some p → cs'[j]? = some p.1) ∧ Turned w w' blk := by
  have hblk := blk_lt hcell
  obtain ⟨dl, hdl⟩ : ∃ dl : List (Elem w blk), dl.map (fun x => x.1) = ps := ⟨ps.attach.map fun p => ⟨p.1, hps p.1 p.2⟩, by rw [List.map_map]; exact (List.attach_map_subtype_val ps)⟩
  have hdlen : dl.length = ps.length := by rw [← hdl, List.length_map]
  have hget : ∀ (l : List (Elem w blk)) (j : Nat) (hj : j < l.length), (l.toArray)[j]! = l[j] := fun l j hj => by simp [hj]
  have hH : Sort.Holds encE w blk 0 dl.toArray := by
    intro j hj
    have hj2 : j < dl.length := by simpa using hj
    rw [hget dl j hj2]
    refine ⟨?_, ?_⟩
    · rw [Nat.zero_add, blk_cell hcell]
      refine hpre j _ ?_
      rw [← hdl, List.getElem?_map, List.getElem?_eq_getElem hj2]
      rfl
    · exact blk_frozen hcell (0 + j)
  have h := Any.slices_SortFunc Tryd.laysSlF6_f26 encE encE_one cmpE cmpE_swo 27 #[] blk 0 cap dl.toArray w sort_enters (cmp_reads w blk _).lays hH hblk (by simp; omega)
  have hsz : dl.toArray.size = ps.length := by simpa using hdlen
  rw [hsz] at h
  refine h.mono ?_
  rintro e w' ⟨he, d', n, os, ⟨hs, _, hperm⟩, hsort, rfl⟩
  have hs2 : d'.size = ps.length := hs.trans hsz
  have hp2 : d'.toList.Perm dl := by
    have e1 : (d'.extract 0 ps.length) = d' := by rw [← hs2]; simp
    have e2 : (dl.toArray.extract 0 ps.length) = dl.toArray := by rw [← hsz]; simp
    rw [e1, e2] at hperm
    simpa using hperm
  refine ⟨he, d'.toList.map (fun x => x.1), Sort.putCells encE 0 d' cs, ?_, ?_, sortWorld_row _ _ _ _ _ _ _ _ _ hcell, by simp [Sort.putCells], ?_, ⟨rfl, rfl, rfl, ?_, fun k hk hne => sortWorld_block _ _ _ _ _ _ _ _ hk hne⟩⟩
  · rw [← hdl]
    exact hp2.map _
  · rw [List.pairwise_map, List.pairwise_iff_getElem]
    intro i j hi hj hij
    have h1 := hsort i j (Nat.zero_le _) hij (by rw [← hs2]; simpa using hj)
    have hi2 : i < d'.size := by simpa using hi
    have hj2 : j < d'.size := by simpa using hj
    rw [getElem!_pos d' i hi2, getElem!_pos d' j hj2] at h1
    intro q
    have h2 := of_decide_eq_false h1
    exact h2 ((cmp_neg _ _).2 (by simpa using q))
  · intro j p hj
    rw [List.getElem?_map] at hj
    obtain ⟨x, hx, rfl⟩ := Option.map_eq_some_iff.1 hj
    have hj2 : j < d'.size := by have := (List.getElem?_eq_some_iff.1 hx).1; simpa using this
    have hjc : j < cs.size := by
      have hq := hpre j _ (List.getElem?_eq_getElem (show j < ps.length by omega))
      exact (Array.getElem?_eq_some_iff.1 hq).1
    unfold Sort.putCells
    rw [Array.getElem?_mapIdx, Array.getElem?_eq_getElem hjc]
    simp only [Option.map_some]
    rw [if_pos ⟨Nat.zero_le _, by omega⟩, Nat.sub_zero, getElem!_pos d' j hj2]
    congr 1
    have hx2 : d'[j] = x := by
      have := hx
      rw [List.getElem?_eq_getElem (by simpa using hj2)] at this
      simpa using Option.some.inj this
    rw [hx2]
    rfl
  · have e : (sortWorld encE w blk 0 n d' os).heap = (w.heap.modify blk (Sort.onCells (Sort.putCells encE 0 d'))) ++ os := rfl
    rw [e]
    simp
end Go.Proofs.YtdihhdmndjjknaaDoor.Walk
