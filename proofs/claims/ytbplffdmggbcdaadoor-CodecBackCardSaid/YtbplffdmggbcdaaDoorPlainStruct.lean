/- A struct of whole numbers alone, each one cell, as an argument: opened and shut. This session's own words. -/
import Derived.WalkKit
import Derived.ProofKit
import Derived.OpenShut
import Derived.ShutString
import Derived.ChangeOld
import Derived.ChangeSame
import Derived.Below
import Derived.SizedLaws
namespace Go.Proofs.YtbplffdmggbcdaaDoor.PlainStruct
open Go Go.ChangeShapes Go.WideShapes Go.ChangeAt Go.RowKit
section
variable {H : Type} {enc : TypeId × Value → H} {P : Program} {w : World} {base : Nat} {spare : Nat → Bool} {held : Bool}
theorem open_row {r : Reach} {b0 : Nat} {t ti : TypeId} {k : IntKind} {fs : Array Field} {v : Value} {d : DataW H} {p : List MemPlace} (hs : P.underlying t = some (.struct fs)) (hti : P.underlying ti = some (.int k)) (hall : ∀ (i : Nat) (f : Field), fs[i]? = some f → f.type = ti ∧ f.offset = i) (hC : P.cellsOf t = fs.size) (h1 : P.cellsOf ti = 1)
    (hv : Value.okWide P w r b0 t v) (h : DataW.Trod enc P w base spare held t v d p) :
    ∃ ns : List Int, ns.length = fs.size ∧ v = .agg (ns.map (Value.int k)).toArray ∧ d = .agg (ns.map fun n => .lit (.int k n)) ∧ p = [] ∧ ∀ n ∈ ns, (Lit.int k n).wf = true := by
  obtain ⟨cs, rfl, hsz⟩ := okWide_struct hs hv
  obtain ⟨fuel, hf⟩ := h
  obtain ⟨xs, m, _, hx, hl, hlen, hg⟩ := DataW.trod_struct hs hf
  simp only [Prod.mk.injEq] at hx
  have hcl : cs.toList.length = fs.size := by rw [← hC, ← hsz, Array.length_toList]
  have each : ∀ i, i < fs.size → ∃ n, cs.toList[i]? = some (.int k n) ∧ xs[i]? = some (.lit (.int k n), []) ∧ (Lit.int k n).wf = true := by
    intro i hi
    have hfi : fs[i]? = some fs[i] := Array.getElem?_eq_getElem hi
    obtain ⟨z1, z2⟩ := hall i _ hfi
    have hh := hg i _ hfi
    rw [z1, z2, h1] at hh
    have hy : xs[i]? = some xs[i] := List.getElem?_eq_getElem (by omega)
    rw [hy] at hh
    obtain ⟨n, hc, hyx, hw⟩ := DataW.trod_int hti hh
    have hc2 : ((cs.toList.drop i).take 1)[0]? = some (Value.int k n) := by
      have hc' : (cs.toList.drop i).take 1 = [Value.int k n] := hc
      rw [hc']
      rfl
    refine ⟨n, ?_, ?_, hw⟩
    · rw [List.getElem?_take, if_pos (by omega), List.getElem?_drop, Nat.add_zero] at hc2
      exact hc2
    · rw [hy, hyx]
  let g : Nat → Int := fun i => match cs.toList[i]? with
    | some (.int _ n) => n
    | _ => 0
  have hgi : ∀ i, i < fs.size → cs.toList[i]? = some (.int k (g i)) ∧ xs[i]? = some (.lit (.int k (g i)), []) ∧ (Lit.int k (g i)).wf = true := by
    intro i hi
    obtain ⟨n, e1, e2, e3⟩ := each i hi
    have : g i = n := by
      show (match cs.toList[i]? with
        | some (.int _ n) => n
        | _ => 0) = n
      rw [e1]
    rw [this]
    exact ⟨e1, e2, e3⟩
  have hmap : ∀ {β : Type} (q : Int → β) (l : List β), l.length = fs.size → (∀ i, i < fs.size → l[i]? = some (q (g i))) → ((List.range fs.size).map g).map q = l := by
    intro β q l hl hq
    apply List.ext_getElem?
    intro i
    by_cases hi : i < fs.size
    · rw [hq i hi]
      simp [hi]
    · rw [List.getElem?_eq_none (by simp; omega), List.getElem?_eq_none (by omega)]
  refine ⟨(List.range fs.size).map g, by simp, ?_, ?_, ?_, ?_⟩
  · rw [hmap (Value.int k) cs.toList hcl (fun i hi => (hgi i hi).1)]
  · rw [hx.1, hmap (fun n => DataW.lit (.int k n)) (xs.map (·.1)) (by rw [List.length_map]; exact hlen) (fun i hi => by rw [List.getElem?_map, (hgi i hi).2.1]; rfl)]
  · rw [hx.2]
    apply List.flatMap_eq_nil_iff.2
    intro y hy
    obtain ⟨i, hi, rfl⟩ := List.getElem_of_mem hy
    have := (hgi i (by omega)).2.1
    rw [List.getElem?_eq_getElem hi] at this
    rw [Option.some.inj this]
  · intro n hn
    obtain ⟨i, hi, rfl⟩ := List.mem_map.1 hn
    exact (hgi i (List.mem_range.1 hi)).2.2
theorem all_of {ti : TypeId} {fs : Array Field} (h : (fs.toList.zipIdx.all fun p => p.1.type == ti && p.1.offset == p.2) = true) : ∀ (i : Nat) (f : Field), fs[i]? = some f → f.type = ti ∧ f.offset = i := by
  intro i f hf
  have h2 := List.all_eq_true.1 h (f, i) (List.mem_zipIdx_iff_getElem?.2 (by simpa using hf))
  simpa using h2
theorem twelve {ns : List Int} (h : ns.length = 12) : ∃ a b c d e f g h i j k l, ns = [a, b, c, d, e, f, g, h, i, j, k, l] := by
  match ns, h with
  | [a, b, c, d, e, f, g, h, i, j, k, l], _ => exact ⟨a, b, c, d, e, f, g, h, i, j, k, l, rfl⟩
theorem mapM_row {α β : Type} (q : α → Option β) : ∀ (l : List α) (ys : List β), l.length = ys.length → (∀ (i : Nat) (x : α), l[i]? = some x → q x = ys[i]?) → l.mapM q = some ys
  | [], [], _, _ => rfl
  | x :: l, y :: ys, hl, h => by
    have h0 : q x = some y := h 0 x rfl
    have ih := mapM_row q l ys (by simpa using hl) (fun i x hx => h (i + 1) x hx)
    rw [List.mapM_cons, h0, ih]
    rfl
theorem shut_row {t ti : TypeId} {k : IntKind} {fs : Array Field} {ns : List Int} (hs : P.underlying t = some (.struct fs)) (hti : P.underlying ti = some (.int k)) (hall : ∀ (i : Nat) (f : Field), fs[i]? = some f → f.type = ti ∧ f.offset = i) (hC : P.cellsOf t = fs.size) (h1 : P.cellsOf ti = 1)
    (hn : ns.length = fs.size) (hw : ∀ n ∈ ns, (Lit.int k n).wf = true) : DataW.Trod enc P w base spare held t (.agg (ns.map (Value.int k)).toArray) (.agg (ns.map fun n => .lit (.int k n))) [] := by
  refine ⟨2, ?_⟩
  have hl : ((ns.map (Value.int k)).toArray.toList).length = P.cellsOf t := by simp [hC, hn]
  have hm := trod_struct_mk (enc := enc) (w := w) (base := base) (spare := spare) (held := held) (n := 1) (xs := ns.map fun n => (DataW.lit (.int k n), [])) hs hl (by
    refine mapM_row _ _ _ (by simp [hn]) ?_
    intro i f hf
    have hf' : fs[i]? = some f := by simpa using hf
    obtain ⟨z1, z2⟩ := hall i f hf'
    have hi : i < ns.length := by
      have := (Array.getElem?_eq_some_iff.1 hf').1
      omega
    have hd : (((ns.map (Value.int k)).toArray.toList).drop i).take 1 = [Value.int k ns[i]] := by
      show ((ns.map (Value.int k)).drop i).take 1 = [Value.int k ns[i]]
      rw [List.drop_eq_getElem_cons (by simpa using hi)]
      simp
    rw [z1, z2, h1, hd]
    simp [DataW.trod, hti, hw ns[i] (List.getElem_mem hi), hi])
  have e : (Value.agg (ns.map (Value.int k)).toArray).cells.toList = (ns.map (Value.int k)).toArray.toList := rfl
  rw [e, hm]
  simp [Function.comp_def]
end
end Go.Proofs.YtbplffdmggbcdaaDoor.PlainStruct
