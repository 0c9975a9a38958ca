/- Lists of names in strict order: what is left of sorted ones, and that their members tell them. -/
import Derived.Test.YtdihhdmndjjknaaDoorKWCompact
namespace Go.Proofs.YtdihhdmndjjknaaDoor.Walk
open Go.RowKit Go.Proofs.YtdihhdmndjjknaaDoor.Plain Go.Proofs.YtdihhdmndjjknaaDoor.Codec
set_option linter.unusedVariables false
set_option linter.unusedSimpArgs false
/-- Names in strict order. -/
def Strict (a : List (List ByteArray)) : Prop := a.Pairwise fun x y => nl x < nl y
theorem compG_sorted (l : List Nm) : ∀ p : Nm, (p :: l).Pairwise (fun a b => ¬ nl b.2 < nl a.2) → ((compG p l).Pairwise (fun a b => nl a.2 < nl b.2) ∧ (∀ x ∈ compG p l, nl p.2 < nl x.2)) ∧ ∀ x, (x = p.2 ∨ x ∈ (compG p l).map (fun q => q.2)) ↔ (x = p.2 ∨ x ∈ l.map (fun q => q.2)) := by
  induction l with
  | nil => exact fun p _ => ⟨⟨List.Pairwise.nil, by simp [compG]⟩, fun x => by simp [compG]⟩
  | cons y l ih =>
    intro p h
    obtain ⟨h1, h2⟩ := List.pairwise_cons.1 h
    obtain ⟨⟨i1, i2⟩, i3⟩ := ih y h2
    have hy := h1 y (by simp)
    by_cases c : y.2 = p.2
    · have e : compG p (y :: l) = compG y l := by show (if y.2 = p.2 then _ else _) = _; rw [if_pos c]
      rw [e]
      refine ⟨⟨i1, fun x hx => by rw [← c]; exact i2 x hx⟩, fun x => ?_⟩
      have := i3 x
      rw [c] at this
      rw [this, List.map_cons, List.mem_cons, c]
      exact ⟨fun q => q.elim .inl (fun q => .inr (.inr q)), fun q => q.elim .inl (fun q => q.elim .inl .inr)⟩
    · have e : compG p (y :: l) = y :: compG y l := by show (if y.2 = p.2 then _ else _) = _; rw [if_neg c]
      have hlt : nl p.2 < nl y.2 := by
        rcases nl_tri (nl p.2) (nl y.2) with a | a | a
        · exact a
        · exact absurd (nl_inj a).symm c
        · exact absurd a hy
      rw [e]
      refine ⟨⟨List.pairwise_cons.2 ⟨i2, i1⟩, fun x hx => ?_⟩, fun x => ?_⟩
      · rcases List.mem_cons.1 hx with rfl | hx
        · exact hlt
        · exact nl_trans hlt (i2 x hx)
      · have := i3 x
        rw [List.map_cons, List.map_cons, List.mem_cons, List.mem_cons, this]
theorem comp_strict (qs : List Nm) (h : qs.Pairwise (fun a b => ¬ nl b.2 < nl a.2)) : Strict ((comp qs).map (fun q => q.2)) ∧ ∀ x, x ∈ (comp qs).map (fun q => q.2) ↔ x ∈ qs.map (fun q => q.2) := by
  cases qs with
  | nil => exact ⟨List.Pairwise.nil, fun x => Iff.rfl⟩
  | cons p l =>
    obtain ⟨⟨h1, h2⟩, h3⟩ := compG_sorted l p h
    refine ⟨?_, fun x => ?_⟩
    · show ((p :: compG p l).map (fun q => q.2)).Pairwise _
      rw [List.pairwise_map]
      exact List.pairwise_cons.2 ⟨h2, h1⟩
    · show x ∈ (p :: compG p l).map (fun q => q.2) ↔ _
      rw [List.map_cons, List.mem_cons, List.map_cons, List.mem_cons]
      exact h3 x
/-- Strict lists with the same members are the same. -/
theorem strict_uniq : ∀ (a b : List (List ByteArray)), Strict a → Strict b → (∀ x, x ∈ a ↔ x ∈ b) → a = b
  | [], [], _, _, _ => rfl
  | [], y :: b, _, _, h => absurd ((h y).2 (by simp)) (by simp)
  | x :: a, [], _, _, h => absurd ((h x).1 (by simp)) (by simp)
  | x :: a, y :: b, ha, hb, h => by
    obtain ⟨a1, a2⟩ := List.pairwise_cons.1 ha
    obtain ⟨b1, b2⟩ := List.pairwise_cons.1 hb
    have hxy : x = y := by
      rcases List.mem_cons.1 ((h x).1 (by simp)) with e | e
      · exact e
      · rcases List.mem_cons.1 ((h y).2 (by simp)) with q | q
        · exact q.symm
        · exact absurd (nl_trans (b1 x e) (a1 y q)) (nl_irrefl _)
    subst hxy
    rw [strict_uniq a b a2 b2 fun z => ?_]
    have hz := h z
    rw [List.mem_cons, List.mem_cons] at hz
    constructor
    · intro q
      rcases hz.1 (.inr q) with e | e
      · exact absurd (e ▸ a1 z q) (nl_irrefl _)
      · exact e
    · intro q
      rcases hz.2 (.inr q) with e | e
      · exact absurd (e ▸ b1 z q) (nl_irrefl _)
      · exact e
/-- The names of paths in order, each once: what is told of them. -/
structure OrderOf (paths : List ByteArray) (N : List (List ByteArray)) : Prop where
  strict : Strict N
  mem : ∀ x, x ∈ N ↔ x ∈ paths.map (fun p => (splitOut p).1)
  len : N.length ≤ paths.length
theorem OrderOf.uniq {paths : List ByteArray} {M N : List (List ByteArray)} (h : OrderOf paths M) (k : OrderOf paths N) : M = N := strict_uniq M N h.strict k.strict fun x => (h.mem x).trans (k.mem x).symm
/-- Do all paths split? -/
def AllSplit (paths : List ByteArray) : Prop := ∀ p ∈ paths, (splitOut p).2 = 0
instance (paths : List ByteArray) : Decidable (AllSplit paths) := by unfold AllSplit; infer_instance
end Go.Proofs.YtdihhdmndjjknaaDoor.Walk
