/- A slice of structs of four one-cell fields, the first two numbers: opened. -/
import Derived.Deep.SlicePairs
import Derived.ChangeArms
import Derived.OpenShut
import Derived.ChangeAt
namespace Go.Proofs.Ytenomjfaodfjhaa.Ops
open Go.ChangeShapes Go.WideShapes Go.Deep
theorem open_quads {H : Type} {enc : TypeId × Value → H} {P : Program} {w : World} {base : Nat} {spare : Nat → Bool} {held : Bool} {t e : TypeId} {f0 f1 f2 f3 : Field} {fuel : Nat} {cs : List Value} {x : DataW H × List MemPlace} (ht : P.underlying t = some (.slice e)) (he : P.underlying e = some (.struct #[f0, f1, f2, f3]))
    (ce : P.cellsOf e = 4) (o0 : f0.offset = 0) (o1 : f1.offset = 1) (o2 : f2.offset = 2) (o3 : f3.offset = 3) (c0 : P.cellsOf f0.type = 1) (c1 : P.cellsOf f1.type = 1) (c2 : P.cellsOf f2.type = 1) (c3 : P.cellsOf f3.type = 1)
    (h : DataW.trod enc P w base spare held fuel t cs = some x) :
    cs = [.slice none 0 0] ∨
    ∃ (a : Addr) (len cap : Nat), cs = [.slice (some a) len cap] ∧ base ≤ a.block ∧ len ≤ cap ∧ cap ≤ maxLen ∧
      ∀ i, i < len → ∃ v0 v1 v2 v3 n y0 y1 y2 y3, w.cell? (a.add (i * 4)) = some v0 ∧ w.cell? (a.add (i * 4 + 1)) = some v1 ∧ w.cell? (a.add (i * 4 + 2)) = some v2 ∧ w.cell? (a.add (i * 4 + 3)) = some v3 ∧
        DataW.trod enc P w base spare held n f0.type [v0] = some y0 ∧ DataW.trod enc P w base spare held n f1.type [v1] = some y1 ∧ DataW.trod enc P w base spare held n f2.type [v2] = some y2 ∧ DataW.trod enc P w base spare held n f3.type [v3] = some y3 := by
  rcases open_slice ht h with ⟨h0, _⟩ | ⟨a, len, cap, m, n, D, Pl, rfl, hb, hl, hm, hmm, rfl, hx⟩
  · exact Or.inl h0
  right
  have hlm : len ≤ m := by rw [hmm]; split <;> omega
  refine ⟨a, len, cap, rfl, hb, hl, hm, fun i hi => ?_⟩
  obtain ⟨cs', h1, h2⟩ := hx i (by omega)
  rw [ce] at h1
  obtain ⟨_, hlen, hcell⟩ := World.cells?_some h1
  obtain ⟨xs, k, hk, hxy, _, hxl, hf⟩ := DataW.trod_struct he h2
  match xs, hxl, cs', hlen with
  | [y0, y1, y2, y3], _, [v0, v1, v2, v3], _ =>
    have g0 := hf 0 f0 rfl
    have g1 := hf 1 f1 rfl
    have g2 := hf 2 f2 rfl
    have g3 := hf 3 f3 rfl
    simp [o0, o1, o2, o3, c0, c1, c2, c3] at g0 g1 g2 g3
    have e0 := hcell 0 (by omega)
    have e1 := hcell 1 (by omega)
    have e2 := hcell 2 (by omega)
    have e3 := hcell 3 (by omega)
    rw [add_add] at e0 e1 e2 e3
    exact ⟨v0, v1, v2, v3, k, y0, y1, y2, y3, by simpa using e0, by simpa using e1, by simpa using e2, by simpa using e3, g0, g1, g2, g3⟩
/-- Its first two fields, as numbers. -/
theorem open_ops {H : Type} {enc : TypeId × Value → H} {P : Program} {w : World} {base : Nat} {spare : Nat → Bool} {held : Bool} {t e : TypeId} {f0 f1 f2 f3 : Field} {fuel : Nat} {A : Option Addr} {len cap : Nat} {x : DataW H × List MemPlace} (ht : P.underlying t = some (.slice e)) (he : P.underlying e = some (.struct #[f0, f1, f2, f3]))
    (ce : P.cellsOf e = 4) (o0 : f0.offset = 0) (o1 : f1.offset = 1) (o2 : f2.offset = 2) (o3 : f3.offset = 3) (c0 : P.cellsOf f0.type = 1) (c1 : P.cellsOf f1.type = 1) (c2 : P.cellsOf f2.type = 1) (c3 : P.cellsOf f3.type = 1)
    (i0 : P.underlying f0.type = some (.int .i64)) (i1 : P.underlying f1.type = some (.int .i64))
    (h : DataW.trod enc P w base spare held fuel t [.slice A len cap] = some x) :
    ∃ kk nn : Nat → Int, (∀ i, i < len → ∃ ab ao, A = some ⟨ab, ao, none⟩ ∧ w.cell? ⟨ab, ao + i * 4, none⟩ = some (.int .i64 (kk i)) ∧ w.cell? ⟨ab, ao + i * 4 + 1, none⟩ = some (.int .i64 (nn i))) ∧ len ≤ maxLen := by
  rcases open_quads ht he ce o0 o1 o2 o3 c0 c1 c2 c3 h with hcs | ⟨a, l, c, hcs, _, hl, hm, hx⟩
  · simp only [List.cons.injEq, Value.slice.injEq, and_true] at hcs
    obtain ⟨rfl, rfl, rfl⟩ := hcs
    exact ⟨fun _ => 0, fun _ => 0, fun i hi => by omega, Nat.zero_le _⟩
  · simp only [List.cons.injEq, Value.slice.injEq, and_true] at hcs
    obtain ⟨rfl, rfl, rfl⟩ := hcs
    have each : ∀ i, i < len → ∃ q : Int × Int, ∃ ab ao, some a = some (⟨ab, ao, none⟩ : Addr) ∧ w.cell? ⟨ab, ao + i * 4, none⟩ = some (.int .i64 q.1) ∧ w.cell? ⟨ab, ao + i * 4 + 1, none⟩ = some (.int .i64 q.2) := by
      intro i hi
      obtain ⟨v0, v1, v2, v3, n, y0, y1, y2, y3, e0, e1, _, _, g0, g1, _, _⟩ := hx i hi
      obtain ⟨z0, h0, _⟩ := DataW.trod_int i0 g0
      obtain ⟨z1, h1, _⟩ := DataW.trod_int i1 g1
      simp only [List.cons.injEq, and_true] at h0 h1
      subst h0
      subst h1
      have hsp : a.spot = none := by
        cases hs : a.spot with
        | none => rfl
        | some q =>
          obtain ⟨u0, _, _, _, _, _, _, _, _, z, _⟩ := hx 0 (by omega)
          rw [show a.add (0 * 4) = a from rfl] at z
          unfold World.cell? at z
          rw [hs] at z
          split at z <;> simp at z
      have hadd : ∀ j, a.add j = ⟨a.block, a.off + j, none⟩ := by
        intro j
        unfold Addr.add
        split
        · rename_i hj
          subst hj
          rw [← hsp]
          rfl
        · rfl
      rw [hadd] at e0 e1
      exact ⟨(z0, z1), a.block, a.off, by rw [← hsp], e0, e1⟩
    obtain ⟨q, hq⟩ := choose_lt each
    exact ⟨fun i => (q i).1, fun i => (q i).2, fun i hi => hq i hi, by omega⟩
end Go.Proofs.Ytenomjfaodfjhaa.Ops
