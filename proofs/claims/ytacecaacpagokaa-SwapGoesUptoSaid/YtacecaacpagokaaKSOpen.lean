/- A slice of edits that was handed in: opened. -/
import Derived.Test.YtacecaacpagokaaKSWritten
import Derived.Test.YtacecaacpagokaaRows
import Derived.Deep.SlicePairs
import Derived.ChangeArms
import Derived.OpenShut
import Derived.ChangeAt
namespace Go.Proofs.Ytacecaacpagokaa.Swap
open Go.RowKit Go.Proofs.Ytacecaacpagokaa.PSwapGoes Go.Proofs.YtacecaacpagokaaW.PrintWords Go.Proofs.YtacecaacpagokaaW.PrintLast Go.Proofs.YtacecaacpagokaaW.PrintMore
open Go.ChangeShapes Go.WideShapes Go.Deep
set_option linter.unusedVariables false
instance : Inhabited S46 := ⟨⟨0, 0, ⟨#[]⟩⟩⟩
theorem bulk_mem {H : Type} (l : List (DataW H)) (d : DataW H) (h : d ∈ l) : Rows.uptoBulk d ≤ Rows.uptoBulkAll l := by
  induction l with
  | nil => cases h
  | cons x l ih =>
    have e : Rows.uptoBulkAll (x :: l) = Rows.uptoBulk x + Rows.uptoBulkAll l := rfl
    rcases List.mem_cons.1 h with rfl | h
    · omega
    · have := ih h
      omega
theorem bulk_len {H : Type} (l : List (DataW H)) (h : ∀ d ∈ l, 1 ≤ Rows.uptoBulk d) : l.length ≤ Rows.uptoBulkAll l := by
  induction l with
  | nil => exact Nat.zero_le _
  | cons x l ih =>
    have e : Rows.uptoBulkAll (x :: l) = Rows.uptoBulk x + Rows.uptoBulkAll l := rfl
    have := ih (fun d hd => h d (List.mem_cons_of_mem _ hd))
    have := h x (List.mem_cons_self ..)
    rw [List.length_cons]
    omega
set_option maxRecDepth 100000 in
theorem open_edits {H : Type} {enc : TypeId × Value → H} {W : World} {base : Nat} {spare : Nat → Bool} {held : Bool} {fuel : Nat} {A : Option Addr} {len cap : Nat} {x : DataW H × List MemPlace}
    (h : DataW.trod enc Try.prog W base spare held fuel 24 [.slice A len cap] = some x) :
    ∃ l : List S46, len = l.length ∧ l.length ≤ maxLen ∧ Kd.C k46 W A l.length l ∧ (∀ y ∈ l, y.f2.size ≤ Rows.uptoBulk x.1 ∧ y.f2.size ≤ maxLen) ∧ l.length ≤ Rows.uptoBulk x.1 := by
  rcases DataW.trod_slice Try.underlying24 h with ⟨hcs, rfl⟩ | ⟨a, l0, c0, elems, rest, n, _, hcs, rfl, hb, hl, hm, hlen, hel, _, _⟩
  · simp only [List.cons.injEq, Value.slice.injEq, and_true] at hcs
    obtain ⟨rfl, rfl, rfl⟩ := hcs
    exact ⟨[], rfl, Nat.zero_le _, ⟨rfl, by decide, fun h => absurd h (by decide)⟩, fun y hy => (by cases hy), Nat.zero_le _⟩
  · simp only [List.cons.injEq, Value.slice.injEq, and_true] at hcs
    obtain ⟨rfl, rfl, rfl⟩ := hcs
    have ce : Try.prog.cellsOf 46 = 3 := by kernel_rfl
    rw [ce] at hel
    have each : ∀ i, i < len → ∃ q : S46, (W.cell? (a.add (i * 3 + 0)) = some (.int .i64 q.f0) ∧ W.cell? (a.add (i * 3 + 1)) = some (.int .i64 q.f1) ∧ W.cell? (a.add (i * 3 + 2)) = some (.string q.f2)) ∧ q.f2.size ≤ maxLen ∧ ∃ y, elems[i]? = some y ∧ q.f2.size + 1 ≤ Rows.uptoBulk y.1 := by
      intro i hi
      obtain ⟨y, hy⟩ : ∃ y, elems[i]? = some y := ⟨_, List.getElem?_eq_getElem (by omega)⟩
      have h1 := hel i hi
      rw [hy, Option.bind_eq_some_iff] at h1
      obtain ⟨cs', h1, h2⟩ := h1
      obtain ⟨_, hcl, hcell⟩ := World.cells?_some h1
      obtain ⟨xs, k, hk, hxy, _, hxl, hf⟩ := DataW.trod_struct Try.underlying46 h2
      have hxl3 : xs.length = 3 := hxl
      clear hxl
      match xs, hxl3, cs', hcl with
      | [y0, y1, y2], _, [v0, v1, v2], _ =>
        have g0 := hf 0 _ rfl
        have g1 := hf 1 _ rfl
        have g2 := hf 2 _ rfl
        have c3 : Try.prog.cellsOf 3 = 1 := by kernel_rfl
        have c9 : Try.prog.cellsOf 9 = 1 := by kernel_rfl
        simp [c3, c9] at g0 g1 g2
        have e0 := hcell 0 (by omega)
        have e1 := hcell 1 (by omega)
        have e2 := hcell 2 (by omega)
        rw [Deep.add_add] at e0 e1 e2
        obtain ⟨z0, hz0, rfl, _⟩ := DataW.trod_int Try.underlying3 g0
        obtain ⟨z1, hz1, rfl, _⟩ := DataW.trod_int Try.underlying3 g1
        obtain ⟨z2, hz2, rfl, hs⟩ := DataW.trod_string Try.underlying9 g2
        simp only [List.cons.injEq, and_true] at hz0 hz1 hz2
        subst hz0 hz1 hz2
        refine ⟨⟨z0, z1, z2⟩, ⟨by simpa using e0, by simpa using e1, by simpa using e2⟩, hs, y, hy, ?_⟩
        rw [hxy]
        simp only [List.map_cons, List.map_nil, Rows.uptoBulk, Rows.uptoBulkAll, Array.length_toList]
        have : z2.data.size = z2.size := rfl
        omega
    obtain ⟨q, hq⟩ := choose_lt each
    have hll : ((List.range len).map q).length = len := by simp
    have hget : ∀ j p, ((List.range len).map q)[j]? = some p → j < len ∧ p = q j := by
      intro j p hj
      have hj2 : j < len := by
        have := (List.getElem?_eq_some_iff.1 hj).1
        omega
      rw [List.getElem?_map, List.getElem?_range hj2] at hj
      exact ⟨hj2, (Option.some.inj hj).symm⟩
    have hbk : Rows.uptoBulk (DataW.slice (elems.map (·.1)) (rest.map (·.1))) = Rows.uptoBulkAll (elems.map (·.1)) + Rows.uptoBulkAll (rest.map (·.1)) + 1 := rfl
    refine ⟨(List.range len).map q, hll.symm, by rw [hll]; omega, ?_, ?_, ?_⟩
    · rw [hll]
      refine ⟨hll, by unfold maxLen at hm; omega, fun _ => ⟨a, rfl, fun j p hj => ?_⟩⟩
      obtain ⟨hj2, rfl⟩ := hget j p hj
      obtain ⟨⟨e0, e1, e2⟩, _⟩ := hq j hj2
      refine ⟨[.int .i64 (q j).f0, .int .i64 (q j).f1, .string (q j).f2], rfl, k46_mk _ _, fun i u hu => ?_⟩
      have hi : i < 3 := (List.getElem?_eq_some_iff.1 hu).1
      show W.cell? (a.add (j * 3 + i)) = some u
      match i, hi with
      | 0, _ => rw [e0]; simpa using hu
      | 1, _ => rw [e1]; simpa using hu
      | 2, _ => rw [e2]; simpa using hu
    · intro y hy
      obtain ⟨j, hj⟩ := List.getElem?_of_mem hy
      obtain ⟨hj2, rfl⟩ := hget j y hj
      obtain ⟨_, hz, y, h1, h2⟩ := hq j hj2
      have hmem : y.1 ∈ elems.map (·.1) := List.mem_map.2 ⟨y, List.mem_of_getElem? h1, rfl⟩
      have := bulk_mem _ _ hmem
      exact ⟨by rw [hbk]; omega, hz⟩
    · rw [hll, hbk]
      have := bulk_len (elems.map (·.1)) (fun d hd => by
        obtain ⟨y, hy, rfl⟩ := List.mem_map.1 hd
        obtain ⟨j, hj⟩ := List.getElem?_of_mem hy
        have hj2 : j < len := by
          have := (List.getElem?_eq_some_iff.1 hj).1
          omega
        obtain ⟨_, _, y', h1, h2⟩ := hq j hj2
        rw [hj] at h1
        obtain rfl := Option.some.inj h1
        omega)
      rw [List.length_map, hlen] at this
      omega
end Go.Proofs.Ytacecaacpagokaa.Swap
