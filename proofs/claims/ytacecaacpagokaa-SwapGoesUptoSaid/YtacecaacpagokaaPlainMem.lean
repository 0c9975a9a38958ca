/- This session's words on memory: a block that is known whole, as a row that is read. -/
import Derived.Test.YtacecaacpagokaaWWords
import Derived.Test.YtacecaacpagokaaWMore
import Derived.Lib.SlBytesConst
namespace Go.Proofs.Ytacecaacpagokaa.Mem
open Go.RowKit Go.Proofs.YtacecaacpagokaaW.PrintWords Go.Proofs.YtacecaacpagokaaW.PrintMore

/-- A block that begins with these numbers is a row of them. -/
theorem C_block {k : IntKind} {w : World} {g : Nat} {xs : List Int} {extra : List Value} {t : TypeId} {fr : Nat × Nat} (h : w.heap[g]? = some (.cells ((xs.map (Value.int k)) ++ extra).toArray t fr)) (hl : xs.length ≤ 9223372036854775807) :
    Kd.C (Kd.int k) w (some ⟨g, 0, none⟩) xs.length xs := by
  refine Kd.C_of_reads (d := (0 : Int)) (h1 := fun _ => rfl) ⟨rfl, hl, fun _ => ⟨⟨g, 0, none⟩, rfl, fun j hj => ?_⟩⟩
  rw [add_plain, cell_of_row w g j _ t fr h]
  simp [List.getElem?_append_left, hj, List.getD_eq_getElem?_getD]
end Go.Proofs.Ytacecaacpagokaa.Mem
