/- Blocks, rows and writers: words that the walks share. -/
import Derived.Test.YtacecaacpagokaaKKNumbers
import Derived.Deep.QuietTactic
import Derived.BigQuiet
import Derived.Outline
namespace Go.Proofs.Ytacecaacpagokaa.Codec
open Go.RowKit Go.Proofs.Ytacecaacpagokaa.PSwapGoes Go.Proofs.Ytacecaacpagokaa.Plain Go.Proofs.Ytacecaacpagokaa.Pure Go.Proofs.YtacecaacpagokaaW.PrintWords Go.Proofs.YtacecaacpagokaaW.PrintLast Go.Proofs.YtacecaacpagokaaW.PrintMore
set_option linter.unusedVariables false
set_option linter.unusedSimpArgs false

theorem lit_reads (W : World) (l : List Int) (hl : l.length ≤ 9223372036854775807) : ReadsInt (W.alloc (.cells (nums .i64 l).toArray 3)) .i64 (some ⟨W.heap.size, 0, none⟩) l.length l := by
  refine ⟨rfl, hl, fun _ => ⟨_, rfl, fun j hj => ?_⟩⟩
  rw [add_plain, blk_cell (blk_new W (.cells (nums .i64 l).toArray 3))]
  simp [nums, List.getElem?_eq_getElem hj, List.getD]
theorem box_reads {w : World} {g o : Nat} {t : TypeId} {cs : Array Value} (h : w.heap[g]? = some (.cells cs t (0, 0))) (l : List Int) (hl : l.length ≤ 9223372036854775807) (hc : ∀ j, j < l.length → cs[o + j]? = some (.int .i64 (l.getD j 0))) : ReadsInt w .i64 (some ⟨g, o, none⟩) l.length l := by
  refine ⟨rfl, hl, fun _ => ⟨_, rfl, fun j hj => ?_⟩⟩
  have e : (⟨g, o, none⟩ : Addr).add j = ⟨g, o + j, none⟩ := by unfold Addr.add; split <;> simp_all
  rw [e, blk_cell h]
  exact hc j hj
theorem Writer.new {w : World} {WP : Nat} (h : w.heap[WP]? = some (.cells #[.slice none 0 0, .int .i64 0] 94 (0, 0))) : Writer w WP WP (.slice none 0 0) ([], 0) :=
  ⟨h, Kd.R_of_own (enc := Value.int .u8) (h1 := fun _ => rfl) (World.ownsRow_nil _ _ _ _) (fun _ _ => trivial), by simp [Value.ownBlock], Nat.le_refl _⟩
theorem brow_nil (w : World) (base : Nat) : Kd.R (Kd.int .u8) 5 w base (fun _ => True) (.slice none 0 0) [] := Kd.R_of_own (enc := Value.int .u8) (h1 := fun _ => rfl) (World.ownsRow_nil _ _ _ _) (fun _ _ => trivial)
theorem blk_wrote {w w' : World} {WP g : Nat} {v v' : Value} {o : Obj} (h : w.heap[g]? = some o) (hq : Wrote w w' WP v v') (h1 : g ≠ WP) (h2 : v.ownBlock ≠ some g) : w'.heap[g]? = some o := (hq.block g (blk_lt h) h1 h2).trans h
theorem brow_less {b base : Nat} {w : World} {v : Value} {xs : List Int} (h : Kd.R (Kd.int .u8) 5 w b (fun _ => True) v xs) (hle : base ≤ b) : Kd.R (Kd.int .u8) 5 w base (fun _ => True) v xs := Kd.R_of_own (enc := Value.int .u8) (h1 := fun _ => rfl) (own_less (brow_own h) hle) (fun _ _ => trivial)
theorem bytesOf_bytes (s : ByteArray) : Bytes (bytesOf s) := by
  intro x hx
  unfold bytesOf at hx
  obtain ⟨b, _, rfl⟩ := List.mem_map.1 hx
  have := b.toNat_lt
  omega
theorem below_drewN {B : Nat} {w W : World} (h : Below B w W) (n : Nat) : Below B w (W.drewN n) := pw_below_drewN h n
theorem brow_C {w : World} {A : Option Addr} {n : Nat} {l : List Int} (h : Kd.C (Kd.int .u8) w A n l) : ReadsInt w .u8 A n l := readsInt_of.2 (Kd.reads_of_C (d := (0 : Int)) (h1 := fun _ => rfl) h)
theorem brow_ofC {w : World} {A : Option Addr} {n : Nat} {l : List Int} (h : ReadsInt w .u8 A n l) : Kd.C (Kd.int .u8) w A n l := Kd.C_of_reads (d := (0 : Int)) (h1 := fun _ => rfl) (readsInt_of.1 h)
end Go.Proofs.Ytacecaacpagokaa.Codec
