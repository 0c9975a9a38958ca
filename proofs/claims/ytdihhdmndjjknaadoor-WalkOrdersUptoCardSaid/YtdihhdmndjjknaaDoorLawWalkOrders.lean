/- What stands above, and the order of every list, is what the document says. -/
import Derived.Test.YtdihhdmndjjknaaDoorRows
import Derived.Test.YtdihhdmndjjknaaDoorKWOrders
import Derived.Test.YtdihhdmndjjknaaDoorWWords
import Derived.Test.YtdihhdmndjjknaaDoorWSized
import Derived.Test.YtdihhdmndjjknaaDoorTie
import Derived.Test.YtdihhdmndjjknaaDoorCards
import Derived.LaidMore
import Derived.Lay
import Derived.SevenTiedAt
import Derived.Stop.Joined
import Derived.Deep.DeepHandedRow
import Derived.SliceStrings
import Derived.WalkKit
import Derived.ProofKit
import Derived.OpenShut
import Derived.ShutString
import Derived.ChangeOld
import Derived.Below
import Derived.SizedLaws
import Derived.JoinedCond
namespace Go.Proofs.YtdihhdmndjjknaaDoor.walkOrdersUpto
open Go.ChangeShapes Go.WideShapes Go.ChangeAt Go.RowKit
open Go.ChangeMaps (open_string shut_string)
set_option linter.unusedVariables false
theorem own : ownKnob Tryd.prog.godebug = none := by kernel_rfl
theorem laidOut : laidOutB Tryd.prog = true := by kernel_rfl
def IsRow (k : IntKind) (w : World) (a : Option Addr) (len cap : Nat) (zs : List Int) : Prop :=
  (a = none ∧ len = 0 ∧ cap = 0 ∧ zs = []) ∨
  ∃ x, a = some x ∧ len ≤ cap ∧ cap ≤ maxLen ∧ zs.length = cap ∧ (∀ i, i < zs.length → w.cell? (x.add i) = some (.int k (zs.getD i 0))) ∧ ∀ n ∈ zs, (Lit.int k n).wf = true
theorem bulk_lits {H : Type} (k : IntKind) (l : List Int) : Rows.uptoBulkAll (lits (H := H) k l) = l.length := by
  induction l with
  | nil => rfl
  | cons x l ih =>
    have : Rows.uptoBulkAll (lits (H := H) k (x :: l)) = 1 + Rows.uptoBulkAll (lits (H := H) k l) := rfl
    rw [this, ih, List.length_cons]
    omega
theorem bulk_strs {H : Type} (l : List ByteArray) : Rows.uptoBulkAll (strs (H := H) l) = Walk.sumS l := by
  induction l with
  | nil => rfl
  | cons x l ih =>
    have h : Rows.uptoBulkAll (strs (H := H) (x :: l)) = (x.data.toList.length + 1) + Rows.uptoBulkAll (strs (H := H) l) := rfl
    have hz : x.data.toList.length = x.size := by rw [Array.length_toList]; rfl
    rw [h, ih, hz]
    rfl
set_option maxRecDepth 100000 in
theorem contract (H : Type) (enc : TypeId × Value → H) (W : World) (base : Nat) (args : Array Value) (ds gs : List (DataW H)) (before : List MemPlace)
    (hval0 : ∀ (j : Nat) t v, Tryd.f6.params[j]? = some t → args[j]? = some v → Value.okWide Tryd.prog W .any base t v)
    (hW : DataW.Whole enc Tryd.prog Tryd.f6.params.toList Rows.walkOrdersSpec.vars false W args.toList ds gs before) (hk : Rows.uptoSmall H (ds ++ gs) = true) :
    Calls Tryd.prog 6 args W fun e W' => ∃ v, e = .returned v ∧ Rows.walkOrdersSpec.post enc Tryd.prog Tryd.f6 false true false false W args v W' := by
  have hval := hval0
  have hW' := hW
  obtain ⟨p, q, hA0, hV, rfl, hfz, hnd⟩ := hW
  have hA : DataW.TrodAll enc Tryd.prog W 0 (fun _ => true) true Tryd.f6.params.toList args.toList ds p := hA0
  rw [Tryd.params6] at hA hval
  obtain ⟨v0, vs0, d0, ds0, p0, q0, hargs, rfl, rfl, h0, r0⟩ := trodAll_cons hA
  obtain ⟨v1, vs1, d1, ds1, p1, q1, rfl, rfl, rfl, h1, r1⟩ := trodAll_cons r0
  obtain ⟨v2, vs2, d2, ds2, p2, q2, rfl, rfl, rfl, h2, r2⟩ := trodAll_cons r1
  obtain ⟨rfl, rfl, rfl⟩ := trodAll_nil r2
  obtain rfl : args = #[v0, v1, v2] := by cases args; simp_all
  obtain ⟨rfl, rfl⟩ := trodVars_none hV
  have hk2 : Rows.uptoBulkAll ([d0, d1, d2] ++ []) ≤ 1048576 := of_decide_eq_true hk
  simp only [List.append_nil, Rows.uptoBulkAll] at hk2
  obtain ⟨a0, rfl, rfl, rfl, y0⟩ := open_string Tryd.underlying9 (hval 0 9 v0 rfl rfl) h0
  have s0 : a0.size ≤ 1048576 := by
    have hk3 := hk2
    simp only [Rows.uptoBulk, Array.length_toList] at hk3
    have z3 : a0.data.size = a0.size := rfl
    omega
  obtain ⟨a1, rfl, rfl, rfl, y1⟩ := open_string Tryd.underlying9 (hval 1 9 v1 rfl rfl) h1
  have s1 : a1.size ≤ 1048576 := by
    have hk3 := hk2
    simp only [Rows.uptoBulk, Array.length_toList] at hk3
    have z3 : a1.data.size = a1.size := rfl
    omega
  obtain ⟨a2, len2, cap2, rfl⟩ := okWide_slice Tryd.underlying22 (hval 2 22 v2 rfl rfl)
  have k2 := h2
  have lt2 : ∀ x ∈ p2, x.block < W.heap.size := by obtain ⟨m, hm⟩ := k2; exact DataW.trod_lt m _ _ _ hm
  obtain ⟨l2, hc2, rfl, hr2, hz2⟩ : ∃ l : List ByteArray, len2 ≤ cap2 ∧ len2 = l.length ∧ Go.Proofs.YtdihhdmndjjknaaDoorW.PrintWords.Kd.C Go.Proofs.YtdihhdmndjjknaaDoorW.PrintWords.Kd.string W a2 l.length l ∧ Walk.sumS l ≤ 1048576 := by
    obtain ⟨fuel, hf⟩ := h2
    rcases open_strings Tryd.underlying22 Tryd.underlying9 (by kernel_rfl) hf with ⟨hcs, _⟩ | ⟨x, l, c, zs, hcs, _, hl, hm, hz, hx, hcell, _⟩
    · simp [Value.cells] at hcs
      obtain ⟨rfl, rfl, rfl⟩ := hcs
      exact ⟨[], Nat.le_refl _, rfl, ⟨rfl, by decide, fun h => absurd h (by decide)⟩, Nat.zero_le _⟩
    · simp [Value.cells] at hcs
      obtain ⟨rfl, rfl, rfl⟩ := hcs
      have hd := (Prod.mk.inj hx).1
      rw [hd] at hk2
      simp only [Rows.uptoBulk] at hk2
      rw [bulk_strs] at hk2
      have hz2 : zs.length = cap2 := by simpa using hz
      have hle : (zs.take len2).length = len2 := by rw [List.length_take]; omega
      refine ⟨zs.take len2, hl, hle.symm, ?_, by omega⟩
      rw [hle]
      refine Go.Proofs.YtdihhdmndjjknaaDoorW.PrintWords.Kd.C_of_reads (enc := Value.string) (d := ByteArray.empty) (h1 := fun _ => rfl) ⟨hle, by unfold maxLen at hm; omega, fun _ => ⟨_, rfl, fun j hj => ?_⟩⟩
      have h1 := hcell j (by omega)
      rw [h1]
      congr 2
      rw [List.getD_eq_getElem?_getD, List.getD_eq_getElem?_getD, List.getElem?_take_of_lt hj]
  clear hA0 hval0
  refine (Walk.orders_row a0 a1 a2 cap2 l2 W s0 s1 hr2 hc2 hz2 ).mono fun e W' ⟨he, bel⟩ => ?_
  subst he
  exact ⟨_, rfl, _, _, _, [], _, [], hW', trodAll_mk1 (shut_bool Tryd.underlying4 _), (trodAll_cons_mk (shut_string Tryd.underlying9 y0) (trodAll_cons_mk (shut_string Tryd.underlying9 y1) (trodAll_cons_mk (Below.trod laidOut (by kernel_rfl) (of_decide_eq_true (by kernel_rfl)) k2 bel lt2) trodAll_mk0))), rfl, bel.frame _, fun h => by cases h⟩
set_option maxRecDepth 100000 in
theorem lifted (os : Os) (started : os.Started) (H : Type) (enc : TypeId × Value → H) (F : Stop.Interp) :
    ReturnsInHanded {} Tryd.checked os 6 .any ((Rows.OpenSpec.upto Rows.walkOrdersSpec).preRow enc Tryd.prog Tryd.f6 Rows.walkOrdersUptoRow.domain false Rows.walkOrdersUptoRow.laid) (((Rows.OpenSpec.upto Rows.walkOrdersSpec).at F).post enc Tryd.prog Tryd.f6 false true false false) := by
  refine returnsInHanded_of_row (C := Tryd.checked) (s := Rows.OpenSpec.upto Rows.walkOrdersSpec) own started (by kernel_rfl) Tryd.func6 ?_ ?_
  · refine witness_row_at (enc := enc) (C := Tryd.checked) (s := Rows.OpenSpec.upto Rows.walkOrdersSpec) (laid := Rows.walkOrdersUptoRow.laid) false (World.laidAll Tryd.prog os Rows.walkOrdersUptoRow.laid) #[.string ⟨#[]⟩, .string ⟨#[]⟩, .slice none 0 0] (World.laidAll_os _ _ _) (by kernel_rfl) (by kernel_rfl) (by kernel_rfl) ⟨⟨?_, ?_⟩, ?_⟩
    · exact (OpenSpec.pre_some (k := Rows.uptoSmall) rfl _ _ _ _).2 ⟨_, _, _, DataW.Whole_of_whole (fuel := 8) (x := ([.lit (.string []), .lit (.string []), .nil], [], [])) (by kernel_rfl), rfl, by kernel_rfl⟩
    · show laidMetH Tryd.prog Rows.walkOrdersUptoRow.laid _
      rw [MakeChecks.laidMetH_plain _ _ _ (by kernel_rfl)]
      exact laidMet_laidAll _ (by kernel_rfl) (by kernel_rfl)
    · exact sizedMet_of_sizedB (fuel := 8) (by kernel_rfl)
  · intro W base args ds gs before hval0 hW _ hk _ _ _ _
    exact contract H enc W base args ds gs before hval0 hW (hk Rows.uptoSmall rfl)
theorem over : Rows.walkOrdersUptoRow.holds Tryd.pinned (Rows.OpenSpec.upto Rows.walkOrdersSpec) :=
  OpenClaim.holds_of_cond 6 Tryd.f6 rfl rfl rfl rfl rfl rfl rfl ⟨rfl, rfl, rfl, rfl, rfl⟩ rfl rfl rfl rfl rfl (by kernel_rfl) Tryd.func6 (by kernel_rfl)
    (of_decide_eq_true (by kernel_rfl)) (by unfold Func.isWrapper; first | (rw [if_pos (by decide +kernel)]; kernel_rfl) | (rw [if_neg (by decide +kernel)]; exact ⟨rfl, rfl⟩))
    (fun os started H enc _ F => by rw [OpenClaim.pre_eq_preRow]; exact lifted os started H enc F)
theorem proved : Rows.WalkOrdersUptoCardSaid :=
  Claim7.holds_tied_plain_at .later [] [.data, .pinned] true (true, "5e7899fbd8913749e52a0531c3138268ab2df04f1605ac5b7024f8bda184a267") false over (fun _ h => by cases h) (by kernel_rfl) (fun _ h => by cases h) walkOrdersUpto_row_tie rfl ⟨rfl, rfl⟩ (by kernel_rfl) rfl
    (fun f fn hf hfn => by
      obtain rfl : f = 6 := Option.some.inj ((show Tryd.prog.funcNamed "skerry/skerrylaw16.WalkOrders" = some 6 by kernel_rfl).symm.trans hf) |>.symm
      obtain rfl : fn = Tryd.f6 := (Option.some.inj (Tryd.func6.symm.trans hfn)).symm
      exact ⟨by kernel_rfl, fun j t ht => by
        rw [Tryd.params6] at ht
        have hm : t ∈ [9, 9, 22] := by simpa using Array.mem_of_getElem? ht
        have hall : ([9, 9, 22].all fun u => !Tryd.prog.wantsStandIn u) = true := by kernel_rfl
        exact (show Tryd.prog.wantsStandIn t = false by simpa using List.all_eq_true.1 hall t hm)⟩)
    (by kernel_rfl)
#print axioms proved
end Go.Proofs.YtdihhdmndjjknaaDoor.walkOrdersUpto
namespace Go.Proofs.YtdihhdmndjjknaaDoor
/-- The row's card, under a short name, for the claim. -/
theorem walkOrders_holds : Rows.WalkOrdersUptoCardSaid := walkOrdersUpto.proved
end Go.Proofs.YtdihhdmndjjknaaDoor
