/- What stands above: contracts. -/
import Derived.Test.YtdihhdmndjjknaaDoorKWEqual
import Derived.Deep.QuietTactic
namespace Go.Proofs.YtdihhdmndjjknaaDoor.Walk
open Go.RowKit Go.Proofs.YtdihhdmndjjknaaDoor.PWalkOrders Go.Proofs.YtdihhdmndjjknaaDoor.Plain Go.Proofs.YtdihhdmndjjknaaDoor.Codec Go.Proofs.YtdihhdmndjjknaaDoorW.PrintWords Go.Proofs.YtdihhdmndjjknaaDoorW.PrintLast Go.Proofs.YtdihhdmndjjknaaDoorW.PrintMore
set_option linter.unusedVariables false
set_option linter.unusedSimpArgs false
/-- Does one path stand above another one? -/
def aboveOut (a b : ByteArray) : Bool × Int :=
  if (splitOut a).2 ≠ 0 ∨ (splitOut b).2 ≠ 0 then (false, 16) else (decide ((splitOut a).1.length ≤ (splitOut b).1.length ∧ (splitOut a).1 = (splitOut b).1.take (splitOut a).1.length), 0)
set_option maxHeartbeats 4000000 in
set_option maxRecDepth 100000 in
theorem above_calls (a b : ByteArray) (ha : a.size ≤ 9223372036854775807) (hb : b.size ≤ 9223372036854775807) (w : World) : Calls Tryd.prog 16 #[.string a, .string b] w fun e w' => e = .returned (.tuple #[.bool (aboveOut a b).1, .int .i64 (aboveOut a b).2]) ∧ Below w.heap.size w w' := by
  have HA := Aside0.mk (fun W => split_calls a ha W)
  have HB := Aside0.mk (fun W => split_calls b hb W)
  unfold SplitEnds at HA HB
  have hO : aboveOut a b = if (splitOut a).2 ≠ 0 ∨ (splitOut b).2 ≠ 0 then (false, 16) else (decide ((splitOut a).1.length ≤ (splitOut b).1.length ∧ (splitOut a).1 = (splitOut b).1.take (splitOut a).1.length), 0) := rfl
  have hla := splitOut_le a
  have hlb := splitOut_le b
  obtain ⟨⟨x, ea⟩, hx⟩ : ∃ z, splitOut a = z := ⟨_, rfl⟩
  obtain ⟨⟨y, eb⟩, hy⟩ : ∃ z, splitOut b = z := ⟨_, rfl⟩
  rw [hx] at HA hla hO
  rw [hy] at HB hlb hO
  simp only at HA HB hla hlb hO
  rw [hO]
  clear hO hx hy ha hb
  by_cases h1 : ea = 0
  rotate_left
  · rw [if_pos (.inl h1)]
    have d1 : (ea != 0) = true := bne_iff_ne.2 h1
    clear h1
    go_enter Tryd.func16, Tryd.ntmps16
    go_wp2_with fail
    ((refine (HA.out _).mono ?_); rintro e w2 ⟨v, rfl, hr, hb⟩)
    have H2 := Aside0.mk hb
    clear hb hr HA
    go_wp2_with fail
    ((refine (HB.out _).mono ?_); rintro e w3 ⟨v3, rfl, hr, hb⟩)
    have H3 := Aside0.mk (below_then H2.out H2.out.size hb)
    clear hb hr HB
    go_wp2
    go_ret2
    exact ⟨rfl, H3.out⟩
  by_cases h2 : eb = 0
  rotate_left
  · rw [if_pos (.inr h2)]
    have d1 : (eb != 0) = true := bne_iff_ne.2 h2
    subst h1
    clear h2
    go_enter Tryd.func16, Tryd.ntmps16
    go_wp2_with fail
    ((refine (HA.out _).mono ?_); rintro e w2 ⟨v, rfl, hr, hb⟩)
    have H2 := Aside0.mk hb
    clear hb hr HA
    go_wp2_with fail
    ((refine (HB.out _).mono ?_); rintro e w3 ⟨v3, rfl, hr, hb⟩)
    have H3 := Aside0.mk (below_then H2.out H2.out.size hb)
    clear hb hr HB
    go_wp2
    go_ret2
    exact ⟨rfl, H3.out⟩
  subst h1
  subst h2
  rw [if_neg (by rintro (h | h) <;> exact h rfl)]
  by_cases hl : x.length ≤ y.length
  · have e : decide (x.length ≤ y.length ∧ x = y.take x.length) = decide (x = y.take x.length) := by simp [hl]
    rw [e]
    have ht : (y.take x.length).length = x.length := by rw [List.length_take]; omega
    have HQ := Aside0.mk (equal_is x (y.take x.length) ht.symm (by omega))
    obtain ⟨r, hr⟩ : ∃ r, decide (x = y.take x.length) = r := ⟨_, rfl⟩
    rw [hr] at HQ ⊢
    have d0 : decide ((x.length : Int) ≤ (y.length : Int)) = true := decide_eq_true (by omega)
    have d0n : decide (x.length ≤ y.length) = true := decide_eq_true hl
    have HT := Aside0.mk ht
    have HL := Aside0.mk hl
    clear e hr ht hla hlb
    go_enter Tryd.func16, Tryd.ntmps16
    go_wp2_with fail
    ((refine (HA.out _).mono ?_); rintro e w2 ⟨v, rfl, hr, hb⟩)
    have H2 := Aside0.mk hb
    obtain ⟨A1, k1, rfl, hk1, hc1, _⟩ := texts_reads hr
    have HC1 := Aside0.mk hc1
    have HK1 := Aside0.mk hk1
    clear hb hr HA hc1
    go_wp2_with fail
    ((refine (HB.out _).mono ?_); rintro e w3 ⟨v3, rfl, hr, hb⟩)
    have H3 := Aside0.mk (below_then H2.out H2.out.size hb)
    obtain ⟨A2, k2, rfl, hk2, hc2, _⟩ := texts_reads hr
    have hct := fun W => cut_texts2 A2 y.length k2 x.length (by omega) W
    have HE : Aside0 (∃ z : Nat, z = (y.take x.length).length) := ⟨⟨_, rfl⟩⟩
    have hcal := slices_Equal_string_string.calls (x.length + 1) A1 k1 x A2 k2 (y.take x.length) r w3 (Kd.C_below HC1.out hb) HK1.out (take_C hc2 x.length hl) (by rw [HT.out]; omega) HQ.out
    rw [HT.out] at hcal
    have HCAL := Aside0.mk hcal
    clear hb hr HB hc2 hcal HE hk1 hk2
    go_wp2_with fail
    ((refine HCAL.out.mono ?_); rintro e w4 ⟨rfl, hd⟩)
    have H4 := Aside0.mk (below_then H3.out H3.out.size hd.below)
    clear hd HCAL
    go_wp2
    go_ret2
    exact ⟨rfl, H4.out⟩
  · have e : decide (x.length ≤ y.length ∧ x = y.take x.length) = false := decide_eq_false fun q => hl q.1
    rw [e]
    have d0 : decide ((x.length : Int) ≤ (y.length : Int)) = false := decide_eq_false (by omega)
    have d0n : decide (x.length ≤ y.length) = false := decide_eq_false hl
    clear e hl hla hlb
    go_enter Tryd.func16, Tryd.ntmps16
    go_wp2_with fail
    ((refine (HA.out _).mono ?_); rintro e w2 ⟨v, rfl, hr, hb⟩)
    have H2 := Aside0.mk hb
    obtain ⟨A1, k1, rfl, hk1, hc1, _⟩ := texts_reads hr
    clear hb hr HA hc1
    go_wp2_with fail
    ((refine (HB.out _).mono ?_); rintro e w3 ⟨v3, rfl, hr, hb⟩)
    have H3 := Aside0.mk (below_then H2.out H2.out.size hb)
    obtain ⟨A2, k2, rfl, hk2, hc2, _⟩ := texts_reads hr
    clear hb hr HB hc2 hk1 hk2
    go_wp2
    go_ret2
    exact ⟨rfl, H3.out⟩
end Go.Proofs.YtdihhdmndjjknaaDoor.Walk
