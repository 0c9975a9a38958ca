/- Names are joined; a path's parent; what stands above: contracts. -/
import Derived.Test.YtdihhdmndjjknaaDoorKWPath
namespace Go.Proofs.YtdihhdmndjjknaaDoor.Walk
open Go.RowKit Go.Proofs.YtdihhdmndjjknaaDoor.PWalkOrders Go.Proofs.YtdihhdmndjjknaaDoor.Plain Go.Proofs.YtdihhdmndjjknaaDoor.Codec Go.Proofs.YtdihhdmndjjknaaDoorW.PrintWords Go.Proofs.YtdihhdmndjjknaaDoorW.PrintLast Go.Proofs.YtdihhdmndjjknaaDoorW.PrintMore
set_option linter.unusedVariables false
set_option linter.unusedSimpArgs false
/-- A row of texts whose address is plain. -/
def PlainAt (A : Option Addr) (l : List ByteArray) : Prop := l = [] ∨ ∃ g o, A = some ⟨g, o, none⟩
theorem texts_reads {e base : Nat} {ok : Nat → Prop} {w : World} {v : Value} {xs : List ByteArray} (h : Kd.R Kd.string e w base ok v xs) : ∃ A c, v = .slice A xs.length c ∧ xs.length ≤ c ∧ Kd.C Kd.string w A xs.length xs ∧ PlainAt A xs := by
  obtain ⟨A, c, rfl, hc, hr⟩ := Kd.R_reads h
  refine ⟨A, c, rfl, hc, hr, ?_⟩
  obtain ⟨_, inner, ho, _⟩ := h
  rcases ho.2 with ⟨h1, h2⟩ | ⟨g, cap, cur, h1, _⟩
  · left
    exact List.eq_nil_of_length_eq_zero h2
  · right
    injection h1 with h1 h2 h3
    exact ⟨g, 0, h1⟩
theorem str_append (l : List UInt8) : (⟨#[47]⟩ : ByteArray) ++ (⟨l.toArray⟩ : ByteArray) = bs (47 :: l) := by
  apply ByteArray.ext
  rw [ByteArray.data_append]
  simp [bs]
theorem strjoin_calls (A : Option Addr) (c : Nat) (l : List ByteArray) (w : World) (hr : Kd.C Kd.string w A l.length l) (hc : l.length ≤ c) (hA : PlainAt A l) (hl : l.length ≤ 1048576) (hz : (Lib.join (l.map (fun x => x.data.toList)) [47]).length ≤ 70368744177664) :
    Calls Tryd.prog 24 #[.slice A l.length c, .string ⟨#[47]⟩] w fun e w' => e = .returned (.string (bs (Lib.join (l.map (fun x => x.data.toList)) [47]))) ∧ Below w.heap.size w w' := by
  by_cases h0 : l = []
  · subst h0
    refine (Any.strings_Join_none Tryd.lays156 Tryd.Builder_Extra_156 A c ⟨#[47]⟩ w).mono ?_
    rintro e w' ⟨rfl, rfl⟩
    exact ⟨rfl, Below.refl _ _⟩
  rcases hA with h | ⟨g, o, rfl⟩
  · exact absurd h h0
  have hpos : 0 < l.length := by cases l with | nil => exact absurd rfl h0 | cons _ _ => simp
  obtain ⟨ad, e, hcell⟩ := (Kd.reads_of_C (enc := Value.string) (d := (⟨#[]⟩ : ByteArray)) (h1 := fun _ => rfl) hr).2.2 hpos
  obtain rfl := Option.some.inj e
  have hlt : g < w.heap.size := World.block_lt_of_cell? w _ (hcell 0 hpos)
  refine (Any.strings_Join Tryd.lays156 Tryd.Builder_Extra_156 g o c l ⟨#[47]⟩ w (fun j x hx => ?_) hlt (by omega) hc (Nat.le_trans hz (by decide))).mono ?_
  · have hj : j < l.length := (List.getElem?_eq_some_iff.1 hx).1
    have h := hcell j hj
    have ea : (⟨g, o, none⟩ : Addr).add j = ⟨g, o + j, none⟩ := by unfold Addr.add; split <;> simp_all
    rw [ea, List.getD_eq_getElem?_getD, hx] at h
    exact h
  · rintro e w' ⟨rfl, hb⟩
    exact ⟨rfl, hb⟩
set_option maxHeartbeats 4000000 in
set_option maxRecDepth 100000 in
theorem join_calls (A : Option Addr) (c : Nat) (l : List ByteArray) (w : World) (hr : Kd.C Kd.string w A l.length l) (hc : l.length ≤ c) (hA : PlainAt A l) (hl : l.length ≤ 1048576) (hz : (Lib.join (l.map (fun x => x.data.toList)) [47]).length ≤ 8388607) :
    Calls Tryd.prog 11 #[.slice A l.length c] w fun e w' => e = .returned (.tuple #[.string (joinOut l).1, .int .i64 (joinOut l).2]) ∧ Below w.heap.size w w' := by
  have HJ := Aside0.mk (strjoin_calls A c l w hr hc hA hl (by omega))
  have HS := Aside0.mk (fun W (hb : Below w.heap.size w W) => sound_calls A c l W (Kd.C_below hr hb) hl)
  obtain ⟨P, hP⟩ : ∃ P, pathOf l = P := ⟨_, rfl⟩
  obtain ⟨J, hJ⟩ : ∃ J, Lib.join (l.map (fun x => x.data.toList)) [47] = J := ⟨_, rfl⟩
  have hPJ : (⟨#[47]⟩ : ByteArray) ++ bs J = P := by rw [← hP, ← hJ]; exact str_append _
  rw [hJ] at HJ hz
  have hbs : ((bs J).size : Int) ≤ 8388608 := by rw [bs_size]; omega
  have h47 : ((⟨#[47]⟩ : ByteArray).size : Int) ≤ 8388608 := by decide
  have hadd := run_string_add (P := Tryd.prog) (a := (⟨#[47]⟩ : ByteArray)) (b := bs J) (ha := h47) (hb := hbs)
  rw [hPJ] at hadd
  obtain ⟨b, hb0⟩ : ∃ b, decide (Sound l) = b := ⟨_, rfl⟩
  have hjo : joinOut l = if b = true ∧ P.size ≤ 200 then (P, 0) else (⟨#[]⟩, 16) := by
    unfold joinOut
    rw [hP, ← hb0]
    simp only [decide_eq_true_eq]
  rw [hb0] at HS
  rw [hjo]
  clear hr hc hA hl hz hP hJ hb0 hjo
  cases b with
  | false =>
    rw [if_neg (fun q => by cases q.1)]
    go_enter Tryd.func11, Tryd.ntmps11
    go_wp2_with fail
    ((refine HJ.out.mono ?_); rintro e w2 ⟨rfl, hb⟩)
    have HB := Aside0.mk hb
    have HS2 := Aside0.mk (HS.out w2 hb)
    clear hb HS HJ
    go_wp2_with fail
    ((refine HS2.out.mono ?_); rintro e w3 ⟨rfl, hb⟩)
    have HB3 := Aside0.mk (below_then HB.out HB.out.size hb)
    clear hb HS2
    go_wp2
    go_ret2
    exact ⟨rfl, HB3.out⟩
  | true =>
    by_cases h2 : P.size ≤ 200
    · rw [if_pos ⟨rfl, h2⟩]
      have d0 : decide ((200 : Int) < (P.size : Int)) = false := decide_eq_false (by omega)
      have d0n : decide (200 < P.size) = false := decide_eq_false (by omega)
      clear h2
      go_enter Tryd.func11, Tryd.ntmps11
      go_wp2_with fail
      ((refine HJ.out.mono ?_); rintro e w2 ⟨rfl, hb⟩)
      have HB := Aside0.mk hb
      have HS2 := Aside0.mk (HS.out w2 hb)
      clear hb HS HJ
      go_wp2_with fail
      ((refine HS2.out.mono ?_); rintro e w3 ⟨rfl, hb⟩)
      have HB3 := Aside0.mk (below_then HB.out HB.out.size hb)
      clear hb HS2
      go_wp2
      go_ret2
      exact ⟨rfl, HB3.out⟩
    · rw [if_neg (fun q => h2 q.2)]
      have d0 : decide ((200 : Int) < (P.size : Int)) = true := decide_eq_true (by omega)
      have d0n : decide (200 < P.size) = true := decide_eq_true (by omega)
      clear h2
      go_enter Tryd.func11, Tryd.ntmps11
      go_wp2_with fail
      ((refine HJ.out.mono ?_); rintro e w2 ⟨rfl, hb⟩)
      have HB := Aside0.mk hb
      have HS2 := Aside0.mk (HS.out w2 hb)
      clear hb HS HJ
      go_wp2_with fail
      ((refine HS2.out.mono ?_); rintro e w3 ⟨rfl, hb⟩)
      have HB3 := Aside0.mk (below_then HB.out HB.out.size hb)
      clear hb HS2
      go_wp2
      go_ret2
      exact ⟨rfl, HB3.out⟩
end Go.Proofs.YtdihhdmndjjknaaDoor.Walk
