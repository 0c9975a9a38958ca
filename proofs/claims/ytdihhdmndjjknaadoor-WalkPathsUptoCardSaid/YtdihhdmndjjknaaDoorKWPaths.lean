/- Every text is split, and every list of names joined, as the document says; so is every parent: the walk of the law. -/
import Derived.Test.YtdihhdmndjjknaaDoorKWRef
namespace Go.Proofs.YtdihhdmndjjknaaDoor.Walk
open Go.RowKit Go.Proofs.YtdihhdmndjjknaaDoor.PWalkPaths Go.Proofs.YtdihhdmndjjknaaDoor.Plain Go.Proofs.YtdihhdmndjjknaaDoor.Codec Go.Proofs.YtdihhdmndjjknaaDoorW.PrintWords Go.Proofs.YtdihhdmndjjknaaDoorW.PrintLast Go.Proofs.YtdihhdmndjjknaaDoorW.PrintMore
set_option linter.unusedVariables false
set_option linter.unusedSimpArgs false
set_option maxHeartbeats 8000000 in
set_option maxRecDepth 100000 in
theorem paths_calls (s : ByteArray) (hs : s.size ≤ 1125899906842624) (A : Option Addr) (c : Nat) (l : List ByteArray) (w : World) (hr : Kd.C Kd.string w A l.length l) (hc : l.length ≤ c) (hA : PlainAt A l) (hl : l.length ≤ 1048576) (hz : (Lib.join (l.map (fun x => x.data.toList)) [47]).length ≤ 8388607) :
    Calls Tryd.prog 3 #[.string s, .slice A l.length c] w fun e w' => e = .returned (.bool true) ∧ Below w.heap.size w w' := by
  have HW := Aside0.mk (wakes_calls w)
  have HSP := Aside0.mk (fun W => split_calls s hs W)
  unfold SplitEnds at HSP
  have HRS := Aside0.mk (fun W => skerryref16_Split.calls 500 s (splitOut s).1 (splitOut s).2 W (rsplit_is s 500 (by decide)))
  have HJ := Aside0.mk (fun W (hb : Below w.heap.size w W) => join_calls A c l W (Kd.C_below hr hb) hc hA hl hz)
  have HRJ := Aside0.mk (fun W (hb : Below w.heap.size w W) => skerryref16_Join.calls 60 A c l (joinOut l).1 (joinOut l).2 W (Kd.C_below hr hb) hc (rjoin_is l 60 (by decide)))
  have HP := Aside0.mk (fun W => parent_calls s hs W)
  have HRP := Aside0.mk (fun W => skerryref16_Parent.calls 500 s (parentOut s).1 (parentOut s).2.1 (parentOut s).2.2 W (rparent_is s 500 (by decide)))
  have hle := splitOut_le s
  obtain ⟨⟨L, er⟩, hL⟩ : ∃ z, splitOut s = z := ⟨_, rfl⟩
  obtain ⟨⟨jp, je⟩, hJ⟩ : ∃ z, joinOut l = z := ⟨_, rfl⟩
  obtain ⟨⟨pd, pn, pe⟩, hP⟩ : ∃ z, parentOut s = z := ⟨_, rfl⟩
  rw [hL] at HSP HRS hle
  rw [hJ] at HJ HRJ
  rw [hP] at HP HRP
  have HLE := Aside0.mk hle
  have q1 : (er == er) = true := beq_iff_eq.2 rfl
  have q2 : (je == je) = true := beq_iff_eq.2 rfl
  have q3 : (pe == pe) = true := beq_iff_eq.2 rfl
  have q4 : (jp.toList == jp.toList) = true := beq_iff_eq.2 rfl
  have q5 : (pd.toList == pd.toList) = true := beq_iff_eq.2 rfl
  have q6 : (pn.toList == pn.toList) = true := beq_iff_eq.2 rfl
  clear hs hr hc hA hl hz hle hL hJ hP
  go_enter Tryd.func3, Tryd.ntmps3
  go_wp2_with fail
  ((refine HW.out.mono ?_); rintro e w1 ⟨rfl, hb⟩)
  have H1 := Aside0.mk hb
  clear hb HW
  go_wp2_with fail
  ((refine (HSP.out _).mono ?_); rintro e w2 ⟨v, rfl, hr, hb⟩)
  have H2 := Aside0.mk (below_then H1.out H1.out.size hb)
  obtain ⟨A1, k1, rfl, hk, hc, _⟩ := texts_reads hr
  have HC1 := Aside0.mk hc
  have HK1 := Aside0.mk hk
  clear hb hr hk hc HSP
  go_wp2_with fail
  ((refine (HRS.out _).mono ?_); rintro e w3 ⟨v, rfl, hr, hb⟩)
  have H3 := Aside0.mk (below_then H2.out H2.out.size hb)
  obtain ⟨A2, k2, rfl, hk, hc, _⟩ := texts_reads hr
  have HC2 := Aside0.mk hc
  have HK2 := Aside0.mk hk
  have HC1b := Aside0.mk (Kd.C_below HC1.out hb)
  clear hb hr hk hc HRS HC1
  have HJ2 := Aside0.mk (HJ.out w3 H3.out)
  clear HJ
  go_wp2_with fail
  ((refine HJ2.out.mono ?_); rintro e w4 ⟨rfl, hb⟩)
  have H4 := Aside0.mk (below_then H3.out H3.out.size hb)
  have HC2b := Aside0.mk (Kd.C_below HC2.out hb)
  have HC1c := Aside0.mk (Kd.C_below HC1b.out hb)
  clear hb HJ2 HC1b HC2
  have HJ2 := Aside0.mk (HRJ.out w4 H4.out)
  clear HRJ
  go_wp2_with fail
  ((refine HJ2.out.mono ?_); rintro e w5 ⟨rfl, hb⟩)
  have H5 := Aside0.mk (below_then H4.out H4.out.size hb)
  have HC2c := Aside0.mk (Kd.C_below HC2b.out hb)
  have HC1d := Aside0.mk (Kd.C_below HC1c.out hb)
  clear hb HJ2 HC1c HC2b
  go_wp2_with fail
  ((refine (HP.out _).mono ?_); rintro e w6 ⟨rfl, hb⟩)
  have H6 := Aside0.mk (below_then H5.out H5.out.size hb)
  have HC2d := Aside0.mk (Kd.C_below HC2c.out hb)
  have HC1e := Aside0.mk (Kd.C_below HC1d.out hb)
  clear hb HP HC1d HC2c
  go_wp2_with fail
  ((refine (HRP.out _).mono ?_); rintro e w7 ⟨rfl, hb⟩)
  have H7 := Aside0.mk (below_then H6.out H6.out.size hb)
  have HST := Aside0.mk (skerryref01_SameTexts.calls (L.length + 1) A1 k1 L A2 k2 L true w7 (Kd.C_below HC1e.out hb) HK1.out (Kd.C_below HC2d.out hb) HK2.out (same_texts L (by have := HLE.out; omega)))
  clear hb HRP HC1e HC2d
  go_wp2_with fail
  ((refine HST.out.mono ?_); rintro e w8 ⟨rfl, hd⟩)
  have H8 := Aside0.mk (below_then H7.out H7.out.size hd.below)
  clear hd HST H1 H2 H3 H4 H5 H6 H7 HK1 HK2 HLE
  go_wp2
  go_ret
  exact ⟨rfl, H8.out⟩
/-- The bytes of all, and one more of each. -/
def sumS : List ByteArray → Nat
  | [] => 0
  | x :: l => x.size + 1 + sumS l
theorem join_sum (l : List ByteArray) : (Lib.join (l.map (fun x => x.data.toList)) [47]).length ≤ sumS l := by
  cases l with
  | nil => simp [Lib.join]
  | cons x r =>
    have h : ∀ q : List ByteArray, (joined q).length = sumS q := by
      intro q
      induction q with
      | nil => rfl
      | cons y q ih =>
        show (47 :: (y.data.toList ++ joined q)).length = _
        rw [List.length_cons, List.length_append, list_len, ih]
        show _ = y.size + 1 + sumS q
        omega
    have h2 := congrArg ByteArray.size (pathOf_joined (x :: r) (by simp))
    rw [bs_size, h] at h2
    unfold pathOf at h2
    rw [bs_size, List.length_cons] at h2
    omega
theorem sum_len (l : List ByteArray) : l.length ≤ sumS l := by
  induction l with
  | nil => exact Nat.le_refl _
  | cons x l ih => show l.length + 1 ≤ x.size + 1 + sumS l; omega
theorem plain_C {w : World} {A : Option Addr} {l : List ByteArray} (h : Kd.C Kd.string w A l.length l) : PlainAt A l := by
  by_cases c : l = []
  · exact .inl c
  · right
    have hpos : 0 < l.length := by cases l with | nil => exact absurd rfl c | cons _ _ => simp
    obtain ⟨ad, e, hc⟩ := (Kd.reads_of_C (enc := Value.string) (d := (⟨#[]⟩ : ByteArray)) (h1 := fun _ => rfl) h).2.2 hpos
    have hs := World.cell?_spot (hc 0 hpos)
    have ha : ad.add 0 = ad := by simp [Addr.add]
    rw [ha] at hs
    obtain ⟨g, o, sp⟩ := ad
    simp only at hs
    subst hs
    exact ⟨g, o, e⟩
theorem paths_row (s : ByteArray) (A : Option Addr) (c : Nat) (l : List ByteArray) (w : World) (hs : s.size ≤ 1048576) (hr : Kd.C Kd.string w A l.length l) (hc : l.length ≤ c) (hz : sumS l ≤ 1048576) :
    Calls Tryd.prog 3 #[.string s, .slice A l.length c] w fun e w' => e = .returned (.bool true) ∧ Below w.heap.size w w' :=
  paths_calls s (by omega) A c l w hr hc (plain_C hr) (Nat.le_trans (sum_len l) hz) (Nat.le_trans (Nat.le_trans (join_sum l) hz) (by decide))
end Go.Proofs.YtdihhdmndjjknaaDoor.Walk
