/- The reference's Order, walked by hand: a contract. -/
import Derived.Test.YtdihhdmndjjknaaDoorKWROrdP
namespace Go.Proofs.YtdihhdmndjjknaaDoor.Walk
open Go.RowKit Go.Shelf Go.Proofs.YtdihhdmndjjknaaDoor.PWalkOrders Go.Proofs.YtdihhdmndjjknaaDoor.Plain Go.Proofs.YtdihhdmndjjknaaDoor.Codec Go.Proofs.YtdihhdmndjjknaaDoorW.PrintWords Go.Proofs.YtdihhdmndjjknaaDoorW.PrintLast Go.Proofs.YtdihhdmndjjknaaDoorW.PrintMore
set_option linter.unusedVariables false
set_option linter.unusedSimpArgs false
theorem addr_plain (b k : Nat) : (⟨b, 0, none⟩ : Addr).add k = ⟨b, k, none⟩ := by unfold Addr.add; split <;> simp_all
theorem LRow.slice {base : Nat} {w : World} {v : Value} {ps : List Nm} (h : LRow base w v ps) : ∃ A c, v = .slice A ps.length c ∧ ps.length ≤ c := by
  rcases h.form with ⟨e, e2⟩ | ⟨g, cap, cs, e, _, _, hc, _⟩
  · subst e2; exact ⟨none, 0, e, Nat.le_refl _⟩
  · exact ⟨_, _, e, hc⟩
theorem LRow.at {base : Nat} {w : World} {A : Option Addr} {n c : Nat} {ps : List Nm} (h : LRow base w (.slice A n c) ps) {j : Nat} {p : Nm} (hp : ps[j]? = some p) : ∃ g, A = some ⟨g, 0, none⟩ ∧ w.cell? ⟨g, j, none⟩ = some p.1 := by
  rcases h.form with ⟨e, e2⟩ | ⟨g, cap, cs, e, _, hcell, hc, hpre, _⟩
  · subst e2; cases hp
  · injection e with e1 e2 e3
    exact ⟨g, e1, elem_at hcell (hpre j p hp)⟩
theorem LRow.blk {base : Nat} {w : World} {v : Value} {ps : List Nm} (h : LRow base w v ps) : ∀ b, v.ownBlock = some b → base ≤ b ∧ b < w.heap.size := by
  obtain ⟨⟨xs, _, hr⟩, _⟩ := h
  exact (vrow_own hr).lt
theorem LRow.base {base b2 : Nat} {w : World} {v : Value} {ps : List Nm} (h : LRow base w v ps) (hb : b2 ≤ base) : LRow b2 w v ps := by
  obtain ⟨⟨xs, hx, hr⟩, hn⟩ := h
  refine ⟨⟨xs, hx, ?_⟩, hn⟩
  have h2 := vrow_own hr
  refine Kd.R_of_own (enc := fun x : OneV => x.1) (h1 := fun x => x.2) ⟨h2.1, ?_⟩ (fun _ _ => trivial)
  rcases h2.2 with hn | ⟨g, cap, cur, e, hg, rest⟩
  · exact .inl hn
  · exact .inr ⟨g, cap, cur, e, Nat.le_trans hb hg, rest⟩
theorem NApart.any {w : World} {v : Value} {p : Nm} (h : NApart w v p) : NApart w (.slice none 0 0) p := by
  obtain ⟨A, c, e, h1, h2, h3, h4⟩ := h
  exact ⟨A, c, e, h1, h2, h3, fun ad q hn => ⟨(h4 ad q hn).1, by simp [Value.ownBlock]⟩⟩
theorem NApart.into {w W : World} {v : Value} {p : Nm} (h : NApart w (.slice none 0 0) p) (hb : Below w.heap.size w W) (hv : ∀ b, v.ownBlock = some b → w.heap.size ≤ b) : NApart W v p := by
  obtain ⟨A, c, e, h1, h2, h3, h4⟩ := h
  refine ⟨A, c, e, h1, h2, Kd.C_below h3 hb, fun ad q hn => ⟨Nat.lt_of_lt_of_le (h4 ad q hn).1 hb.size, fun e2 => ?_⟩⟩
  have := hv _ e2
  have := (h4 ad q hn).1
  omega
theorem LRow.grow {base : Nat} {W w3 : World} {v v3 : Value} {ps : List Nm} {xs : List OneV} (h : ∀ p ∈ ps, NApart W v p) (hx : xs.map (fun x => x.1) = ps.map (fun p => p.1)) (hr : Kd.R kdV 22 w3 base (fun _ => True) v3 xs) (hg : W.grownBy w3 v.ownBlock) (hat : v3.ownBlock = v.ownBlock ∨ ∃ b, v3.ownBlock = some b ∧ W.heap.size ≤ b) : LRow base w3 v3 ps :=
  ⟨⟨xs, hx, hr⟩, fun p hp => (h p hp).grown hg hat⟩
theorem slice_any (A : Option Addr) (n c lo : Nat) (h : lo ≤ n) (hnc : n ≤ c) : ∃ A', (lo < n → A' = A.map fun a => a.add lo) ∧ ∀ W : World, (Instr.slice 45 (.slice A n c) (some (.int .i64 (lo : Int))) none none).run Tryd.prog W = .ok (.slice A' (n - lo) (c - lo)) W := by
  by_cases hlc : lo < c
  · exact ⟨_, fun _ => rfl, fun W => slice_run A n c lo h hlc W⟩
  · obtain ⟨i, hi, hs⟩ := Option.map_eq_some_iff.1 info22
    have hel : Tryd.prog.elem 45 = 22 := by simp [Program.elem, Tryd.underlying45]
    have hu : Tryd.prog.underlying 45 = some (.slice (Tryd.prog.elem 45)) := by rw [hel]; exact Tryd.underlying45
    refine ⟨A, fun q => by omega, fun W => ?_⟩
    rw [run_slice_l W 45 A n c hu .i64 lo (by omega) (by omega), hel]
    have he : c = lo := by omega
    simp [sizeOf, typeInfo, hi, hs, sliced, Result.andThen, he]
theorem LRow.tail {base : Nat} {w : World} {A A' : Option Addr} {c k : Nat} {ps : List Nm} (h : LRow base w (.slice A ps.length c) ps) (hk : k ≤ ps.length) (hA : k < ps.length → A' = A.map fun a => a.add k) : ∃ ys : List OneV, ys.map (fun x => x.1) = (ps.drop k).map (fun p => p.1) ∧ Kd.C kdV w A' (ps.length - k) ys := by
  obtain ⟨⟨xs, hx, hr⟩, hn⟩ := h
  have hlen : xs.length = ps.length := by have := congrArg List.length hx; simpa using this
  refine ⟨xs.drop k, by rw [List.map_drop, hx, List.map_drop], ?_⟩
  have hmax := (Kd.R_reads' hr).2.2.2.1
  refine Kd.C_of_reads (enc := fun x : OneV => x.1) (d := (⟨.slice none 0 0, rfl⟩ : OneV)) (h1 := fun x => x.2) ⟨by rw [List.length_drop, hlen], ?_, fun hpos => ?_⟩
  · rw [hlen] at hmax
    omega
  · have hkl : k < ps.length := by omega
    rcases LRow.form ⟨⟨xs, hx, hr⟩, hn⟩ with ⟨_, e2⟩ | ⟨g, cap, cs, e, _, hcell, hc, hpre, _⟩
    · rw [e2] at hkl; cases hkl
    · injection e with e1 e2 e3
      refine ⟨⟨g, k, none⟩, by rw [hA hkl, e1]; show some ((⟨g, 0, none⟩ : Addr).add k) = _; rw [addr_plain], fun j hj => ?_⟩
      have ea : (⟨g, k, none⟩ : Addr).add j = ⟨g, k + j, none⟩ := by unfold Addr.add; split <;> simp_all
      have hjl : k + j < ps.length := by omega
      rw [ea, elem_at hcell (hpre (k + j) _ (List.getElem?_eq_getElem hjl))]
      have hm := congrArg (fun q => q[k + j]?) hx
      simp only [List.getElem?_map, List.getElem?_eq_getElem hjl, List.getElem?_eq_getElem (show k + j < xs.length by omega), Option.map_some] at hm
      rw [List.getD_eq_getElem?_getD, List.getElem?_drop, List.getElem?_eq_getElem (show k + j < xs.length by omega)]
      exact hm.symm
set_option maxHeartbeats 8000000 in
set_option maxRecDepth 100000 in
theorem rorder_calls (A : Option Addr) (c : Nat) (l : List ByteArray) (w : World) (hr : Kd.C Kd.string w A l.length l) (hl : l.length ≤ 1048576) :
    Calls Tryd.prog 19 #[.slice A l.length c] w fun e w' => ((¬ AllSplit l ∧ e = .returned (.tuple #[.slice none 0 0, .int .i64 16])) ∨ (AllSplit l ∧ ∃ v N, OrderOf l N ∧ e = .returned (.tuple #[v, .int .i64 0]) ∧ Kd.R Kd.string 9 w' w.heap.size (fun _ => True) v (N.map fun x => (joinOut x).1))) ∧ Below w.heap.size w w' := by
  have HR := Aside0.mk hr
  have HL := Aside0.mk hl
  clear hr hl
  go_enter Tryd.func19, Tryd.ntmps19
  go_wp2_with fail
  go_loopg [4, 5] l.length (fun kq v4 v5 w' => ∃ (i : Nat) (ps : List Nm), v5 = .int .i64 (i : Int) ∧ i ≤ l.length ∧ l.length - i ≤ kq ∧ Aside0 (LRow w.heap.size w' v4 ps) ∧ Aside0 (Strict (ps.map (fun p => p.2))) ∧ Aside0 (∀ x, x ∈ ps.map (fun p => p.2) ↔ x ∈ (l.take i).map (fun p => (splitOut p).1)) ∧ Aside0 (ps.length ≤ i) ∧ Aside0 (∀ p ∈ l.take i, (splitOut p).2 = 0) ∧ Aside0 (Below w.heap.size w w'))
  case atStart => exact ⟨0, [], rfl, by omega, by omega, ⟨LRow.nil _ _⟩, ⟨List.Pairwise.nil⟩, ⟨by simp⟩, ⟨Nat.le_refl _⟩, ⟨by simp⟩, ⟨Below.refl _ _⟩⟩
  case round =>
    obtain ⟨i, ps, rfl, hi, hkq, HLR, HST, HME, HPI, HAS, HB⟩ := hrel
    by_cases hlt : i < l.length
    · cases gk with
      | zero => omega
      | succ k1 =>
        obtain ⟨ad, hA, hc⟩ := load_str (Kd.C_below HR.out HB.out) i hlt
        obtain ⟨x, hx⟩ : ∃ x, l.getD i ⟨#[]⟩ = x := ⟨_, rfl⟩
        rw [hx] at hc
        have hgx : l[i]? = some x := by rw [← hx, List.getD_eq_getElem?_getD, List.getElem?_eq_getElem hlt]; rfl
        have hmem : x ∈ l := List.mem_of_getElem? hgx
        have htk : l.take (i + 1) = l.take i ++ [x] := by rw [List.take_add_one, hgx]; rfl
        have HSP := Aside0.mk (skerryref16_Split.calls 500 x (splitOut x).1 (splitOut x).2 wr (rsplit_is x 500 (by decide)))
        have hsl := splitOut_le x
        have hscase := split_cases x
        obtain ⟨⟨L, er⟩, hL⟩ : ∃ z, splitOut x = z := ⟨_, rfl⟩
        rw [hL] at HSP hsl hscase
        simp only at HSP hsl hscase
        have HXL := Aside0.mk (And.intro hL (And.intro hsl (And.intro hmem htk)))
        have hw1 : wrap64 ((i : Int) + 1) = (i : Int) + 1 := w64 (by omega) (by have := HL.out; omega)
        have d0 : decide ((i : Int) < (l.length : Int)) = true := decide_eq_true (by omega)
        have d0n : decide (i < l.length) = true := decide_eq_true hlt
        have p0 : (0 : Int) ≤ (i : Int) := by omega
        have p1 : (i : Int) < (l.length : Int) := by omega
        have HK := Aside0.mk (And.intro hlt hkq)
        clear hx hgx hmem htk hL hsl hi hkq
        subst hA
        obtain ⟨A4, c4, e4, hc4⟩ := HLR.out.slice
        subst e4
        have HC4 := Aside0.mk hc4
        clear hc4
        rcases hscase with he | ⟨he, hnil⟩
        rotate_left
        · subst he
          go_wp2_with fail
          ((refine HSP.out.mono ?_); rintro e w2 ⟨v2, rfl, hr2, hb⟩)
          have H2 := Aside0.mk (below_then HB.out HB.out.size hb)
          clear hr2 hb
          go_wp2
          go_ret2
          refine ⟨.inl ⟨fun h => ?_, rfl⟩, H2.out⟩
          have := h x HXL.out.2.2.1
          rw [HXL.out.1] at this
          cases this
        · subst he
          go_wp2_with fail
          ((refine HSP.out.mono ?_); rintro e w2 ⟨v2, rfl, hr2, hb⟩)
          obtain ⟨A2, k2, rfl, hk2, hc2, _⟩ := texts_reads hr2
          have HLR2 := Aside0.mk (HLR.out.below hb)
          have HB2 := Aside0.mk (below_then HB.out HB.out.size hb)
          have HNQ := Aside0.mk (split_apart (v := .slice none 0 0) hr2 HXL.out.2.1 (fun b e => by simp [Value.ownBlock] at e))
          have HNP : Aside0 (∀ p ∈ ps, NApart w2 (.slice none 0 0) p) := ⟨fun p hp => (HLR2.out.names p hp).any⟩
          have HK2 := Aside0.mk hk2
          have HC2 := Aside0.mk hc2
          obtain ⟨n, hn⟩ : ∃ n, ps.length = n := ⟨_, rfl⟩
          have HN := Aside0.mk hn
          have hnb : n ≤ 1048576 := by have := HPI.out; have := HL.out; have := HK.out.1; omega
          rw [hn] at HLR2 HC4 ⊢
          clear hr2 hk2 hc2 hb HSP hn HLR
          go_wp2_with fail
          go_loopg [8, 9] n (fun kq v8 v9 w' => ∃ k : Nat, v9 = .int .i64 (k : Int) ∧ k ≤ n ∧ n - k ≤ kq ∧ Aside0 (LRow w2.heap.size w' v8 (ps.take k)) ∧ Aside0 (∀ p ∈ ps.take k, nl p.2 < nl L) ∧ Aside0 (Below w2.heap.size w2 w'))
          case atStart => exact ⟨0, rfl, by omega, by omega, ⟨LRow.nil _ _⟩, ⟨by simp⟩, ⟨Below.refl _ _⟩⟩
          case round =>
            obtain ⟨k, rfl, hk, hkq, HM, HLT, HBM⟩ := hrel
            obtain ⟨xs, hxs, hrr⟩ := HM.out.row
            have hxl : xs.length = k := by
              have h1 := congrArg List.length hxs
              simp only [List.length_map, List.length_take] at h1
              have := HN.out
              omega
            have wk : wrap64 ((k : Int) + 1) = (k : Int) + 1 := w64 (by omega) (by omega)
            by_cases hkl : k < n
            · obtain ⟨⟨vp, lp⟩, hp⟩ : ∃ p, ps[k]? = some p := ⟨_, List.getElem?_eq_getElem (by rw [HN.out]; exact hkl)⟩
              have hpm := List.mem_of_getElem? hp
              obtain ⟨g, hA4, hcell⟩ := LRow.at (HLR2.out.below HBM.out) hp
              obtain ⟨Ap, cp, ep, hp1, hp2, hp3, hp4⟩ := HNP.out _ hpm
              simp only at ep hp1 hp2 hp3 hp4
              have htk : ps.take (k + 1) = ps.take k ++ [(vp, lp)] := by rw [List.take_add_one, hp]; rfl
              have HTK := Aside0.mk htk
              have HP := Aside0.mk hp
              have hg2 : g < w2.heap.size := by
                obtain ⟨g', hA4', hcell'⟩ := LRow.at HLR2.out hp
                rw [hA4] at hA4'
                obtain rfl : g = g' := by have h := Option.some.inj hA4'; injection h
                exact World.block_lt_of_cell? w2 _ hcell'
              subst hA4
              subst ep
              simp only at hcell
              have HPC := Aside0.mk hp3
              have HP1 := Aside0.mk (And.intro hp1 hp2)
              have HCL := Aside0.mk (And.intro hcell hg2)
              have HBF := Aside0.mk (fun W (hb : Below w2.heap.size w2 W) => skerryref16_before.calls 60 Ap cp lp A2 k2 L _ W (Kd.C_below hp3 hb) hp1 (Kd.C_below HC2.out hb) HK2.out (before_is lp L (by omega) 60 (by omega)))
              have HBG := Aside0.mk (fun W (hb : Below w2.heap.size w2 W) => skerryref16_before.calls 60 A2 k2 L Ap cp lp _ W (Kd.C_below HC2.out hb) HK2.out (Kd.C_below hp3 hb) hp1 (before_is L lp (by have := HXL.out.2.1; omega) 60 (by have := HXL.out.2.1; omega)))
              have q0 : (0 : Int) ≤ (k : Int) := by omega
              have q1 : (k : Int) < (n : Int) := by omega
              have e0 : decide ((k : Int) < (n : Int)) = true := decide_eq_true (by omega)
              have e0n : decide (k < n) = true := decide_eq_true hkl
              have HKK := Aside0.mk (And.intro hkl hkq)
              clear hp hpm hp1 hp2 hp3 hp4 htk hk hkq
              by_cases hcmp : nl lp < nl L
              · cases gk with
                | zero => have := HKK.out; omega
                | succ g1 =>
                  rw [decide_eq_true hcmp] at HBF
                  have HB0 := Aside0.mk (HBF.out wr HBM.out)
                  have HCM := Aside0.mk hcmp
                  clear hcmp
                  go_wp2_with fail
                  ((refine HB0.out.mono ?_); rintro e w3 ⟨rfl, hd⟩)
                  have HBN := Aside0.mk (below_then HBM.out HBM.out.size hd.below)
                  have HM3 := Aside0.mk (HM.out.below hd.below)
                  have hcell3 := (HBN.out.cell (p := ⟨g, k, none⟩) hg2).trans ((HBM.out.cell (p := ⟨g, k, none⟩) hg2).symm.trans hcell)
                  clear hd hcell HB0
                  obtain ⟨xs, hxs, hrr⟩ := HM3.out.row
                  have HXS := Aside0.mk hxs
                  have HRR := Aside0.mk hrr
                  have hxl : xs.length = k := by
                    have h1 := congrArg List.length hxs
                    simp only [List.length_map, List.length_take] at h1
                    have := HN.out
                    omega
                  have hfit : (xs.length + 1) * 24 ≤ 140737488355328 := by omega
                  clear hxs hrr hxl
                  go_wp2_with ((with_reducible refine gate_builtin (b := .append) (xs := #[.tmp 42, .tmp 47]) rfl ?_); at_builtin; refine Kd.R_append_rows kdV (w0 := w2) w2.heap.size rfl (.tmp 42) (.tmp 47) 45 22 (.slice none 0 0) 24 rfl Tryd.underlying45 infoV rfl (by decide) (by omega) u8 xs [(⟨(.slice Ap lp.length cp), rfl⟩ : OneV)] (some ⟨w3.heap.size, 0, none⟩) 1 1 (fun _ => True) (fun _ => False) (by rfl) (by rfl) (Kd.R_alloc HRR.out _) (lit_V w3 ⟨(.slice Ap lp.length cp), rfl⟩) (fun _ _ h => h) (fun _ h => h.elim) (fun _ _ => trivial) (HBN.out.alloc HBN.out.size _) (HBN.out.alloc HBN.out.size _).size hfit ?_; intro v4 w4 ho hb hg hat; have HP3 := Aside0.mk (LRow.grow (ps := ps.take (k + 1)) (fun p hp => (HNP.out p (List.mem_of_mem_take hp)).into (HBN.out.alloc HBN.out.size _) (fun b e => (HM3.out.blk b e).1)) (by rw [HTK.out, List.map_append, HXS.out, List.map_append]; rfl) ho hg hat); have HB3 := Aside0.mk hb; clear ho hb hg hat)
                  go_roundg g1
                  case measure => omega
                  case rel =>
                    refine ⟨k + 1, by go_num, by have := HKK.out; omega, by have := HKK.out; omega, HP3, ⟨?_⟩, HB3⟩
                    rw [HTK.out]
                    intro p hp
                    rcases List.mem_append.1 hp with e | e
                    · exact HLT.out p e
                    · rw [List.mem_singleton.1 e]; exact HCM.out
              · rw [decide_eq_false hcmp] at HBF
                have HB0 := Aside0.mk (HBF.out wr HBM.out)
                by_cases hcm2 : nl L < nl lp
                · rw [decide_eq_true hcm2] at HBG
                  have hcut := slice_any (some ⟨g, 0, none⟩) n c4 (k) (by omega) HC4.out
                  obtain ⟨A6, hA6, hct⟩ := hcut
                  have HA6 := Aside0.mk hA6
                  clear hA6
                  go_wp2_with fail
                  ((refine HB0.out.mono ?_); rintro e w3 ⟨rfl, hd⟩)
                  have HBN := Aside0.mk (below_then HBM.out HBM.out.size hd.below)
                  have HM3 := Aside0.mk (HM.out.below hd.below)
                  clear hd hcell HB0
                  obtain ⟨xs, hxs, hrr⟩ := HM3.out.row
                  have HXS := Aside0.mk hxs
                  have HRR := Aside0.mk hrr
                  have hxl : xs.length = k := by
                    have h1 := congrArg List.length hxs
                    simp only [List.length_map, List.length_take] at h1
                    have := HN.out
                    omega
                  have HXL2 := Aside0.mk hxl
                  have hfit : (xs.length + 1) * 24 ≤ 140737488355328 := by have := HN.out; omega
                  clear hxs hrr hxl
                  go_wp2_with ((with_reducible refine gate_builtin (b := .append) (xs := #[.tmp 51, .tmp 53]) rfl ?_); at_builtin; refine Kd.R_append_rows kdV (w0 := w2) w2.heap.size rfl (.tmp 51) (.tmp 53) 45 22 (.slice none 0 0) 24 rfl Tryd.underlying45 infoV rfl (by decide) (by omega) u8 xs [(⟨(.slice A2 L.length k2), rfl⟩ : OneV)] (some ⟨w3.heap.size, 0, none⟩) 1 1 (fun _ => True) (fun _ => False) (by rfl) (by rfl) (Kd.R_alloc HRR.out _) (lit_V w3 ⟨(.slice A2 L.length k2), rfl⟩) (fun _ _ h => h) (fun _ h => h.elim) (fun _ _ => trivial) (HBN.out.alloc HBN.out.size _) (HBN.out.alloc HBN.out.size _).size hfit ?_; intro v4 w4 ho hb hg hat; have HP3 := Aside0.mk (LRow.grow (ps := ps.take k ++ [((Value.slice A2 L.length k2, L) : Nm)]) (fun p hp => (List.mem_append.1 hp).elim (fun q => (HNP.out p (List.mem_of_mem_take q)).into (HBN.out.alloc HBN.out.size _) (fun b e => (HM3.out.blk b e).1)) (fun q => by rw [List.mem_singleton.1 q]; exact HNQ.out.into (HBN.out.alloc HBN.out.size _) (fun b e => (HM3.out.blk b e).1))) (by rw [List.map_append, HXS.out, List.map_append]; rfl) ho hg hat); have HB3 := Aside0.mk hb; have hcell4 := (HB3.out.cell (p := ⟨g, k, none⟩) hg2).trans ((HBM.out.cell (p := ⟨g, k, none⟩) hg2).symm.trans HCL.out.1); have HB1 := Aside0.mk (HBG.out w4 HB3.out); clear ho hb hg hat)
                  ((refine HB1.out.mono ?_); rintro e w5 ⟨rfl, hd⟩)
                  have HB5 := Aside0.mk (below_then HB3.out HB3.out.size hd.below)
                  have HP5 := Aside0.mk (HP3.out.below hd.below)
                  clear hd hcell4 HB1
                  have HL5 := Aside0.mk (HLR2.out.below HB5.out)
                  have hA6 := HA6.out
                  rw [← HN.out] at HL5 hA6
                  obtain ⟨ys, hys, hyc⟩ := HL5.out.tail (k := k) (by have := HN.out; omega) hA6
                  rw [HN.out] at hyc
                  have HYS := Aside0.mk hys
                  have HYC := Aside0.mk hyc
                  obtain ⟨xs2, hxs2, hrr2⟩ := HP5.out.row
                  have HXS2 := Aside0.mk hxs2
                  have HRR2 := Aside0.mk hrr2
                  have hfit2 : (xs2.length + (n - (k))) * 24 ≤ 140737488355328 := (by have h1 := congrArg List.length hxs2; simp only [List.length_map, List.length_append, List.length_take] at h1; have := HN.out; have h2 : [((Value.slice A2 L.length k2, L) : Nm)].length = 1 := rfl; omega)
                  clear hys hyc hxs2 hrr2
                  go_wp2_with ((with_reducible refine gate_builtin (b := .append) (xs := #[.tmp 70, .tmp 73]) rfl ?_); at_builtin; refine Kd.R_append_rows kdV (w0 := w2) w2.heap.size rfl (.tmp 70) (.tmp 73) 45 22 (.slice none 0 0) 24 rfl Tryd.underlying45 infoV rfl (by decide) (by omega) v4 xs2 ys A6 (n - (k)) (c4 - (k)) (fun _ => True) (fun _ => False) (by rfl) (by rfl) HRR2.out HYC.out (fun _ _ h => h) (fun _ h => h.elim) (fun _ _ => trivial) HB5.out HB5.out.size hfit2 ?_; intro v6 w6 ho hb hg hat; have HP6 := Aside0.mk (LRow.grow (ps := ps.take k ++ [((Value.slice A2 L.length k2, L) : Nm)] ++ ps.drop (k)) (fun p hp => (List.mem_append.1 hp).elim (fun q => (HP5.out.names p q)) (fun q => (HNP.out p (List.mem_of_mem_drop q)).into HB5.out (fun b e => (HP5.out.blk b e).1))) (by rw [List.map_append, HXS2.out, HYS.out]; simp only [List.map_append]) ho hg hat); have HB6 := Aside0.mk hb; clear ho hb hg hat)
                  go_roundg k1
                  case measure => omega
                  case rel =>
                    have hmap : (ps.take k ++ [((Value.slice A2 L.length k2, L) : Nm)] ++ ps.drop (k)).map (fun p => p.2) = (ps.map (fun p => p.2)).take k ++ [L] ++ (ps.map (fun p => p.2)).drop (k) := by simp only [List.map_append, List.map_take, List.map_drop]; rfl
                    have hlt1 : ∀ x ∈ (ps.map (fun p => p.2)).take k, nl x < nl L := by
                      intro x hx
                      rw [← List.map_take] at hx
                      obtain ⟨p, hp, e⟩ := List.mem_map.1 hx
                      rw [← e]
                      exact HLT.out p hp
                    obtain ⟨hfst, hfme⟩ := ins_ahead HST.out k hlt1 (fun x hx => by rw [List.getElem?_map, HP.out] at hx; obtain rfl := Option.some.inj hx; exact hcm2)
                    refine ⟨i + 1, _, by go_num, by have := HK.out; omega, by have := HK.out; omega, ⟨HP6.out.base HB2.out.size⟩, ⟨by rw [hmap]; exact hfst⟩, ⟨fun x => ?_⟩, ⟨?_⟩, ⟨?_⟩, ⟨HB2.out.trans (HB6.out.mono HB2.out.size)⟩⟩
                    · rw [hmap, hfme x, HME.out x, HXL.out.2.2.2, List.map_append, List.mem_append]
                      constructor
                      · rintro (h | h)
                        · exact .inr (by rw [h]; show L ∈ [(splitOut _).1]; rw [HXL.out.1]; exact List.mem_singleton.2 rfl)
                        · exact .inl h
                      · rintro (h | h)
                        · exact .inr h
                        · exact .inl (by have h : x ∈ [(splitOut _).1] := h; rw [HXL.out.1] at h; exact List.mem_singleton.1 h)
                    · have := HPI.out
                      have := HN.out
                      have h2 : [((Value.slice A2 L.length k2, L) : Nm)].length = 1 := rfl
                      rw [List.length_append, List.length_append, List.length_take, List.length_drop, h2]
                      omega
                    · rw [HXL.out.2.2.2]
                      intro p hp
                      rcases List.mem_append.1 hp with e | e
                      · exact HAS.out p e
                      · rw [List.mem_singleton.1 e, HXL.out.1]
                · rw [decide_eq_false hcm2] at HBG
                  have heq : lp = L := by
                    rcases nl_tri (nl lp) (nl L) with h | h | h
                    · exact absurd h hcmp
                    · exact nl_inj h
                    · exact absurd h hcm2
                  have HEQ := Aside0.mk heq
                  clear heq
                  have hcut := slice_any (some ⟨g, 0, none⟩) n c4 (k + 1) (by omega) HC4.out
                  obtain ⟨A6, hA6, hct⟩ := hcut
                  have HA6 := Aside0.mk hA6
                  clear hA6
                  have hct : ∀ W : World, (Instr.slice 45 (.slice (some ⟨g, 0, none⟩) n c4) (some (.int .i64 ((k : Int) + 1))) none none).run Tryd.prog W = .ok (.slice A6 (n - (k + 1)) (c4 - (k + 1))) W := hct
                  go_wp2_with fail
                  ((refine HB0.out.mono ?_); rintro e w3 ⟨rfl, hd⟩)
                  have HBN := Aside0.mk (below_then HBM.out HBM.out.size hd.below)
                  have HM3 := Aside0.mk (HM.out.below hd.below)
                  clear hd hcell HB0
                  obtain ⟨xs, hxs, hrr⟩ := HM3.out.row
                  have HXS := Aside0.mk hxs
                  have HRR := Aside0.mk hrr
                  have hxl : xs.length = k := by
                    have h1 := congrArg List.length hxs
                    simp only [List.length_map, List.length_take] at h1
                    have := HN.out
                    omega
                  have HXL2 := Aside0.mk hxl
                  have hfit : (xs.length + 1) * 24 ≤ 140737488355328 := by have := HN.out; omega
                  clear hxs hrr hxl
                  go_wp2_with ((with_reducible refine gate_builtin (b := .append) (xs := #[.tmp 51, .tmp 53]) rfl ?_); at_builtin; refine Kd.R_append_rows kdV (w0 := w2) w2.heap.size rfl (.tmp 51) (.tmp 53) 45 22 (.slice none 0 0) 24 rfl Tryd.underlying45 infoV rfl (by decide) (by omega) u8 xs [(⟨(.slice A2 L.length k2), rfl⟩ : OneV)] (some ⟨w3.heap.size, 0, none⟩) 1 1 (fun _ => True) (fun _ => False) (by rfl) (by rfl) (Kd.R_alloc HRR.out _) (lit_V w3 ⟨(.slice A2 L.length k2), rfl⟩) (fun _ _ h => h) (fun _ h => h.elim) (fun _ _ => trivial) (HBN.out.alloc HBN.out.size _) (HBN.out.alloc HBN.out.size _).size hfit ?_; intro v4 w4 ho hb hg hat; have HP3 := Aside0.mk (LRow.grow (ps := ps.take k ++ [((Value.slice A2 L.length k2, L) : Nm)]) (fun p hp => (List.mem_append.1 hp).elim (fun q => (HNP.out p (List.mem_of_mem_take q)).into (HBN.out.alloc HBN.out.size _) (fun b e => (HM3.out.blk b e).1)) (fun q => by rw [List.mem_singleton.1 q]; exact HNQ.out.into (HBN.out.alloc HBN.out.size _) (fun b e => (HM3.out.blk b e).1))) (by rw [List.map_append, HXS.out, List.map_append]; rfl) ho hg hat); have HB3 := Aside0.mk hb; have hcell4 := (HB3.out.cell (p := ⟨g, k, none⟩) hg2).trans ((HBM.out.cell (p := ⟨g, k, none⟩) hg2).symm.trans HCL.out.1); have HB1 := Aside0.mk (HBG.out w4 HB3.out); clear ho hb hg hat)
                  ((refine HB1.out.mono ?_); rintro e w5 ⟨rfl, hd⟩)
                  have HB5 := Aside0.mk (below_then HB3.out HB3.out.size hd.below)
                  have HP5 := Aside0.mk (HP3.out.below hd.below)
                  clear hd hcell4 HB1
                  have HL5 := Aside0.mk (HLR2.out.below HB5.out)
                  have hA6 := HA6.out
                  rw [← HN.out] at HL5 hA6
                  obtain ⟨ys, hys, hyc⟩ := HL5.out.tail (k := k + 1) (by have := HN.out; omega) hA6
                  rw [HN.out] at hyc
                  have HYS := Aside0.mk hys
                  have HYC := Aside0.mk hyc
                  obtain ⟨xs2, hxs2, hrr2⟩ := HP5.out.row
                  have HXS2 := Aside0.mk hxs2
                  have HRR2 := Aside0.mk hrr2
                  have hfit2 : (xs2.length + (n - (k + 1))) * 24 ≤ 140737488355328 := (by have h1 := congrArg List.length hxs2; simp only [List.length_map, List.length_append, List.length_take] at h1; have := HN.out; have h2 : [((Value.slice A2 L.length k2, L) : Nm)].length = 1 := rfl; omega)
                  clear hys hyc hxs2 hrr2
                  go_wp2_with ((with_reducible refine gate_builtin (b := .append) (xs := #[.tmp 70, .tmp 73]) rfl ?_); at_builtin; refine Kd.R_append_rows kdV (w0 := w2) w2.heap.size rfl (.tmp 70) (.tmp 73) 45 22 (.slice none 0 0) 24 rfl Tryd.underlying45 infoV rfl (by decide) (by omega) v4 xs2 ys A6 (n - (k + 1)) (c4 - (k + 1)) (fun _ => True) (fun _ => False) (by rfl) (by rfl) HRR2.out HYC.out (fun _ _ h => h) (fun _ h => h.elim) (fun _ _ => trivial) HB5.out HB5.out.size hfit2 ?_; intro v6 w6 ho hb hg hat; have HP6 := Aside0.mk (LRow.grow (ps := ps.take k ++ [((Value.slice A2 L.length k2, L) : Nm)] ++ ps.drop (k + 1)) (fun p hp => (List.mem_append.1 hp).elim (fun q => (HP5.out.names p q)) (fun q => (HNP.out p (List.mem_of_mem_drop q)).into HB5.out (fun b e => (HP5.out.blk b e).1))) (by rw [List.map_append, HXS2.out, HYS.out]; simp only [List.map_append]) ho hg hat); have HB6 := Aside0.mk hb; clear ho hb hg hat)
                  go_roundg k1
                  case measure => omega
                  case rel =>
                    have hmap : (ps.take k ++ [((Value.slice A2 L.length k2, L) : Nm)] ++ ps.drop (k + 1)).map (fun p => p.2) = (ps.map (fun p => p.2)).take k ++ [L] ++ (ps.map (fun p => p.2)).drop (k + 1) := by simp only [List.map_append, List.map_take, List.map_drop]; rfl
                    have hlt1 : ∀ x ∈ (ps.map (fun p => p.2)).take k, nl x < nl L := by
                      intro x hx
                      rw [← List.map_take] at hx
                      obtain ⟨p, hp, e⟩ := List.mem_map.1 hx
                      rw [← e]
                      exact HLT.out p hp
                    have hsame : (ps.map (fun p => p.2)).take k ++ [L] ++ (ps.map (fun p => p.2)).drop (k + 1) = ps.map (fun p => p.2) := ins_same HST.out k (by rw [List.getElem?_map, HP.out]; exact congrArg some HEQ.out)
                    have hfst : Strict ((ps.map (fun p => p.2)).take k ++ [L] ++ (ps.map (fun p => p.2)).drop (k + 1)) := by rw [hsame]; exact HST.out
                    have hfme : ∀ x, x ∈ (ps.map (fun p => p.2)).take k ++ [L] ++ (ps.map (fun p => p.2)).drop (k + 1) ↔ x = L ∨ x ∈ ps.map (fun p => p.2) := by
                      intro x
                      rw [hsame]
                      refine ⟨.inr, fun q => q.elim (fun q => ?_) id⟩
                      rw [q, ← HEQ.out]
                      exact List.mem_map_of_mem (f := fun p : Nm => p.2) (List.mem_of_getElem? HP.out)
                    refine ⟨i + 1, _, by go_num, by have := HK.out; omega, by have := HK.out; omega, ⟨HP6.out.base HB2.out.size⟩, ⟨by rw [hmap]; exact hfst⟩, ⟨fun x => ?_⟩, ⟨?_⟩, ⟨?_⟩, ⟨HB2.out.trans (HB6.out.mono HB2.out.size)⟩⟩
                    · rw [hmap, hfme x, HME.out x, HXL.out.2.2.2, List.map_append, List.mem_append]
                      constructor
                      · rintro (h | h)
                        · exact .inr (by rw [h]; show L ∈ [(splitOut _).1]; rw [HXL.out.1]; exact List.mem_singleton.2 rfl)
                        · exact .inl h
                      · rintro (h | h)
                        · exact .inr h
                        · exact .inl (by have h : x ∈ [(splitOut _).1] := h; rw [HXL.out.1] at h; exact List.mem_singleton.1 h)
                    · have := HPI.out
                      have := HN.out
                      have h2 : [((Value.slice A2 L.length k2, L) : Nm)].length = 1 := rfl
                      rw [List.length_append, List.length_append, List.length_take, List.length_drop, h2]
                      omega
                    · rw [HXL.out.2.2.2]
                      intro p hp
                      rcases List.mem_append.1 hp with e | e
                      · exact HAS.out p e
                      · rw [List.mem_singleton.1 e, HXL.out.1]
            · have hkn : k = n := by omega
              have e0 : decide ((k : Int) < (n : Int)) = false := decide_eq_false (by omega)
              have e0n : decide (k < n) = false := decide_eq_false hkl
              have HKN := Aside0.mk hkn
              have hcut := slice_any A4 n c4 (k) (by omega) HC4.out
              obtain ⟨A6, hA6, hct⟩ := hcut
              have HA6 := Aside0.mk hA6
              clear hA6
              have HKX := Aside0.mk hkn
              clear hkn hkl hk hkq
              have HBN := HBM
              rename World => w3
              have HM3 := HM
              obtain ⟨xs, hxs, hrr⟩ := HM3.out.row
              have HXS := Aside0.mk hxs
              have HRR := Aside0.mk hrr
              have hxl : xs.length = k := by
                have h1 := congrArg List.length hxs
                simp only [List.length_map, List.length_take] at h1
                have := HN.out; have := HKX.out
                omega
              have HXL2 := Aside0.mk hxl
              have hfit : (xs.length + 1) * 24 ≤ 140737488355328 := by have := HN.out; have := HKX.out; omega
              clear hxs hrr hxl
              go_wp2_with (first | ((with_reducible refine gate_builtin (b := .append) (xs := #[.tmp 51, .tmp 53]) rfl ?_); at_builtin; refine Kd.R_append_rows kdV (w0 := w2) w2.heap.size rfl (.tmp 51) (.tmp 53) 45 22 (.slice none 0 0) 24 rfl Tryd.underlying45 infoV rfl (by decide) (by omega) u8 xs [(⟨(.slice A2 L.length k2), rfl⟩ : OneV)] (some ⟨w3.heap.size, 0, none⟩) 1 1 (fun _ => True) (fun _ => False) (by rfl) (by rfl) (Kd.R_alloc HRR.out _) (lit_V w3 ⟨(.slice A2 L.length k2), rfl⟩) (fun _ _ h => h) (fun _ h => h.elim) (fun _ _ => trivial) (HBN.out.alloc HBN.out.size _) (HBN.out.alloc HBN.out.size _).size hfit ?_; intro v4 w4 ho hb hg hat; have HP3 := Aside0.mk (LRow.grow (ps := ps.take k ++ [((Value.slice A2 L.length k2, L) : Nm)]) (fun p hp => (List.mem_append.1 hp).elim (fun q => (HNP.out p (List.mem_of_mem_take q)).into (HBN.out.alloc HBN.out.size _) (fun b e => (HM3.out.blk b e).1)) (fun q => by rw [List.mem_singleton.1 q]; exact HNQ.out.into (HBN.out.alloc HBN.out.size _) (fun b e => (HM3.out.blk b e).1))) (by rw [List.map_append, HXS.out, List.map_append]; rfl) ho hg hat); have HB3 := Aside0.mk hb; clear ho hb hg hat; have HB5 := HB3; have HP5 := HP3; have HL5 := Aside0.mk (HLR2.out.below HB5.out); have hA6 := HA6.out; rw [← HN.out] at HL5 hA6; (obtain ⟨ys, hys, hyc⟩ := HL5.out.tail (k := k) (by have := HN.out; have := HKX.out; have := HKX.out; omega) hA6); rw [HN.out] at hyc; have HYS := Aside0.mk hys; have HYC := Aside0.mk hyc; (obtain ⟨xs2, hxs2, hrr2⟩ := HP5.out.row); have HXS2 := Aside0.mk hxs2; have HRR2 := Aside0.mk hrr2; have hfit2 : (xs2.length + (n - (k))) * 24 ≤ 140737488355328 := (by have h1 := congrArg List.length hxs2; simp only [List.length_map, List.length_append, List.length_take] at h1; have := HN.out; have := HKX.out; have := HKX.out; have h2 : [((Value.slice A2 L.length k2, L) : Nm)].length = 1 := rfl; omega); clear hys hyc hxs2 hrr2) | ((with_reducible refine gate_builtin (b := .append) (xs := #[.tmp 70, .tmp 73]) rfl ?_); at_builtin; refine Kd.R_append_rows kdV (w0 := w2) w2.heap.size rfl (.tmp 70) (.tmp 73) 45 22 (.slice none 0 0) 24 rfl Tryd.underlying45 infoV rfl (by decide) (by omega) v4 xs2 ys A6 (n - (k)) (c4 - (k)) (fun _ => True) (fun _ => False) (by rfl) (by rfl) HRR2.out HYC.out (fun _ _ h => h) (fun _ h => h.elim) (fun _ _ => trivial) HB5.out HB5.out.size hfit2 ?_; intro v6 w6 ho hb hg hat; have HP6 := Aside0.mk (LRow.grow (ps := ps.take k ++ [((Value.slice A2 L.length k2, L) : Nm)] ++ ps.drop (k)) (fun p hp => (List.mem_append.1 hp).elim (fun q => (HP5.out.names p q)) (fun q => (HNP.out p (List.mem_of_mem_drop q)).into HB5.out (fun b e => (HP5.out.blk b e).1))) (by rw [List.map_append, HXS2.out, HYS.out]; simp only [List.map_append]) ho hg hat); have HB6 := Aside0.mk hb; clear ho hb hg hat))
              go_roundg k1
              case measure => omega
              case rel =>
                have hmap : (ps.take k ++ [((Value.slice A2 L.length k2, L) : Nm)] ++ ps.drop (k)).map (fun p => p.2) = (ps.map (fun p => p.2)).take k ++ [L] ++ (ps.map (fun p => p.2)).drop (k) := by simp only [List.map_append, List.map_take, List.map_drop]; rfl
                have hlt1 : ∀ x ∈ (ps.map (fun p => p.2)).take k, nl x < nl L := by
                  intro x hx
                  rw [← List.map_take] at hx
                  obtain ⟨p, hp, e⟩ := List.mem_map.1 hx
                  rw [← e]
                  exact HLT.out p hp
                obtain ⟨hfst, hfme⟩ := ins_ahead HST.out k hlt1 (fun x hx => by rw [List.getElem?_map, List.getElem?_eq_none (by have := HN.out; have := HKX.out; omega)] at hx; cases hx)
                refine ⟨i + 1, _, by go_num, by have := HK.out; omega, by have := HK.out; omega, ⟨HP6.out.base HB2.out.size⟩, ⟨by rw [hmap]; exact hfst⟩, ⟨fun x => ?_⟩, ⟨?_⟩, ⟨?_⟩, ⟨HB2.out.trans (HB6.out.mono HB2.out.size)⟩⟩
                · rw [hmap, hfme x, HME.out x, HXL.out.2.2.2, List.map_append, List.mem_append]
                  constructor
                  · rintro (h | h)
                    · exact .inr (by rw [h]; show L ∈ [(splitOut _).1]; rw [HXL.out.1]; exact List.mem_singleton.2 rfl)
                    · exact .inl h
                  · rintro (h | h)
                    · exact .inr h
                    · exact .inl (by have h : x ∈ [(splitOut _).1] := h; rw [HXL.out.1] at h; exact List.mem_singleton.1 h)
                · have := HPI.out
                  have := HN.out; have := HKX.out
                  have h2 : [((Value.slice A2 L.length k2, L) : Nm)].length = 1 := rfl
                  rw [List.length_append, List.length_append, List.length_take, List.length_drop, h2]
                  omega
                · rw [HXL.out.2.2.2]
                  intro p hp
                  rcases List.mem_append.1 hp with e | e
                  · exact HAS.out p e
                  · rw [List.mem_singleton.1 e, HXL.out.1]
    · obtain rfl : i = l.length := by omega
      have hall : AllSplit l := by have h := HAS.out; rw [List.take_length] at h; exact h
      have hme : ∀ x, x ∈ ps.map (fun p => p.2) ↔ x ∈ l.map (fun p => (splitOut p).1) := by have h := HME.out; rw [List.take_length] at h; exact h
      have HOR : Aside0 (OrderOf l (ps.map (fun q => q.2))) := ⟨⟨HST.out, hme, by rw [List.length_map]; exact HPI.out⟩⟩
      have HALL := Aside0.mk hall
      have d0 : decide ((l.length : Int) < (l.length : Int)) = false := decide_eq_false (by omega)
      obtain ⟨A4, c4, e4, hc4⟩ := HLR.out.slice
      subst e4
      obtain ⟨n, hn⟩ : ∃ n, ps.length = n := ⟨_, rfl⟩
      have HN := Aside0.mk hn
      have hnb : n ≤ 1048576 := by have := HPI.out; have := HL.out; omega
      rw [hn] at HLR ⊢
      rename World => w3
      clear hall hme hn hc4
      go_wp2_with fail
      clear d0
      go_loopg [10, 11] n (fun kq v10 v11 w' => ∃ i : Nat, v11 = .int .i64 (i : Int) ∧ i ≤ n ∧ n - i ≤ kq ∧ Aside0 (Kd.R Kd.string 9 w' w3.heap.size (fun _ => True) v10 ((ps.take i).map fun p => (joinOut p.2).1)) ∧ Aside0 (Below w3.heap.size w3 w'))
      case atStart => exact ⟨0, rfl, by omega, by omega, ⟨texts_nil _ _⟩, ⟨Below.refl _ _⟩⟩
      case round =>
        obtain ⟨i, rfl, hi, hkq2, HOUT, HBW⟩ := hrel
        by_cases hlt2 : i < n
        · cases gk with
          | zero => omega
          | succ g1 =>
            obtain ⟨⟨vp, lp⟩, hp⟩ : ∃ p, ps[i]? = some p := ⟨_, List.getElem?_eq_getElem (by rw [HN.out]; exact hlt2)⟩
            have hpm := List.mem_of_getElem? hp
            obtain ⟨g, hA4, hcell⟩ := LRow.at (HLR.out.below HBW.out) hp
            obtain ⟨Ap, cp, ep, hp1, hp2, hp3, hp4⟩ := HLR.out.names _ hpm
            simp only at ep hp1 hp2 hp3 hp4
            subst hA4
            subst ep
            simp only at hcell
            have HJ := Aside0.mk (skerryref16_Join.calls 60 Ap cp lp (joinOut lp).1 (joinOut lp).2 wr (Kd.C_below hp3 HBW.out) hp1 (rjoin_is lp 60 (by decide)))
            obtain ⟨⟨jp, je⟩, hjp⟩ : ∃ z, joinOut lp = z := ⟨_, rfl⟩
            rw [hjp] at HJ
            have htk : (ps.take (i + 1)).map (fun p => (joinOut p.2).1) = (ps.take i).map (fun p => (joinOut p.2).1) ++ [jp] := by
              rw [List.take_add_one, hp, List.map_append]
              show _ ++ [(joinOut lp).1] = _
              rw [hjp]
            have HTK := Aside0.mk htk
            have hw1 : wrap64 ((i : Int) + 1) = (i : Int) + 1 := w64 (by omega) (by omega)
            have d1 : decide ((i : Int) < (n : Int)) = true := decide_eq_true (by omega)
            have d1n : decide (i < n) = true := decide_eq_true hlt2
            have p0 : (0 : Int) ≤ (i : Int) := by omega
            have p1 : (i : Int) < (n : Int) := by omega
            have HK2 := Aside0.mk (And.intro hlt2 hkq2)
            clear hp hpm hp1 hp2 hp3 hp4 hjp htk hi hkq2
            go_wp2_with fail
            ((refine HJ.out.mono ?_); rintro e w4 ⟨rfl, hb⟩)
            have HO4 := Aside0.mk (texts_below HOUT.out hb (Nat.le_refl _))
            have HB4 := Aside0.mk (below_then HBW.out HBW.out.size hb)
            clear hb HJ hcell
            obtain ⟨T, hT⟩ : ∃ T, (ps.take i).map (fun p => (joinOut p.2).1) = T := ⟨_, rfl⟩
            have hfit : (T.length + 1) * 16 ≤ 140737488355328 := by
              rw [← hT, List.length_map, List.length_take]
              omega
            rw [hT] at HO4
            have HTE := Aside0.mk hT
            clear hT
            go_wp2_with ((with_reducible refine gate_builtin (b := .append) (xs := #[.tmp 89, .tmp 91]) rfl ?_); at_builtin; refine Kd.R_append_rows Kd.string (w0 := w3) w3.heap.size rfl (.tmp 89) (.tmp 91) 22 9 (.string ⟨#[]⟩) 16 rfl Tryd.underlying22 info9 rfl (by decide) (by omega) u10 T [jp] (some ⟨w4.heap.size, 0, none⟩) 1 1 (fun _ => True) (fun _ => False) (by rfl) (by rfl) (Kd.R_alloc HO4.out _) (lit_C1 w4 jp) (fun _ _ h => h) (fun _ h => h.elim) (fun _ _ => trivial) (HB4.out.alloc HB4.out.size _) (HB4.out.alloc HB4.out.size _).size hfit ?_; intro v5 w5 ho hb hg hat; have HO5 := Aside0.mk ho; have HB5 := Aside0.mk hb; clear ho hb hg hat)
            go_roundg g1
            case measure => omega
            case rel =>
              refine ⟨i + 1, by go_num, by have := HK2.out; omega, by have := HK2.out; omega, ⟨?_⟩, HB5⟩
              rw [HTK.out, HTE.out]
              exact HO5.out
        · obtain rfl : i = n := by omega
          have d1 : decide ((i : Int) < (i : Int)) = false := decide_eq_false (by omega)
          have ho := HOUT.out
          rw [List.take_of_length_le (by have := HN.out; omega)] at ho
          have HFIN := Aside0.mk (texts_below ho (Below.refl _ _) (show w.heap.size ≤ w3.heap.size from HB.out.size))
          have HBF := Aside0.mk (HB.out.trans (HBW.out.mono HB.out.size))
          clear ho
          go_wp2
          go_ret2
          refine ⟨.inr ⟨HALL.out, _, _, HOR.out, rfl, ?_⟩, HBF.out⟩
          rw [List.map_map]
          exact HFIN.out
end Go.Proofs.YtdihhdmndjjknaaDoor.Walk
