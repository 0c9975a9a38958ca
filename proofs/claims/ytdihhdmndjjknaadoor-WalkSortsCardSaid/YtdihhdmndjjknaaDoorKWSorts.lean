/- The order of paths is one of them all, each once: the walk of the law WalkSorts. -/
import Derived.Test.YtdihhdmndjjknaaDoorKWOrder
import Derived.Test.YtdihhdmndjjknaaDoorKWSortsP
import Derived.Test.YtdihhdmndjjknaaDoorKWAbove
namespace Go.Proofs.YtdihhdmndjjknaaDoor.Walk
open Go.RowKit Go.Shelf Go.Proofs.YtdihhdmndjjknaaDoor.PWalkSorts Go.Proofs.YtdihhdmndjjknaaDoor.Plain Go.Proofs.YtdihhdmndjjknaaDoor.Codec Go.Proofs.YtdihhdmndjjknaaDoorW.PrintWords Go.Proofs.YtdihhdmndjjknaaDoorW.PrintLast Go.Proofs.YtdihhdmndjjknaaDoorW.PrintMore
set_option linter.unusedVariables false
set_option linter.unusedSimpArgs false
def sorts.T34 : Bool × List (List Nat × List Nat) := (true, [([], []), ([], []), ([0, 1], [0, 1]), ([2], [2]), ([], []), ([], []), ([4, 5], [4, 5]), ([6], [6]), ([3, 7], [3, 7]), ([8], [8]), ([9], [9]), ([9], [9]), ([10, 8, 0, 1, 2, 3, 4, 5, 6, 7, 8, 9, 10], [10]), ([11, 12, 0, 1, 2, 3, 4, 5, 6, 7, 8, 9, 10, 11, 12], [11])])
def sorts.B34 : List Nat := [0, 0, 3, 7, 0, 0, 48, 112, 255, 511, 1023, 1023, 2047, 8191]
theorem sorts.tab34 : rtab .any (opsOf Tryd.f7 34) = sorts.T34 := by kernel_rfl
theorem sorts.bits34 : waitsOk sorts.T34.2 sorts.B34 = true := by kernel_rfl
theorem cnt_snoc (p q : ByteArray) (l : List ByteArray) : cntP p (l ++ [q]) = cntP p l + (if q = p then 1 else 0) := by
  induction l with
  | nil => show (if q = p then 1 else 0) + 0 = 0 + _; omega
  | cons x l ih => show (if x = p then 1 else 0) + cntP p (l ++ [q]) = (if x = p then 1 else 0) + cntP p l + _; rw [ih]; omega
set_option maxHeartbeats 8000000 in
set_option maxRecDepth 100000 in
theorem sorts_calls (A : Option Addr) (c : Nat) (l : List ByteArray) (w : World) (hr : Kd.C Kd.string w A l.length l) (hc : l.length ≤ c) (hl : l.length ≤ 9223372036854775807) (hsz : ∀ p ∈ l, p.size ≤ 9223372036854775807) :
    Calls Tryd.prog 7 #[.slice A l.length c] w fun e w' => e = .returned (.bool true) ∧ Below w.heap.size w w' := by
  have HW := Aside0.mk (wakes_calls w)
  by_cases h40 : l.length ≤ 40
  rotate_left
  · have d0 : decide ((40 : Int) < (l.length : Int)) = true := decide_eq_true (by omega)
    have d0n : decide (40 < l.length) = true := decide_eq_true (by omega)
    clear hr hc hl hsz h40
    go_enter Tryd.func7, Tryd.ntmps7
    go_wp2_with fail
    ((refine HW.out.mono ?_); rintro e w1 ⟨rfl, hb⟩)
    have H1 := Aside0.mk hb
    clear hb HW
    go_wp2
    go_ret
    exact ⟨rfl, H1.out⟩
  have d0 : decide ((40 : Int) < (l.length : Int)) = false := decide_eq_false (by omega)
  have d0n : decide (40 < l.length) = false := decide_eq_false (by omega)
  have HR := Aside0.mk hr
  have HC := Aside0.mk hc
  have HL := Aside0.mk h40
  have HSZ := Aside0.mk hsz
  clear hr hc hl hsz h40
  go_enter Tryd.func7, Tryd.ntmps7
  go_wp2_with fail
  ((refine HW.out.mono ?_); rintro e w1 ⟨rfl, hb⟩)
  have H1 := Aside0.mk hb
  have HR1 := Aside0.mk (Kd.C_below HR.out hb)
  clear hb HW
  go_wp2_with fail
  ((refine (order_calls A c l w1 HR1.out (by have := HL.out; omega) HSZ.out).mono ?_); rintro e w2 ⟨ho, hb⟩)
  have H2 := Aside0.mk (below_then H1.out H1.out.size hb)
  have HR2 := Aside0.mk (Kd.C_below HR1.out hb)
  clear hb HR1
  rcases ho with ⟨hno, rfl⟩ | ⟨hall, v, N, hN, rfl, hrow⟩
  · clear hno
    go_wp2
    go_ret
    exact ⟨rfl, H2.out⟩
  · obtain ⟨A2, k2, rfl, hk2, hc2, _⟩ := texts_reads hrow
    have HC2 := Aside0.mk hc2
    have HK2 := Aside0.mk hk2
    have HN := Aside0.mk (And.intro hall hN)
    clear hrow hk2 hc2 hall hN
    have hw0 : wrap64 ((l.length : Int) - 1) = (l.length : Int) - 1 := w64 (by omega) (by have := HL.out; omega)
    have HW0 := Aside0.mk hw0
    go_wp2_with fail
    clear hw0
    go_loopg [6, 5] l.length (fun kq v6 v5 w' => ∃ j : Nat, v6 = .int .i64 ((j : Int) - 1) ∧ j ≤ l.length ∧ j ≤ kq ∧ Aside0 (Kd.R Kd.string 9 w' w2.heap.size (fun _ => True) v5 (l.drop j).reverse) ∧ Aside0 (Below w2.heap.size w2 w'))
    case atStart => exact ⟨l.length, by rw [HW0.out], Nat.le_refl _, Nat.le_refl _, ⟨by rw [List.drop_length]; exact texts_nil _ _⟩, ⟨Below.refl _ _⟩⟩
    case round =>
      obtain ⟨j, rfl, hj, hjk, HOUT, HBW⟩ := hrel
      cases j with
      | succ j =>
        cases gk with
        | zero => omega
        | succ k1 =>
          obtain ⟨ad, hA, hc⟩ := load_str (Kd.C_below HR2.out HBW.out) j (by omega)
          obtain ⟨x, hx⟩ : ∃ x, l.getD j ⟨#[]⟩ = x := ⟨_, rfl⟩
          rw [hx] at hc
          have hgx : l[j]? = some x := by rw [← hx, List.getD_eq_getElem?_getD, List.getElem?_eq_getElem (show j < l.length by omega)]; rfl
          have hdr : (l.drop j).reverse = (l.drop (j + 1)).reverse ++ [x] := by
            have hjl : j < l.length := by omega
            have hxe : l[j] = x := (List.getElem?_eq_some_iff.1 hgx).2
            rw [List.drop_eq_getElem_cons hjl, List.reverse_cons, hxe]
          have e1 : (((j + 1 : Nat) : Int) - 1) = (j : Int) := by omega
          have d1 : decide (0 ≤ (j : Int)) = true := decide_eq_true (by omega)
          have p0 : (0 : Int) ≤ (j : Int) := by omega
          have p1 : (j : Int) < (l.length : Int) := by omega
          have w1' : wrap64 ((j : Int) - 1) = (j : Int) - 1 := w64 (by omega) (by have := HL.out; omega)
          have hfit : ((l.drop (j + 1)).reverse.length + 1) * 16 ≤ 140737488355328 := by rw [List.length_reverse, List.length_drop]; have := HL.out; omega
          have HDR := Aside0.mk hdr
          have HK := Aside0.mk (And.intro hj hjk)
          obtain ⟨T, hT⟩ : ∃ T, (l.drop (j + 1)).reverse = T := ⟨_, rfl⟩
          rw [hT] at HOUT HDR hfit
          rw [e1]
          clear hx hgx hdr hT e1 hj hjk
          subst hA
          go_wp2_with ((with_reducible refine gate_builtin (b := .append) (xs := #[.tmp 44, .tmp 49]) rfl ?_); at_builtin; refine Kd.R_append_rows Kd.string (w0 := w2) w2.heap.size rfl (.tmp 44) (.tmp 49) 22 9 (.string ⟨#[]⟩) 16 rfl Tryd.underlying22 info9 rfl (by decide) (by omega) u5 T [x] (some ⟨wr.heap.size, 0, none⟩) 1 1 (fun _ => True) (fun _ => False) (by rfl) (by rfl) (Kd.R_alloc HOUT.out _) (lit_C1 wr x) (fun _ _ h => h) (fun _ h => h.elim) (fun _ _ => trivial) (HBW.out.alloc HBW.out.size _) (HBW.out.alloc HBW.out.size _).size hfit ?_; intro v3 w3 ho hb hg hat; have HO3 := Aside0.mk ho; have HB3 := Aside0.mk hb; clear ho hb hg hat)
          go_roundg k1
          case measure => omega
          case rel =>
            refine ⟨j, by go_num, by have := HK.out; omega, by have := HK.out; omega, ⟨?_⟩, HB3⟩
            rw [HDR.out]
            exact HO3.out
      | zero =>
        have d1 : decide (0 ≤ ((0 : Nat) : Int) - 1) = false := by decide
        have d2 : decide ((0 : Int) ≤ -1) = false := by decide
        have hob := HOUT.out
        rw [List.drop_zero] at hob
        obtain ⟨AB, kB, rfl, hkB, hcB, _⟩ := texts_reads hob
        rw [List.length_reverse] at hkB
        have hOB := order_calls AB kB l.reverse wr hcB (by rw [List.length_reverse]; have := HL.out; omega) (fun p hp => HSZ.out p (List.mem_reverse.1 hp))
        rw [List.length_reverse] at hOB
        have HOB := Aside0.mk hOB
        have HB3 := Aside0.mk (H2.out.trans (HBW.out.mono H2.out.size))
        have HR3 := Aside0.mk (Kd.C_below HR2.out HBW.out)
        have HC3 := Aside0.mk (Kd.C_below HC2.out HBW.out)
        clear hob hkB hcB hOB HOUT
        go_wp2_with fail
        ((refine HOB.out.mono ?_); rintro e w4 ⟨ho, hb⟩)
        have HB4 := Aside0.mk (below_then HB3.out HB3.out.size hb)
        have HR4 := Aside0.mk (Kd.C_below HR3.out hb)
        have HC4 := Aside0.mk (Kd.C_below HC3.out hb)
        clear hb HOB
        rcases ho with ⟨hno, _⟩ | ⟨_, v4, M, hM, rfl, hrow⟩
        · exact absurd (all_back HN.out.1) hno
        obtain rfl : M = N := order_back HN.out.2 hM
        obtain ⟨A4, k4, rfl, hk4, hc4, _⟩ := texts_reads hrow
        have HM4 := Aside0.mk hc4
        have HK4 := Aside0.mk hk4
        clear hrow hc4 hk4 hM
        have hmn : (M.map fun x => (joinOut x).1).length = M.length := by rw [List.length_map]
        have hN40 : M.length ≤ 40 := Nat.le_trans HN.out.2.len HL.out
        have hON := order_calls A2 k2 (M.map fun x => (joinOut x).1) w4 HC4.out (by rw [hmn]; omega) (fun p hp => by
          obtain ⟨x, hx, e⟩ := List.mem_map.1 hp
          obtain ⟨y, hy, _, h2⟩ := order_join HN.out.2 HN.out.1 hx
          have e : (joinOut x).1 = p := e
          rw [← e, h2]
          exact HSZ.out y hy)
        rw [hmn] at hON
        have HON := Aside0.mk hON
        have HN40 := Aside0.mk hN40
        clear hON hmn hN40
        go_wp2_with fail
        ((refine HON.out.mono ?_); rintro e w5 ⟨ho, hb⟩)
        have HB5 := Aside0.mk (below_then HB4.out HB4.out.size hb)
        have HR5 := Aside0.mk (Kd.C_below HR4.out hb)
        have HC5 := Aside0.mk (Kd.C_below HC4.out hb)
        have HM5 := Aside0.mk (Kd.C_below HM4.out hb)
        clear hb HON
        rcases ho with ⟨hno, _⟩ | ⟨_, v5, N2, hN2, rfl, hrow⟩
        · exact absurd (order_all HN.out.2 HN.out.1) hno
        obtain rfl : N2 = M := hN2.uniq (order_again HN.out.2 HN.out.1)
        obtain ⟨A5, k5, rfl, hk5, hc5, _⟩ := texts_reads hrow
        have HT5 := Aside0.mk hc5
        have HK5 := Aside0.mk hk5
        clear hrow hc5 hk5 hN2
        have hmn : (N2.map fun x => (joinOut x).1).length = N2.length := by rw [List.length_map]
        have hS1 := skerryref01_SameTexts.calls ((N2.map fun x => (joinOut x).1).length + 1) A2 k2 (N2.map fun x => (joinOut x).1) A4 k4 (N2.map fun x => (joinOut x).1) true w5 HC5.out HK2.out HM5.out HK4.out (same_texts _ (by rw [hmn]; have := HN40.out; omega))
        rw [hmn] at hS1
        have HS1 := Aside0.mk hS1
        clear hS1
        go_wp2_with fail
        ((refine HS1.out.mono ?_); rintro e w6 ⟨rfl, hd⟩)
        have HB6 := Aside0.mk (below_then HB5.out HB5.out.size hd.below)
        have HR6 := Aside0.mk (Kd.C_below HR5.out hd.below)
        have HC6 := Aside0.mk (Kd.C_below HC5.out hd.below)
        have hS2 := skerryref01_SameTexts.calls ((N2.map fun x => (joinOut x).1).length + 1) A2 k2 (N2.map fun x => (joinOut x).1) A5 k5 (N2.map fun x => (joinOut x).1) true w6 HC6.out HK2.out (Kd.C_below HT5.out hd.below) HK5.out (same_texts _ (by rw [hmn]; have := HN40.out; omega))
        rw [hmn] at hS2
        have HS2 := Aside0.mk hS2
        have hnl : N2.length ≤ l.length := HN.out.2.len
        have d3 : decide ((l.length : Int) < (N2.length : Int)) = false := decide_eq_false (by omega)
        have d3n : decide (l.length < N2.length) = false := decide_eq_false (by omega)
        clear hS2 hd HS1 hnl
        go_wp2_with fail
        ((refine HS2.out.mono ?_); rintro e w7 ⟨rfl, hd⟩)
        have HB7 := Aside0.mk (below_then HB6.out HB6.out.size hd.below)
        have HR7 := Aside0.mk (Kd.C_below HR6.out hd.below)
        have HC7 := Aside0.mk (Kd.C_below HC6.out hd.below)
        have HMN := Aside0.mk hmn
        clear hd HS2 hmn HR6 HC6 HR5 HC5 HM5 HT5 HR4 HC4 HM4 HR3 HC3 HR2 HC2
        obtain ⟨lx, hlx⟩ : ∃ lx, (N2.map fun x => (joinOut x).1) = lx := ⟨_, rfl⟩
        rw [hlx] at HC7 HMN
        have HLX := Aside0.mk hlx
        clear hlx
        go_wp2_with fail
        obtain ⟨nn, hnn⟩ : ∃ nn, N2.length = nn := ⟨_, rfl⟩
        have HNN := Aside0.mk hnn
        rw [hnn] at HMN HN40 ⊢
        clear hnn d3 d3n
        go_loopg [11] l.length (fun kq v11 w' => ∃ i nd : Nat, v11 = .int .i64 (i : Int) ∧ i ≤ l.length ∧ l.length - i ≤ kq ∧ w' = w7.drewN nd)
        case atStart => exact ⟨0, 0, rfl, by omega, by omega, rfl⟩
        case round =>
          obtain ⟨i, nd, rfl, hi, hiq, rfl⟩ := hrel
          by_cases hil : i < l.length
          · cases gk with
            | zero => omega
            | succ g1 =>
              obtain ⟨ad, hA, hc⟩ := load_str HR7.out i hil
              obtain ⟨p, hp⟩ : ∃ p, l.getD i ⟨#[]⟩ = p := ⟨_, rfl⟩
              rw [hp] at hc
              have d1 : decide ((i : Int) < (l.length : Int)) = true := decide_eq_true (by omega)
              have d1n : decide (i < l.length) = true := decide_eq_true hil
              have hpm : p ∈ l := by rw [← hp, List.getD_eq_getElem?_getD, List.getElem?_eq_getElem hil]; exact List.getElem_mem hil
              have HON1 : Aside0 (cntP p lx = 1) := ⟨by rw [← HLX.out]; exact order_once HN.out.2 HN.out.1 hpm⟩
              have HKI := Aside0.mk (And.intro hil hiq)
              have q0 : (0 : Int) ≤ (i : Int) := by omega
              have q1 : (i : Int) < (l.length : Int) := by omega
              have wi : wrap64 ((i : Int) + 1) = (i : Int) + 1 := w64 (by omega) (by have := HL.out; omega)
              subst hA
              clear hp hpm hi hiq
              go_wp2_with fail
              go_loopg [12, 13] nn (fun kq v12 v13 w' => ∃ k cn nd2 : Nat, v12 = .int .i64 (cn : Int) ∧ v13 = .int .i64 (k : Int) ∧ k ≤ nn ∧ nn - k ≤ kq ∧ cn ≤ k ∧ Aside0 (cn = cntP p (lx.take k)) ∧ w' = w7.drewN nd2)
              case atStart => exact ⟨0, 0, nd, rfl, rfl, by omega, by omega, Nat.le_refl _, ⟨rfl⟩, rfl⟩
              case round =>
                obtain ⟨k, cn, nd2, rfl, rfl, hk, hkq2, hck, HCN, rfl⟩ := hrel
                by_cases hkl : k < nn
                · cases gk with
                  | zero => omega
                  | succ g2 =>
                    obtain ⟨ad2, hA2, hc2⟩ := load_str HC7.out k (by rw [HMN.out]; exact hkl)
                    obtain ⟨x, hx⟩ : ∃ x, lx.getD k ⟨#[]⟩ = x := ⟨_, rfl⟩
                    rw [hx] at hc2
                    have htk : lx.take (k + 1) = lx.take k ++ [x] := by
                      have hkx : k < lx.length := by rw [HMN.out]; exact hkl
                      rw [List.take_add_one, ← hx, List.getD_eq_getElem?_getD, List.getElem?_eq_getElem hkx]
                      rfl
                    have HTK := Aside0.mk htk
                    have e1 : decide ((k : Int) < (nn : Int)) = true := decide_eq_true (by omega)
                    have e1n : decide (k < nn) = true := decide_eq_true hkl
                    have r0 : (0 : Int) ≤ (k : Int) := by omega
                    have r1 : (k : Int) < (nn : Int) := by omega
                    have wk : wrap64 ((k : Int) + 1) = (k : Int) + 1 := w64 (by omega) (by have := HN40.out; omega)
                    have wc : wrap64 ((cn : Int) + 1) = (cn : Int) + 1 := w64 (by omega) (by have := HN40.out; omega)
                    have HKK := Aside0.mk (And.intro hkl (And.intro hkq2 hck))
                    clear hx htk hk hkq2 hck
                    subst hA2
                    by_cases hxp : x = p
                    · have b1 : (x.toList == p.toList) = true := by rw [hxp]; exact beq_iff_eq.2 rfl
                      have HXP := Aside0.mk hxp
                      clear hxp
                      go_wp2_with fail
                      go_quiet (fail)
                      go_wp2
                      go_roundg g2
                      case measure => omega
                      case rel =>
                        refine ⟨k + 1, cn + 1, nd2 + nq, by go_num, by go_num, by have := HKK.out; omega, by have := HKK.out; omega, by have := HKK.out; omega, ⟨?_⟩, rfl⟩
                        rw [HTK.out, cnt_snoc, if_pos HXP.out, HCN.out]
                    · have b1 : (x.toList == p.toList) = false := beq_eq_false_iff_ne.2 fun q => hxp (str_eq q)
                      have HXP := Aside0.mk hxp
                      clear hxp
                      go_wp2_with fail
                      go_quiet (fail)
                      go_wp2
                      go_roundg g2
                      case measure => omega
                      case rel =>
                        refine ⟨k + 1, cn, nd2 + nq, by go_num, by go_num, by have := HKK.out; omega, by have := HKK.out; omega, by have := HKK.out; omega, ⟨?_⟩, rfl⟩
                        rw [HTK.out, cnt_snoc, if_neg HXP.out, HCN.out, Nat.add_zero]
                · obtain rfl : k = nn := by omega
                  have hcn : cn = 1 := by
                    have h := HCN.out
                    rw [← HMN.out, List.take_length, HON1.out] at h
                    exact h
                  subst hcn
                  have e1 : decide ((k : Int) < (k : Int)) = false := decide_eq_false (by omega)
                  go_wp2
                  go_roundg g1
                  case measure => omega
                  case rel => exact ⟨i + 1, nd2, by go_num, by have := HKI.out; omega, by have := HKI.out; omega, rfl⟩
          · obtain rfl : i = l.length := by omega
            have e1 : decide ((l.length : Int) < (l.length : Int)) = false := decide_eq_false (by omega)
            go_wp2_with fail
            clear e1 hi hiq hil
            go_loopg [14] nn (fun kq v14 w' => ∃ i : Nat, v14 = .int .i64 (i : Int) ∧ i ≤ nn ∧ nn - i ≤ kq ∧ Aside0 (Below w7.heap.size w7 w'))
            case atStart => exact ⟨0, rfl, by omega, by omega, ⟨pw_below_drewN (Below.refl _ _) nd⟩⟩
            case round =>
              obtain ⟨i, rfl, hi, hiq, HBV0⟩ := hrel
              by_cases hil : i < nn
              · cases gk with
                | zero => omega
                | succ g1 =>
                  have e1 : decide ((i : Int) < (nn : Int)) = true := decide_eq_true (by omega)
                  have e1n : decide (i < nn) = true := decide_eq_true hil
                  have wi : wrap64 ((i : Int) + 1) = (i : Int) + 1 := w64 (by omega) (by have := HN40.out; omega)
                  have r0 : (0 : Int) ≤ (i : Int) := by omega
                  have r1 : (i : Int) < (nn : Int) := by omega
                  have HKI := Aside0.mk (And.intro hil hiq)
                  clear hi hiq
                  go_wp2_with fail
                  go_loopg [15] nn (fun kq v15 w' => ∃ k : Nat, v15 = .int .i64 (k : Int) ∧ i < k ∧ k ≤ nn ∧ nn - k ≤ kq ∧ Aside0 (Below w7.heap.size w7 w'))
                  case atStart => exact ⟨i + 1, by go_num, by omega, by omega, by omega, HBV0⟩
                  case round =>
                    obtain ⟨k, rfl, hik, hk, hkq2, HBV⟩ := hrel
                    by_cases hkl : k < nn
                    rotate_left
                    · obtain rfl : k = nn := by omega
                      have e2 : decide ((k : Int) < (k : Int)) = false := decide_eq_false (by omega)
                      go_wp2
                      go_roundg g1
                      case measure => omega
                      case rel => exact ⟨i + 1, by go_num, by have := HKI.out; omega, by have := HKI.out; omega, HBV⟩
                    cases gk with
                    | zero => omega
                    | succ g2 =>
                    obtain ⟨ad1, hA, hck⟩ := load_str (Kd.C_below HC7.out HBV.out) k (by rw [HMN.out]; exact hkl)
                    obtain ⟨ad2, hA2, hci⟩ := load_str (Kd.C_below HC7.out HBV.out) i (by rw [HMN.out]; omega)
                    obtain rfl : ad1 = ad2 := by rw [hA] at hA2; exact Option.some.inj hA2
                    obtain ⟨y, hy⟩ : ∃ y, lx.getD k ⟨#[]⟩ = y := ⟨_, rfl⟩
                    obtain ⟨x, hx⟩ : ∃ x, lx.getD i ⟨#[]⟩ = x := ⟨_, rfl⟩
                    rw [hy] at hck
                    rw [hx] at hci
                    have HAB : Aside0 (∀ W, Calls Tryd.prog 16 #[.string y, .string x] W fun e w' => e = .returned (.tuple #[.bool false, .int .i64 0]) ∧ Below W.heap.size W w') := ⟨by
                      have hki : i < N2.length := by rw [HNN.out]; omega
                      have hkk : k < N2.length := by rw [HNN.out]; exact hkl
                      have ex : (joinOut N2[i]).1 = x := by rw [← hx, ← HLX.out, List.getD_eq_getElem?_getD, List.getElem?_map, List.getElem?_eq_getElem hki]; rfl
                      have ey : (joinOut N2[k]).1 = y := by rw [← hy, ← HLX.out, List.getD_eq_getElem?_getD, List.getElem?_map, List.getElem?_eq_getElem hkk]; rfl
                      have h := order_above HN.out.2 HN.out.1 (List.getElem?_eq_getElem hki) (List.getElem?_eq_getElem hkk) hik
                      rw [ex, ey] at h
                      have h : aboveOut y x = (false, 0) := h
                      obtain ⟨z1, hz1, _, hq1⟩ := order_join HN.out.2 HN.out.1 (List.getElem_mem hki)
                      obtain ⟨z2, hz2, _, hq2⟩ := order_join HN.out.2 HN.out.1 (List.getElem_mem hkk)
                      intro W
                      have hc := above_calls y x (by rw [← ey, hq2]; exact HSZ.out z2 hz2) (by rw [← ex, hq1]; exact HSZ.out z1 hz1) W
                      rw [h] at hc
                      exact hc⟩
                    have e2 : decide ((k : Int) < (nn : Int)) = true := decide_eq_true (by omega)
                    have e2n : decide (k < nn) = true := decide_eq_true hkl
                    have s0 : (0 : Int) ≤ (k : Int) := by omega
                    have s1 : (k : Int) < (nn : Int) := by omega
                    have wk : wrap64 ((k : Int) + 1) = (k : Int) + 1 := w64 (by omega) (by have := HN40.out; omega)
                    have HKK := Aside0.mk (And.intro hkl (And.intro hkq2 hik))
                    clear hy hx hA2 hk hkq2 hik
                    subst hA
                    go_wp2_with fail
                    go_upto_region 34 with (fail)
                    refine start_ (n := 14) (S := (fun w' => w'.cell? (ad1.add k) = some (.string y) ∧ w'.cell? (ad1.add i) = some (.string x))) (ds := [8]) #[false, false, false, false, false, false, false, false, false, false, false, false, false, false] (by kernel_rfl) rfl rfl ⟨hck, hci⟩ (fun hHeld => ?_); refine with_tabW sorts.tab34 sorts.bits34 (fun HT_ HW_ => ?_)
                    have HBD := Aside0.mk (below_then HBV.out HBV.out.size (below_drew (Below.refl wr.heap.size wr)))
                    generalize wr.drew = wd at HBD hHeld ⊢
                    refine pure_ (i := 0) (N := (some 126)) (v := ?_) (a' := ?_) #[true, false, false, false, false, false, false, false, false, false, false, false, false, false] rfl rfl (any_of HT_.out (by kernel_rfl)) (fun _ _ _ h => h) (Or.inl ⟨by rfl, ?_⟩) ?_ ?_
                    rotate_left
                    · intro w'
                      go_simp
                      with_reducible rfl
                    rotate_left
                    · simp only [Act.put, List.setIfInBounds_toArray, List.set_cons_zero, List.set_cons_succ, i64_w, i32_w]
                      rfl
                    refine pure_ (i := 1) (N := (some 127)) (v := ?_) (a' := ?_) #[true, true, false, false, false, false, false, false, false, false, false, false, false, false] rfl rfl (any_of HT_.out (by kernel_rfl)) (fun _ _ _ h => h) (Or.inl ⟨by rfl, ?_⟩) ?_ ?_
                    rotate_left
                    · intro w'
                      go_simp
                      with_reducible rfl
                    rotate_left
                    · simp only [Act.put, List.setIfInBounds_toArray, List.set_cons_zero, List.set_cons_succ, i64_w, i32_w]
                      rfl
                    refine pure_ (i := 2) (N := (some 128)) (v := ?_) (a' := ?_) #[true, true, true, false, false, false, false, false, false, false, false, false, false, false] rfl rfl (any_of HT_.out (by kernel_rfl)) (fun _ _ _ h => h) (Or.inl ⟨by rfl, ?_⟩) ?_ ?_
                    rotate_left
                    · intro w'
                      go_simp
                      with_reducible rfl
                    rotate_left
                    · simp only [Act.put, List.setIfInBounds_toArray, List.set_cons_zero, List.set_cons_succ, i64_w, i32_w]
                      rfl
                    refine take_ (i := 3) (N := (some 129)) (v := ?_) (a' := ?_) #[true, true, true, true, false, false, false, false, false, false, false, false, false, false] rfl rfl (take_ofW HT_.out HW_.out (by kernel_rfl)) (fun _ _ _ h => h) (Or.inl ⟨by rfl, ?_⟩) hHeld ?_ ?_
                    rotate_left
                    · rintro w' ⟨b1, b2⟩
                      go_simp
                      with_reducible rfl
                    rotate_left
                    · simp only [Act.put, List.setIfInBounds_toArray, List.set_cons_zero, List.set_cons_succ, i64_w, i32_w]
                      rfl
                    refine pure_ (i := 4) (N := (some 130)) (v := ?_) (a' := ?_) #[true, true, true, true, true, false, false, false, false, false, false, false, false, false] rfl rfl (any_of HT_.out (by kernel_rfl)) (fun _ _ _ h => h) (Or.inl ⟨by rfl, ?_⟩) ?_ ?_
                    rotate_left
                    · intro w'
                      go_simp
                      with_reducible rfl
                    rotate_left
                    · simp only [Act.put, List.setIfInBounds_toArray, List.set_cons_zero, List.set_cons_succ, i64_w, i32_w]
                      rfl
                    refine pure_ (i := 5) (N := (some 131)) (v := ?_) (a' := ?_) #[true, true, true, true, true, true, false, false, false, false, false, false, false, false] rfl rfl (any_of HT_.out (by kernel_rfl)) (fun _ _ _ h => h) (Or.inl ⟨by rfl, ?_⟩) ?_ ?_
                    rotate_left
                    · intro w'
                      go_simp
                      with_reducible rfl
                    rotate_left
                    · simp only [Act.put, List.setIfInBounds_toArray, List.set_cons_zero, List.set_cons_succ, i64_w, i32_w]
                      rfl
                    refine pure_ (i := 6) (N := (some 132)) (v := ?_) (a' := ?_) #[true, true, true, true, true, true, true, false, false, false, false, false, false, false] rfl rfl (any_of HT_.out (by kernel_rfl)) (fun _ _ _ h => h) (Or.inl ⟨by rfl, ?_⟩) ?_ ?_
                    rotate_left
                    · intro w'
                      go_simp
                      with_reducible rfl
                    rotate_left
                    · simp only [Act.put, List.setIfInBounds_toArray, List.set_cons_zero, List.set_cons_succ, i64_w, i32_w]
                      rfl
                    refine take_ (i := 7) (N := (some 133)) (v := ?_) (a' := ?_) #[true, true, true, true, true, true, true, true, false, false, false, false, false, false] rfl rfl (take_ofW HT_.out HW_.out (by kernel_rfl)) (fun _ _ _ h => h) (Or.inl ⟨by rfl, ?_⟩) hHeld ?_ ?_
                    rotate_left
                    · rintro w' ⟨b1, b2⟩
                      go_simp
                      with_reducible rfl
                    rotate_left
                    · simp only [Act.put, List.setIfInBounds_toArray, List.set_cons_zero, List.set_cons_succ, i64_w, i32_w]
                      rfl
                    refine last_ (i := 8) (N := (some 134)) #[true, true, true, true, true, true, true, true, true, false, false, false, false, false] rfl rfl (one_of HT_.out (by kernel_rfl)) (by decide) (fun K hK => ?_)
                    refine goes_ Tryd.func16 (by kernel_rfl) rfl #[.string y, .string x] (by rfl) rfl rfl (by simp [Act.eval]) ?_
                    ((refine (HAB.out wd).mono ?_); rintro e w2 ⟨rfl, hb⟩)
                    refine ⟨_, rfl, ?_⟩
                    have HB2 := Aside0.mk (below_then HBD.out HBD.out.size hb)
                    clear hb hHeld
                    refine hK.out _ _ ?_
                    clear hK K
                    refine norm_ (a' := ?_) ?_ ?_
                    rotate_left
                    · show Act.put _ (some 134) _ = _
                      simp only [Act.put, List.setIfInBounds_toArray, List.set_cons_zero, List.set_cons_succ, i64_w, i32_w]
                      rfl
                    refine pure_ (i := 9) (N := (some 125)) (v := ?_) (a' := ?_) #[true, true, true, true, true, true, true, true, true, true, false, false, false, false] rfl rfl (any_of HT_.out (by kernel_rfl)) (fun _ _ _ h => h) (Or.inl ⟨by rfl, ?_⟩) ?_ ?_
                    rotate_left
                    · intro w'
                      go_simp
                      with_reducible rfl
                    rotate_left
                    · simp only [Act.put, List.setIfInBounds_toArray, List.set_cons_zero, List.set_cons_succ, i64_w, i32_w]
                      rfl
                    refine pure_ (i := 10) (N := (some 135)) (v := ?_) (a' := ?_) #[true, true, true, true, true, true, true, true, true, true, true, false, false, false] rfl rfl (any_of HT_.out (by kernel_rfl)) (fun _ _ _ h => h) (Or.inl ⟨by rfl, ?_⟩) ?_ ?_
                    rotate_left
                    · intro w'
                      go_simp
                      with_reducible rfl
                    rotate_left
                    · simp only [Act.put, List.setIfInBounds_toArray, List.set_cons_zero, List.set_cons_succ, i64_w, i32_w]
                      rfl
                    refine pure_ (i := 11) (N := (some 136)) (v := ?_) (a' := ?_) #[true, true, true, true, true, true, true, true, true, true, true, true, false, false] rfl rfl (any_of HT_.out (by kernel_rfl)) (fun _ _ _ h => h) (Or.inl ⟨by rfl, ?_⟩) ?_ ?_
                    rotate_left
                    · intro w'
                      go_simp
                      with_reducible rfl
                    rotate_left
                    · simp only [Act.put, List.setIfInBounds_toArray, List.set_cons_zero, List.set_cons_succ, i64_w, i32_w]
                      rfl
                    refine pure_ (i := 12) (N := (some 16)) (v := ?_) (a' := ?_) #[true, true, true, true, true, true, true, true, true, true, true, true, true, false] rfl rfl (any_of HT_.out (by kernel_rfl)) (fun _ _ _ h => h) (Or.inl ⟨by rfl, ?_⟩) ?_ ?_
                    rotate_left
                    · intro w'
                      go_simp
                      with_reducible rfl
                    rotate_left
                    · simp only [Act.put, List.setIfInBounds_toArray, List.set_cons_zero, List.set_cons_succ, i64_w, i32_w]
                      rfl
                    refine pure_ (i := 13) (N := (some 17)) (v := ?_) (a' := ?_) #[true, true, true, true, true, true, true, true, true, true, true, true, true, true] rfl rfl (any_of HT_.out (by kernel_rfl)) (fun _ _ _ h => h) (Or.inl ⟨by rfl, ?_⟩) ?_ ?_
                    rotate_left
                    · intro w'
                      go_simp
                      with_reducible rfl
                    rotate_left
                    · simp only [Act.put, List.setIfInBounds_toArray, List.set_cons_zero, List.set_cons_succ, i64_w, i32_w]
                      rfl
                    refine done_ (done_of HT_.out (by kernel_rfl)) ?_
                    go_wp2
                    go_roundg g2
                    case measure => omega
                    case rel => exact ⟨k + 1, by go_num, by have := HKK.out; omega, by have := HKK.out; omega, by have := HKK.out; omega, HB2⟩
              · obtain rfl : i = nn := by omega
                have e1 : decide ((i : Int) < (i : Int)) = false := decide_eq_false (by omega)
                go_wp2
                go_ret
                exact ⟨rfl, HB7.out.trans (HBV0.out.mono HB7.out.size)⟩
end Go.Proofs.YtdihhdmndjjknaaDoor.Walk
