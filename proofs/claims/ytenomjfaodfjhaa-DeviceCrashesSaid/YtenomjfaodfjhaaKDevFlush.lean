/- A device's calls, more: Flush, Crash. -/
import Derived.Test.YtenomjfaodfjhaaKDevMore
namespace Go.Proofs.Ytenomjfaodfjhaa.Keeps
open Go.RowKit Go.Proofs.Ytenomjfaodfjhaa.PDeviceKeeps Go.Proofs.YtenomjfaodfjhaaW.PrintWords Go.Proofs.YtenomjfaodfjhaaW.PrintLast Go.Proofs.YtenomjfaodfjhaaW.PrintMore
set_option linter.unusedVariables false
set_option linter.unusedSimpArgs false
attribute [local go_sem] max_two min_two
variable {base D C n Bk : Nat} {fl : Flags} {av wv : Nat → Value} {es : Nat → List Value} {st : Nat → List (List Int)}
theorem Dev.anyDrew {w : World} (H : Dev w base D C n Bk fl av wv es st) (m : Nat) : Dev (w.drewN m) base D C n Bk fl av wv es st := H.keep fun _ _ => rfl
def stF (st : Nat → List (List Int)) (i : Nat) : Nat → List (List Int) := fun k => if k < i then [lastOf (st k)] else st k
theorem stF_zero (st : Nat → List (List Int)) : stF st 0 = st := by funext k; simp [stF]
theorem stF_succ (st : Nat → List (List Int)) (i : Nat) : upd (stF st i) i [lastOf (st i)] = stF st (i + 1) := by
  funext k
  unfold upd stF
  by_cases h : k = i
  · subst h; simp
  · rw [if_neg h]
    by_cases h1 : k < i
    · rw [if_pos h1, if_pos (by omega)]
    · rw [if_neg h1, if_neg (by omega)]
theorem last_at (l : List (List Int)) (h : l ≠ []) : l[l.length - 1]? = some (lastOf l) := by
  unfold lastOf
  rw [List.getLastD_eq_getLast?, ← List.getLast?_eq_getElem?, List.getLast?_eq_some_getLast h]
  rfl
set_option maxHeartbeats 8000000 in
set_option maxRecDepth 100000 in
theorem flush_strong (w : World) (H : Dev w base D C n Bk fl av wv es st) (hlive : fl.dies = false) :
    Calls Try.prog 13 #[.pointer (some ⟨D, 0, none⟩)] w fun e w' => e = .returned (.int .i64 0) ∧ ∃ av' wv' es', Dev w' base D C n Bk fl.burn av' wv' es' (stF st n) ∧ Step w w' (Mut D C n wv) (Mut D C n wv') ∧ ∀ k, k < n → ∀ u, u ∈ av' k :: es' k → u ∈ av k :: es k := by
  have HBurn := Aside0.mk (burn_calls w H)
  have hcode : fl.code = 0 := by rw [Flags.code, if_neg (by rw [hlive]; simp)]
  rw [hcode] at HBurn
  have hn := H.hn
  have HST := Aside0.mk (fun k hk => (H.len k hk))
  clear H hlive hcode
  go_enter Try.func13, Try.ntmps13
  go_wp2_with fail
  refine HBurn.out.mono ?_
  rintro e w1 ⟨rfl, hD, hS⟩
  have hc1 := (hD.headCell 1).1
  simp only [headOf] at hc1
  have HI : Aside0 (∃ av' wv' es', Dev w1 base D C n Bk fl.burn av' wv' es' (stF st 0) ∧ Step w w1 (Mut D C n wv) (Mut D C n wv') ∧ ∀ k, k < n → ∀ u, u ∈ av' k :: es' k → u ∈ av k :: es k) := ⟨av, wv, es, by rw [stF_zero]; exact hD, hS, fun _ _ _ h => h⟩
  clear hD hS HBurn
  go_wp2_with fail
  clear hc1
  go_loopg [17] n (fun kq v17 w' => ∃ i : Nat, v17 = .int .i64 (i : Int) ∧ i ≤ n ∧ n - i ≤ kq ∧ Aside0 (∃ av' wv' es', Dev w' base D C n Bk fl.burn av' wv' es' (stF st i) ∧ Step w w' (Mut D C n wv) (Mut D C n wv') ∧ ∀ k, k < n → ∀ u, u ∈ av' k :: es' k → u ∈ av k :: es k))
  case atStart => exact ⟨0, rfl, by omega, by omega, HI⟩
  case round =>
    obtain ⟨i, rfl, hi, hk, HJ⟩ := hrel
    by_cases hlt : i < n
    · cases gk with
      | zero => omega
      | succ k1 =>
        obtain ⟨av1, wv1, es1, hD, hS, hM⟩ := HJ.out
        have HMm := Aside0.mk hM
        clear hM
        have d0 : decide ((i : Int) < (n : Int)) = true := decide_eq_true (by omega)
        have p0 : (0 : Int) ≤ (i : Int) := by omega
        have p1 : (i : Int) < (n : Int) := by omega
        have hc1 := (hD.headCell 1).1
        simp only [headOf] at hc1
        have hc2 := (hD.cellWv i hlt).1
        obtain ⟨Aw, cw, hwv, _⟩ := owns_form (hD.wait i hlt)
        rw [hwv] at hc2
        have hlen := hD.len i hlt
        have hst : stF st i i = st i := by unfold stF; rw [if_neg (by omega)]
        have hx : (stF st i i)[(es1 i).length]? = some (lastOf (st i)) := by
          rw [hst] at hlen ⊢
          have := last_at (st i) (by intro e; rw [e] at hlen; simp at hlen)
          rw [hlen, Nat.add_sub_cancel] at this
          exact this
        have HD := Aside0.mk hD
        have HS := Aside0.mk hS
        have HX := Aside0.mk hx
        have HI := Aside0.mk hlt
        clear hD hS hx hlen hst hwv HJ
        go_wp2
        go_still_tail 15, (by kernel_rfl)
        go_wp2_with fail
        refine (settle_strong _ (HD.out.keep (W := wr.drew) (fun _ _ => rfl)) i HI.out _ _ HX.out).mono ?_
        rintro e w2 ⟨rfl, v, hD2, hS2, hv2⟩
        have HJ2 : Aside0 (∃ av' wv' es', Dev w2 base D C n Bk fl.burn av' wv' es' (stF st (i + 1)) ∧ Step w w2 (Mut D C n wv) (Mut D C n wv') ∧ ∀ k, k < n → ∀ u, u ∈ av' k :: es' k → u ∈ av k :: es k) := ⟨_, _, _, by rw [← stF_succ]; exact hD2, (HS.out.drewN 1).trans hS2, fun k hkn u hu => by
          by_cases e : k = i
          · subst e
            rw [upd_same, upd_same] at hu
            obtain rfl : u = v := by simpa using hu
            exact HMm.out k hkn u hv2
          · rw [upd_other _ _ e, upd_other _ _ e] at hu
            exact HMm.out k hkn u hu⟩
        clear hD2 hS2 hv2
        go_wp2_with fail
        go_roundg k1
        case measure => omega
        case rel => exact ⟨i + 1, by go_num, by omega, by omega, HJ2⟩
    · obtain rfl : i = n := by omega
      have d0 : decide ((i : Int) < (i : Int)) = false := decide_eq_false (by omega)
      go_wp2
      go_ret
      exact ⟨rfl, HJ.out⟩
theorem flush_calls (w : World) (H : Dev w base D C n Bk fl av wv es st) (hlive : fl.dies = false) :
    Calls Try.prog 13 #[.pointer (some ⟨D, 0, none⟩)] w fun e w' => e = .returned (.int .i64 0) ∧ ∃ av' wv' es', Dev w' base D C n Bk fl.burn av' wv' es' (stF st n) ∧ Step w w' (Mut D C n wv) (Mut D C n wv') :=
  (flush_strong w H hlive).mono fun _ _ ⟨h, a, b, c, h1, h2, _⟩ => ⟨h, a, b, c, h1, h2⟩
/-- What a pick says of m that wait. -/
def pickOf (ps : List Int) (m : Nat) : Nat := match ps with
  | [] => 0
  | p :: _ => (mx 0 (mn p m)).toNat
def crashN (st : Nat → List (List Int)) (ps : List Int) : Nat → (Nat → List (List Int)) × List Int
  | 0 => (st, ps)
  | i + 1 => if (st i).length ≤ 1 then crashN st ps i else (upd (crashN st ps i).1 i [((st i)[pickOf (crashN st ps i).2 ((st i).length - 1)]?).getD []], (crashN st ps i).2.tail)
theorem crashN_far (st : Nat → List (List Int)) (ps : List Int) : ∀ i k, i ≤ k → (crashN st ps i).1 k = st k := by
  intro i
  induction i with
  | zero => intro k _; rfl
  | succ i ih =>
    intro k hk
    unfold crashN
    split
    · exact ih k (by omega)
    · simp only
      rw [upd_other _ _ (by omega)]
      exact ih k (by omega)
theorem info3 : (Try.prog.info? 3).map (fun i => (i.zero, i.size, i.bytes)) = some (some (.int .i64 0), 1, 8) := by kernel_rfl
theorem cut_one (w : World) (A : Option Addr) (c : Nat) (p : Int) (ps : List Int) (hr : ReadsInt w .i64 A (p :: ps).length (p :: ps)) (hc : (p :: ps).length ≤ c) :
    ∃ A', (∀ W, (Instr.slice 30 (.slice A (p :: ps).length c) (some (.int .i64 1)) none none).run Try.prog W = .ok (.slice A' ps.length (c - 1)) W) ∧ ReadsInt w .i64 A' ps.length ps ∧ ps.length ≤ c - 1 ∧ ∀ a, A' = some a → ∃ a0, A = some a0 ∧ a.block = a0.block := by
  obtain ⟨i, hi, h3⟩ := Option.map_eq_some_iff.1 info3
  simp only [Prod.mk.injEq] at h3
  obtain ⟨hz, hs, hb⟩ := h3
  have h1 := cut_from (P := Try.prog) 30 3 .i64 Try.underlying30 hi 1 hs A (p :: ps).length c 1 (by omega) (by simp; omega)
  have h2 := hr.drop_ 1 (by simp) hc
  refine ⟨if c = 1 then A else A.map (·.add 1), fun W => ?_, ?_, by simp at hc ⊢; omega, fun a ha => ?_⟩
  · have := h1 W
    simpa using this
  · simpa using h2
  · split at ha
    · exact ⟨a, ha, rfl⟩
    · cases A with
      | none => cases ha
      | some a0 =>
        simp only [Option.map_some, Option.some.injEq] at ha
        subst ha
        exact ⟨a0, rfl, by unfold Addr.add; split <;> rfl⟩
/-- What of the picks is still to be used. -/
def PicksAt (w : World) (M : Nat → Prop) (ps : List Int) (v : Value) : Prop := ∃ A c, v = .slice A ps.length c ∧ ps.length ≤ c ∧ ReadsInt w .i64 A ps.length ps ∧ (0 < ps.length → ∀ a, A = some a → ¬ M a.block)
set_option maxHeartbeats 8000000 in
set_option maxRecDepth 100000 in
theorem crash_calls (w : World) (H : Dev w base D C n Bk fl av wv es st) (ps : List Int) (v : Value) (hp : PicksAt w (Mut D C n wv) ps v) :
    Calls Try.prog 22 #[.pointer (some ⟨D, 0, none⟩), v] w fun e w' => e = .returned (.int .i64 0) ∧ ∃ av' wv' es', Dev w' base D C n Bk { fl with dead := false, fused := false } av' wv' es' (crashN st ps n).1 ∧ Step w w' (Mut D C n wv) (Mut D C n wv') := by
  have hn := H.hn
  have hc1 := (H.headCell 1).1
  simp only [headOf] at hc1
  have HI : Aside0 (∃ av' wv' es', Dev w base D C n Bk fl av' wv' es' (crashN st ps 0).1 ∧ Step w w (Mut D C n wv) (Mut D C n wv')) := ⟨av, wv, es, H, Step.refl _ _⟩
  have HP := Aside0.mk (show PicksAt w (Mut D C n wv) (crashN st ps 0).2 v from hp)
  obtain ⟨A0, c0, hv0, _⟩ := hp
  subst hv0
  clear H
  go_enter Try.func22, Try.ntmps22
  go_wp2_with fail
  clear hc1
  go_loopg [1, 15] n (fun kq v1 v15 w' => ∃ i : Nat, v15 = .int .i64 (i : Int) ∧ i ≤ n ∧ n - i ≤ kq ∧ Aside0 (PicksAt w (Mut D C n wv) (crashN st ps i).2 v1) ∧ Aside0 (∃ av' wv' es', Dev w' base D C n Bk fl av' wv' es' (crashN st ps i).1 ∧ Step w w' (Mut D C n wv) (Mut D C n wv')))
  case atStart => exact ⟨0, rfl, by omega, by omega, HP, HI⟩
  case round =>
    obtain ⟨i, rfl, hi, hk, HP1, HJ⟩ := hrel
    by_cases hlt : i < n
    · cases gk with
      | zero => omega
      | succ k1 =>
        obtain ⟨av1, wv1, es1, hD, hS⟩ := HJ.out
        have d0 : decide ((i : Int) < (n : Int)) = true := decide_eq_true (by omega)
        have p0 : (0 : Int) ≤ (i : Int) := by omega
        have p1 : (i : Int) < (n : Int) := by omega
        have hc1 := (hD.headCell 1).1
        simp only [headOf] at hc1
        have hc2 := (hD.cellWv i hlt).1
        obtain ⟨Aw, cw, hwv, _⟩ := owns_form (hD.wait i hlt)
        rw [hwv] at hc2
        have hlen := hD.len i hlt
        have hst : (crashN st ps i).1 i = st i := crashN_far st ps i i (Nat.le_refl _)
        rw [hst] at hlen
        have hmax : (es1 i).length ≤ 9223372036854775807 := by
          rcases (hD.wait i hlt).2 with ⟨h1, h2⟩ | ⟨g, cap, cur, h1, _, _, h2, h3, _⟩
          · omega
          · unfold maxLen at h3; omega
        obtain ⟨m, hm⟩ : ∃ m, (es1 i).length = m := ⟨_, rfl⟩
        have HD := Aside0.mk hD
        have HS := Aside0.mk hS
        have HI := Aside0.mk hlt
        rw [hm] at hc2 hlen hmax
        have HL := Aside0.mk hlen
        have HST := Aside0.mk hst
        have HM := Aside0.mk hm
        clear hD hS hst hwv HJ hlen hm
        by_cases hm0 : m = 0
        · subst hm0
          go_wp2
          go_roundg k1
          case measure => omega
          case rel =>
            have e : crashN st ps (i + 1) = crashN st ps i := by
              show (if (st i).length ≤ 1 then _ else _) = _
              rw [if_pos (by rw [HL.out]; omega)]
            refine ⟨i + 1, by go_num, by omega, by omega, by rw [e]; exact HP1, ?_⟩
            rw [e]; exact ⟨⟨_, _, _, HD.out, HS.out⟩⟩
        · have d1 : ((m : Int) == 0) = false := by rw [beq_eq_false_iff_ne]; omega
          have hmpos : 0 < m := by omega
          -- the pick, as a number
          obtain ⟨k0, hk0⟩ : ∃ k0, pickOf (crashN st ps i).2 m = k0 := ⟨_, rfl⟩
          have hk0m : k0 ≤ m := by
            rw [← hk0]
            unfold pickOf
            split
            · omega
            · unfold mx mn; split <;> split <;> omega
          obtain ⟨x, hx⟩ : ∃ x, (st i)[k0]? = some x := ⟨_, List.getElem?_eq_getElem (by have := HL.out; omega)⟩
          have HX : Aside0 (((crashN st ps i).1 i)[k0]? = some x) := ⟨by rw [HST.out]; exact hx⟩
          have hsucc : crashN st ps (i + 1) = (upd (crashN st ps i).1 i [x], (crashN st ps i).2.tail) := by
            show (if (st i).length ≤ 1 then _ else _) = _
            rw [if_neg (by rw [HL.out]; omega), show (st i).length - 1 = m by rw [HL.out]; rfl, hk0, hx]
            rfl
          have HSucc := Aside0.mk hsucc
          clear hsucc hx
          obtain ⟨qs, hqs⟩ : ∃ qs, (crashN st ps i).2 = qs := ⟨_, rfl⟩
          rw [hqs] at HP1 hk0 HSucc
          clear hqs
          cases qs with
          | nil =>
            obtain ⟨A1, c1, hv1, hc1', hr1, ha1⟩ := HP1.out
            subst hv1
            obtain rfl : k0 = 0 := hk0.symm
            go_wp2_with fail
            refine (settle_calls _ (HD.out.keep (W := wr) (fun _ _ => rfl)) i HI.out 0 _ HX.out).mono ?_
            rintro e w2 ⟨rfl, v, hD2, hS2⟩
            have HJ2 : Aside0 (∃ av' wv' es', Dev w2 base D C n Bk fl av' wv' es' (crashN st ps (i + 1)).1 ∧ Step w w2 (Mut D C n wv) (Mut D C n wv')) := ⟨_, _, _, by rw [HSucc.out]; exact hD2, (HS.out).trans hS2⟩
            clear hD2 hS2
            go_wp2_with fail
            go_roundg k1
            case measure => omega
            case rel => exact ⟨i + 1, by go_num, by omega, by omega, by rw [HSucc.out]; exact ⟨A1, c1, rfl, hc1', hr1, ha1⟩, HJ2⟩
          | cons p qs =>
            obtain ⟨A1, c1, hv1, hc1', hr1, ha1⟩ := HP1.out
            subst hv1
            obtain ⟨A2, hcut, hr2, hc2', ha2⟩ := cut_one w A1 c1 p qs hr1 hc1'
            have HP2 : Aside0 (PicksAt w (Mut D C n wv) qs (.slice A2 qs.length (c1 - 1))) := ⟨⟨A2, c1 - 1, rfl, hc2', hr2, fun _ a ha => by obtain ⟨a0, h1, h2⟩ := ha2 a ha; rw [h2]; exact ha1 (by simp) a0 h1⟩⟩
            have hrd : ReadsInt wr .i64 A1 (p :: qs).length (p :: qs) := reads_step hr1 (fun a ha hl => HS.out.block a.block hl (ha1 (by simp) a ha))
            obtain ⟨a1, ea1, hcp⟩ := hrd.2.2 (by simp)
            have hcp0 := hcp 0 (by simp)
            have ha0 : a1.add 0 = a1 := by unfold Addr.add; split <;> simp_all
            rw [ha0] at hcp0
            simp only [List.getD_cons_zero] at hcp0
            obtain ⟨mq, hmq⟩ : ∃ mq, mn p (m : Int) = mq := ⟨_, rfl⟩
            have hkk : mx 0 mq = (k0 : Int) := by
              rw [← hk0, ← hmq]
              show _ = ((mx 0 (mn p m)).toNat : Int)
              unfold mx mn; split <;> split <;> omega
            have hmn : Builtin.min2 (.int .i64 p) (.int .i64 (m : Int)) = pure (.int .i64 mq) := by rw [min2_int, ← hmq]; rfl
            have hmx : Builtin.max2 (.int .i64 0) (.int .i64 mq) = pure (.int .i64 (k0 : Int)) := by rw [max2_int, ← hkk]; rfl
            obtain ⟨lq, hlq⟩ : ∃ lq, (p :: qs).length = lq + 1 := ⟨qs.length, rfl⟩
            rw [hlq] at hc1' hcut ⊢
            have d2 : decide (0 < lq + 1) = true := decide_eq_true (by omega)
            have p2 : (0 : Int) < ((lq + 1 : Nat) : Int) := by omega
            have p3 : 0 < lq + 1 := by omega
            subst ea1
            clear hrd hcp ha0 hk0 hmq hkk hr1 ha1 HP1 hr2 ha2 hlq hc2'
            go_wp2_with fail
            go_quiet (fail)
            go_wp2_with fail
            refine (settle_calls _ (HD.out.anyDrew _) i HI.out k0 _ HX.out).mono ?_
            rintro e w2 ⟨rfl, v, hD2, hS2⟩
            have HJ2 : Aside0 (∃ av' wv' es', Dev w2 base D C n Bk fl av' wv' es' (crashN st ps (i + 1)).1 ∧ Step w w2 (Mut D C n wv) (Mut D C n wv')) := ⟨_, _, _, by rw [HSucc.out]; exact hD2, (HS.out.drewN _).trans hS2⟩
            clear hD2 hS2
            go_wp2_with fail
            go_roundg k1
            case measure => omega
            case rel => exact ⟨i + 1, by go_num, by omega, by omega, by rw [HSucc.out]; exact HP2, HJ2⟩
    · obtain rfl : i = n := by omega
      have d0 : decide ((i : Int) < (i : Int)) = false := decide_eq_false (by omega)
      obtain ⟨av1, wv1, es1, hD, hS⟩ := HJ.out
      have hf4 := (hD.headCell 4).2
      have hc4 := (hD.headCell 4).1
      have S1 := hD.setHead 4 (.bool false) { fl with dead := false } rfl
      have hf2 := (S1.1.headCell 2).2
      have hc2 := (S1.1.headCell 2).1
      have S2 := S1.1.setHead 2 (.bool false) { fl with dead := false, fused := false } rfl
      have HE := Aside0.mk (And.intro S2.1 (hS.trans (S1.2.trans S2.2)))
      simp only [headOf] at hc4 hc2
      clear S1 S2 hD hS HJ
      go_wp2
      go_ret
      exact ⟨rfl, av1, wv1, es1, HE.out⟩
end Go.Proofs.Ytenomjfaodfjhaa.Keeps
