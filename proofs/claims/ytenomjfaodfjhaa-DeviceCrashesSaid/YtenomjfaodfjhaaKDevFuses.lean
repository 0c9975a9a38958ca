/- With a fuse of n just n writes and flushes are done; then all is refused till a crash, behind which the device goes on: the walk of the law. No conditions. -/
import Derived.Test.YtenomjfaodfjhaaKDevWakes
namespace Go.Proofs.Ytenomjfaodfjhaa.Keeps
open Go.RowKit Go.Proofs.Ytenomjfaodfjhaa.PDeviceKeeps Go.Proofs.Ytenomjfaodfjhaa.Plain Go.Proofs.YtenomjfaodfjhaaW.PrintWords Go.Proofs.YtenomjfaodfjhaaW.PrintLast Go.Proofs.YtenomjfaodfjhaaW.PrintMore
set_option linter.unusedVariables false
set_option linter.unusedSimpArgs false
variable {base D C n Bk : Nat} {fl : Flags} {av wv : Nat → Value} {es : Nat → List Value} {st : Nat → List (List Int)}
set_option maxHeartbeats 4000000 in
set_option maxRecDepth 100000 in
theorem write_dead (w : World) (H : Dev w base D C n Bk fl av wv es st) (hdies : fl.dies = true) (b : Nat) (hb : b < n) (A : Option Addr) (c : Nat) :
    Calls Try.prog 11 #[.pointer (some ⟨D, 0, none⟩), .int .i64 (b : Int), .slice A Bk c] w fun e w' => e = .returned (.int .i64 7) ∧ Dev w' base D C n Bk fl.burn av wv es st ∧ Step w w' (Mut D C n wv) (Mut D C n wv) := by
  have HFit := Aside0.mk (fits_yes w H b hb A c)
  have HBurn := Aside0.mk (burn_calls w H)
  rw [show fl.code = 7 by rw [Flags.code, if_pos hdies]] at HBurn
  clear H hdies
  go_enter Try.func11, Try.ntmps11
  go_wp2_with fail
  refine HFit.out.mono ?_
  rintro e w1 ⟨rfl, rfl⟩
  go_wp2_with fail
  refine HBurn.out.mono ?_
  rintro e w2 ⟨rfl, hD2, hS2⟩
  have HD2 := Aside0.mk (And.intro hD2 hS2)
  clear hD2 hS2
  go_wp2_with fail
  go_ret
  exact ⟨rfl, HD2.out⟩
set_option maxHeartbeats 4000000 in
set_option maxRecDepth 100000 in
theorem flush_dead (w : World) (H : Dev w base D C n Bk fl av wv es st) (hdies : fl.dies = true) :
    Calls Try.prog 13 #[.pointer (some ⟨D, 0, none⟩)] w fun e w' => e = .returned (.int .i64 7) ∧ Dev w' base D C n Bk fl.burn av wv es st ∧ Step w w' (Mut D C n wv) (Mut D C n wv) := by
  have HBurn := Aside0.mk (burn_calls w H)
  rw [show fl.code = 7 by rw [Flags.code, if_pos hdies]] at HBurn
  clear H hdies
  go_enter Try.func13, Try.ntmps13
  go_wp2_with fail
  refine HBurn.out.mono ?_
  rintro e w2 ⟨rfl, hD2, hS2⟩
  have HD2 := Aside0.mk (And.intro hD2 hS2)
  clear hD2 hS2
  go_wp2_with fail
  go_ret
  exact ⟨rfl, HD2.out⟩
theorem crashN_len (st : Nat → List (List Int)) (ps : List Int) : ∀ i k, k < i → ((crashN st ps i).1 k).length ≤ 1 := by
  intro i
  induction i with
  | zero => intro k h; omega
  | succ i ih =>
    intro k hk
    unfold crashN
    split
    · rename_i h
      by_cases e : k = i
      · subst e; rw [crashN_far st ps k k (Nat.le_refl _)]; exact h
      · exact ih k (by omega)
    · simp only
      by_cases e : k = i
      · subst e; rw [upd_same]; simp
      · rw [upd_other _ _ e]; exact ih k (by omega)
theorem lastOf_snoc (l : List (List Int)) (x : List Int) : lastOf (l ++ [x]) = x := by simp [lastOf, List.getLastD_eq_getLast?]
theorem row_of_R {w : World} {b : Nat} {v : Value} {xs : List Int} (h : (Kd.int .u8).R 5 w b (fun _ => True) v xs) : Row w v v.ownBlock xs := Row.of_owns (Kd.own_of_R (enc := Value.int .u8) (h1 := fun _ => rfl) h)
theorem same_bytes (l : List Int) : skerryref01_SameBytes.f l l = some true := by simp [skerryref01_SameBytes.f]
/-- The flags behind i writes and flushes, with a fuse of n. -/
def flF (n i : Nat) : Flags := ⟨true, ((n - min i n : Nat) : Int), decide (n < i), ((min i n : Nat) : Int)⟩
theorem flF_live {n i : Nat} (h : i < n) (hn : n ≤ 100) : (flF n i).dies = false ∧ (flF n i).burn = flF n (i + 1) ∧ (flF n i).dead = false := by
  have h1 : (flF n i).dies = false := by
    simp only [flF, Flags.dies, Bool.or_eq_false_iff, decide_eq_false_iff_not, Bool.true_and, beq_eq_false_iff_ne]
    constructor <;> omega
  refine ⟨h1, ?_, by simp [flF]; omega⟩
  unfold Flags.burn
  rw [if_neg (by rw [h1]; simp)]
  simp only [flF, Flags.mk.injEq, true_and]
  refine ⟨?_, ?_, ?_⟩
  · rw [w64 (by omega) (by omega)]; omega
  · symm; rw [decide_eq_false_iff_not]; omega
  · rw [w64 (by omega) (by omega)]; omega
theorem flF_dead {n i : Nat} (h : n ≤ i) (hn : n ≤ 100) : (flF n i).dies = true ∧ (flF n i).burn = flF n (i + 1) := by
  have h1 : (flF n i).dies = true := by
    simp only [flF, Flags.dies, Bool.or_eq_true, decide_eq_true_eq, Bool.true_and, beq_iff_eq]
    omega
  refine ⟨h1, ?_⟩
  unfold Flags.burn
  rw [if_pos h1]
  simp only [flF, Flags.mk.injEq, true_and]
  refine ⟨?_, ?_, ?_⟩
  · omega
  · symm; rw [decide_eq_true_eq]; omega
  · omega
theorem and3 (i : Nat) (h : i ≤ 100) : Go.bits .and .i64 (i : Int) 3 = ((i % 4 : Nat) : Int) := by
  have : ∀ i : Fin 101, Go.bits .and .i64 ((i.val : Nat) : Int) 3 = ((i.val % 4 : Nat) : Int) := by decide +kernel
  exact this ⟨i, by omega⟩
/-- Behind i rounds. -/
def FuseInv (w0 w' : World) (base D C n i : Nat) : Prop := ∃ av wv es st, Dev w' base D C 4 64 (flF n i) av wv es st ∧ (∀ k, k < 4 → (es k).length ≤ i) ∧ Below w0.heap.size w0 w' ∧ w0.heap.size ≤ base
theorem dev_step {w0 w1 w2 : World} {base D C : Nat} {av wv wv' : Nat → Value} {es : Nat → List Value} {st : Nat → List (List Int)} (h : Below w0.heap.size w0 w1) (hb : w0.heap.size ≤ base) (H : Dev w1 base D C 4 64 fl av wv es st) (S : Step w1 w2 (Mut D C 4 wv) (Mut D C 4 wv')) : Below w0.heap.size w0 w2 :=
  h.trans (S.below h.size (fun g hg => Nat.le_trans hb (H.low g hg)))
set_option maxHeartbeats 16000000 in
set_option maxRecDepth 100000 in
theorem fuses_main (n0 m0 : Int) (n m : Nat) (hn : n ≤ 100) (hm : m ≤ 100) (w : World) (hnm : (0 ≤ n0 ∧ n0 ≤ 100 ∧ 0 ≤ m0 ∧ m0 ≤ 100 ∧ n0 = n ∧ m0 = m) ∨ (¬ (0 ≤ n0 ∧ n0 ≤ 100 ∧ 0 ≤ m0 ∧ m0 ≤ 100) ∧ n = 3 ∧ m = 7)) :
    Calls Try.prog 6 #[.int .i64 n0, .int .i64 m0] w fun e w' => e = .returned (.bool true) ∧ Below w.heap.size w w' := by
  go_enter Try.func6, Try.ntmps6
  have HNM := Aside0.mk hnm
  clear hnm
  go_upto_region 3 with (refine (wakes_calls w).mono ?_; rintro e w1 ⟨rfl, hb1⟩; have HB1 := Aside0.mk hb1; clear hb1)
  obtain ⟨t, ht⟩ : ∃ t : Bool, t = decide (¬ (0 ≤ n0 ∧ n0 ≤ 100 ∧ 0 ≤ m0 ∧ m0 ≤ 100)) := ⟨_, rfl⟩
  have HT := Aside0.mk ht
  clear ht
  go_cut [31] from 18 to 31 (fun v31 wc => v31 = .bool t ∧ wc = w1)
  case first =>
    have ht := HT.out
    clear HNM
    by_cases c1 : n0 < 0
    · have a1 : decide (n0 < 0) = true := decide_eq_true c1
      obtain rfl : t = true := by rw [ht]; exact decide_eq_true (by omega)
      clear HT ht c1
      go_wp2
      go_meet
      case rel => exact ⟨rfl, rfl⟩
    · have a1 : decide (n0 < 0) = false := decide_eq_false c1
      by_cases c2 : 100 < n0
      · have a2 : decide (100 < n0) = true := decide_eq_true c2
        obtain rfl : t = true := by rw [ht]; exact decide_eq_true (by omega)
        clear HT ht c1 c2
        go_wp2
        go_meet
        case rel => exact ⟨rfl, rfl⟩
      · have a2 : decide (100 < n0) = false := decide_eq_false c2
        by_cases c3 : m0 < 0
        · have a3 : decide (m0 < 0) = true := decide_eq_true c3
          obtain rfl : t = true := by rw [ht]; exact decide_eq_true (by omega)
          clear HT ht c1 c2 c3
          go_wp2
          go_meet
          case rel => exact ⟨rfl, rfl⟩
        · have a3 : decide (m0 < 0) = false := decide_eq_false c3
          by_cases c4 : 100 < m0
          · have a4 : decide (100 < m0) = true := decide_eq_true c4
            obtain rfl : t = true := by rw [ht]; exact decide_eq_true (by omega)
            clear HT ht c1 c2 c3 c4
            go_wp2
            go_meet
            case rel => exact ⟨rfl, rfl⟩
          · have a4 : decide (100 < m0) = false := decide_eq_false c4
            obtain rfl : t = false := by rw [ht]; exact decide_eq_false (by omega)
            clear HT ht c1 c2 c3 c4
            go_wp2
            go_meet
            case rel => exact ⟨rfl, rfl⟩
  case rest =>
    obtain ⟨rfl, rfl⟩ := hcut
    go_upto_if 31 with (fail)
    go_cut [0, 1] from 18 to 30 (fun v0 v1 wc' => v0 = .int .i64 (n : Int) ∧ v1 = .int .i64 (m : Int) ∧ wc' = wc)
    case first =>
      cases t with
      | true =>
        obtain ⟨rfl, rfl⟩ : n = 3 ∧ m = 7 := by
          have := HT.out
          rcases HNM.out with h | ⟨_, h⟩
          · rw [eq_comm, decide_eq_true_eq] at this; omega
          · exact h
        go_wp2
        go_meet
        case rel => exact ⟨rfl, rfl, rfl⟩
      | false =>
        obtain ⟨rfl, rfl⟩ : n0 = n ∧ m0 = m := by
          have := HT.out
          rcases HNM.out with h | ⟨h, _⟩
          · exact h.2.2.2.2
          · rw [eq_comm, decide_eq_false_iff_not] at this; omega
        go_wp2
        go_meet
        case rel => exact ⟨rfl, rfl, rfl⟩
    case rest =>
      obtain ⟨rfl, rfl, rfl⟩ := hcut
      clear HT HNM
      go_wp2_with fail
      refine (new_calls _ 4 (by omega) (by omega)).mono ?_
      rintro e w2 ⟨D, C, av, rfl, hD, hB⟩
      have HD := Aside0.mk hD
      have HB2 : Aside0 (Below w.heap.size w w2) := ⟨HB1.out.trans (hB.mono HB1.out.size)⟩
      have HBase := Aside0.mk (HB1.out.size)
      clear hD hB
      go_wp2_with fail
      refine (fuse_calls w2 HD.out rfl (n : Int) (by omega)).mono ?_
      rintro e w3 ⟨rfl, hD, hS⟩
      have HI : Aside0 (FuseInv w w3 wc.heap.size D C n 0) := ⟨⟨av, _, _, _, by rw [show flF n 0 = { flags0 with fused := true, fuse := (n : Int) } by simp [flF, flags0]]; exact hD, fun k _ => by simp, dev_step HB2.out HBase.out HD.out hS, HBase.out⟩⟩
      clear hD hS HD HB2
      go_wp2_with fail
      go_loopg [7] m (fun kq v7 w' => ∃ i : Nat, v7 = .int .i64 (i : Int) ∧ i ≤ m ∧ m - i ≤ kq ∧ Aside0 (FuseInv w w' wc.heap.size D C n i))
      case atStart => exact ⟨0, rfl, by omega, by omega, HI⟩
      case round =>
        obtain ⟨i, rfl, hi, hk, HJ⟩ := hrel
        by_cases hlt : i < m
        · cases gk with
          | zero => omega
          | succ k1 =>
            obtain ⟨av1, wv1, es1, st1, hD, hfew, hB, hbase⟩ := HJ.out
            have HD := Aside0.mk hD
            have HFew := Aside0.mk hfew
            have HB := Aside0.mk hB
            have HBase := Aside0.mk hbase
            clear hD hfew hB hbase HJ
            have d0 : decide ((i : Int) < (m : Int)) = true := decide_eq_true (by omega)
            have p0 : (0 : Int) ≤ (i : Int) := by omega
            have hand := and3 i (by omega)
            obtain ⟨q, hq⟩ : ∃ q, i % 4 = q := ⟨_, rfl⟩
            have hq4 : q < 4 := by omega
            have HW8 : Aside0 (IntKind.u8.wrap (i : Int) = (i : Int)) := ⟨by rw [IntKind.wrap_u8]; omega⟩
            rw [hq] at hand
            clear hq
            by_cases hf : i % 3 = 2
            · have d1 : ((i : Int) % 3 == 2) = true := by rw [beq_iff_eq]; omega
              by_cases hln : i < n
              · have d2 : decide ((i : Int) < (n : Int)) = true := decide_eq_true (by omega)
                have d3 : decide ((n : Int) ≤ (i : Int)) = false := decide_eq_false (by omega)
                have HL := Aside0.mk (flF_live hln hn)
                clear hf
                go_wp2_with fail
                refine (flush_calls _ HD.out HL.out.1).mono ?_
                rintro e w4 ⟨rfl, av2, wv2, es2, hD, hS⟩
                rw [HL.out.2.1] at hD
                have HD2 := Aside0.mk hD
                have HB4 := Aside0.mk (dev_step HB.out HBase.out HD.out hS)
                clear hD hS
                go_wp2_with fail
                refine (dead_calls _ HD2.out).mono ?_
                rintro e w5 ⟨rfl, rfl⟩
                have hdd : (flF n (i + 1)).dead = false := by simp [flF]; omega
                rw [hdd]
                go_wp2_with fail
                go_roundg k1
                case measure => omega
                case rel => exact ⟨i + 1, by go_num, by omega, by omega, ⟨av2, wv2, es2, _, HD2.out, fun k hk => by have h1 := HD2.out.len k hk; rw [show (stF st1 4 k).length = 1 by unfold stF; rw [if_pos hk]; rfl] at h1; omega, HB4.out, HBase.out⟩⟩
              · have d2 : decide ((i : Int) < (n : Int)) = false := decide_eq_false (by omega)
                have d3 : decide ((n : Int) ≤ (i : Int)) = true := decide_eq_true (by omega)
                have d4 : n ≤ i := by omega
                have d5 : decide (n ≤ i) = true := decide_eq_true d4
                have HL := Aside0.mk (flF_dead (show n ≤ i by omega) hn)
                clear hf
                go_wp2_with fail
                refine (flush_dead _ HD.out HL.out.1).mono ?_
                rintro e w4 ⟨rfl, hD, hS⟩
                rw [HL.out.2] at hD
                have HD2 := Aside0.mk hD
                have HB4 := Aside0.mk (dev_step HB.out HBase.out HD.out hS)
                clear hD hS
                go_wp2_with fail
                refine (dead_calls _ HD2.out).mono ?_
                rintro e w5 ⟨rfl, rfl⟩
                have hdd : (flF n (i + 1)).dead = true := by simp [flF]; omega
                rw [hdd]
                go_wp2_with fail
                go_roundg k1
                case measure => omega
                case rel => exact ⟨i + 1, by go_num, by omega, by omega, ⟨av1, wv1, es1, _, HD2.out, fun k hk => by have := HFew.out k hk; omega, HB4.out, HBase.out⟩⟩
            · have d1 : ((i : Int) % 3 == 2) = false := by rw [beq_eq_false_iff_ne]; omega
              have hw8 := HW8.out
              by_cases hln : i < n
              · have d2 : decide ((i : Int) < (n : Int)) = true := decide_eq_true (by omega)
                have d3 : decide ((n : Int) ≤ (i : Int)) = false := decide_eq_false (by omega)
                have HL := Aside0.mk (flF_live hln hn)
                have HI := Aside0.mk hlt
                have HM := Aside0.mk hm
                clear hf
                go_wp2_with fail
                refine (full_calls _ _).mono ?_
                rintro e w4 ⟨c, g, rfl, hc, hg, hrow, hb⟩
                have HD1 := Aside0.mk (HD.out.below hb)
                have HB1' : Aside0 (Below w.heap.size w w4) := ⟨HB.out.trans (hb.mono HB.out.size)⟩
                have HG := Aside0.mk hg
                obtain ⟨-, hcx, hread⟩ := row_read hrow (by simp)
                have HR := Aside0.mk (And.intro hcx hread)
                have HMg : Aside0 (∀ a, (some ⟨g, 0, none⟩ : Option Addr) = some a → ¬ Mut D C 4 wv1 a.block) := ⟨fun a ha hm => by cases ha; have h1 : g < wr.heap.size := HD.out.lt _ hm; have := HG.out; omega⟩
                clear hb hg hrow hread hc hcx
                go_wp2_with fail
                refine (write_calls w4 HD1.out HL.out.1 q hq4 (by have := HFew.out q hq4; have := HI.out; have := HM.out; clear hw8; omega) (some ⟨g, 0, none⟩) c (List.replicate 64 (i : Int)) (by simp) HR.out.2 HR.out.1 HMg.out).mono ?_
                rintro e w5 ⟨rfl, v, v', hD, hS⟩
                rw [HL.out.2.1] at hD
                have HD2 := Aside0.mk hD
                have HB5 := Aside0.mk (dev_step HB1'.out HBase.out HD1.out hS)
                clear hD hS hw8
                go_wp2_with fail
                refine (dead_calls _ HD2.out).mono ?_
                rintro e w6 ⟨rfl, rfl⟩
                have hdd : (flF n (i + 1)).dead = false := by simp [flF]; omega
                rw [hdd]
                go_wp2_with fail
                go_roundg k1
                case measure => omega
                case rel =>
                  refine ⟨i + 1, by go_num, by omega, by omega, ⟨_, _, _, _, HD2.out, fun k hk => ?_, HB5.out, HBase.out⟩⟩
                  have := HFew.out k hk
                  by_cases e : k = q
                  · subst e; rw [upd_same]; simp; omega
                  · rw [upd_other _ _ e]; omega
              · have d2 : decide ((i : Int) < (n : Int)) = false := decide_eq_false (by omega)
                have d3 : decide ((n : Int) ≤ (i : Int)) = true := decide_eq_true (by omega)
                have d4 : n ≤ i := by omega
                have d5 : decide (n ≤ i) = true := decide_eq_true d4
                have HL := Aside0.mk (flF_dead (show n ≤ i by omega) hn)
                clear hf
                go_wp2_with fail
                refine (full_calls _ _).mono ?_
                rintro e w4 ⟨c, g, rfl, hc, hg, hrow, hb⟩
                have HD1 := Aside0.mk (HD.out.below hb)
                have HB1' : Aside0 (Below w.heap.size w w4) := ⟨HB.out.trans (hb.mono HB.out.size)⟩
                clear hb hg hrow hc
                go_wp2_with fail
                refine (write_dead w4 HD1.out HL.out.1 q hq4 (some ⟨g, 0, none⟩) c).mono ?_
                rintro e w5 ⟨rfl, hD, hS⟩
                rw [HL.out.2] at hD
                have HD2 := Aside0.mk hD
                have HB5 := Aside0.mk (dev_step HB1'.out HBase.out HD1.out hS)
                clear hD hS hw8
                go_wp2_with fail
                refine (dead_calls _ HD2.out).mono ?_
                rintro e w6 ⟨rfl, rfl⟩
                have hdd : (flF n (i + 1)).dead = true := by simp [flF]; omega
                rw [hdd]
                go_wp2_with fail
                go_roundg k1
                case measure => omega
                case rel => exact ⟨i + 1, by go_num, by omega, by omega, ⟨av1, wv1, es1, _, HD2.out, fun k hk => by have := HFew.out k hk; omega, HB5.out, HBase.out⟩⟩
        · obtain rfl : i = m := by omega
          have d0 : decide ((i : Int) < (i : Int)) = false := decide_eq_false (by omega)
          obtain ⟨av1, wv1, es1, st1, hD, hfew, hB, hbase⟩ := HJ.out
          have HD := Aside0.mk hD
          have HFew := Aside0.mk hfew
          have HB := Aside0.mk hB
          have HBase := Aside0.mk hbase
          clear hD hfew hB hbase HJ
          rcases Nat.lt_trichotomy i n with c1 | c1 | c1
          · have q1 : decide ((i : Int) < (n : Int)) = true := decide_eq_true (by omega)
            have q2 : decide ((n : Int) < (i : Int)) = false := decide_eq_false (by omega)
            have HWr : Aside0 ((flF n i).writes = (i : Int)) := ⟨by simp [flF]; omega⟩
            have HDd : Aside0 ((flF n i).dead = false) := ⟨by simp [flF]; omega⟩
            go_wp2_with fail
            refine (writes_calls _ HD.out).mono ?_
            rintro e w3' ⟨rfl, rfl⟩
            rw [HWr.out]
            go_wp2_with fail
            refine (read_yes _ HD.out HDd.out 0 (by omega)).mono ?_
            rintro e w4 ⟨v4, rfl, hr4, hb4⟩
            have HD4 := Aside0.mk (HD.out.below hb4)
            have HB4 : Aside0 (Below w.heap.size w w4) := ⟨HB.out.trans (hb4.mono HB.out.size)⟩
            clear hr4 hb4
            go_wp2_with fail
            refine (crash_calls _ HD4.out [] _ ⟨none, 0, rfl, Nat.le_refl _, ⟨rfl, by simp, by simp⟩, fun h => by simp at h⟩).mono ?_
            rintro e w5 ⟨rfl, av5, wv5, es5, hD5, hS5⟩
            have HD5 := Aside0.mk hD5
            have HB5 := Aside0.mk (dev_step HB4.out HBase.out HD4.out hS5)
            clear hD5 hS5
            go_wp2_with fail
            refine (full_calls 9 w5).mono ?_
            rintro e w6 ⟨c, g, rfl, hc, hg, hrow, hb⟩
            have HD6 := Aside0.mk (HD5.out.below hb)
            have HB6 : Aside0 (Below w.heap.size w w6) := ⟨HB5.out.trans (hb.mono HB5.out.size)⟩
            have HG := Aside0.mk hg
            obtain ⟨-, hcx, hread⟩ := row_read hrow (by simp)
            have HR := Aside0.mk (And.intro hcx hread)
            have HMg : Aside0 (∀ a, (some ⟨g, 0, none⟩ : Option Addr) = some a → ¬ Mut D C 4 wv5 a.block) := ⟨fun a ha hm => by cases ha; have h1 : g < w5.heap.size := HD5.out.lt _ hm; have := HG.out; omega⟩
            clear hb hg hrow hread hc hcx
            go_wp2_with fail
            refine (write_calls w6 HD6.out rfl 0 (by omega) (by have h1 := HD6.out.len 0 (by omega); have h2 := crashN_len st1 [] 4 0 (by omega); omega) (some ⟨g, 0, none⟩) c (List.replicate 64 9) (by simp) HR.out.2 HR.out.1 HMg.out).mono ?_
            rintro e w7 ⟨rfl, v, v', hD7, hS7⟩
            have HD7 := Aside0.mk hD7
            have HB7 := Aside0.mk (dev_step HB6.out HBase.out HD6.out hS7)
            clear hD7 hS7
            go_wp2_with fail
            refine (read_yes _ HD7.out rfl 0 (by omega)).mono ?_
            rintro e w8 ⟨v8, rfl, hr8, hb8⟩
            rw [upd_same, lastOf_snoc] at hr8
            obtain ⟨A8, c8, hv8, hc8, hx8⟩ := (row_of_R hr8).reads (by simp)
            subst hv8
            have HD8 := Aside0.mk (HD7.out.below hb8)
            have HB8 : Aside0 (Below w.heap.size w w8) := ⟨HB7.out.trans (hb8.mono HB7.out.size)⟩
            have HR8 := Aside0.mk (And.intro hc8 hx8)
            clear hr8 hb8 hc8 hx8
            go_wp2_with fail
            refine (dead_calls _ HD8.out).mono ?_
            rintro e w9 ⟨rfl, rfl⟩
            go_wp2_with fail
            refine (full_calls 9 w9).mono ?_
            rintro e w10 ⟨c10, g10, rfl, hc, hg, hrow, hb⟩
            have HB10 : Aside0 (Below w.heap.size w w10) := ⟨HB8.out.trans (hb.mono HB8.out.size)⟩
            have HR10 := Aside0.mk (HR8.out.2.below hb)
            obtain ⟨-, hcx, hread⟩ := row_read hrow (by simp)
            have HR11 := Aside0.mk (And.intro hcx hread)
            clear hb hg hrow hread hc hcx
            go_wp2_with fail
            refine (skerryref01_SameBytes.calls A8 c8 (List.replicate 64 9) (some ⟨g10, 0, none⟩) c10 (List.replicate 64 9) true w10 (row_int HR10.out) HR8.out.1 (row_int HR11.out.2) HR11.out.1 (same_bytes _)).mono ?_
            rintro e w11 ⟨rfl, hd⟩
            have HD11 := Aside0.mk hd
            clear hd
            go_wp2_with fail
            go_ret
            exact ⟨rfl, HB10.out.trans (HD11.out.below.mono HB10.out.size)⟩
          · subst c1
            have q1 : decide ((i : Int) < (i : Int)) = false := decide_eq_false (by omega)
            have HWr : Aside0 ((flF i i).writes = (i : Int)) := ⟨by simp [flF]⟩
            have HDd : Aside0 ((flF i i).dead = false) := ⟨by simp [flF]⟩
            go_wp2_with fail
            refine (writes_calls _ HD.out).mono ?_
            rintro e w3' ⟨rfl, rfl⟩
            rw [HWr.out]
            go_wp2_with fail
            refine (read_yes _ HD.out HDd.out 0 (by omega)).mono ?_
            rintro e w4 ⟨v4, rfl, hr4, hb4⟩
            have HD4 := Aside0.mk (HD.out.below hb4)
            have HB4 : Aside0 (Below w.heap.size w w4) := ⟨HB.out.trans (hb4.mono HB.out.size)⟩
            clear hr4 hb4
            go_wp2_with fail
            refine (crash_calls _ HD4.out [] _ ⟨none, 0, rfl, Nat.le_refl _, ⟨rfl, by simp, by simp⟩, fun h => by simp at h⟩).mono ?_
            rintro e w5 ⟨rfl, av5, wv5, es5, hD5, hS5⟩
            have HD5 := Aside0.mk hD5
            have HB5 := Aside0.mk (dev_step HB4.out HBase.out HD4.out hS5)
            clear hD5 hS5
            go_wp2_with fail
            refine (full_calls 9 w5).mono ?_
            rintro e w6 ⟨c, g, rfl, hc, hg, hrow, hb⟩
            have HD6 := Aside0.mk (HD5.out.below hb)
            have HB6 : Aside0 (Below w.heap.size w w6) := ⟨HB5.out.trans (hb.mono HB5.out.size)⟩
            have HG := Aside0.mk hg
            obtain ⟨-, hcx, hread⟩ := row_read hrow (by simp)
            have HR := Aside0.mk (And.intro hcx hread)
            have HMg : Aside0 (∀ a, (some ⟨g, 0, none⟩ : Option Addr) = some a → ¬ Mut D C 4 wv5 a.block) := ⟨fun a ha hm => by cases ha; have h1 : g < w5.heap.size := HD5.out.lt _ hm; have := HG.out; omega⟩
            clear hb hg hrow hread hc hcx
            go_wp2_with fail
            refine (write_calls w6 HD6.out rfl 0 (by omega) (by have h1 := HD6.out.len 0 (by omega); have h2 := crashN_len st1 [] 4 0 (by omega); omega) (some ⟨g, 0, none⟩) c (List.replicate 64 9) (by simp) HR.out.2 HR.out.1 HMg.out).mono ?_
            rintro e w7 ⟨rfl, v, v', hD7, hS7⟩
            have HD7 := Aside0.mk hD7
            have HB7 := Aside0.mk (dev_step HB6.out HBase.out HD6.out hS7)
            clear hD7 hS7
            go_wp2_with fail
            refine (read_yes _ HD7.out rfl 0 (by omega)).mono ?_
            rintro e w8 ⟨v8, rfl, hr8, hb8⟩
            rw [upd_same, lastOf_snoc] at hr8
            obtain ⟨A8, c8, hv8, hc8, hx8⟩ := (row_of_R hr8).reads (by simp)
            subst hv8
            have HD8 := Aside0.mk (HD7.out.below hb8)
            have HB8 : Aside0 (Below w.heap.size w w8) := ⟨HB7.out.trans (hb8.mono HB7.out.size)⟩
            have HR8 := Aside0.mk (And.intro hc8 hx8)
            clear hr8 hb8 hc8 hx8
            go_wp2_with fail
            refine (dead_calls _ HD8.out).mono ?_
            rintro e w9 ⟨rfl, rfl⟩
            go_wp2_with fail
            refine (full_calls 9 w9).mono ?_
            rintro e w10 ⟨c10, g10, rfl, hc, hg, hrow, hb⟩
            have HB10 : Aside0 (Below w.heap.size w w10) := ⟨HB8.out.trans (hb.mono HB8.out.size)⟩
            have HR10 := Aside0.mk (HR8.out.2.below hb)
            obtain ⟨-, hcx, hread⟩ := row_read hrow (by simp)
            have HR11 := Aside0.mk (And.intro hcx hread)
            clear hb hg hrow hread hc hcx
            go_wp2_with fail
            refine (skerryref01_SameBytes.calls A8 c8 (List.replicate 64 9) (some ⟨g10, 0, none⟩) c10 (List.replicate 64 9) true w10 (row_int HR10.out) HR8.out.1 (row_int HR11.out.2) HR11.out.1 (same_bytes _)).mono ?_
            rintro e w11 ⟨rfl, hd⟩
            have HD11 := Aside0.mk hd
            clear hd
            go_wp2_with fail
            go_ret
            exact ⟨rfl, HB10.out.trans (HD11.out.below.mono HB10.out.size)⟩
          · have q1 : decide ((i : Int) < (n : Int)) = false := decide_eq_false (by omega)
            have q2 : decide ((n : Int) < (i : Int)) = true := decide_eq_true (by omega)
            have q3 : n < i := by omega
            have q4 : decide (n < i) = true := decide_eq_true q3
            have HWr : Aside0 ((flF n i).writes = (n : Int)) := ⟨by simp [flF]; omega⟩
            have HDd : Aside0 ((flF n i).dead = true) := ⟨by simp [flF]; omega⟩
            go_wp2_with fail
            refine (writes_calls _ HD.out).mono ?_
            rintro e w3' ⟨rfl, rfl⟩
            rw [HWr.out]
            go_wp2_with fail
            refine (read_dead _ HD.out HDd.out 0).mono ?_
            rintro e w4 ⟨rfl, rfl⟩
            have HD4 := Aside0.mk HD.out
            have HB4 := Aside0.mk HB.out
            go_wp2_with fail
            refine (crash_calls _ HD4.out [] _ ⟨none, 0, rfl, Nat.le_refl _, ⟨rfl, by simp, by simp⟩, fun h => by simp at h⟩).mono ?_
            rintro e w5 ⟨rfl, av5, wv5, es5, hD5, hS5⟩
            have HD5 := Aside0.mk hD5
            have HB5 := Aside0.mk (dev_step HB4.out HBase.out HD4.out hS5)
            clear hD5 hS5
            go_wp2_with fail
            refine (full_calls 9 w5).mono ?_
            rintro e w6 ⟨c, g, rfl, hc, hg, hrow, hb⟩
            have HD6 := Aside0.mk (HD5.out.below hb)
            have HB6 : Aside0 (Below w.heap.size w w6) := ⟨HB5.out.trans (hb.mono HB5.out.size)⟩
            have HG := Aside0.mk hg
            obtain ⟨-, hcx, hread⟩ := row_read hrow (by simp)
            have HR := Aside0.mk (And.intro hcx hread)
            have HMg : Aside0 (∀ a, (some ⟨g, 0, none⟩ : Option Addr) = some a → ¬ Mut D C 4 wv5 a.block) := ⟨fun a ha hm => by cases ha; have h1 : g < w5.heap.size := HD5.out.lt _ hm; have := HG.out; omega⟩
            clear hb hg hrow hread hc hcx
            go_wp2_with fail
            refine (write_calls w6 HD6.out rfl 0 (by omega) (by have h1 := HD6.out.len 0 (by omega); have h2 := crashN_len st1 [] 4 0 (by omega); omega) (some ⟨g, 0, none⟩) c (List.replicate 64 9) (by simp) HR.out.2 HR.out.1 HMg.out).mono ?_
            rintro e w7 ⟨rfl, v, v', hD7, hS7⟩
            have HD7 := Aside0.mk hD7
            have HB7 := Aside0.mk (dev_step HB6.out HBase.out HD6.out hS7)
            clear hD7 hS7
            go_wp2_with fail
            refine (read_yes _ HD7.out rfl 0 (by omega)).mono ?_
            rintro e w8 ⟨v8, rfl, hr8, hb8⟩
            rw [upd_same, lastOf_snoc] at hr8
            obtain ⟨A8, c8, hv8, hc8, hx8⟩ := (row_of_R hr8).reads (by simp)
            subst hv8
            have HD8 := Aside0.mk (HD7.out.below hb8)
            have HB8 : Aside0 (Below w.heap.size w w8) := ⟨HB7.out.trans (hb8.mono HB7.out.size)⟩
            have HR8 := Aside0.mk (And.intro hc8 hx8)
            clear hr8 hb8 hc8 hx8
            go_wp2_with fail
            refine (dead_calls _ HD8.out).mono ?_
            rintro e w9 ⟨rfl, rfl⟩
            go_wp2_with fail
            refine (full_calls 9 w9).mono ?_
            rintro e w10 ⟨c10, g10, rfl, hc, hg, hrow, hb⟩
            have HB10 : Aside0 (Below w.heap.size w w10) := ⟨HB8.out.trans (hb.mono HB8.out.size)⟩
            have HR10 := Aside0.mk (HR8.out.2.below hb)
            obtain ⟨-, hcx, hread⟩ := row_read hrow (by simp)
            have HR11 := Aside0.mk (And.intro hcx hread)
            clear hb hg hrow hread hc hcx
            go_wp2_with fail
            refine (skerryref01_SameBytes.calls A8 c8 (List.replicate 64 9) (some ⟨g10, 0, none⟩) c10 (List.replicate 64 9) true w10 (row_int HR10.out) HR8.out.1 (row_int HR11.out.2) HR11.out.1 (same_bytes _)).mono ?_
            rintro e w11 ⟨rfl, hd⟩
            have HD11 := Aside0.mk hd
            clear hd
            go_wp2_with fail
            go_ret
            exact ⟨rfl, HB10.out.trans (HD11.out.below.mono HB10.out.size)⟩
theorem fuses_row (n m : Int) (w : World) (hn : (Lit.int .i64 n).wf = true) (hm : (Lit.int .i64 m).wf = true) : Calls Try.prog 6 #[.int .i64 n, .int .i64 m] w fun e w' => e = .returned (.bool true) ∧ Below w.heap.size w w' := by
  by_cases h : 0 ≤ n ∧ n ≤ 100 ∧ 0 ≤ m ∧ m ≤ 100
  · exact fuses_main n m n.toNat m.toNat (by omega) (by omega) w (.inl ⟨h.1, h.2.1, h.2.2.1, h.2.2.2, by omega, by omega⟩)
  · exact fuses_main n m 3 7 (by omega) (by omega) w (.inr ⟨h, rfl, rfl⟩)
end Go.Proofs.Ytenomjfaodfjhaa.Keeps
