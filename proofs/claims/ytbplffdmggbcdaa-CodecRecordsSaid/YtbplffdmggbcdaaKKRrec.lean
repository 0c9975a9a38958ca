/- The reference writes a record: a contract. -/
import Derived.Test.YtbplffdmggbcdaaKKPut
namespace Go.Proofs.Ytbplffdmggbcdaa.Codec
open Go.RowKit Go.Proofs.Ytbplffdmggbcdaa.PCodecRecords Go.Proofs.Ytbplffdmggbcdaa.Plain Go.Proofs.Ytbplffdmggbcdaa.Pure Go.Proofs.YtbplffdmggbcdaaW.PrintWords Go.Proofs.YtbplffdmggbcdaaW.PrintLast Go.Proofs.YtbplffdmggbcdaaW.PrintMore
set_option linter.unusedVariables false
set_option linter.unusedSimpArgs false

set_option maxHeartbeats 4000000 in
set_option maxRecDepth 100000 in
theorem rrecord_calls (b q s0 s1 s2 s3 a n : Int) (t : ByteArray) (ht : t.size ≤ 140737488351232) (w : World) :
    Calls Try.prog 7 #[.agg #[.int .i64 b, .int .i64 q, .int .i64 s0, .int .i64 s1, .int .i64 s2, .int .i64 s3, .int .i64 a, .int .i64 n, .string t]] w fun e w' => ∃ v, e = .returned (.tuple #[v, .int .i64 (recOut b q s0 s1 s2 s3 a n (bytesOf t)).2]) ∧ Kd.R (Kd.int .u8) 5 w' w.heap.size (fun _ => True) v (recOut b q s0 s1 s2 s3 a n (bytesOf t)).1 ∧ Below w.heap.size w w' := by
  have hu := Try.underlying26
  have hu2 := Try.underlying24
  have HT := Aside0.mk ht
  have HF0 : Aside0 (∀ W, Calls Try.prog 22 #[.int .i64 b, .int .i64 4] W (fun e w' => e = .returned (.bool (decide (Fits 4 b))) ∧ Below W.heap.size W w')) := ⟨fun W => fits_calls 4 (by decide) b W⟩
  have HF1 : Aside0 (∀ W, Calls Try.prog 22 #[.int .i64 q, .int .i64 4] W (fun e w' => e = .returned (.bool (decide (Fits 4 q))) ∧ Below W.heap.size W w')) := ⟨fun W => fits_calls 4 (by decide) q W⟩
  have HF2 : Aside0 (∀ W, Calls Try.prog 22 #[.int .i64 a, .int .i64 4] W (fun e w' => e = .returned (.bool (decide (Fits 4 a))) ∧ Below W.heap.size W w')) := ⟨fun W => fits_calls 4 (by decide) a W⟩
  have HF3 : Aside0 (∀ W, Calls Try.prog 22 #[.int .i64 n, .int .i64 4] W (fun e w' => e = .returned (.bool (decide (Fits 4 n))) ∧ Below W.heap.size W w')) := ⟨fun W => fits_calls 4 (by decide) n W⟩
  obtain ⟨t0, h0⟩ : ∃ t, decide (Fits 4 b) = t := ⟨_, rfl⟩
  obtain ⟨t1, h1⟩ : ∃ t, decide (Fits 4 q) = t := ⟨_, rfl⟩
  obtain ⟨t2, h2⟩ : ∃ t, decide (Fits 4 a) = t := ⟨_, rfl⟩
  obtain ⟨t3, h3⟩ : ∃ t, decide (Fits 4 n) = t := ⟨_, rfl⟩
  rw [h0] at HF0
  rw [h1] at HF1
  rw [h2] at HF2
  rw [h3] at HF3
  have HD := Aside0.mk (And.intro h0 (And.intro h1 (And.intro h2 h3)))
  have hO : recOut b q s0 s1 s2 s3 a n (bytesOf t) = recOut b q s0 s1 s2 s3 a n (bytesOf t) := rfl
  obtain ⟨ro, hro⟩ : ∃ ro, recOut b q s0 s1 s2 s3 a n (bytesOf t) = ro := ⟨_, rfl⟩
  rw [hro]
  have HO := Aside0.mk hro
  clear ht h0 h1 h2 h3 hO hro
  go_enter Try.func7, Try.ntmps7
  go_upto_region 1 with (((with_reducible refine gate_dst (N := 1) rfl ?_); refine box_event ?hg (N := 1) ?hd (cs := #[.int .i64 b, .int .i64 q, .int .i64 s0, .int .i64 s1, .int .i64 s2, .int .i64 s3, .int .i64 a, .int .i64 n, .string t]) (t := 26) ?hr ?_; (case hd => rfl); (case hg => rfl); (case hr => first | (go_simp; done) | (go_simp; rfl)); intro gb hggb w0 hbox hb; have BKgb := Aside0.mk hbox; have BHgb := Aside0.mk hb; have GEgb := Aside0.mk hggb; clear hb hbox hggb))
  have HX0 := Aside0.mk BKgb.out
  have HB0 := Aside0.mk BHgb.out
  have HGE : Aside0 (w.heap.size ≤ gb) := ⟨by have := GEgb.out; omega⟩
  clear BKgb BHgb GEgb
  go_cut [4] (fun v4 wc => ∃ ok : Bool, v4 = .bool ok ∧ ok = (t0 && t1 && t2 && t3) ∧ Aside0 (wc.heap[gb]? = some (.cells #[.int .i64 b, .int .i64 q, .int .i64 s0, .int .i64 s1, .int .i64 s2, .int .i64 s3, .int .i64 a, .int .i64 n, .string t] 26 (0, 0))) ∧ Aside0 (Below w.heap.size w wc))
  case first =>
    have x0 : w0.cell? ⟨gb, 0, none⟩ = some (.int .i64 b) := (blk_cell HX0.out 0).trans rfl
    go_wp2_with fail
    ((with_reducible refine (HF0.out w0).mono ?_); rintro e w1 ⟨rfl, hb⟩)
    have HX1 := Aside0.mk (blk_below HX0.out hb); have HB1 := Aside0.mk (below_then HB0.out HB0.out.size hb); clear hb x0
    cases t0
    · go_wp2_with fail
      go_meet
      case rel => exact ⟨_, rfl, rfl, HX1, HB1⟩
    · have x1 : w1.cell? ⟨gb, 1, none⟩ = some (.int .i64 q) := (blk_cell HX1.out 1).trans rfl
      go_wp2_with fail
      ((with_reducible refine (HF1.out w1).mono ?_); rintro e w2 ⟨rfl, hb⟩)
      have HX2 := Aside0.mk (blk_below HX1.out hb); have HB2 := Aside0.mk (below_then HB1.out HB1.out.size hb); clear hb x1
      cases t1
      · go_wp2_with fail
        go_meet
        case rel => exact ⟨_, rfl, rfl, HX2, HB2⟩
      · have x2 : w2.cell? ⟨gb, 6, none⟩ = some (.int .i64 a) := (blk_cell HX2.out 6).trans rfl
        go_wp2_with fail
        ((with_reducible refine (HF2.out w2).mono ?_); rintro e w3 ⟨rfl, hb⟩)
        have HX3 := Aside0.mk (blk_below HX2.out hb); have HB3 := Aside0.mk (below_then HB2.out HB2.out.size hb); clear hb x2
        cases t2
        · go_wp2_with fail
          go_meet
          case rel => exact ⟨_, rfl, rfl, HX3, HB3⟩
        · have x3 : w3.cell? ⟨gb, 7, none⟩ = some (.int .i64 n) := (blk_cell HX3.out 7).trans rfl
          go_wp2_with fail
          ((with_reducible refine (HF3.out w3).mono ?_); rintro e w4 ⟨rfl, hb⟩)
          have HX4 := Aside0.mk (blk_below HX3.out hb); have HB4 := Aside0.mk (below_then HB3.out HB3.out.size hb); clear hb x3
          cases t3
          · go_wp2_with fail
            go_meet
            case rel => exact ⟨_, rfl, rfl, HX4, HB4⟩
          · go_wp2_with fail
            go_meet
            case rel => exact ⟨_, rfl, rfl, HX4, HB4⟩
  case rest =>
    clear HF0 HF1 HF2 HF3 HX0 HB0
    obtain ⟨ok, rfl, hok, HX, HB⟩ := hcut
    obtain ⟨o0, ho0⟩ : ∃ o, (t0 && t1 && t2 && t3) = o := ⟨_, rfl⟩
    rw [ho0] at hok
    subst hok
    have HD0 := Aside0.mk ho0
    clear ho0
    obtain ⟨u0, h0⟩ : ∃ t, decide (Fits 2 s0) = t := ⟨_, rfl⟩
    obtain ⟨u1, h1⟩ : ∃ t, decide (Fits 2 s1) = t := ⟨_, rfl⟩
    obtain ⟨u2, h2⟩ : ∃ t, decide (Fits 2 s2) = t := ⟨_, rfl⟩
    obtain ⟨u3, h3⟩ : ∃ t, decide (Fits 2 s3) = t := ⟨_, rfl⟩
    have HD2 := Aside0.mk (And.intro h0 (And.intro h1 (And.intro h2 h3)))
    have HG0 : Aside0 (∀ W, Calls Try.prog 22 #[.int .i64 s0, .int .i64 2] W (fun e w' => e = .returned (.bool u0) ∧ Below W.heap.size W w')) := ⟨fun W => by rw [← h0]; exact fits_calls 2 (by decide) s0 W⟩
    have HG1 : Aside0 (∀ W, Calls Try.prog 22 #[.int .i64 s1, .int .i64 2] W (fun e w' => e = .returned (.bool u1) ∧ Below W.heap.size W w')) := ⟨fun W => by rw [← h1]; exact fits_calls 2 (by decide) s1 W⟩
    have HG2 : Aside0 (∀ W, Calls Try.prog 22 #[.int .i64 s2, .int .i64 2] W (fun e w' => e = .returned (.bool u2) ∧ Below W.heap.size W w')) := ⟨fun W => by rw [← h2]; exact fits_calls 2 (by decide) s2 W⟩
    have HG3 : Aside0 (∀ W, Calls Try.prog 22 #[.int .i64 s3, .int .i64 2] W (fun e w' => e = .returned (.bool u3) ∧ Below W.heap.size W w')) := ⟨fun W => by rw [← h3]; exact fits_calls 2 (by decide) s3 W⟩
    clear h0 h1 h2 h3
    go_wp2_with fail
    go_loopg [4, 5] 4 (fun kq v4 v5 w' => (∃ o : Bool, v4 = .bool o ∧ v5 = .int .i64 0 ∧ 4 - 0 ≤ kq ∧ Aside0 (o = (ok)) ∧ Aside0 (w'.heap[gb]? = some (.cells #[.int .i64 b, .int .i64 q, .int .i64 s0, .int .i64 s1, .int .i64 s2, .int .i64 s3, .int .i64 a, .int .i64 n, .string t] 26 (0, 0)) ∧ Below w.heap.size w w')) ∨ (∃ o : Bool, v4 = .bool o ∧ v5 = .int .i64 1 ∧ 4 - 1 ≤ kq ∧ Aside0 (o = (ok && u0)) ∧ Aside0 (w'.heap[gb]? = some (.cells #[.int .i64 b, .int .i64 q, .int .i64 s0, .int .i64 s1, .int .i64 s2, .int .i64 s3, .int .i64 a, .int .i64 n, .string t] 26 (0, 0)) ∧ Below w.heap.size w w')) ∨ (∃ o : Bool, v4 = .bool o ∧ v5 = .int .i64 2 ∧ 4 - 2 ≤ kq ∧ Aside0 (o = (ok && u0 && u1)) ∧ Aside0 (w'.heap[gb]? = some (.cells #[.int .i64 b, .int .i64 q, .int .i64 s0, .int .i64 s1, .int .i64 s2, .int .i64 s3, .int .i64 a, .int .i64 n, .string t] 26 (0, 0)) ∧ Below w.heap.size w w')) ∨ (∃ o : Bool, v4 = .bool o ∧ v5 = .int .i64 3 ∧ 4 - 3 ≤ kq ∧ Aside0 (o = (ok && u0 && u1 && u2)) ∧ Aside0 (w'.heap[gb]? = some (.cells #[.int .i64 b, .int .i64 q, .int .i64 s0, .int .i64 s1, .int .i64 s2, .int .i64 s3, .int .i64 a, .int .i64 n, .string t] 26 (0, 0)) ∧ Below w.heap.size w w')) ∨ (∃ o : Bool, v4 = .bool o ∧ v5 = .int .i64 4 ∧ 4 - 4 ≤ kq ∧ Aside0 (o = (ok && u0 && u1 && u2 && u3)) ∧ Aside0 (w'.heap[gb]? = some (.cells #[.int .i64 b, .int .i64 q, .int .i64 s0, .int .i64 s1, .int .i64 s2, .int .i64 s3, .int .i64 a, .int .i64 n, .string t] 26 (0, 0)) ∧ Below w.heap.size w w')))
    case atStart => exact .inl ⟨ok, rfl, rfl, by omega, ⟨rfl⟩, ⟨HX.out, HB.out⟩⟩
    case round =>
      rcases hrel with ⟨o, rfl, rfl, hkq, heq, HS⟩ | ⟨o, rfl, rfl, hkq, heq, HS⟩ | ⟨o, rfl, rfl, hkq, heq, HS⟩ | ⟨o, rfl, rfl, hkq, heq, HS⟩ | ⟨o, rfl, rfl, hkq, heq, HS⟩
      · cases gk with
        | zero => omega
        | succ k1 =>
          cases o
          · go_wp2_with fail
            go_roundg k1
            case measure => omega
            case rel => exact .inr (.inl ⟨_, rfl, by go_num, by omega, ⟨by rw [← heq.out]; rfl⟩, HS⟩)
          · have xs : wr.cell? ⟨gb, 2, none⟩ = some (.int .i64 s0) := (blk_cell HS.out.1 2).trans rfl
            go_wp2_with fail
            ((with_reducible refine (HG0.out wr).mono ?_); rintro e w7 ⟨rfl, hb7⟩)
            have HX7 := Aside0.mk (blk_below HS.out.1 hb7)
            have HB7 := Aside0.mk (below_then HS.out.2 HS.out.2.size hb7)
            clear hb7 xs
            go_wp2_with fail
            go_roundg k1
            case measure => omega
            case rel => exact .inr (.inl ⟨_, rfl, by go_num, by omega, ⟨by rw [← heq.out]; rfl⟩, ⟨HX7.out, HB7.out⟩⟩)
      · cases gk with
        | zero => omega
        | succ k1 =>
          cases o
          · go_wp2_with fail
            go_roundg k1
            case measure => omega
            case rel => exact .inr (.inr (.inl ⟨_, rfl, by go_num, by omega, ⟨by rw [← heq.out]; rfl⟩, HS⟩))
          · have xs : wr.cell? ⟨gb, 3, none⟩ = some (.int .i64 s1) := (blk_cell HS.out.1 3).trans rfl
            go_wp2_with fail
            ((with_reducible refine (HG1.out wr).mono ?_); rintro e w7 ⟨rfl, hb7⟩)
            have HX7 := Aside0.mk (blk_below HS.out.1 hb7)
            have HB7 := Aside0.mk (below_then HS.out.2 HS.out.2.size hb7)
            clear hb7 xs
            go_wp2_with fail
            go_roundg k1
            case measure => omega
            case rel => exact .inr (.inr (.inl ⟨_, rfl, by go_num, by omega, ⟨by rw [← heq.out]; rfl⟩, ⟨HX7.out, HB7.out⟩⟩))
      · cases gk with
        | zero => omega
        | succ k1 =>
          cases o
          · go_wp2_with fail
            go_roundg k1
            case measure => omega
            case rel => exact .inr (.inr (.inr (.inl ⟨_, rfl, by go_num, by omega, ⟨by rw [← heq.out]; rfl⟩, HS⟩)))
          · have xs : wr.cell? ⟨gb, 4, none⟩ = some (.int .i64 s2) := (blk_cell HS.out.1 4).trans rfl
            go_wp2_with fail
            ((with_reducible refine (HG2.out wr).mono ?_); rintro e w7 ⟨rfl, hb7⟩)
            have HX7 := Aside0.mk (blk_below HS.out.1 hb7)
            have HB7 := Aside0.mk (below_then HS.out.2 HS.out.2.size hb7)
            clear hb7 xs
            go_wp2_with fail
            go_roundg k1
            case measure => omega
            case rel => exact .inr (.inr (.inr (.inl ⟨_, rfl, by go_num, by omega, ⟨by rw [← heq.out]; rfl⟩, ⟨HX7.out, HB7.out⟩⟩)))
      · cases gk with
        | zero => omega
        | succ k1 =>
          cases o
          · go_wp2_with fail
            go_roundg k1
            case measure => omega
            case rel => exact .inr (.inr (.inr (.inr (⟨_, rfl, by go_num, by omega, ⟨by rw [← heq.out]; rfl⟩, HS⟩))))
          · have xs : wr.cell? ⟨gb, 5, none⟩ = some (.int .i64 s3) := (blk_cell HS.out.1 5).trans rfl
            go_wp2_with fail
            ((with_reducible refine (HG3.out wr).mono ?_); rintro e w7 ⟨rfl, hb7⟩)
            have HX7 := Aside0.mk (blk_below HS.out.1 hb7)
            have HB7 := Aside0.mk (below_then HS.out.2 HS.out.2.size hb7)
            clear hb7 xs
            go_wp2_with fail
            go_roundg k1
            case measure => omega
            case rel => exact .inr (.inr (.inr (.inr (⟨_, rfl, by go_num, by omega, ⟨by rw [← heq.out]; rfl⟩, ⟨HX7.out, HB7.out⟩⟩))))
      · cases o
        · have hro : ro = ([], 3) := by
            rw [← HO.out]
            refine recOut_bad ?_ _
            unfold recFits
            rw [HD.out.1, HD.out.2.1, HD.out.2.2.1, HD.out.2.2.2, HD2.out.1, HD2.out.2.1, HD2.out.2.2.1, HD2.out.2.2.2, HD0.out]
            exact heq.out.symm
          have HO2 := Aside0.mk hro
          clear hro heq
          go_wp2
          go_ret2
          rw [HO2.out]
          exact ⟨_, rfl, brow_nil _ _, HS.out.2⟩
        · have hrf : recFits b q s0 s1 s2 s3 a n = true := by
            unfold recFits
            rw [HD.out.1, HD.out.2.1, HD.out.2.2.1, HD.out.2.2.2, HD2.out.1, HD2.out.2.1, HD2.out.2.2.1, HD2.out.2.2.2, HD0.out]
            exact heq.out.symm
          have hro := recOut_good hrf (bytesOf t)
          rw [HO.out, bytesOf_length] at hro
          have HRF := Aside0.mk hrf
          clear heq hrf HD HD0 HD2 HG0 HG1 HG2 HG3
          by_cases htx : t.size ≤ 65511
          rotate_left
          · have d1 : decide ((65511 : Int) < (t.size : Int)) = true := decide_eq_true (by omega)
            have d2 : decide (65511 < t.size) = true := decide_eq_true (by omega)
            rw [if_neg htx] at hro
            have HO2 := Aside0.mk hro
            have xt : wr.cell? ⟨gb, 8, none⟩ = some (.string t) := (blk_cell HS.out.1 8).trans rfl
            clear hro htx
            go_wp2
            go_ret2
            rw [HO2.out]
            exact ⟨_, rfl, brow_nil _ _, HS.out.2⟩
          · have d1 : decide ((65511 : Int) < (t.size : Int)) = false := decide_eq_false (by omega)
            have d2 : decide (65511 < t.size) = false := decide_eq_false (by omega)
            rw [if_pos htx] at hro
            have HO2 := Aside0.mk hro
            have HTX := Aside0.mk htx
            have xt : wr.cell? ⟨gb, 8, none⟩ = some (.string t) := (blk_cell HS.out.1 8).trans rfl
            clear hro htx
            obtain ⟨w1, hw1⟩ : ∃ w1, w1 = wr := ⟨_, rfl⟩
            subst hw1
            have HXw := Aside0.mk HS.out.1
            have HBw := Aside0.mk HS.out.2
            clear HS HX HB
            go_upto_region 10 with (fail)
            clear xt d1 d2
            have hf := HRF.out
            unfold recFits at hf
            simp only [Bool.and_eq_true, decide_eq_true_eq] at hf
            have HF := Aside0.mk hf
            clear hf HRF
            have hfin : recBytes b q s0 s1 s2 s3 a n = (((((((([] : List Int) ++ leB 4 b) ++ leB 4 q) ++ leB 4 a) ++ leB 4 n) ++ leB 2 s0) ++ leB 2 s1) ++ leB 2 s2) ++ leB 2 s3 := rfl
            obtain ⟨L1, e1⟩ : ∃ L, ([] : List Int) ++ leB 4 b = L := ⟨_, rfl⟩
            rw [e1] at hfin
            have n1 : L1.length = 4 := by rw [← e1, List.length_append, leB_length]; rfl
            obtain ⟨L2, e2⟩ : ∃ L, L1 ++ leB 4 q = L := ⟨_, rfl⟩
            rw [e2] at hfin
            have n2 : L2.length = 8 := by rw [← e2, List.length_append, leB_length]; rw [n1]
            obtain ⟨L3, e3⟩ : ∃ L, L2 ++ leB 4 a = L := ⟨_, rfl⟩
            rw [e3] at hfin
            have n3 : L3.length = 12 := by rw [← e3, List.length_append, leB_length]; rw [n2]
            obtain ⟨L4, e4⟩ : ∃ L, L3 ++ leB 4 n = L := ⟨_, rfl⟩
            rw [e4] at hfin
            have n4 : L4.length = 16 := by rw [← e4, List.length_append, leB_length]; rw [n3]
            obtain ⟨L5, e5⟩ : ∃ L, L4 ++ leB 2 s0 = L := ⟨_, rfl⟩
            rw [e5] at hfin
            have n5 : L5.length = 18 := by rw [← e5, List.length_append, leB_length]; rw [n4]
            obtain ⟨L6, e6⟩ : ∃ L, L5 ++ leB 2 s1 = L := ⟨_, rfl⟩
            rw [e6] at hfin
            have n6 : L6.length = 20 := by rw [← e6, List.length_append, leB_length]; rw [n5]
            obtain ⟨L7, e7⟩ : ∃ L, L6 ++ leB 2 s2 = L := ⟨_, rfl⟩
            rw [e7] at hfin
            have n7 : L7.length = 22 := by rw [← e7, List.length_append, leB_length]; rw [n6]
            obtain ⟨L8, e8⟩ : ∃ L, L7 ++ leB 2 s3 = L := ⟨_, rfl⟩
            rw [e8] at hfin
            have n8 : L8.length = 24 := by rw [← e8, List.length_append, leB_length]; rw [n7]
            have HFIN := Aside0.mk hfin
            have HE := Aside0.mk (And.intro e1 (And.intro e2 (And.intro e3 (And.intro e4 (And.intro e5 (And.intro e6 (And.intro e7 (e8))))))))
            have HN := Aside0.mk (And.intro n1 (And.intro n2 (And.intro n3 (And.intro n4 (And.intro n5 (And.intro n6 (And.intro n7 (n8))))))))
            clear hfin e1 n1 e2 n2 e3 n3 e4 n4 e5 n5 e6 n6 e7 n7 e8 n8
            have HB0 := Aside0.mk (Below.refl w1.heap.size w1)
            have HR0 := Aside0.mk (brow_nil w1 w1.heap.size)
            have hC : Calls Try.prog 23 #[.slice none 0 0, .int .i64 4, .int .i64 b] w1 (fun e w' => ∃ v', e = .returned v' ∧ Kd.R (Kd.int .u8) 5 w' w1.heap.size (fun _ => True) v' L1 ∧ Below w1.heap.size w1 w') := by
              have h := rput_calls 4 (by decide) b HF.out.1.1.1.1.1.1.1 (w1 := w1) (W := w1) (v := .slice none 0 0) (l := ([] : List Int)) HB0.out HR0.out (by simp)
              rw [HE.out.1] at h
              exact h
            have HC := Aside0.mk hC
            clear hC
            have xs : w1.cell? ⟨gb, 0, none⟩ = some (.int .i64 b) := (blk_cell (blk_below HXw.out HB0.out) 0).trans rfl
            go_wp2_with fail
            ((with_reducible refine HC.out.mono ?_); rintro e v1w ⟨v1, rfl, hr, hb⟩)
            have HR1 := Aside0.mk hr
            have HB1 := Aside0.mk hb
            clear hr hb HC xs HB0 HR0
            have hC : Calls Try.prog 23 #[v1, .int .i64 4, .int .i64 q] v1w (fun e w' => ∃ v', e = .returned v' ∧ Kd.R (Kd.int .u8) 5 w' w1.heap.size (fun _ => True) v' L2 ∧ Below w1.heap.size w1 w') := by
              have h := rput_calls 4 (by decide) q HF.out.1.1.1.1.1.1.2 (w1 := w1) (W := v1w) (v := v1) (l := L1) HB1.out HR1.out (by have := HN.out.1; omega)
              rw [HE.out.2.1] at h
              exact h
            have HC := Aside0.mk hC
            clear hC
            have xs : v1w.cell? ⟨gb, 1, none⟩ = some (.int .i64 q) := (blk_cell (blk_below HXw.out HB1.out) 1).trans rfl
            go_wp2_with fail
            ((with_reducible refine HC.out.mono ?_); rintro e v2w ⟨v2, rfl, hr, hb⟩)
            have HR2 := Aside0.mk hr
            have HB2 := Aside0.mk hb
            clear hr hb HC xs HB1 HR1
            have hC : Calls Try.prog 23 #[v2, .int .i64 4, .int .i64 a] v2w (fun e w' => ∃ v', e = .returned v' ∧ Kd.R (Kd.int .u8) 5 w' w1.heap.size (fun _ => True) v' L3 ∧ Below w1.heap.size w1 w') := by
              have h := rput_calls 4 (by decide) a HF.out.1.1.1.1.1.2 (w1 := w1) (W := v2w) (v := v2) (l := L2) HB2.out HR2.out (by have := HN.out.2.1; omega)
              rw [HE.out.2.2.1] at h
              exact h
            have HC := Aside0.mk hC
            clear hC
            have xs : v2w.cell? ⟨gb, 6, none⟩ = some (.int .i64 a) := (blk_cell (blk_below HXw.out HB2.out) 6).trans rfl
            go_wp2_with fail
            ((with_reducible refine HC.out.mono ?_); rintro e v3w ⟨v3, rfl, hr, hb⟩)
            have HR3 := Aside0.mk hr
            have HB3 := Aside0.mk hb
            clear hr hb HC xs HB2 HR2
            have hC : Calls Try.prog 23 #[v3, .int .i64 4, .int .i64 n] v3w (fun e w' => ∃ v', e = .returned v' ∧ Kd.R (Kd.int .u8) 5 w' w1.heap.size (fun _ => True) v' L4 ∧ Below w1.heap.size w1 w') := by
              have h := rput_calls 4 (by decide) n HF.out.1.1.1.1.2 (w1 := w1) (W := v3w) (v := v3) (l := L3) HB3.out HR3.out (by have := HN.out.2.2.1; omega)
              rw [HE.out.2.2.2.1] at h
              exact h
            have HC := Aside0.mk hC
            clear hC
            have xs : v3w.cell? ⟨gb, 7, none⟩ = some (.int .i64 n) := (blk_cell (blk_below HXw.out HB3.out) 7).trans rfl
            go_wp2_with fail
            ((with_reducible refine HC.out.mono ?_); rintro e v4w ⟨v4, rfl, hr, hb⟩)
            have HR4 := Aside0.mk hr
            have HB4 := Aside0.mk hb
            clear hr hb HC xs HB3 HR3
            go_wp2_with fail
            go_loopg [6, 7] 4 (fun kq v6 v7 w' => (v7 = .int .i64 0 ∧ 4 - 0 ≤ kq ∧ Aside0 (Kd.R (Kd.int .u8) 5 w' w1.heap.size (fun _ => True) v6 L4 ∧ Below w1.heap.size w1 w')) ∨ (v7 = .int .i64 1 ∧ 4 - 1 ≤ kq ∧ Aside0 (Kd.R (Kd.int .u8) 5 w' w1.heap.size (fun _ => True) v6 L5 ∧ Below w1.heap.size w1 w')) ∨ (v7 = .int .i64 2 ∧ 4 - 2 ≤ kq ∧ Aside0 (Kd.R (Kd.int .u8) 5 w' w1.heap.size (fun _ => True) v6 L6 ∧ Below w1.heap.size w1 w')) ∨ (v7 = .int .i64 3 ∧ 4 - 3 ≤ kq ∧ Aside0 (Kd.R (Kd.int .u8) 5 w' w1.heap.size (fun _ => True) v6 L7 ∧ Below w1.heap.size w1 w')) ∨ (v7 = .int .i64 4 ∧ 4 - 4 ≤ kq ∧ Aside0 (Kd.R (Kd.int .u8) 5 w' w1.heap.size (fun _ => True) v6 L8 ∧ Below w1.heap.size w1 w')))
            case atStart => exact .inl ⟨rfl, by omega, ⟨HR4.out, HB4.out⟩⟩
            case round =>
              rcases hrel with ⟨rfl, hkq, HS⟩ | ⟨rfl, hkq, HS⟩ | ⟨rfl, hkq, HS⟩ | ⟨rfl, hkq, HS⟩ | ⟨rfl, hkq, HS⟩
              · cases gk with
                | zero => omega
                | succ k1 =>
                  have hC : Calls Try.prog 23 #[u6, .int .i64 2, .int .i64 s0] wr (fun e w' => ∃ v', e = .returned v' ∧ Kd.R (Kd.int .u8) 5 w' w1.heap.size (fun _ => True) v' L5 ∧ Below w1.heap.size w1 w') := by
                    have h := rput_calls 2 (by decide) s0 HF.out.1.1.1.2 (w1 := w1) (W := wr) (v := u6) (l := L4) HS.out.2 HS.out.1 (by have := HN.out.2.2.2.1; omega)
                    rw [HE.out.2.2.2.2.1] at h
                    exact h
                  have HC := Aside0.mk hC
                  clear hC
                  have xs : wr.cell? ⟨gb, 2, none⟩ = some (.int .i64 s0) := (blk_cell (blk_below HXw.out HS.out.2) 2).trans rfl
                  go_wp2_with fail
                  ((with_reducible refine HC.out.mono ?_); rintro e w7 ⟨v7, rfl, hr, hb⟩)
                  have HR7 := Aside0.mk hr
                  have HB7 := Aside0.mk hb
                  clear hr hb HC xs HS
                  go_wp2_with fail
                  go_roundg k1
                  case measure => omega
                  case rel => exact .inr (.inl ⟨by go_num, by omega, ⟨HR7.out, HB7.out⟩⟩)
              · cases gk with
                | zero => omega
                | succ k1 =>
                  have hC : Calls Try.prog 23 #[u6, .int .i64 2, .int .i64 s1] wr (fun e w' => ∃ v', e = .returned v' ∧ Kd.R (Kd.int .u8) 5 w' w1.heap.size (fun _ => True) v' L6 ∧ Below w1.heap.size w1 w') := by
                    have h := rput_calls 2 (by decide) s1 HF.out.1.1.2 (w1 := w1) (W := wr) (v := u6) (l := L5) HS.out.2 HS.out.1 (by have := HN.out.2.2.2.2.1; omega)
                    rw [HE.out.2.2.2.2.2.1] at h
                    exact h
                  have HC := Aside0.mk hC
                  clear hC
                  have xs : wr.cell? ⟨gb, 3, none⟩ = some (.int .i64 s1) := (blk_cell (blk_below HXw.out HS.out.2) 3).trans rfl
                  go_wp2_with fail
                  ((with_reducible refine HC.out.mono ?_); rintro e w7 ⟨v7, rfl, hr, hb⟩)
                  have HR7 := Aside0.mk hr
                  have HB7 := Aside0.mk hb
                  clear hr hb HC xs HS
                  go_wp2_with fail
                  go_roundg k1
                  case measure => omega
                  case rel => exact .inr (.inr (.inl ⟨by go_num, by omega, ⟨HR7.out, HB7.out⟩⟩))
              · cases gk with
                | zero => omega
                | succ k1 =>
                  have hC : Calls Try.prog 23 #[u6, .int .i64 2, .int .i64 s2] wr (fun e w' => ∃ v', e = .returned v' ∧ Kd.R (Kd.int .u8) 5 w' w1.heap.size (fun _ => True) v' L7 ∧ Below w1.heap.size w1 w') := by
                    have h := rput_calls 2 (by decide) s2 HF.out.1.2 (w1 := w1) (W := wr) (v := u6) (l := L6) HS.out.2 HS.out.1 (by have := HN.out.2.2.2.2.2.1; omega)
                    rw [HE.out.2.2.2.2.2.2.1] at h
                    exact h
                  have HC := Aside0.mk hC
                  clear hC
                  have xs : wr.cell? ⟨gb, 4, none⟩ = some (.int .i64 s2) := (blk_cell (blk_below HXw.out HS.out.2) 4).trans rfl
                  go_wp2_with fail
                  ((with_reducible refine HC.out.mono ?_); rintro e w7 ⟨v7, rfl, hr, hb⟩)
                  have HR7 := Aside0.mk hr
                  have HB7 := Aside0.mk hb
                  clear hr hb HC xs HS
                  go_wp2_with fail
                  go_roundg k1
                  case measure => omega
                  case rel => exact .inr (.inr (.inr (.inl ⟨by go_num, by omega, ⟨HR7.out, HB7.out⟩⟩)))
              · cases gk with
                | zero => omega
                | succ k1 =>
                  have hC : Calls Try.prog 23 #[u6, .int .i64 2, .int .i64 s3] wr (fun e w' => ∃ v', e = .returned v' ∧ Kd.R (Kd.int .u8) 5 w' w1.heap.size (fun _ => True) v' L8 ∧ Below w1.heap.size w1 w') := by
                    have h := rput_calls 2 (by decide) s3 HF.out.2 (w1 := w1) (W := wr) (v := u6) (l := L7) HS.out.2 HS.out.1 (by have := HN.out.2.2.2.2.2.2.1; omega)
                    rw [HE.out.2.2.2.2.2.2.2] at h
                    exact h
                  have HC := Aside0.mk hC
                  clear hC
                  have xs : wr.cell? ⟨gb, 5, none⟩ = some (.int .i64 s3) := (blk_cell (blk_below HXw.out HS.out.2) 5).trans rfl
                  go_wp2_with fail
                  ((with_reducible refine HC.out.mono ?_); rintro e w7 ⟨v7, rfl, hr, hb⟩)
                  have HR7 := Aside0.mk hr
                  have HB7 := Aside0.mk hb
                  clear hr hb HC xs HS
                  go_wp2_with fail
                  go_roundg k1
                  case measure => omega
                  case rel => exact .inr (.inr (.inr (.inr (⟨by go_num, by omega, ⟨HR7.out, HB7.out⟩⟩))))
              · have xt : wr.cell? ⟨gb, 8, none⟩ = some (.string t) := (blk_cell (blk_below HXw.out HS.out.2) 8).trans rfl
                go_wp2_with (at_builtin; refine wpList_append_str rfl (.tmp 74) (.tmp 77) rfl w1.heap.size u6 L8 rfl HS.out.1 t rfl (by have := HN.out; have := HT.out; omega) HS.out.2.size ?_; intro v9 w9 hr9 hg9 hat9; have HR9 := Aside0.mk hr9; have HB9 := Aside0.mk (HS.out.2.grown hg9 HS.out.2.size (fun k e => (brow_lt HS.out.1 k e).1)); clear hr9 hg9 hat9)
                have hby : Bytes (L8 ++ bytesOf t) := by rw [← HFIN.out]; exact (recBytes_bytes _ _ _ _ _ _ _ _).append (bytesOf_bytes t)
                have hlen : (L8 ++ bytesOf t).length ≤ 65535 := by have := HTX.out; have := HN.out.2.2.2.2.2.2.2; rw [List.length_append, bytesOf_length]; omega
                have hF := rframe_yes hby hlen (k := 70000) (by omega)
                have hro : ro = (frm (L8 ++ bytesOf t), 0) := by rw [HO2.out, HFIN.out]
                obtain ⟨FL, hFL⟩ : ∃ FL, frm (L8 ++ bytesOf t) = FL := ⟨_, rfl⟩
                rw [hFL] at hF hro
                obtain ⟨A9, c9, hv9, hc9, hC9⟩ := brow_reads HR9.out
                subst hv9
                have HC := Aside0.mk (skerryref02_Frame.calls 70000 A9 c9 _ _ _ w9 hC9 hc9 hF)
                have HO3 := Aside0.mk hro
                clear hby hlen hF hro hc9 hC9 hFL HS xt
                ((with_reducible refine HC.out.mono ?_); rintro e w10 ⟨v10, rfl, hr10, hb10⟩)
                have HR10 := Aside0.mk (brow_less hr10 (base := w.heap.size) (by have := HB9.out.size; have := HBw.out.size; omega))
                have HB10 := Aside0.mk (below_then HBw.out HBw.out.size (below_then HB9.out HB9.out.size hb10))
                clear hr10 hb10 HC
                go_wp2
                go_ret2
                rw [HO3.out]
                exact ⟨_, rfl, HR10.out, HB10.out⟩
end Go.Proofs.Ytbplffdmggbcdaa.Codec
