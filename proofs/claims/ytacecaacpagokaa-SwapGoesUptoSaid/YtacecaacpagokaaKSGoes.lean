/- The law SwapGoes, walked. -/
import Derived.Test.YtacecaacpagokaaKSTail
namespace Go.Proofs.Ytacecaacpagokaa.Swap
open Go.RowKit Go.Proofs.Ytacecaacpagokaa.PSwapGoes Go.Proofs.Ytacecaacpagokaa.Plain Go.Proofs.Ytacecaacpagokaa.Pure Go.Proofs.Ytacecaacpagokaa.Codec Go.Proofs.Ytacecaacpagokaa.Turn Go.Proofs.Ytacecaacpagokaa.PlainFloat Go.Proofs.YtacecaacpagokaaW.PrintWords Go.Proofs.YtacecaacpagokaaW.PrintLast Go.Proofs.YtacecaacpagokaaW.PrintMore
set_option linter.unusedVariables false
set_option linter.unusedSimpArgs false
attribute [local go_sem] run_store_complex max2_int min2_int max_two min_two
theorem file_yes {block base : Int} (h0 : 64 ≤ block) (h1 : block ≤ 4096) (h2 : 0 ≤ base) (h3 : base ≤ 4294967295) (h4 : Go.bits .and .i64 block (wrap64 (block - 1)) = 0) : swap_file.f block base = some (block - 30, 0) := by
  unfold swap_file.f swap_Most.f
  rw [if_neg (by omega), if_neg (by omega), if_pos h4, w64 (by omega) (by omega)]
  simp only [Option.bind]
  rw [if_pos trivial, if_neg (by omega), if_pos (by omega)]
/-- The world while a file is gone on with. -/
structure GSt (w W : World) (x : S46) (vb vd : Value) (b : List Int) (done : List S46) : Prop where
  box : W.heap[w.heap.size]? = some (.cells #[.int .i64 x.f0, .int .i64 x.f1, .string x.f2] 46 (0, 0))
  rb : Kd.R (Kd.int .u8) 5 W (w.heap.size + 1) (fun _ => True) vb b
  rd : Kd.R k46 46 W (w.heap.size + 1) (fun _ => True) vd done
  below : Below w.heap.size w W
  size : w.heap.size + 1 ≤ W.heap.size
theorem GSt.later {w W W' : World} {x : S46} {vb vd : Value} {b : List Int} {done : List S46} (h : GSt w W x vb vd b done) (hb : Below W.heap.size W W') : GSt w W' x vb vd b done := by
  obtain ⟨t1, b1, d1, w1, z1⟩ := h
  exact ⟨blk_below t1 hb, R_keep flat_u8 b1 (fun k hk => hb.block k (R_blk b1 k hk).2.1), R_keep flat_e d1 (fun k hk => hb.block k (R_blk d1 k hk).2.1), below_then w1 w1.size hb, Nat.le_trans z1 hb.size⟩
theorem GSt.pushB {w W W' : World} {x : S46} {vb vd vb' : Value} {b b' : List Int} {done : List S46} (h : GSt w W x vb vd b done) (ho : Kd.R (Kd.int .u8) 5 W' (w.heap.size + 1) (fun _ => True) vb' b') (hg : W.grownBy W' vb.ownBlock) (hb : Below (w.heap.size + 1) W W') : GSt w W' x vb' vd b' done := by
  obtain ⟨t1, b1, d1, w1, z1⟩ := h
  exact ⟨(hb.block _ (by omega)).trans t1, ho, R_keep flat_e d1 (fun k hk => hg.block k (R_blk d1 k hk).2.1 (fun e => R_apart d1 b1 (by decide) k hk e.symm)), w1.trans (hb.mono (by omega)), Nat.le_trans z1 hb.size⟩
theorem GSt.of {w w1 W : World} {x : S46} {vb vd ve : Value} {t : Tl} {b : List Int} {done : List S46} {ends : List Int} (h : WSt w1 W vb vd ve t b done ends) (hbox : w1.heap[w.heap.size]? = some (.cells #[.int .i64 x.f0, .int .i64 x.f1, .string x.f2] 46 (0, 0))) (hb : Below w.heap.size w w1) (hz : w.heap.size + 1 ≤ w1.heap.size) : GSt w W x vb vd b done := by
  obtain ⟨_, b1, d1, e1, q1, z1⟩ := h
  exact ⟨blk_below hbox q1, R_low flat_u8 b1 (by omega), R_low flat_e d1 (by omega), below_then hb hb.size q1, by omega⟩
theorem NSt.pushG {W W' : World} {vb vb' vc : Value} {gx base : Nat} {c b : List Int} {t : Tl} {ok : Nat → Prop} (h : NSt W vb vc gx c t) (hr : Kd.R (Kd.int .u8) 5 W base ok vb b) (hg : W.grownBy W' vb.ownBlock) (hat : vb'.ownBlock = vb.ownBlock ∨ ∃ k, vb'.ownBlock = some k ∧ W.heap.size ≤ k) : NSt W' vb' vc gx c t := by
  obtain ⟨⟨_, _, _, _, _, _, _, _, t1, t2⟩, r1, a1⟩ := h
  refine ⟨⟨_, _, _, _, _, _, _, _, (hg.block _ (blk_lt t1) (fun e => ?_)).trans t1, t2⟩, R_keep flat_u8 r1 (fun k hk => hg.block k (R_blk r1 k hk).2.1 (fun e => a1 k hk e.symm)), fun k hk e => ?_⟩
  · obtain ⟨_, _, cs, hc⟩ := R_blk hr gx e.symm
    rw [t1] at hc
    injection hc with hc
    injection hc with _ h2
    exact absurd h2 (by decide)
  · rcases hat with q | ⟨k2, q, hq⟩
    · rw [q] at e; exact a1 k hk e
    · rw [q] at e
      have := (R_blk r1 k hk).2.1
      have := Option.some.inj e
      omega
theorem reps_one (x : S46) (W : World) (b : Nat) (ok : Nat → Prop) : Reps (k46.M W b ok) k46.sz [x] [.int .i64 x.f0, .int .i64 x.f1, .string x.f2] := by
  refine ⟨rfl, fun j p hj => ?_⟩
  obtain rfl : j = 0 := by
    have := (List.getElem?_eq_some_iff.1 hj).1
    simp at this
    omega
  obtain rfl : x = p := by simpa using hj
  exact k46_mkM _ _ _ _
def goes.T18 : Bool × List (List Nat × List Nat) := (true, [([], []), ([0], [0]), ([1], [1]), ([2], [2]), ([2], [2]), ([2], [2]), ([4, 5, 2, 2], [2, 4, 5]), ([2], [2]), ([7, 2], [2, 7]), ([6, 8, 6, 2], [2, 6, 8]), ([3, 9, 9, 2], [2, 3, 9]), ([2, 10], [2, 10]), ([11, 10], [11]), ([12], [12]), ([12], [12]), ([13, 14, 12], [12, 13, 14]), ([12, 15], [12, 15]), ([16, 12, 0, 1, 2, 3, 4, 5, 6, 7, 8, 9, 10, 11, 12, 13, 14, 15, 16], [16])])
def goes.B18 : List Nat := [0, 1, 3, 7, 7, 7, 55, 7, 135, 503, 1023, 2047, 4095, 8191, 8191, 32767, 65535, 131071]
theorem goes.tab18 : rtab .any (opsOf Try.f5 18) = goes.T18 := by kernel_rfl
theorem goes.bits18 : waitsOk goes.T18.2 goes.B18 = true := by kernel_rfl

set_option maxHeartbeats 4000000 in
set_option maxRecDepth 100000 in
theorem goes_ok (block base : Int) (A : Option Addr) (c : Nat) (l : List S46) (x : S46) (w : World) (hr : Kd.C k46 w A l.length l) (hl : l.length ≤ 1048576) (hsz : ∀ y ∈ l, y.f2.size ≤ 1048576) (hx : x.f2.size ≤ 1048576) :
    Calls Try.prog 5 #[.int .i64 block, .int .i64 base, .slice A l.length c, .agg #[.int .i64 x.f0, .int .i64 x.f1, .string x.f2]] w fun e w' => e = .returned (.bool true) ∧ Below w.heap.size w w' := by
  have hu := Try.underlying29
  have hu5 := Try.underlying46
  have HR := Aside0.mk hr
  have HL := Aside0.mk hl
  have HSZ := Aside0.mk hsz
  have HX := Aside0.mk hx
  clear hr hl hsz hx
  go_enter Try.func5, Try.ntmps5
  go_wp2_with fail
  refine (wakes_ok _).mono ?_
  rintro e w1 ⟨rfl, hb1⟩
  have hal := blk_new w (.cells #[.int .i64 x.f0, .int .i64 x.f1, .string x.f2] 46)
  have hsz1 : (w.alloc (.cells #[.int .i64 x.f0, .int .i64 x.f1, .string x.f2] 46)).heap.size = w.heap.size + 1 := by simp
  have HBX := Aside0.mk (blk_below hal hb1)
  have HZ1 : Aside0 (w.heap.size + 1 ≤ w1.heap.size) := ⟨by have := hb1.size; omega⟩
  have HB1 := Aside0.mk (below_then (below_alloc (Below.refl w.heap.size w) _) (by omega) hb1)
  clear hb1 hal hsz1
  by_cases g : 0 ≤ base ∧ base ≤ 4294967295 ∧ 64 ≤ block ∧ block ≤ 4096 ∧ Go.bits .and .i64 block (block - 1) = 0 ∧ l.length ≤ 40
  rotate_left
  · go_wp2_with fail
    all_goals first
      | (go_ret; exact ⟨rfl, HB1.out⟩)
      | (exfalso; exact g ⟨by omega, by omega, by omega, by omega, by assumption, by omega⟩)
  · obtain ⟨g0, g1, g2, g3, g4, g5⟩ := g
    have d0 : decide (base < 0) = false := decide_eq_false (by omega)
    have d1 : decide (4294967295 < base) = false := decide_eq_false (by omega)
    have d2 : decide (block < 64) = false := decide_eq_false (by omega)
    have d3 : decide (4096 < block) = false := decide_eq_false (by omega)
    have d4 : decide (40 < (l.length : Int)) = false := decide_eq_false (by omega)
    have wb1 : wrap64 (block - 1) = block - 1 := w64 (by omega) (by omega)
    have hf := file_yes g2 g3 g0 g1 (by rw [wb1]; exact g4)
    have hkk : 64 ≤ block ∧ block ≤ 4096 := ⟨g2, g3⟩
    have HF := Aside0.mk hf
    have HG0 := Aside0.mk g0
    clear hf
    go_wp2_with fail
    refine (written_ok block base A c l w1 (Kd.C_below HR.out HB1.out) g5 (fun y hy => by have := HSZ.out y hy; omega) HF.out hkk).mono ?_
    rintro e w2 ⟨vb, vd, ve, t, b, done, ends, hw, hd, rfl, hst⟩
    have HW := Aside0.mk hw
    have HS2 := Aside0.mk (GSt.of hst HBX.out HB1.out HZ1.out)
    obtain ⟨hap, hsm⟩ := wr_app hkk hw (by omega) x (by have := HX.out; omega)
    have hwo := wr_ok hkk hw
    have HAP := Aside0.mk hap
    have HSM := Aside0.mk hsm
    have hbl : b.length ≤ 400000 := by
      have hm2 : (done.length : Int) * (2 * block) ≤ 40 * 8192 := Int.mul_le_mul (by omega) (by omega) (by omega) (by decide)
      have := hwo.most
      have := hwo.a
      omega
    have HBL := Aside0.mk hbl
    have HBY := Aside0.mk hwo.by_
    clear hw hst hap hsm hwo hbl
    obtain ⟨Ab, cb, rfl, hcb, hCb⟩ := brow_reads HS2.out.rb
    obtain ⟨Ad, cd, rfl, _, _⟩ := Kd.R_reads HS2.out.rd
    go_wp2_with fail
    refine (scan_ok b block base Ab cb w2 hCb hcb HBY.out (by have := HBL.out; omega) (block - 30) HF.out hkk).mono ?_
    rintro e w3 ⟨v, L, u, a0, b0, a1, b1, a2, b2, a3, b3, hsc, hok, hof, rfl, hrow, hb3⟩
    obtain ⟨rfl, rfl⟩ := hsc.uniq (scan_whole hkk HW.out)
    have HS3 := Aside0.mk (HS2.out.later hb3)
    have HOF := Aside0.mk hof
    clear hcb hCb hsc hok hof hrow hb3
    have HS4 := Aside0.mk (HS3.out.later (below_alloc (Below.refl w3.heap.size w3) (.cells #[.int .i64 u.a, .int .i64 u.q, .int .i64 u.b, .complex .f64 a0 b0, .complex .f64 a1 b1, .complex .f64 a2 b2, .complex .f64 a3 b3] 29)))
    have HN4 := Aside0.mk (blk_new w3 (.cells #[.int .i64 u.a, .int .i64 u.q, .int .i64 u.b, .complex .f64 a0 b0, .complex .f64 a1 b1, .complex .f64 a2 b2, .complex .f64 a3 b3] 29))
    have x0 : (w3.alloc (.cells #[.int .i64 u.a, .int .i64 u.q, .int .i64 u.b, .complex .f64 a0 b0, .complex .f64 a1 b1, .complex .f64 a2 b2, .complex .f64 a3 b3] 29)).cell? ⟨w.heap.size, 0, none⟩ = some (.int .i64 x.f0) := (blk_cell HS4.out.box 0).trans rfl
    have x1 : (w3.alloc (.cells #[.int .i64 u.a, .int .i64 u.q, .int .i64 u.b, .complex .f64 a0 b0, .complex .f64 a1 b1, .complex .f64 a2 b2, .complex .f64 a3 b3] 29)).cell? ⟨w.heap.size, 1, none⟩ = some (.int .i64 x.f1) := (blk_cell HS4.out.box 1).trans rfl
    have x2 : (w3.alloc (.cells #[.int .i64 u.a, .int .i64 u.q, .int .i64 u.b, .complex .f64 a0 b0, .complex .f64 a1 b1, .complex .f64 a2 b2, .complex .f64 a3 b3] 29)).cell? ⟨w.heap.size, 2, none⟩ = some (.string x.f2) := (blk_cell HS4.out.box 2).trans rfl
    go_wp2_with fail
    refine (app_any block base u x a0 b0 a1 b1 a2 b2 a3 b3 _ HOF.out HAP.out HF.out hkk).mono ?_
    rintro e w5 ⟨vp, er, vv, cl, tn, c0, d0', c1, d1', c2, d2', c3, d3', rfl, her, hoc, hrc, hb, hok⟩
    have HS5 := Aside0.mk (HS4.out.later hb)
    have HRC := Aside0.mk (R_low flat_u8 hrc (Nat.zero_le _))
    have HVA : Aside0 (∀ k, vv.ownBlock = some k → (Value.slice Ab b.length cb).ownBlock ≠ some k) := ⟨fun k hk q => by have h1 := (R_blk hrc k hk).1; have h2 := (R_blk HS4.out.rb k q).2.1; omega⟩
    have HOC := Aside0.mk hoc
    clear hrc hb hoc x0 x1 x2
    have HS6 := Aside0.mk (HS5.out.later (below_alloc (Below.refl w5.heap.size w5) (.cells #[.int .i64 tn.a, .int .i64 tn.q, .int .i64 tn.b, .complex .f64 c0 d0', .complex .f64 c1 d1', .complex .f64 c2 d2', .complex .f64 c3 d3'] 29)))
    rcases appErr_cases block base u x with he0 | he35
    rotate_left
    · rcases he35 with h3 | h3
      all_goals
        rw [h3] at her
        subst her
        clear hok h3
        go_wp2_with fail
        go_ret
        exact ⟨rfl, HS6.out.below⟩
    · rw [he0] at her
      subst her
      obtain ⟨hvp, hcl, htn⟩ := hok rfl
      have hwo := wr_ok hkk HW.out
      obtain ⟨P, hc, hPb, hPl, hxs, hq, -, -, -, -, -, e5⟩ := app_rec hwo.ok.S.1 he0
      have hn30 : (cl.length : Int) = 30 + (x.f2.size : Int) := by rw [hcl, hc, frm_length]; omega
      have HNew := Aside0.mk (Wr.snoc x HW.out he0 HSM.out)
      have hab : appBytes block base u x b = b ++ zer (vp - u.a) ++ cl := by unfold appBytes; rw [hvp, hcl]
      rw [hab, ← htn] at HNew
      rw [← hcl] at hvp
      obtain ⟨p1, p2, p3, p4⟩ := place_ok hkk hwo.ok.a0 (n := (cl.length : Int)) (by omega) (by omega)
      rw [← hvp] at p1 p2 p3 p4
      have hta := hwo.a
      have HP := Aside0.mk (And.intro p1 hta)
      have hbl := HBL.out
      have hbig : vp + (cl.length : Int) ≤ 1000000 := by omega
      have hbv : (b.length : Int) ≤ vp := by omega
      have HN30 := Aside0.mk hn30
      clear hab hvp hcl htn hwo hc hPb hPl hxs hq e5 p1 p2 p3 p4 hta he0 hok hn30 hbl
      obtain ⟨A16, c16, rfl, _, _⟩ := brow_reads HRC.out
      have HN6 : Aside0 (NSt (w5.alloc (.cells #[.int .i64 tn.a, .int .i64 tn.q, .int .i64 tn.b, .complex .f64 c0 d0', .complex .f64 c1 d1', .complex .f64 c2 d2', .complex .f64 c3 d3'] 29)) (.slice Ab b.length cb) (.slice A16 cl.length c16) w5.heap.size cl tn) := ⟨⟨_, _, _, _, _, _, _, _, blk_new w5 _, HOC.out⟩, R_keep flat_u8 HRC.out (fun k hk => (below_alloc (Below.refl w5.heap.size w5) _).block k (R_blk HRC.out k hk).2.1), HVA.out⟩
      clear HRC HVA HOC HS5 HS3 HS2 HN4
      go_wp2_with fail
      go_loopg [9] (vp - (b.length : Int)).toNat (fun kp v9 w7 => ∃ k : Nat, k + kp = (vp - (b.length : Int)).toNat ∧ Aside0 (GSt w w7 x v9 (.slice Ad L.length cd) (b ++ List.replicate k 0) L) ∧ Aside0 (NSt w7 v9 (.slice A16 cl.length c16) w5.heap.size cl tn))
      case atStart => exact ⟨0, by omega, ⟨by simpa using HS6.out⟩, HN6⟩
      case round =>
        obtain ⟨k, hkv, HW1, HN1⟩ := hrel
        clear HS6 HN6
        obtain ⟨A1, c1, hv, _, _⟩ := brow_reads HW1.out.rb
        have hlen : (b ++ List.replicate k (0 : Int)).length = b.length + k := by simp
        rw [hlen] at hv
        subst hv
        have hal := below_alloc (Below.refl wr.heap.size wr) (.cells #[.int .u8 0] 5)
        by_cases hkp : k < (vp - (b.length : Int)).toNat
        · obtain ⟨g2, rfl⟩ : ∃ g2, gk = g2 + 1 := ⟨gk - 1, by omega⟩
          have e1' : decide ((b.length : Int) + (k : Int) < vp) = true := decide_eq_true (by omega)
          have HA := Aside0.mk hal
          clear hal
          go_wp2_with (at_builtin; refine Kd.R_append_rows (Kd.int .u8) (w0 := _) (w.heap.size + 1) rfl (.tmp 93) (.tmp 94) 22 5 (.int .u8 0) 1 rfl Try.underlying22 info5b rfl (by decide) (by omega) (.slice A1 (b.length + k) c1) (b ++ List.replicate k 0) [0] (some ⟨wr.heap.size, 0, none⟩) 1 1 (fun _ => True) (fun _ => False) (by rfl) (by rfl) (HW1.out.later HA.out).rb (lit_b wr 0) (fun _ _ h => h) (fun _ h => h.elim) (fun _ _ => trivial) (Below.refl _ _) (HW1.out.later HA.out).size (by simp; omega) ?_; intro v2 w2 ho hb hg hat; have HW2 := Aside0.mk ((HW1.out.later HA.out).pushB ho hg hb); have HN2 := Aside0.mk ((HN1.out.later HA.out).pushG (HW1.out.later HA.out).rb hg hat); clear ho hb hg hat)
          go_roundg g2
          case measure => omega
          case rel =>
            have hz : b ++ List.replicate (k + 1) (0 : Int) = b ++ List.replicate k 0 ++ [0] := by rw [List.replicate_succ', List.append_assoc]
            rw [← hz] at HW2
            exact ⟨k + 1, by omega, HW2, HN2⟩
        · have e1' : decide ((b.length : Int) + (k : Int) < vp) = false := decide_eq_false (by omega)
          clear hal
          obtain ⟨p1, hta⟩ := HP.out
          have hzk : List.replicate k (0 : Int) = zer (vp - u.a) := by unfold zer; rw [show k = (vp - u.a).toNat by omega]
          rw [hzk] at HW1
          have hbl4 : (((b ++ zer (vp - u.a) ++ cl).length : Nat) : Int) = vp + (cl.length : Int) := by
            have := zer_length (vp - u.a) (by omega)
            rw [List.length_append, List.length_append]
            omega
          obtain ⟨b4, hb4⟩ : ∃ b4, b ++ zer (vp - u.a) ++ cl = b4 := ⟨_, rfl⟩
          have HCAP : Aside0 (((b ++ zer (vp - u.a)).length + cl.length) * 1 ≤ 140737488355328) := ⟨by rw [List.length_append] at hbl4; omega⟩
          rw [hb4] at hbl4 HNew
          have HBL4 := Aside0.mk hbl4
          clear p1 hta hbl4
          go_upto_region 17 with (at_builtin; refine Kd.R_append_rows (Kd.int .u8) (w0 := _) (w.heap.size + 1) rfl (.tmp 96) (.tmp 97) 22 5 (.int .u8 0) 1 rfl Try.underlying22 info5b rfl (by decide) (by omega) (.slice A1 (b.length + k) c1) (b ++ zer (vp - u.a)) cl A16 cl.length c16 (fun _ => True) (fun _ => False) (by rfl) (by rfl) HW1.out.rb (Kd.R_reads' HN1.out.rc).2.2 (fun _ _ h => h) (fun _ h => h.elim) (fun _ _ => trivial) (Below.refl _ _) HW1.out.size HCAP.out ?_; rw [hb4]; intro v8 w8 ho hb hg hat; have HW8 := Aside0.mk (HW1.out.pushB ho hg hb); have HN8 := Aside0.mk (HN1.out.pushG HW1.out.rb hg hat); clear ho hb hg hat)
          obtain ⟨A4, c4, rfl, hc4, hC4⟩ := brow_reads HW8.out.rb
          have hwo4 := wr_ok hkk HNew.out
          have hby4 := hwo4.by_
          go_wp2_with fail
          refine (scan_ok b4 block base A4 c4 w8 hC4 hc4 hby4 (by have := HBL4.out; omega) (block - 30) HF.out hkk).mono ?_
          rintro e w9 ⟨v9, L9, u9, f0, h0, f1, h1, f2, h2, f3, h3, hsc, hok, hof, rfl, hrow, hb9⟩
          obtain ⟨rfl, rfl⟩ := hsc.uniq (scan_whole hkk HNew.out)
          have HS9 := Aside0.mk (HW8.out.later hb9)
          have HN9 := Aside0.mk (HN8.out.later hb9)
          have HR9 := Aside0.mk (R_low flat_e hrow (Nat.zero_le _))
          have HOF9 := Aside0.mk hof
          clear hc4 hC4 hwo4 hby4 hsc hok hof hrow hb9
          go_upto_region 18 with (fail)
          have hb10 := below_alloc (Below.refl w9.heap.size w9) (.cells #[.int .i64 u9.a, .int .i64 u9.q, .int .i64 u9.b, .complex .f64 f0 h0, .complex .f64 f1 h1, .complex .f64 f2 h2, .complex .f64 f3 h3] 29)
          have HS10 := Aside0.mk (HS9.out.later hb10)
          have HN10 := Aside0.mk (HN9.out.later hb10)
          have HR10 := Aside0.mk (R_keep (W' := w9.alloc (.cells #[.int .i64 u9.a, .int .i64 u9.q, .int .i64 u9.b, .complex .f64 f0 h0, .complex .f64 f1 h1, .complex .f64 f2 h2, .complex .f64 f3 h3] 29)) flat_e HR9.out (fun k hk => hb10.block k (R_blk HR9.out k hk).2.1))
          have HT10 := Aside0.mk (blk_new w9 (.cells #[.int .i64 u9.a, .int .i64 u9.q, .int .i64 u9.b, .complex .f64 f0 h0, .complex .f64 f1 h1, .complex .f64 f2 h2, .complex .f64 f3 h3] 29))
          clear hb10 HS9 HN9 HR9 HW8 HN8 HW1 HN1
          generalize w9.alloc (.cells #[.int .i64 u9.a, .int .i64 u9.q, .int .i64 u9.b, .complex .f64 f0 h0, .complex .f64 f1 h1, .complex .f64 f2 h2, .complex .f64 f3 h3] 29) = wa at HS10 HN10 HR10 HT10 ⊢
          obtain ⟨e0, j0, e1, j1, e2, j2, e3, j3, hnx, hon⟩ := HN10.out.nx
          have HNX := Aside0.mk hnx
          have HTE := Aside0.mk (fun W => tail_eq W u9.a u9.q u9.b HOF9.out hon)
          obtain ⟨A9, c9, rfl, _, _⟩ := Kd.R_reads HR10.out
          have HLL := Aside0.mk hd
          clear hnx hon HN10 HOF9 hd
          refine start_ (n := 18) (S := (fun w' => Below wa.heap.size wa w')) (ds := []) #[false, false, false, false, false, false, false, false, false, false, false, false, false, false, false, false, false, false] (by kernel_rfl) rfl rfl (below_drew (Below.refl wa.heap.size wa)) (fun hHeld => ?_); refine with_tabW goes.tab18 goes.bits18 (fun HT_ HW_ => ?_)
          generalize wa.drew = wd at hHeld ⊢
          refine pure_ (i := 0) (N := (some 107)) (v := ?_) (a' := ?_) #[true, false, false, false, false, false, false, false, false, false, false, false, false, false, false, false, false, false] rfl rfl (any_of HT_.out (by kernel_rfl)) (fun _ _ _ h => h) (Or.inl ⟨by rfl, ?_⟩) ?_ ?_
          rotate_left
          · intro w'
            go_simp
            with_reducible rfl
          rotate_left
          · simp only [Act.put, List.setIfInBounds_toArray, List.set_cons_zero, List.set_cons_succ, i64_w, i32_w]
            rfl
          refine pure_ (i := 1) (N := (some 108)) (v := ?_) (a' := ?_) #[true, true, false, false, false, false, false, false, false, false, false, false, false, false, false, false, false, false] rfl rfl (any_of HT_.out (by kernel_rfl)) (fun _ _ _ h => h) (Or.inl ⟨by rfl, ?_⟩) ?_ ?_
          rotate_left
          · intro w'
            go_simp
            with_reducible rfl
          rotate_left
          · simp only [Act.put, List.setIfInBounds_toArray, List.set_cons_zero, List.set_cons_succ, i64_w, i32_w]
            rfl
          refine pure_ (i := 2) (N := (some 109)) (v := ?_) (a' := ?_) #[true, true, true, false, false, false, false, false, false, false, false, false, false, false, false, false, false, false] rfl rfl (any_of HT_.out (by kernel_rfl)) (fun _ _ _ h => h) (Or.inl ⟨by rfl, ?_⟩) ?_ ?_
          rotate_left
          · intro w'
            go_simp
            with_reducible rfl
          rotate_left
          · simp only [Act.put, List.setIfInBounds_toArray, List.set_cons_zero, List.set_cons_succ, i64_w, i32_w]
            rfl
          refine pure_ (i := 3) (N := (some 110)) (v := ?_) (a' := ?_) #[true, true, true, true, false, false, false, false, false, false, false, false, false, false, false, false, false, false] rfl rfl (any_of HT_.out (by kernel_rfl)) (fun _ _ _ h => h) (Or.inl ⟨by rfl, ?_⟩) ?_ ?_
          rotate_left
          · intro w'
            go_simp
            with_reducible rfl
          rotate_left
          · simp only [Act.put, List.setIfInBounds_toArray, List.set_cons_zero, List.set_cons_succ, i64_w, i32_w]
            rfl
          refine pure_ (i := 5) (N := (some 112)) (v := ?_) (a' := ?_) #[true, true, true, true, false, true, false, false, false, false, false, false, false, false, false, false, false, false] rfl rfl (any_of HT_.out (by kernel_rfl)) (fun _ _ _ h => h) (Or.inl ⟨by rfl, ?_⟩) ?_ ?_
          rotate_left
          · intro w'
            go_simp
            with_reducible rfl
          rotate_left
          · simp only [Act.put, List.setIfInBounds_toArray, List.set_cons_zero, List.set_cons_succ, i64_w, i32_w]
            rfl
          refine take_ (i := 7) (N := (some 114)) (v := ?_) (a' := ?_) #[true, true, true, true, false, true, false, true, false, false, false, false, false, false, false, false, false, false] rfl rfl (take_ofW HT_.out HW_.out (by kernel_rfl)) (fun _ _ _ h => h) (Or.inl ⟨by rfl, ?_⟩) hHeld ?_ ?_
          rotate_left
          · rintro w' hk
            have k0 : w'.cell? ⟨w.heap.size, 0, none⟩ = some (.int .i64 x.f0) := (blk_cell (blk_below HS10.out.box hk) 0).trans rfl
            have k1 : w'.cell? ⟨w.heap.size, 1, none⟩ = some (.int .i64 x.f1) := (blk_cell (blk_below HS10.out.box hk) 1).trans rfl
            have k2 : w'.cell? ⟨w.heap.size, 2, none⟩ = some (.string x.f2) := (blk_cell (blk_below HS10.out.box hk) 2).trans rfl
            clear hk
            go_simp
            with_reducible rfl
          rotate_left
          · simp only [Act.put, List.setIfInBounds_toArray, List.set_cons_zero, List.set_cons_succ, i64_w, i32_w]
            rfl
          refine two_ (i := 4) (j := 8) (Ni := (some 111)) (Nj := (some 115)) #[true, true, true, true, true, true, false, true, false, false, false, false, false, false, false, false, false, false] #[true, true, true, true, false, true, false, true, true, false, false, false, false, false, false, false, false, false] rfl rfl rfl rfl (two_of HT_.out (by kernel_rfl)) (by decide) (by decide) (fun K hK => ?_) (fun K hK => ?_)
          ·
            refine Kd.R_lit_step k46 (w0 := wa) wa.heap.size 46 (by rfl) rfl (xs := []) (inner := []) (ok := fun _ => True) (okp := fun _ => False) (by go_simp) (Reps.none _ _) (fun _ h => h.elim) trivial hHeld hHeld.size (by decide) ?_
            intro v4 w10 ho hb hg hat
            have HE := Aside0.mk ho
            clear ho hg hat hHeld
            refine hK.out _ _ hb (fun hHeld => ?_)
            clear hK K
            clear hb
            refine norm_ (a' := ?_) ?_ ?_
            rotate_left
            · show Act.put _ (some 111) _ = _
              simp only [Act.put, List.setIfInBounds_toArray, List.set_cons_zero, List.set_cons_succ, i64_w, i32_w]
              rfl
            refine two_ (i := 6) (j := 8) (Ni := (some 113)) (Nj := (some 115)) #[true, true, true, true, true, true, true, true, false, false, false, false, false, false, false, false, false, false] #[true, true, true, true, true, true, false, true, true, false, false, false, false, false, false, false, false, false] rfl rfl rfl rfl (two_of HT_.out (by kernel_rfl)) (by decide) (by decide) (fun K hK => ?_) (fun K hK => ?_)
            ·
              refine Kd.R_append_rows_step k46 (w0 := wa) wa.heap.size (by rfl) (.tmp 111) (.tmp 112) 24 46 (.agg #[.int .i64 0, .int .i64 0, .string ⟨#[]⟩]) 32 rfl Try.underlying24 infoE rfl (by decide) (by omega) _ [] L _ _ _ (fun _ => True) (fun _ => False) (by rfl) (by rfl) HE.out ((Kd.R_reads' (R_keep (W' := w10) flat_e HS10.out.rd (fun k hk => hHeld.block k (R_blk HS10.out.rd k hk).2.1))).2.2) (fun x cs h => by obtain rfl := k46_open h; exact k46_mkM _ _ _ _) (fun _ h => h.elim) (fun _ _ => trivial) hHeld hHeld.size (by have := HLL.out; simp; omega) ?_
              intro v6 w11 ho hb hg hat
              rw [List.nil_append] at ho
              have H6 := Aside0.mk ho
              clear ho hg hat hHeld HE
              refine hK.out _ _ hb (fun hHeld => ?_)
              clear hK K
              clear hb
              refine norm_ (a' := ?_) ?_ ?_
              rotate_left
              · show Act.put _ (some 113) _ = _
                simp only [Act.put, List.setIfInBounds_toArray, List.set_cons_zero, List.set_cons_succ, i64_w, i32_w]
                rfl
              refine one_ (i := 8) (N := (some 115)) #[true, true, true, true, true, true, true, true, true, false, false, false, false, false, false, false, false, false] rfl rfl (one_of HT_.out (by kernel_rfl)) (by decide) (fun K hK => ?_)
              refine Kd.R_lit_step k46 (w0 := wa) wa.heap.size 46 (by rfl) rfl (xs := [x]) (inner := [.int .i64 x.f0, .int .i64 x.f1, .string x.f2]) (ok := fun _ => True) (okp := fun _ => False) (by go_simp) (reps_one x _ _ _) (fun _ h => h.elim) trivial hHeld hHeld.size (by simp) ?_
              intro v8 w12 ho hb hg hat
              have HLT := Aside0.mk ho
              have HAP8 : Aside0 (∀ k, v8.ownBlock = some k → v6.ownBlock ≠ some k) := ⟨fun k hk q => by obtain ⟨b, h1, h2⟩ := hat; have := (R_blk H6.out k q).2.1; rw [h1] at hk; have := Option.some.inj hk; omega⟩
              replace H6 := Aside0.mk (R_keep (W' := w12) flat_e H6.out (fun k hk => hg.block k (R_blk H6.out k hk).2.1 (fun q => by cases q)))
              clear ho hg hat hHeld
              refine hK.out _ _ hb (fun hHeld => ?_)
              clear hK K
              clear hb
              refine norm_ (a' := ?_) ?_ ?_
              rotate_left
              · show Act.put _ (some 115) _ = _
                simp only [Act.put, List.setIfInBounds_toArray, List.set_cons_zero, List.set_cons_succ, i64_w, i32_w]
                rfl
              refine one_ (i := 9) (N := (some 116)) #[true, true, true, true, true, true, true, true, true, true, false, false, false, false, false, false, false, false] rfl rfl (one_of HT_.out (by kernel_rfl)) (by decide) (fun K hK => ?_)
              obtain ⟨A8, c8, rfl, _, hC8⟩ := Kd.R_reads HLT.out
              refine Kd.R_append_rows_step k46 (w0 := wa) wa.heap.size (by rfl) (.tmp 113) (.tmp 115) 24 46 (.agg #[.int .i64 0, .int .i64 0, .string ⟨#[]⟩]) 32 rfl Try.underlying24 infoE rfl (by decide) (by omega) _ L [x] _ _ _ (fun _ => True) (fun _ => False) (by rfl) (by rfl) H6.out hC8 (fun x cs h => by obtain rfl := k46_open h; exact k46_mkM _ _ _ _) (fun _ h => h.elim) (fun _ _ => trivial) hHeld hHeld.size (by have := HLL.out; simp; omega) ?_
              intro v16 w20 ho hb hg hat
              have H16 := Aside0.mk ho
              clear ho hg hat hHeld hC8 H6 HLT
              refine hK.out _ _ hb (fun hHeld => ?_)
              clear hK K
              clear hb
              refine norm_ (a' := ?_) ?_ ?_
              rotate_left
              · show Act.put _ (some 116) _ = _
                simp only [Act.put, List.setIfInBounds_toArray, List.set_cons_zero, List.set_cons_succ, i64_w, i32_w]
                rfl
              refine one_ (i := 10) (N := (some 117)) #[true, true, true, true, true, true, true, true, true, true, true, false, false, false, false, false, false, false] rfl rfl (one_of HT_.out (by kernel_rfl)) (by decide) (fun K hK => ?_)
              obtain ⟨A16', c16', rfl, _, hC16⟩ := Kd.R_reads H16.out
              have hC9 := (Kd.R_reads' (R_keep (W' := w20) flat_e HR10.out (fun k hk => hHeld.block k (R_blk HR10.out k hk).2.1))).2.2
              refine goes_ Try.func11 (by kernel_rfl) rfl #[.slice A9 (L ++ [x]).length c9, .slice A16' (L ++ [x]).length c16'] (by rfl) rfl rfl (by simp [Act.eval]) ?_
              refine (same_ok A9 A16' c9 c16' (L ++ [x]) _ hC9 hC16).mono ?_
              rintro e w21 ⟨rfl, hb⟩
              refine ⟨_, rfl, ?_⟩
              have hh := below_then hHeld hHeld.size hb
              clear hb hHeld hC9 hC16 H16
              refine hK.out _ _ hh (fun hHeld => ?_)
              clear hK K
              clear hh
              refine norm_ (a' := ?_) ?_ ?_
              rotate_left
              · show Act.put _ (some 117) _ = _
                simp only [Act.put, List.setIfInBounds_toArray, List.set_cons_zero, List.set_cons_succ, i64_w, i32_w]
                rfl
              refine pure_ (i := 11) (N := (some 118)) (v := ?_) (a' := ?_) #[true, true, true, true, true, true, true, true, true, true, true, true, false, false, false, false, false, false] rfl rfl (any_of HT_.out (by kernel_rfl)) (fun _ _ _ h => h) (Or.inl ⟨by rfl, ?_⟩) ?_ ?_
              rotate_left
              · intro w'
                go_simp
                with_reducible rfl
              rotate_left
              · simp only [Act.put, List.setIfInBounds_toArray, List.set_cons_zero, List.set_cons_succ, i64_w, i32_w]
                rfl
              refine pure_ (i := 12) (N := (some 119)) (v := ?_) (a' := ?_) #[true, true, true, true, true, true, true, true, true, true, true, true, true, false, false, false, false, false] rfl rfl (any_of HT_.out (by kernel_rfl)) (fun _ _ _ h => h) (Or.inl ⟨by rfl, ?_⟩) ?_ ?_
              rotate_left
              · intro w'
                go_simp
                with_reducible rfl
              rotate_left
              · simp only [Act.put, List.setIfInBounds_toArray, List.set_cons_zero, List.set_cons_succ, i64_w, i32_w]
                rfl
              refine take_ (i := 13) (N := (some 120)) (v := ?_) (a' := ?_) #[true, true, true, true, true, true, true, true, true, true, true, true, true, true, false, false, false, false] rfl rfl (take_ofW HT_.out HW_.out (by kernel_rfl)) (fun _ _ _ h => h) (Or.inl ⟨by rfl, ?_⟩) hHeld ?_ ?_
              rotate_left
              · rintro w' hk
                have k0 : w'.cell? ⟨w9.heap.size, 0, none⟩ = some (.int .i64 u9.a) := (blk_cell (blk_below HT10.out hk) 0).trans rfl
                have k1 : w'.cell? ⟨w9.heap.size, 1, none⟩ = some (.int .i64 u9.q) := (blk_cell (blk_below HT10.out hk) 1).trans rfl
                have k2 : w'.cell? ⟨w9.heap.size, 2, none⟩ = some (.int .i64 u9.b) := (blk_cell (blk_below HT10.out hk) 2).trans rfl
                have k3 : w'.cell? ⟨w9.heap.size, 3, none⟩ = some (.complex .f64 f0 h0) := (blk_cell (blk_below HT10.out hk) 3).trans rfl
                have k4 : w'.cell? ⟨w9.heap.size, 4, none⟩ = some (.complex .f64 f1 h1) := (blk_cell (blk_below HT10.out hk) 4).trans rfl
                have k5 : w'.cell? ⟨w9.heap.size, 5, none⟩ = some (.complex .f64 f2 h2) := (blk_cell (blk_below HT10.out hk) 5).trans rfl
                have k6 : w'.cell? ⟨w9.heap.size, 6, none⟩ = some (.complex .f64 f3 h3) := (blk_cell (blk_below HT10.out hk) 6).trans rfl
                clear hk
                go_simp
                with_reducible rfl
              rotate_left
              · simp only [Act.put, List.setIfInBounds_toArray, List.set_cons_zero, List.set_cons_succ, i64_w, i32_w]
                rfl
              refine take_ (i := 14) (N := (some 121)) (v := ?_) (a' := ?_) #[true, true, true, true, true, true, true, true, true, true, true, true, true, true, true, false, false, false] rfl rfl (take_ofW HT_.out HW_.out (by kernel_rfl)) (fun _ _ _ h => h) (Or.inl ⟨by rfl, ?_⟩) hHeld ?_ ?_
              rotate_left
              · rintro w' hk
                have k0 : w'.cell? ⟨w5.heap.size, 0, none⟩ = some (.int .i64 u9.a) := (blk_cell (blk_below HNX.out hk) 0).trans rfl
                have k1 : w'.cell? ⟨w5.heap.size, 1, none⟩ = some (.int .i64 u9.q) := (blk_cell (blk_below HNX.out hk) 1).trans rfl
                have k2 : w'.cell? ⟨w5.heap.size, 2, none⟩ = some (.int .i64 u9.b) := (blk_cell (blk_below HNX.out hk) 2).trans rfl
                have k3 : w'.cell? ⟨w5.heap.size, 3, none⟩ = some (.complex .f64 e0 j0) := (blk_cell (blk_below HNX.out hk) 3).trans rfl
                have k4 : w'.cell? ⟨w5.heap.size, 4, none⟩ = some (.complex .f64 e1 j1) := (blk_cell (blk_below HNX.out hk) 4).trans rfl
                have k5 : w'.cell? ⟨w5.heap.size, 5, none⟩ = some (.complex .f64 e2 j2) := (blk_cell (blk_below HNX.out hk) 5).trans rfl
                have k6 : w'.cell? ⟨w5.heap.size, 6, none⟩ = some (.complex .f64 e3 j3) := (blk_cell (blk_below HNX.out hk) 6).trans rfl
                clear hk
                go_simp
                with_reducible rfl
              rotate_left
              · simp only [Act.put, List.setIfInBounds_toArray, List.set_cons_zero, List.set_cons_succ, i64_w, i32_w]
                rfl
              have hte := HTE.out
              clear HTE
              refine pure_ (i := 15) (N := (some 122)) (v := ?_) (a' := ?_) #[true, true, true, true, true, true, true, true, true, true, true, true, true, true, true, true, false, false] rfl rfl (any_of HT_.out (by kernel_rfl)) (fun _ _ _ h => h) (Or.inl ⟨by rfl, ?_⟩) ?_ ?_
              rotate_left
              · intro w'
                go_simp
                with_reducible rfl
              rotate_left
              · simp only [Act.put, List.setIfInBounds_toArray, List.set_cons_zero, List.set_cons_succ, i64_w, i32_w]
                rfl
              refine pure_ (i := 16) (N := (some 123)) (v := ?_) (a' := ?_) #[true, true, true, true, true, true, true, true, true, true, true, true, true, true, true, true, true, false] rfl rfl (any_of HT_.out (by kernel_rfl)) (fun _ _ _ h => h) (Or.inl ⟨by rfl, ?_⟩) ?_ ?_
              rotate_left
              · intro w'
                go_simp
                with_reducible rfl
              rotate_left
              · simp only [Act.put, List.setIfInBounds_toArray, List.set_cons_zero, List.set_cons_succ, i64_w, i32_w]
                rfl
              refine pure_ (i := 17) (N := (some 8)) (v := ?_) (a' := ?_) #[true, true, true, true, true, true, true, true, true, true, true, true, true, true, true, true, true, true] rfl rfl (any_of HT_.out (by kernel_rfl)) (fun _ _ _ h => h) (Or.inl ⟨by rfl, ?_⟩) ?_ ?_
              rotate_left
              · intro w'
                go_simp
                with_reducible rfl
              rotate_left
              · simp only [Act.put, List.setIfInBounds_toArray, List.set_cons_zero, List.set_cons_succ, i64_w, i32_w]
                rfl
              refine done_ (done_of HT_.out (by kernel_rfl)) ?_
              have hfin := HS10.out.below
              have hfz := HS10.out.size
              clear hte
              go_wp2_with fail
              go_ret
              exact ⟨rfl, below_then hfin hfin.size hHeld⟩
            ·
              refine Kd.R_lit_step k46 (w0 := wa) wa.heap.size 46 (by rfl) rfl (xs := [x]) (inner := [.int .i64 x.f0, .int .i64 x.f1, .string x.f2]) (ok := fun _ => True) (okp := fun _ => False) (by go_simp) (reps_one x _ _ _) (fun _ h => h.elim) trivial hHeld hHeld.size (by simp) ?_
              intro v8 w11 ho hb hg hat
              have HLT := Aside0.mk ho
              have HAP8 : Aside0 (∀ k, v8.ownBlock = some k → v4.ownBlock ≠ some k) := ⟨fun k hk q => by obtain ⟨b, h1, h2⟩ := hat; have := (R_blk HE.out k q).2.1; rw [h1] at hk; have := Option.some.inj hk; omega⟩
              replace HE := Aside0.mk (R_keep (W' := w11) flat_e HE.out (fun k hk => hg.block k (R_blk HE.out k hk).2.1 (fun q => by cases q)))
              clear ho hg hat hHeld
              refine hK.out _ _ hb (fun hHeld => ?_)
              clear hK K
              clear hb
              refine norm_ (a' := ?_) ?_ ?_
              rotate_left
              · show Act.put _ (some 115) _ = _
                simp only [Act.put, List.setIfInBounds_toArray, List.set_cons_zero, List.set_cons_succ, i64_w, i32_w]
                rfl
              refine one_ (i := 6) (N := (some 113)) #[true, true, true, true, true, true, true, true, true, false, false, false, false, false, false, false, false, false] rfl rfl (one_of HT_.out (by kernel_rfl)) (by decide) (fun K hK => ?_)
              refine Kd.R_append_rows_step k46 (w0 := wa) wa.heap.size (by rfl) (.tmp 111) (.tmp 112) 24 46 (.agg #[.int .i64 0, .int .i64 0, .string ⟨#[]⟩]) 32 rfl Try.underlying24 infoE rfl (by decide) (by omega) _ [] L _ _ _ (fun _ => True) (fun _ => False) (by rfl) (by rfl) HE.out ((Kd.R_reads' (R_keep (W' := w11) flat_e HS10.out.rd (fun k hk => hHeld.block k (R_blk HS10.out.rd k hk).2.1))).2.2) (fun x cs h => by obtain rfl := k46_open h; exact k46_mkM _ _ _ _) (fun _ h => h.elim) (fun _ _ => trivial) hHeld hHeld.size (by have := HLL.out; simp; omega) ?_
              intro v6 w12 ho hb hg hat
              rw [List.nil_append] at ho
              have H6 := Aside0.mk ho
              have HAP9 : Aside0 (∀ k, v8.ownBlock = some k → v6.ownBlock ≠ some k) := ⟨fun k hk q => by
                rcases hat with h1 | ⟨b, h1, h2⟩
                · rw [h1] at q; exact HAP8.out k hk q
                · have := (R_blk HLT.out k hk).2.1; rw [h1] at q; have := Option.some.inj q; omega⟩
              replace HLT := Aside0.mk (R_keep (W' := w12) flat_e HLT.out (fun k hk => hg.block k (R_blk HLT.out k hk).2.1 (fun q => HAP8.out k hk q.symm)))
              clear ho hg hat hHeld HE
              refine hK.out _ _ hb (fun hHeld => ?_)
              clear hK K
              clear hb
              refine norm_ (a' := ?_) ?_ ?_
              rotate_left
              · show Act.put _ (some 113) _ = _
                simp only [Act.put, List.setIfInBounds_toArray, List.set_cons_zero, List.set_cons_succ, i64_w, i32_w]
                rfl
              refine one_ (i := 9) (N := (some 116)) #[true, true, true, true, true, true, true, true, true, true, false, false, false, false, false, false, false, false] rfl rfl (one_of HT_.out (by kernel_rfl)) (by decide) (fun K hK => ?_)
              obtain ⟨A8, c8, rfl, _, hC8⟩ := Kd.R_reads HLT.out
              refine Kd.R_append_rows_step k46 (w0 := wa) wa.heap.size (by rfl) (.tmp 113) (.tmp 115) 24 46 (.agg #[.int .i64 0, .int .i64 0, .string ⟨#[]⟩]) 32 rfl Try.underlying24 infoE rfl (by decide) (by omega) _ L [x] _ _ _ (fun _ => True) (fun _ => False) (by rfl) (by rfl) H6.out hC8 (fun x cs h => by obtain rfl := k46_open h; exact k46_mkM _ _ _ _) (fun _ h => h.elim) (fun _ _ => trivial) hHeld hHeld.size (by have := HLL.out; simp; omega) ?_
              intro v16 w20 ho hb hg hat
              have H16 := Aside0.mk ho
              clear ho hg hat hHeld hC8 H6 HLT
              refine hK.out _ _ hb (fun hHeld => ?_)
              clear hK K
              clear hb
              refine norm_ (a' := ?_) ?_ ?_
              rotate_left
              · show Act.put _ (some 116) _ = _
                simp only [Act.put, List.setIfInBounds_toArray, List.set_cons_zero, List.set_cons_succ, i64_w, i32_w]
                rfl
              refine one_ (i := 10) (N := (some 117)) #[true, true, true, true, true, true, true, true, true, true, true, false, false, false, false, false, false, false] rfl rfl (one_of HT_.out (by kernel_rfl)) (by decide) (fun K hK => ?_)
              obtain ⟨A16', c16', rfl, _, hC16⟩ := Kd.R_reads H16.out
              have hC9 := (Kd.R_reads' (R_keep (W' := w20) flat_e HR10.out (fun k hk => hHeld.block k (R_blk HR10.out k hk).2.1))).2.2
              refine goes_ Try.func11 (by kernel_rfl) rfl #[.slice A9 (L ++ [x]).length c9, .slice A16' (L ++ [x]).length c16'] (by rfl) rfl rfl (by simp [Act.eval]) ?_
              refine (same_ok A9 A16' c9 c16' (L ++ [x]) _ hC9 hC16).mono ?_
              rintro e w21 ⟨rfl, hb⟩
              refine ⟨_, rfl, ?_⟩
              have hh := below_then hHeld hHeld.size hb
              clear hb hHeld hC9 hC16 H16
              refine hK.out _ _ hh (fun hHeld => ?_)
              clear hK K
              clear hh
              refine norm_ (a' := ?_) ?_ ?_
              rotate_left
              · show Act.put _ (some 117) _ = _
                simp only [Act.put, List.setIfInBounds_toArray, List.set_cons_zero, List.set_cons_succ, i64_w, i32_w]
                rfl
              refine pure_ (i := 11) (N := (some 118)) (v := ?_) (a' := ?_) #[true, true, true, true, true, true, true, true, true, true, true, true, false, false, false, false, false, false] rfl rfl (any_of HT_.out (by kernel_rfl)) (fun _ _ _ h => h) (Or.inl ⟨by rfl, ?_⟩) ?_ ?_
              rotate_left
              · intro w'
                go_simp
                with_reducible rfl
              rotate_left
              · simp only [Act.put, List.setIfInBounds_toArray, List.set_cons_zero, List.set_cons_succ, i64_w, i32_w]
                rfl
              refine pure_ (i := 12) (N := (some 119)) (v := ?_) (a' := ?_) #[true, true, true, true, true, true, true, true, true, true, true, true, true, false, false, false, false, false] rfl rfl (any_of HT_.out (by kernel_rfl)) (fun _ _ _ h => h) (Or.inl ⟨by rfl, ?_⟩) ?_ ?_
              rotate_left
              · intro w'
                go_simp
                with_reducible rfl
              rotate_left
              · simp only [Act.put, List.setIfInBounds_toArray, List.set_cons_zero, List.set_cons_succ, i64_w, i32_w]
                rfl
              refine take_ (i := 13) (N := (some 120)) (v := ?_) (a' := ?_) #[true, true, true, true, true, true, true, true, true, true, true, true, true, true, false, false, false, false] rfl rfl (take_ofW HT_.out HW_.out (by kernel_rfl)) (fun _ _ _ h => h) (Or.inl ⟨by rfl, ?_⟩) hHeld ?_ ?_
              rotate_left
              · rintro w' hk
                have k0 : w'.cell? ⟨w9.heap.size, 0, none⟩ = some (.int .i64 u9.a) := (blk_cell (blk_below HT10.out hk) 0).trans rfl
                have k1 : w'.cell? ⟨w9.heap.size, 1, none⟩ = some (.int .i64 u9.q) := (blk_cell (blk_below HT10.out hk) 1).trans rfl
                have k2 : w'.cell? ⟨w9.heap.size, 2, none⟩ = some (.int .i64 u9.b) := (blk_cell (blk_below HT10.out hk) 2).trans rfl
                have k3 : w'.cell? ⟨w9.heap.size, 3, none⟩ = some (.complex .f64 f0 h0) := (blk_cell (blk_below HT10.out hk) 3).trans rfl
                have k4 : w'.cell? ⟨w9.heap.size, 4, none⟩ = some (.complex .f64 f1 h1) := (blk_cell (blk_below HT10.out hk) 4).trans rfl
                have k5 : w'.cell? ⟨w9.heap.size, 5, none⟩ = some (.complex .f64 f2 h2) := (blk_cell (blk_below HT10.out hk) 5).trans rfl
                have k6 : w'.cell? ⟨w9.heap.size, 6, none⟩ = some (.complex .f64 f3 h3) := (blk_cell (blk_below HT10.out hk) 6).trans rfl
                clear hk
                go_simp
                with_reducible rfl
              rotate_left
              · simp only [Act.put, List.setIfInBounds_toArray, List.set_cons_zero, List.set_cons_succ, i64_w, i32_w]
                rfl
              refine take_ (i := 14) (N := (some 121)) (v := ?_) (a' := ?_) #[true, true, true, true, true, true, true, true, true, true, true, true, true, true, true, false, false, false] rfl rfl (take_ofW HT_.out HW_.out (by kernel_rfl)) (fun _ _ _ h => h) (Or.inl ⟨by rfl, ?_⟩) hHeld ?_ ?_
              rotate_left
              · rintro w' hk
                have k0 : w'.cell? ⟨w5.heap.size, 0, none⟩ = some (.int .i64 u9.a) := (blk_cell (blk_below HNX.out hk) 0).trans rfl
                have k1 : w'.cell? ⟨w5.heap.size, 1, none⟩ = some (.int .i64 u9.q) := (blk_cell (blk_below HNX.out hk) 1).trans rfl
                have k2 : w'.cell? ⟨w5.heap.size, 2, none⟩ = some (.int .i64 u9.b) := (blk_cell (blk_below HNX.out hk) 2).trans rfl
                have k3 : w'.cell? ⟨w5.heap.size, 3, none⟩ = some (.complex .f64 e0 j0) := (blk_cell (blk_below HNX.out hk) 3).trans rfl
                have k4 : w'.cell? ⟨w5.heap.size, 4, none⟩ = some (.complex .f64 e1 j1) := (blk_cell (blk_below HNX.out hk) 4).trans rfl
                have k5 : w'.cell? ⟨w5.heap.size, 5, none⟩ = some (.complex .f64 e2 j2) := (blk_cell (blk_below HNX.out hk) 5).trans rfl
                have k6 : w'.cell? ⟨w5.heap.size, 6, none⟩ = some (.complex .f64 e3 j3) := (blk_cell (blk_below HNX.out hk) 6).trans rfl
                clear hk
                go_simp
                with_reducible rfl
              rotate_left
              · simp only [Act.put, List.setIfInBounds_toArray, List.set_cons_zero, List.set_cons_succ, i64_w, i32_w]
                rfl
              have hte := HTE.out
              clear HTE
              refine pure_ (i := 15) (N := (some 122)) (v := ?_) (a' := ?_) #[true, true, true, true, true, true, true, true, true, true, true, true, true, true, true, true, false, false] rfl rfl (any_of HT_.out (by kernel_rfl)) (fun _ _ _ h => h) (Or.inl ⟨by rfl, ?_⟩) ?_ ?_
              rotate_left
              · intro w'
                go_simp
                with_reducible rfl
              rotate_left
              · simp only [Act.put, List.setIfInBounds_toArray, List.set_cons_zero, List.set_cons_succ, i64_w, i32_w]
                rfl
              refine pure_ (i := 16) (N := (some 123)) (v := ?_) (a' := ?_) #[true, true, true, true, true, true, true, true, true, true, true, true, true, true, true, true, true, false] rfl rfl (any_of HT_.out (by kernel_rfl)) (fun _ _ _ h => h) (Or.inl ⟨by rfl, ?_⟩) ?_ ?_
              rotate_left
              · intro w'
                go_simp
                with_reducible rfl
              rotate_left
              · simp only [Act.put, List.setIfInBounds_toArray, List.set_cons_zero, List.set_cons_succ, i64_w, i32_w]
                rfl
              refine pure_ (i := 17) (N := (some 8)) (v := ?_) (a' := ?_) #[true, true, true, true, true, true, true, true, true, true, true, true, true, true, true, true, true, true] rfl rfl (any_of HT_.out (by kernel_rfl)) (fun _ _ _ h => h) (Or.inl ⟨by rfl, ?_⟩) ?_ ?_
              rotate_left
              · intro w'
                go_simp
                with_reducible rfl
              rotate_left
              · simp only [Act.put, List.setIfInBounds_toArray, List.set_cons_zero, List.set_cons_succ, i64_w, i32_w]
                rfl
              refine done_ (done_of HT_.out (by kernel_rfl)) ?_
              have hfin := HS10.out.below
              have hfz := HS10.out.size
              clear hte
              go_wp2_with fail
              go_ret
              exact ⟨rfl, below_then hfin hfin.size hHeld⟩
          ·
            refine Kd.R_lit_step k46 (w0 := wa) wa.heap.size 46 (by rfl) rfl (xs := [x]) (inner := [.int .i64 x.f0, .int .i64 x.f1, .string x.f2]) (ok := fun _ => True) (okp := fun _ => False) (by go_simp) (reps_one x _ _ _) (fun _ h => h.elim) trivial hHeld hHeld.size (by simp) ?_
            intro v8 w10 ho hb hg hat
            have HLT := Aside0.mk ho
            clear ho hg hat hHeld
            refine hK.out _ _ hb (fun hHeld => ?_)
            clear hK K
            clear hb
            refine norm_ (a' := ?_) ?_ ?_
            rotate_left
            · show Act.put _ (some 115) _ = _
              simp only [Act.put, List.setIfInBounds_toArray, List.set_cons_zero, List.set_cons_succ, i64_w, i32_w]
              rfl
            refine one_ (i := 4) (N := (some 111)) #[true, true, true, true, true, true, false, true, true, false, false, false, false, false, false, false, false, false] rfl rfl (one_of HT_.out (by kernel_rfl)) (by decide) (fun K hK => ?_)
            refine Kd.R_lit_step k46 (w0 := wa) wa.heap.size 46 (by rfl) rfl (xs := []) (inner := []) (ok := fun _ => True) (okp := fun _ => False) (by go_simp) (Reps.none _ _) (fun _ h => h.elim) trivial hHeld hHeld.size (by decide) ?_
            intro v4 w11 ho hb hg hat
            have HE := Aside0.mk ho
            have HAP8 : Aside0 (∀ k, v8.ownBlock = some k → v4.ownBlock ≠ some k) := ⟨fun k hk q => by obtain ⟨b, h1, h2⟩ := hat; have := (R_blk HLT.out k hk).2.1; rw [h1] at q; have := Option.some.inj q; omega⟩
            replace HLT := Aside0.mk (R_keep (W' := w11) flat_e HLT.out (fun k hk => hg.block k (R_blk HLT.out k hk).2.1 (fun q => by cases q)))
            clear ho hg hat hHeld
            refine hK.out _ _ hb (fun hHeld => ?_)
            clear hK K
            clear hb
            refine norm_ (a' := ?_) ?_ ?_
            rotate_left
            · show Act.put _ (some 111) _ = _
              simp only [Act.put, List.setIfInBounds_toArray, List.set_cons_zero, List.set_cons_succ, i64_w, i32_w]
              rfl
            refine one_ (i := 6) (N := (some 113)) #[true, true, true, true, true, true, true, true, true, false, false, false, false, false, false, false, false, false] rfl rfl (one_of HT_.out (by kernel_rfl)) (by decide) (fun K hK => ?_)
            refine Kd.R_append_rows_step k46 (w0 := wa) wa.heap.size (by rfl) (.tmp 111) (.tmp 112) 24 46 (.agg #[.int .i64 0, .int .i64 0, .string ⟨#[]⟩]) 32 rfl Try.underlying24 infoE rfl (by decide) (by omega) _ [] L _ _ _ (fun _ => True) (fun _ => False) (by rfl) (by rfl) HE.out ((Kd.R_reads' (R_keep (W' := w11) flat_e HS10.out.rd (fun k hk => hHeld.block k (R_blk HS10.out.rd k hk).2.1))).2.2) (fun x cs h => by obtain rfl := k46_open h; exact k46_mkM _ _ _ _) (fun _ h => h.elim) (fun _ _ => trivial) hHeld hHeld.size (by have := HLL.out; simp; omega) ?_
            intro v6 w12 ho hb hg hat
            rw [List.nil_append] at ho
            have H6 := Aside0.mk ho
            have HAP9 : Aside0 (∀ k, v8.ownBlock = some k → v6.ownBlock ≠ some k) := ⟨fun k hk q => by
              rcases hat with h1 | ⟨b, h1, h2⟩
              · rw [h1] at q; exact HAP8.out k hk q
              · have := (R_blk HLT.out k hk).2.1; rw [h1] at q; have := Option.some.inj q; omega⟩
            replace HLT := Aside0.mk (R_keep (W' := w12) flat_e HLT.out (fun k hk => hg.block k (R_blk HLT.out k hk).2.1 (fun q => HAP8.out k hk q.symm)))
            clear ho hg hat hHeld HE
            refine hK.out _ _ hb (fun hHeld => ?_)
            clear hK K
            clear hb
            refine norm_ (a' := ?_) ?_ ?_
            rotate_left
            · show Act.put _ (some 113) _ = _
              simp only [Act.put, List.setIfInBounds_toArray, List.set_cons_zero, List.set_cons_succ, i64_w, i32_w]
              rfl
            refine one_ (i := 9) (N := (some 116)) #[true, true, true, true, true, true, true, true, true, true, false, false, false, false, false, false, false, false] rfl rfl (one_of HT_.out (by kernel_rfl)) (by decide) (fun K hK => ?_)
            obtain ⟨A8, c8, rfl, _, hC8⟩ := Kd.R_reads HLT.out
            refine Kd.R_append_rows_step k46 (w0 := wa) wa.heap.size (by rfl) (.tmp 113) (.tmp 115) 24 46 (.agg #[.int .i64 0, .int .i64 0, .string ⟨#[]⟩]) 32 rfl Try.underlying24 infoE rfl (by decide) (by omega) _ L [x] _ _ _ (fun _ => True) (fun _ => False) (by rfl) (by rfl) H6.out hC8 (fun x cs h => by obtain rfl := k46_open h; exact k46_mkM _ _ _ _) (fun _ h => h.elim) (fun _ _ => trivial) hHeld hHeld.size (by have := HLL.out; simp; omega) ?_
            intro v16 w20 ho hb hg hat
            have H16 := Aside0.mk ho
            clear ho hg hat hHeld hC8 H6 HLT
            refine hK.out _ _ hb (fun hHeld => ?_)
            clear hK K
            clear hb
            refine norm_ (a' := ?_) ?_ ?_
            rotate_left
            · show Act.put _ (some 116) _ = _
              simp only [Act.put, List.setIfInBounds_toArray, List.set_cons_zero, List.set_cons_succ, i64_w, i32_w]
              rfl
            refine one_ (i := 10) (N := (some 117)) #[true, true, true, true, true, true, true, true, true, true, true, false, false, false, false, false, false, false] rfl rfl (one_of HT_.out (by kernel_rfl)) (by decide) (fun K hK => ?_)
            obtain ⟨A16', c16', rfl, _, hC16⟩ := Kd.R_reads H16.out
            have hC9 := (Kd.R_reads' (R_keep (W' := w20) flat_e HR10.out (fun k hk => hHeld.block k (R_blk HR10.out k hk).2.1))).2.2
            refine goes_ Try.func11 (by kernel_rfl) rfl #[.slice A9 (L ++ [x]).length c9, .slice A16' (L ++ [x]).length c16'] (by rfl) rfl rfl (by simp [Act.eval]) ?_
            refine (same_ok A9 A16' c9 c16' (L ++ [x]) _ hC9 hC16).mono ?_
            rintro e w21 ⟨rfl, hb⟩
            refine ⟨_, rfl, ?_⟩
            have hh := below_then hHeld hHeld.size hb
            clear hb hHeld hC9 hC16 H16
            refine hK.out _ _ hh (fun hHeld => ?_)
            clear hK K
            clear hh
            refine norm_ (a' := ?_) ?_ ?_
            rotate_left
            · show Act.put _ (some 117) _ = _
              simp only [Act.put, List.setIfInBounds_toArray, List.set_cons_zero, List.set_cons_succ, i64_w, i32_w]
              rfl
            refine pure_ (i := 11) (N := (some 118)) (v := ?_) (a' := ?_) #[true, true, true, true, true, true, true, true, true, true, true, true, false, false, false, false, false, false] rfl rfl (any_of HT_.out (by kernel_rfl)) (fun _ _ _ h => h) (Or.inl ⟨by rfl, ?_⟩) ?_ ?_
            rotate_left
            · intro w'
              go_simp
              with_reducible rfl
            rotate_left
            · simp only [Act.put, List.setIfInBounds_toArray, List.set_cons_zero, List.set_cons_succ, i64_w, i32_w]
              rfl
            refine pure_ (i := 12) (N := (some 119)) (v := ?_) (a' := ?_) #[true, true, true, true, true, true, true, true, true, true, true, true, true, false, false, false, false, false] rfl rfl (any_of HT_.out (by kernel_rfl)) (fun _ _ _ h => h) (Or.inl ⟨by rfl, ?_⟩) ?_ ?_
            rotate_left
            · intro w'
              go_simp
              with_reducible rfl
            rotate_left
            · simp only [Act.put, List.setIfInBounds_toArray, List.set_cons_zero, List.set_cons_succ, i64_w, i32_w]
              rfl
            refine take_ (i := 13) (N := (some 120)) (v := ?_) (a' := ?_) #[true, true, true, true, true, true, true, true, true, true, true, true, true, true, false, false, false, false] rfl rfl (take_ofW HT_.out HW_.out (by kernel_rfl)) (fun _ _ _ h => h) (Or.inl ⟨by rfl, ?_⟩) hHeld ?_ ?_
            rotate_left
            · rintro w' hk
              have k0 : w'.cell? ⟨w9.heap.size, 0, none⟩ = some (.int .i64 u9.a) := (blk_cell (blk_below HT10.out hk) 0).trans rfl
              have k1 : w'.cell? ⟨w9.heap.size, 1, none⟩ = some (.int .i64 u9.q) := (blk_cell (blk_below HT10.out hk) 1).trans rfl
              have k2 : w'.cell? ⟨w9.heap.size, 2, none⟩ = some (.int .i64 u9.b) := (blk_cell (blk_below HT10.out hk) 2).trans rfl
              have k3 : w'.cell? ⟨w9.heap.size, 3, none⟩ = some (.complex .f64 f0 h0) := (blk_cell (blk_below HT10.out hk) 3).trans rfl
              have k4 : w'.cell? ⟨w9.heap.size, 4, none⟩ = some (.complex .f64 f1 h1) := (blk_cell (blk_below HT10.out hk) 4).trans rfl
              have k5 : w'.cell? ⟨w9.heap.size, 5, none⟩ = some (.complex .f64 f2 h2) := (blk_cell (blk_below HT10.out hk) 5).trans rfl
              have k6 : w'.cell? ⟨w9.heap.size, 6, none⟩ = some (.complex .f64 f3 h3) := (blk_cell (blk_below HT10.out hk) 6).trans rfl
              clear hk
              go_simp
              with_reducible rfl
            rotate_left
            · simp only [Act.put, List.setIfInBounds_toArray, List.set_cons_zero, List.set_cons_succ, i64_w, i32_w]
              rfl
            refine take_ (i := 14) (N := (some 121)) (v := ?_) (a' := ?_) #[true, true, true, true, true, true, true, true, true, true, true, true, true, true, true, false, false, false] rfl rfl (take_ofW HT_.out HW_.out (by kernel_rfl)) (fun _ _ _ h => h) (Or.inl ⟨by rfl, ?_⟩) hHeld ?_ ?_
            rotate_left
            · rintro w' hk
              have k0 : w'.cell? ⟨w5.heap.size, 0, none⟩ = some (.int .i64 u9.a) := (blk_cell (blk_below HNX.out hk) 0).trans rfl
              have k1 : w'.cell? ⟨w5.heap.size, 1, none⟩ = some (.int .i64 u9.q) := (blk_cell (blk_below HNX.out hk) 1).trans rfl
              have k2 : w'.cell? ⟨w5.heap.size, 2, none⟩ = some (.int .i64 u9.b) := (blk_cell (blk_below HNX.out hk) 2).trans rfl
              have k3 : w'.cell? ⟨w5.heap.size, 3, none⟩ = some (.complex .f64 e0 j0) := (blk_cell (blk_below HNX.out hk) 3).trans rfl
              have k4 : w'.cell? ⟨w5.heap.size, 4, none⟩ = some (.complex .f64 e1 j1) := (blk_cell (blk_below HNX.out hk) 4).trans rfl
              have k5 : w'.cell? ⟨w5.heap.size, 5, none⟩ = some (.complex .f64 e2 j2) := (blk_cell (blk_below HNX.out hk) 5).trans rfl
              have k6 : w'.cell? ⟨w5.heap.size, 6, none⟩ = some (.complex .f64 e3 j3) := (blk_cell (blk_below HNX.out hk) 6).trans rfl
              clear hk
              go_simp
              with_reducible rfl
            rotate_left
            · simp only [Act.put, List.setIfInBounds_toArray, List.set_cons_zero, List.set_cons_succ, i64_w, i32_w]
              rfl
            have hte := HTE.out
            clear HTE
            refine pure_ (i := 15) (N := (some 122)) (v := ?_) (a' := ?_) #[true, true, true, true, true, true, true, true, true, true, true, true, true, true, true, true, false, false] rfl rfl (any_of HT_.out (by kernel_rfl)) (fun _ _ _ h => h) (Or.inl ⟨by rfl, ?_⟩) ?_ ?_
            rotate_left
            · intro w'
              go_simp
              with_reducible rfl
            rotate_left
            · simp only [Act.put, List.setIfInBounds_toArray, List.set_cons_zero, List.set_cons_succ, i64_w, i32_w]
              rfl
            refine pure_ (i := 16) (N := (some 123)) (v := ?_) (a' := ?_) #[true, true, true, true, true, true, true, true, true, true, true, true, true, true, true, true, true, false] rfl rfl (any_of HT_.out (by kernel_rfl)) (fun _ _ _ h => h) (Or.inl ⟨by rfl, ?_⟩) ?_ ?_
            rotate_left
            · intro w'
              go_simp
              with_reducible rfl
            rotate_left
            · simp only [Act.put, List.setIfInBounds_toArray, List.set_cons_zero, List.set_cons_succ, i64_w, i32_w]
              rfl
            refine pure_ (i := 17) (N := (some 8)) (v := ?_) (a' := ?_) #[true, true, true, true, true, true, true, true, true, true, true, true, true, true, true, true, true, true] rfl rfl (any_of HT_.out (by kernel_rfl)) (fun _ _ _ h => h) (Or.inl ⟨by rfl, ?_⟩) ?_ ?_
            rotate_left
            · intro w'
              go_simp
              with_reducible rfl
            rotate_left
            · simp only [Act.put, List.setIfInBounds_toArray, List.set_cons_zero, List.set_cons_succ, i64_w, i32_w]
              rfl
            refine done_ (done_of HT_.out (by kernel_rfl)) ?_
            have hfin := HS10.out.below
            have hfz := HS10.out.size
            clear hte
            go_wp2_with fail
            go_ret
            exact ⟨rfl, below_then hfin hfin.size hHeld⟩
/-- The law, one argument after the other. -/
theorem goes_law (block base : Int) (A : Option Addr) (c : Nat) (l : List S46) (x0 x1 : Int) (x2 : ByteArray) (w : World) (h0 : (Lit.int .i64 block).wf = true) (h1 : (Lit.int .i64 base).wf = true) (hr : Kd.C k46 w A l.length l) (hl : l.length ≤ 1048576) (hsz : ∀ y ∈ l, y.f2.size ≤ 1048576) (h2 : (Lit.int .i64 x0).wf = true) (h3 : (Lit.int .i64 x1).wf = true) (hx : x2.size ≤ 1048576) :
    Calls Try.prog 5 #[.int .i64 block, .int .i64 base, .slice A l.length c, .agg #[.int .i64 x0, .int .i64 x1, .string x2]] w fun e w' => e = .returned (.bool true) ∧ Below w.heap.size w w' :=
  goes_ok block base A c l ⟨x0, x1, x2⟩ w hr hl hsz hx
end Go.Proofs.Ytacecaacpagokaa.Swap
