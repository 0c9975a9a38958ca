/- A write changes no other block, and what is read is the last write of the block, flushed or not: the walk of the law. No conditions. -/
import Derived.Test.YtenomjfaodfjhaaKDevKeeps
import Derived.Test.YtenomjfaodfjhaaKDevFuses
import Derived.Test.YtenomjfaodfjhaaKOps

namespace Go.Proofs.Ytenomjfaodfjhaa.Keeps
open Go.RowKit Go.Proofs.Ytenomjfaodfjhaa.PDeviceKeeps Go.Proofs.Ytenomjfaodfjhaa.Plain Go.Proofs.YtenomjfaodfjhaaW.PrintWords Go.Proofs.YtenomjfaodfjhaaW.PrintLast Go.Proofs.YtenomjfaodfjhaaW.PrintMore
set_option linter.unusedVariables false
set_option linter.unusedSimpArgs false
theorem and7 (n : Int) : Go.bits .and .i64 n 7 = n % 8 := by
  simp only [Go.bits]
  have e : (BitVec.ofInt IntKind.i64.bits n &&& BitVec.ofInt IntKind.i64.bits 7).toNat = (n % 8).toNat := by
    have h3 : (BitVec.ofInt IntKind.i64.bits 7).toNat = 2 ^ 3 - 1 := by decide
    rw [BitVec.toNat_and, h3, Nat.and_two_pow_sub_one_eq_mod, BitVec.toNat_ofInt]
    show (n % (2 ^ 64 : Nat)).toNat % 8 = (n % 8).toNat
    omega
  rw [e, IntKind.wrap_i64]
  omega
/-- What the law remembers of the blocks. -/
def haveOf (hv : Nat → Int) : Array Value := ((List.range 8).map fun k => Value.int .u8 (hv k)).toArray
theorem have_at (hv : Nat → Int) (k : Nat) (h : k < 8) : (haveOf hv)[k]? = some (.int .u8 (hv k)) := by simp [haveOf, h]
theorem have_set (hv : Nat → Int) (q : Nat) (x : Int) : (haveOf hv).setIfInBounds q (.int .u8 x) = haveOf (upd hv q x) := by
  unfold haveOf
  rw [List.setIfInBounds_toArray]
  congr 1
  apply List.ext_getElem?
  intro k
  rw [List.getElem?_set]
  by_cases e : q = k
  · subst e
    rw [if_pos rfl]
    by_cases hk : q < 8
    · rw [if_pos (by simpa using hk)]; simp [hk, upd_same]
    · rw [if_neg (by simpa using hk)]; rw [List.getElem?_eq_none (by simp; omega)]
  · rw [if_neg e]
    by_cases hk : k < 8
    · simp [hk, upd_other hv x (show k ≠ q from fun h => e h.symm)]
    · rw [List.getElem?_eq_none (by simp; omega), List.getElem?_eq_none (by simp; omega)]
structure ApartInv (w w' : World) (base D C hh i : Nat) (fl : Flags) (av wv : Nat → Value) (es : Nat → List Value) (st : Nat → List (List Int)) (hv : Nat → Int) : Prop where
  dev : DevIn w' (fun g => g ≠ hh) base D C 8 64 fl av wv es st
  live : fl.dead = false ∧ fl.fused = false
  few : ∀ k, k < 8 → (es k).length ≤ i
  last : ∀ k, k < 8 → lastOf (st k) = List.replicate 64 (hv k)
  hav : w'.heap[hh]? = some (.cells (haveOf hv) 28 (0, 0))
  bel : Below w.heap.size w w'
  low : w.heap.size ≤ base ∧ w.heap.size ≤ hh
theorem ApartInv.below {w w1 w2 : World} {base D C hh i : Nat} {fl : Flags} {av wv : Nat → Value} {es : Nat → List Value} {st : Nat → List (List Int)} {hv : Nat → Int} (H : ApartInv w w1 base D C hh i fl av wv es st hv) (hb : Below w1.heap.size w1 w2) : ApartInv w w2 base D C hh i fl av wv es st hv :=
  ⟨H.dev.below hb, H.live, H.few, H.last, (hb.block hh (Array.getElem?_eq_some_iff.1 H.hav).1).trans H.hav, H.bel.trans (hb.mono H.bel.size), H.low⟩
theorem dies_of {fl : Flags} (h : fl.dead = false ∧ fl.fused = false) : fl.dies = false := by simp [Flags.dies, h.1, h.2]
theorem burn_live {fl : Flags} (h : fl.dead = false ∧ fl.fused = false) : fl.burn.dead = false ∧ fl.burn.fused = false := by
  unfold Flags.burn
  rw [if_neg (by rw [dies_of h]; simp)]
  exact ⟨rfl, h.2⟩
theorem cell_old {w w' : World} {a : Addr} {v : Value} (h : Below w.heap.size w w') (hc : w.cell? a = some v) : w'.cell? a = some v :=
  (World.cell?_of_block (w := w) (h.block a.block (World.block_lt_of_cell? w a hc))).trans hc
/-- Behind the write, ahead of the note: the note is of the old. -/
structure Written (w w' : World) (base D C hh i q : Nat) (x : Int) (fl : Flags) (av wv : Nat → Value) (es : Nat → List Value) (st : Nat → List (List Int)) (hv : Nat → Int) : Prop where
  dev : DevIn w' (fun g => g ≠ hh) base D C 8 64 fl av wv es st
  live : fl.dead = false ∧ fl.fused = false
  few : ∀ k, k < 8 → (es k).length ≤ i + 1
  last : ∀ k, k < 8 → lastOf (st k) = List.replicate 64 (upd hv q x k)
  hav : w'.heap[hh]? = some (.cells (haveOf hv) 28 (0, 0))
  bel : Below w.heap.size w w'
  low : w.heap.size ≤ base ∧ w.heap.size ≤ hh
theorem apart_note {w w5 : World} {base D C hh i q : Nat} {x : Int} {fl : Flags} {av wv : Nat → Value} {es : Nat → List Value} {st : Nat → List (List Int)} {hv : Nat → Int} (H : Written w w5 base D C hh i q x fl av wv es st hv) (hq : q < 8) :
    ApartInv w (w5.setCell ⟨hh, q, none⟩ (.int .u8 x)) base D C hh (i + 1) fl av wv es st (upd hv q x) := by
  refine ⟨H.dev.keep (fun g _ hg => Below.heap_setCell _ _ _ _ hg), H.live, H.few, H.last, ?_, H.bel.setCell H.low.2 _, H.low⟩
  have h0 : w5.heap[hh]? = some (.cells (haveOf hv).toList.toArray 28 (0, 0)) := by rw [show (haveOf hv).toList.toArray = haveOf hv by simp]; exact H.hav
  rw [setCell_eq_setRow w5 hh q _ 28 (0, 0) _ h0, setRow_heap w5 hh _ _ 28 (0, 0) h0, ← have_set]
theorem apart_flush {w w6 w7 : World} {base D C hh i : Nat} {fl : Flags} {av wv av7 wv7 : Nat → Value} {es es7 : Nat → List Value} {st : Nat → List (List Int)} {hv : Nat → Int} (H : ApartInv w w6 base D C hh i fl av wv es st hv)
    (hD : Dev w7 base D C 8 64 fl.burn av7 wv7 es7 (stF st 8)) (hS : Step w6 w7 (Mut D C 8 wv) (Mut D C 8 wv7)) (hM : ∀ k, k < 8 → ∀ u, u ∈ av7 k :: es7 k → u ∈ av k :: es k) : ApartInv w w7 base D C hh i fl.burn av7 wv7 es7 (stF st 8) hv := by
  have hhl : hh < w6.heap.size := (Array.getElem?_eq_some_iff.1 H.hav).1
  refine ⟨(H.dev.step hD hS (fun k hk u hu => .inl (hM k hk u hu))).mono (fun g hg => ?_), burn_live H.live, fun k hk => ?_, fun k hk => ?_, (hS.block hh hhl (fun hm => H.dev.muts hh hm rfl)).trans H.hav, H.bel.trans (hS.below H.bel.size (fun g hm => Nat.le_trans H.low.1 (H.dev.dev.low g hm))), H.low⟩
  · rcases hg with h | h
    · exact h
    · omega
  · have h1 := hD.len k hk
    rw [show (stF st 8 k).length = 1 by unfold stF; rw [if_pos hk]; rfl] at h1
    omega
  · rw [show stF st 8 k = [lastOf (st k)] by unfold stF; rw [if_pos hk], ← H.last k hk]
    rfl
theorem apart_write {w w4 w5 : World} {base D C hh i q : Nat} {x : Int} {fl : Flags} {av wv : Nat → Value} {es : Nat → List Value} {st : Nat → List (List Int)} {hv : Nat → Int} {v v' : Value} (H : ApartInv w w4 base D C hh i fl av wv es st hv) (hq : q < 8)
    (hD : Dev w5 base D C 8 64 fl.burn av (upd wv q v') (upd es q (es q ++ [v])) (upd st q (st q ++ [List.replicate 64 x]))) (hS : Step w4 w5 (Mut D C 8 wv) (Mut D C 8 (upd wv q v'))) (hnew : ∀ g, v.ownBlock = some g → w4.heap.size ≤ g) :
    Written w w5 base D C hh i q x fl.burn av (upd wv q v') (upd es q (es q ++ [v])) (upd st q (st q ++ [List.replicate 64 x])) hv := by
  have hhl : hh < w4.heap.size := (Array.getElem?_eq_some_iff.1 H.hav).1
  refine ⟨(H.dev.step hD hS (fun k hk u hu => ?_)).mono (fun g hg => ?_), burn_live H.live, fun k hk => ?_, fun k hk => ?_, (hS.block hh hhl (fun hm => H.dev.muts hh hm rfl)).trans H.hav, H.bel.trans (hS.below H.bel.size (fun g hm => Nat.le_trans H.low.1 (H.dev.dev.low g hm))), H.low⟩
  · rcases mem_upd_snoc hu with h | h
    · exact .inl h
    · subst h; exact .inr hnew
  · rcases hg with h | h
    · exact h
    · omega
  · by_cases e : k = q
    · subst e; rw [upd_same, List.length_append]; have := H.few k hk; simp; omega
    · rw [upd_other _ _ e]; have := H.few k hk; omega
  · by_cases e : k = q
    · subst e; rw [upd_same, upd_same, lastOf_end]
    · rw [upd_other _ _ e, upd_other _ _ e]; exact H.last k hk
set_option maxHeartbeats 32000000 in
set_option maxRecDepth 100000 in
theorem dapart_main (A : Option Addr) (c len : Nat) (kk nn : Nat → Int) (w : World) (hops : ∀ i, i < len → ∃ ab ao, A = some ⟨ab, ao, none⟩ ∧ w.cell? ⟨ab, ao + i * 4, none⟩ = some (.int .i64 (kk i)) ∧ w.cell? ⟨ab, ao + i * 4 + 1, none⟩ = some (.int .i64 (nn i))) (hlen : len ≤ 9223372036854775807) :
    Calls Try.prog 3 #[.slice A len c] w fun e w' => e = .returned (.bool true) ∧ Below w.heap.size w w' := by
  have HOps := Aside0.mk hops
  clear hops
  go_enter Try.func3, Try.ntmps3
  go_wp2_with fail
  refine (wakes_calls w).mono ?_
  rintro e w1 ⟨rfl, hb⟩
  have HB1 := Aside0.mk hb
  clear hb
  go_wp2_with fail
  refine (new_strong w1 8 (by omega) (by omega)).mono ?_
  rintro e w2 ⟨D, C, av, rfl, hD, hb, hr⟩
  have hdi := DevIn.ofNew hD hr
  have hB2 : Below w.heap.size w w2 := HB1.out.trans (hb.mono HB1.out.size)
  have HI : Aside0 (∃ fl av wv es st hv, ApartInv w (w2.alloc (.cells (haveOf fun _ => 0) 28)) w1.heap.size D C w2.heap.size 0 fl av wv es st hv) := ⟨⟨_, _, _, _, _, fun _ => 0,
    ⟨(hdi.mono (fun g hg => by omega)).below ((Below.refl _ _).alloc (Nat.le_refl _) _), ⟨rfl, rfl⟩, fun k _ => by simp, fun k _ => rfl, blk_new _ _, hB2.alloc hB2.size _, HB1.out.size, hB2.size⟩⟩⟩
  obtain ⟨hh, hhh⟩ : ∃ hh, w2.heap.size = hh := ⟨_, rfl⟩
  rw [hhh] at HI
  have HHH := Aside0.mk hhh
  clear hD hb hr hdi hB2 hhh
  obtain ⟨base, hbase⟩ : ∃ base, w1.heap.size = base := ⟨_, rfl⟩
  rw [hbase] at HI
  clear hbase HB1
  go_wp2_with fail
  rw [HHH.out]
  go_loopg [6] 150 (fun kq v6 w' => ∃ i : Nat, v6 = .int .i64 (i : Int) ∧ i ≤ len ∧ i ≤ 150 ∧ 150 - i ≤ kq ∧ Aside0 (∃ fl av wv es st hv, ApartInv w w' base D C hh i fl av wv es st hv))
  case atStart => exact ⟨0, rfl, by omega, by omega, by omega, HI⟩
  case round =>
    obtain ⟨i, rfl, hi, hi2, hk, HJ⟩ := hrel
    by_cases hlt : i < len ∧ i < 150
    · cases gk with
      | zero => omega
      | succ k1 =>
        obtain ⟨fl, av1, wv, es, st, hv, hJ⟩ := HJ.out
        have HA := Aside0.mk hJ
        have hlt1 := hlt.1
        have hlt2 := hlt.2
        have d0 : decide ((i : Int) < (len : Int)) = true := decide_eq_true (by omega)
        have d1 : decide ((i : Int) < 150) = true := decide_eq_true (by omega)
        have p0 : (0 : Int) ≤ (i : Int) := by omega
        have p1 : (i : Int) < (len : Int) := by omega
        obtain ⟨ab, ao, ha, hck, hcn⟩ := HOps.out i hlt1
        subst ha
        have hcn' : wr.cell? ⟨ab, ao + i * 4 + 1, none⟩ = some (.int .i64 (nn i)) := cell_old hJ.bel hcn
        have HCK := Aside0.mk hck
        obtain ⟨q, hq⟩ : ∃ q : Nat, (q : Int) = nn i % 8 := ⟨(nn i % 8).toNat, by omega⟩
        have hq8 : q < 8 := by omega
        have hand : Go.bits .and .i64 (nn i) 7 = (q : Int) := by rw [and7, hq]
        obtain ⟨x, hx⟩ : ∃ x : Int, x = (i : Int) + 1 := ⟨_, rfl⟩
        have hw8 : IntKind.u8.wrap ((i : Int) + 1) = x := by rw [IntKind.wrap_u8, hx]; omega
        have hdies := dies_of hJ.live
        have HDies := Aside0.mk hdies
        have HL := Aside0.mk hlt
        clear hJ hck hcn hq hx hdies hlt HJ
        go_wp2_with fail
        clear hw8 hand
        refine (full_calls x wr).mono ?_
        rintro e w4 ⟨cx, g, rfl, hc, hg, hrow, hb⟩
        have HA4 := Aside0.mk (HA.out.below hb)
        obtain ⟨-, hcx, hread⟩ := row_read hrow (by simp)
        have HR := Aside0.mk (And.intro hcx hread)
        have HMg : Aside0 (∀ a, (some ⟨g, 0, none⟩ : Option Addr) = some a → ¬ Mut D C 8 wv a.block) := ⟨fun a ha hm => by cases ha; have h1 : g < wr.heap.size := HA.out.dev.dev.lt _ hm; omega⟩
        clear hb hg hrow hread hc hcx HA
        go_wp2_with fail
        refine (write_strong w4 HA4.out.dev.dev HDies.out q hq8 (by have := HA4.out.few q hq8; omega) (some ⟨g, 0, none⟩) cx (List.replicate 64 x) (by simp) HR.out.2 HR.out.1 HMg.out).mono ?_
        rintro e w5 ⟨rfl, v, v', hD, hS, hnew⟩
        have HE := Aside0.mk (apart_write HA4.out hq8 hD hS hnew)
        clear hD hS hnew HA4 HR HMg
        have hcH := (blk_cell HE.out.hav q).trans (have_at _ q hq8)
        have hfH := blk_frozen HE.out.hav q
        have p2 : (0 : Int) ≤ (q : Int) := by omega
        have p3 : (q : Int) < 8 := by omega
        go_upto_region 16 with fail
        have HN := Aside0.mk (apart_note HE.out hq8)
        obtain ⟨w6, hw6⟩ : ∃ w6, w5.setCell ⟨hh, q, none⟩ (.int .u8 x) = w6 := ⟨_, rfl⟩
        rw [hw6] at HN ⊢
        have hck6 : w6.cell? ⟨ab, ao + i * 4, none⟩ = some (.int .i64 (kk i)) := cell_old HN.out.bel HCK.out
        clear hw6 hcH hfH HE hcn'
        obtain ⟨t, ht⟩ : ∃ t : Bool, (kk i == 3) = t := ⟨_, rfl⟩
        obtain ⟨hv', hhv⟩ : ∃ f, upd hv q x = f := ⟨_, rfl⟩
        rw [hhv] at HN
        clear hhv
        have HI2 : Aside0 (∃ fl av wv es st, ApartInv w w6 base D C hh (i + 1) fl av wv es st hv') := ⟨_, _, _, _, _, HN.out⟩
        go_upto_if 58 with (fail)
        clear hck6 ht
        go_cut [4] from 53 to 62 (fun v4 wc => v4 = .int .i64 0 ∧ Aside0 (∃ fl av wv es st, ApartInv w wc base D C hh (i + 1) fl av wv es st hv'))
        case first =>
          cases t with
          | true =>
            go_wp2_with fail
            refine (flush_strong w6 HN.out.dev.dev (dies_of HN.out.live)).mono ?_
            rintro e w7 ⟨rfl, av7, wv7, es7, hD, hS, hM⟩
            have HF := Aside0.mk (apart_flush HN.out hD hS hM)
            clear hD hS hM
            go_wp2_with fail
            go_meet
            case rel => exact ⟨rfl, _, _, _, _, _, HF.out⟩
          | false =>
            go_wp2
            go_meet
            case rel => exact ⟨rfl, HI2⟩
        case rest =>
          obtain ⟨rfl, HC⟩ := hcut
          clear HI2 HN
          go_wp2
          go_loopg [9] 8 (fun kq v9 w' => ∃ k : Nat, v9 = .int .i64 (k : Int) ∧ k ≤ 8 ∧ 8 - k ≤ kq ∧ Aside0 (∃ fl av wv es st, ApartInv w w' base D C hh (i + 1) fl av wv es st hv'))
          case atStart => exact ⟨0, rfl, by omega, by omega, HC⟩
          case round =>
            obtain ⟨k, rfl, hk1, hk2, HK⟩ := hrel
            by_cases hlt : k < 8
            · cases gk with
              | zero => omega
              | succ k2 =>
                obtain ⟨fl8, av8, wv8, es8, st8, hJ8⟩ := HK.out
                have HA8 := Aside0.mk hJ8
                have d2 : decide ((k : Int) < 8) = true := decide_eq_true (by omega)
                have p4 : (0 : Int) ≤ (k : Int) := by omega
                have p5 : (k : Int) < 8 := by omega
                have HLt := Aside0.mk hlt
                clear hJ8 HK
                go_wp2_with fail
                refine (read_yes _ HA8.out.dev.dev HA8.out.live.1 k HLt.out).mono ?_
                rintro e w9 ⟨v9, rfl, hr, hb⟩
                rw [HA8.out.last k HLt.out] at hr
                obtain ⟨A9, c9, e9, hc9, hr9⟩ := got_len (Got.of_R hr) (show (List.replicate 64 (hv' k)).length = 64 by simp) (by omega)
                subst e9
                have HR9 := Aside0.mk (And.intro hc9 hr9)
                have HA9 := Aside0.mk (HA8.out.below hb)
                have hc10 := (blk_cell HA9.out.hav k).trans (have_at _ k HLt.out)
                clear hr hb hc9 hr9 HA8
                go_wp2_with fail
                refine (full_calls (hv' k) w9).mono ?_
                rintro e w10 ⟨cx, g, rfl, hc, hg, hrow, hb⟩
                obtain ⟨-, hcx, hread⟩ := row_read hrow (by simp)
                have HR := Aside0.mk (And.intro hcx hread)
                have HA10 := Aside0.mk (HA9.out.below hb)
                have HR10 := Aside0.mk (HR9.out.2.below hb)
                clear hb hg hrow hread hc hcx HA9 hc10
                go_wp2_with fail
                refine (same_len A9 c9 (List.replicate 64 (hv' k)) 64 (by simp) (some ⟨g, 0, none⟩) cx 64 (by simp) w10 HR10.out (by have := HR9.out.1; simp; omega) HR.out.2 HR.out.1).mono ?_
                rintro e w11 ⟨rfl, hd⟩
                have HA11 : Aside0 (∃ fl av wv es st, ApartInv w w11 base D C hh (i + 1) fl av wv es st hv') := ⟨_, _, _, _, _, HA10.out.below hd.below⟩
                clear hd
                go_wp2_with fail
                go_roundg k2
                case measure => omega
                case rel => exact ⟨k + 1, by go_num, by omega, by omega, HA11⟩
            · obtain rfl : k = 8 := by omega
              have d2 : decide ((8 : Int) < 8) = false := by decide
              go_wp2
              go_roundg k1
              case measure => omega
              case rel => exact ⟨i + 1, by go_num, by omega, by omega, by omega, by obtain ⟨a, b, c, d, e, h⟩ := HK.out; exact ⟨⟨a, b, c, d, e, hv', h⟩⟩⟩
    · have HB : Aside0 (Below w.heap.size w wr) := by obtain ⟨_, _, _, _, _, _, h⟩ := HJ.out; exact ⟨h.bel⟩
      by_cases c1 : i < len
      · have d0 : decide ((i : Int) < (len : Int)) = true := decide_eq_true (by omega)
        have d1 : decide ((i : Int) < 150) = false := decide_eq_false (by omega)
        clear hlt
        go_wp2
        go_ret
        exact ⟨rfl, HB.out⟩
      · have d0 : decide ((i : Int) < (len : Int)) = false := decide_eq_false (by omega)
        clear hlt
        go_wp2
        go_ret
        exact ⟨rfl, HB.out⟩
theorem dapart_row (A : Option Addr) (c len : Nat) (kk nn : Nat → Int) (w : World) (hops : ∀ i, i < len → ∃ ab ao, A = some ⟨ab, ao, none⟩ ∧ w.cell? ⟨ab, ao + i * 4, none⟩ = some (.int .i64 (kk i)) ∧ w.cell? ⟨ab, ao + i * 4 + 1, none⟩ = some (.int .i64 (nn i))) (hlen : len ≤ 9223372036854775807) :
    Calls Try.prog 3 #[.slice A len c] w fun e w' => e = .returned (.bool true) ∧ Below w.heap.size w w' := dapart_main A c len kk nn w hops hlen
end Go.Proofs.Ytenomjfaodfjhaa.Keeps
