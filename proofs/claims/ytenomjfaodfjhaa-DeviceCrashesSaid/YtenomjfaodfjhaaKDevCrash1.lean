/- Behind a crash each block is what had arrived, or one of the writes that waited, as its pick says; behind a flush nothing can be lost: the walk of the law. No conditions. -/
import Derived.Test.YtenomjfaodfjhaaKDevCrash0
import Derived.Test.YtenomjfaodfjhaaKDevCrash2
namespace Go.Proofs.Ytenomjfaodfjhaa.Keeps
open Go.RowKit Go.Proofs.Ytenomjfaodfjhaa.PDeviceKeeps Go.Proofs.Ytenomjfaodfjhaa.Plain Go.Proofs.YtenomjfaodfjhaaW.PrintWords Go.Proofs.YtenomjfaodfjhaaW.PrintLast Go.Proofs.YtenomjfaodfjhaaW.PrintMore
set_option linter.unusedVariables false
set_option linter.unusedSimpArgs false
def lv0 (LL i : Nat) : Nat → Value := fun k => if k < i then .slice (some ⟨LL + 1 + k, 0, none⟩) 1 1 else .slice none 0 0
theorem lv0_succ (LL i : Nat) : upd (lv0 LL i) i (.slice (some ⟨LL + 1 + i, 0, none⟩) 1 1) = lv0 LL (i + 1) := by
  funext k
  unfold upd lv0
  by_cases h : k = i
  · subst h; rw [if_pos rfl, if_pos (by omega)]
  · rw [if_neg h]
    by_cases h1 : k < i
    · rw [if_pos h1, if_pos (by omega)]
    · rw [if_neg h1, if_neg (by omega)]
structure L1 (w w' : World) (base D C LL i : Nat) (av : Nat → Value) : Prop where
  dev : DevIn w' (fun g => g < LL) base D C 4 64 flags0 av (fun _ => .slice none 0 0) (fun _ => []) (fun _ => [zeros 64])
  size : w'.heap.size = LL + 1 + i
  lists : w'.heap[LL]? = some (.cells (listOf (lv0 LL i)) 49 (0, 0))
  rows : ∀ k, k < i → Row w' (lv0 LL i k) (some (LL + 1 + k)) [0]
  bel : Below w.heap.size w w'
  low : w.heap.size ≤ base ∧ w.heap.size ≤ LL
theorem L1.step {w w1 : World} {base D C LL i : Nat} {av : Nat → Value} (H : L1 w w1 base D C LL i av) :
    L1 w ((w1.alloc (.cells #[.int .u8 0] 5)).setCell ⟨LL, i, none⟩ (.slice (some ⟨w1.heap.size, 0, none⟩) 1 1)) base D C LL (i + 1) av := by
  have hl : LL < w1.heap.size := by have := H.size; omega
  have far : ∀ g, g ≠ LL → ((w1.alloc (.cells #[.int .u8 0] 5)).setCell ⟨LL, i, none⟩ (.slice (some ⟨w1.heap.size, 0, none⟩) 1 1)).heap[g]? = (w1.alloc (.cells #[.int .u8 0] 5)).heap[g]? := fun g h => Below.heap_setCell _ _ _ _ h
  refine ⟨(H.dev.below ((Below.refl _ _).alloc (Nat.le_refl _) _)).keep fun g _ hg => far g (by omega), ?_, ?_, fun k hk => ?_, (H.bel.alloc H.bel.size _).setCell H.low.2 _, H.low⟩
  · have := H.size; simp [World.setCell]; omega
  · rw [H.size, ← lv0_succ]
    exact list_store ((Below.heap_alloc _ _ _ hl).trans H.lists) i _
  · by_cases e : k = i
    · subst e
      rw [← lv0_succ, upd_same]
      refine Row.keep ?_ fun g e => by cases e; exact far _ (by omega)
      refine .inr ⟨LL + 1 + k, 1, #[.int .u8 0], rfl, rfl, Nat.le_refl _, by unfold maxLen; omega, ?_, rfl, rfl⟩
      rw [← H.size]
      exact blk_new w1 _
    · rw [← lv0_succ, upd_other _ _ e]
      refine (H.rows k (by omega)).keep fun g e' => by cases e'; exact (far _ (by omega)).trans (Below.heap_alloc _ _ _ (by have := H.size; omega))
theorem L1.done {w w1 : World} {base D C LL : Nat} {av : Nat → Value} (H : L1 w w1 base D C LL 4 av) : Cr w w1 base D C LL (lv0 LL 4) (fun k => LL + 1 + k) (fun _ => [0]) flags0 av (fun _ => .slice none 0 0) (fun _ => []) (fun _ => [zeros 64]) :=
  ⟨H.dev.mono fun g hg => ⟨by omega, fun k _ => by omega⟩, ⟨rfl, rfl⟩, fun k _ => rfl, H.lists, fun k hk => H.rows k hk, fun k l _ _ h => by omega, fun k _ => by omega, H.bel, H.low.1, H.low.2, fun k _ => by have := H.low.2; omega⟩
theorem L1.start {w w1 w2 : World} {D C : Nat} {av : Nat → Value} (hD : Dev w2 w1.heap.size D C 4 64 flags0 av (fun _ => .slice none 0 0) (fun _ => []) (fun _ => [zeros 64])) (hr : ∀ k, k < 4 → ∀ g, (av k).ownBlock = some g → w1.heap.size ≤ g) (hB1 : Below w.heap.size w w1) (hb : Below w1.heap.size w1 w2) :
    L1 w (w2.alloc (.cells #[.slice none 0 0, .slice none 0 0, .slice none 0 0, .slice none 0 0] 49)) w1.heap.size D C w2.heap.size 0 av := by
  have hB2 : Below w.heap.size w w2 := hB1.trans (hb.mono hB1.size)
  exact ⟨((DevIn.ofNew hD hr).mono fun g hg => hg.2).below ((Below.refl _ _).alloc (Nat.le_refl _) _), by simp, blk_new w2 _, fun k h => by omega, hB2.alloc hB2.size _, hB1.size, hB2.size⟩
def crash.T18 : Bool × List (List Nat × List Nat) := (true, [([], []), ([], []), ([1], [1]), ([2], [2]), ([], []), ([], []), ([4, 5], [4, 5]), ([6], [6]), ([7], [7]), ([3, 8], [3, 8]), ([0, 0, 1, 2, 3, 4, 5, 6, 7, 8, 9], [0]), ([10, 9, 9, 0, 1, 2, 3, 4, 5, 6, 7, 8, 9], [9, 10])])
def crash.B18 : List Nat := [0, 0, 2, 6, 0, 0, 48, 112, 240, 510, 1023, 2047]
theorem crash.tab18 : rtab .any (opsOf Try.f5 18) = crash.T18 := by kernel_rfl
theorem crash.bits18 : waitsOk crash.T18.2 crash.B18 = true := by kernel_rfl
set_option maxHeartbeats 32000000 in
set_option maxRecDepth 100000 in
theorem crashes_main (A0 : Option Addr) (c0 : Nat) (l0 : List Int) (A1 : Option Addr) (c1 : Nat) (l1 : List Int) (A2 : Option Addr) (c2 : Nat) (l2 : List Int) (fl? : Bool) (w : World) (hr0 : ReadsInt w .u8 A0 l0.length l0) (hr1 : ReadsInt w .i64 A1 l1.length l1) (hr2 : ReadsInt w .i64 A2 l2.length l2) (hc2 : l2.length ≤ c2) (hl0 : l0.length ≤ 9223372036854775807) (hl1 : l1.length ≤ 9223372036854775807) (hl2 : l2.length ≤ 17592186043904) :
    Calls Try.prog 5 #[.slice A0 l0.length c0, .slice A1 l1.length c1, .slice A2 l2.length c2, .bool fl?] w fun e w' => e = .returned (.bool true) ∧ Below w.heap.size w w' := by
  have R0 := Aside0.mk hr0
  have R1 := Aside0.mk hr1
  have R2 := Aside0.mk hr2
  have HC2 := Aside0.mk hc2
  clear hr0 hr1 hr2 hc2
  go_enter Try.func5, Try.ntmps5
  go_wp2_with fail
  refine (wakes_calls w).mono ?_
  rintro e w1 ⟨rfl, hb⟩
  have HB1 := Aside0.mk hb
  clear hb
  go_wp2_with fail
  refine (new_strong w1 4 (by omega) (by omega)).mono ?_
  rintro e w2 ⟨D, C, av, rfl, hD, hb, hr⟩
  have HI := Aside0.mk (L1.start hD hr HB1.out hb)
  obtain ⟨LL, hLL⟩ : ∃ LL, w2.heap.size = LL := ⟨_, rfl⟩
  rw [hLL] at HI
  have HHH := Aside0.mk hLL
  obtain ⟨base, hbase⟩ : ∃ base, w1.heap.size = base := ⟨_, rfl⟩
  rw [hbase] at HI
  clear hD hb hr hLL hbase HB1
  go_wp2_with fail
  rw [HHH.out]
  go_loopg [12] 4 (fun kq v12 w' => ∃ i : Nat, v12 = .int .i64 (i : Int) ∧ i ≤ 4 ∧ 4 - i ≤ kq ∧ Aside0 (L1 w w' base D C LL i av))
  case atStart => exact ⟨0, rfl, by omega, by omega, HI⟩
  case round =>
    obtain ⟨i, rfl, hi, hk, HJ⟩ := hrel
    by_cases hlt : i < 4
    · cases gk with
      | zero => omega
      | succ k1 =>
        have d0 : decide ((i : Int) < 4) = true := decide_eq_true (by omega)
        have p0 : (0 : Int) ≤ (i : Int) := by omega
        have p1 : (i : Int) < 4 := by omega
        have hcell := (blk_cell HJ.out.lists i).trans (list_at _ i hlt)
        have hfr := blk_frozen HJ.out.lists i
        rw [show lv0 LL i i = .slice none 0 0 by simp [lv0]] at hcell
        have HS := HJ.out.step
        have hLs : LL < wr.heap.size := by have := HJ.out.size; omega
        rw [World.setCell_alloc_past _ _ _ _ hLs] at HS
        have HS := Aside0.mk HS
        clear HJ
        rename_i HS0
        clear HS0
        go_wp2
        go_roundg k1
        case measure => omega
        case rel => exact ⟨i + 1, by go_num, by omega, by omega, HS⟩
    · obtain rfl : i = 4 := by omega
      have d0 : decide ((4 : Int) < 4) = false := by decide
      obtain ⟨wa, rfl⟩ : ∃ wa : World, wa = wr := ⟨_, rfl⟩
      have HC0 : Aside0 (∃ lv lb ll fl av wv es st, Cr w wa base D C LL lv lb ll fl av wv es st ∧ ∀ k, k < 4 → (ll k).length ≤ 0 + 1) := ⟨_, _, _, _, _, _, _, _, HJ.out.done, fun k _ => by simp⟩
      clear HJ
      go_upto_block 2 with fail
      go_cut [13] from 41 to 82 (fun v13 wc => Aside0 (∃ lv lb ll fl av wv es st, Cr w wc base D C LL lv lb ll fl av wv es st ∧ ∀ k, k < 4 → (ll k).length ≤ 201))
      case first =>
        go_wp2_with fail
        go_loopg [13] 200 (fun kq v13 w' => ∃ i : Nat, v13 = .int .i64 (i : Int) ∧ i ≤ l0.length ∧ i ≤ l1.length ∧ i ≤ 200 ∧ 200 - i ≤ kq ∧ Aside0 (∃ lv lb ll fl av wv es st, Cr w w' base D C LL lv lb ll fl av wv es st ∧ ∀ k, k < 4 → (ll k).length ≤ i + 1))
        case atStart => exact ⟨0, rfl, by omega, by omega, by omega, by omega, HC0⟩
        case round =>
          obtain ⟨i, rfl, hi0, hi1, hi2, hk2, HJ⟩ := hrel
          by_cases hlt : i < l0.length ∧ i < l1.length ∧ i < 200
          · cases gk with
            | zero => omega
            | succ k1 =>
              obtain ⟨lv, lb, ll, fl, av2, wv, es, st, hJ, hfew⟩ := HJ.out
              have HA := Aside0.mk hJ
              have HFew := Aside0.mk hfew
              have hlt0 := hlt.1
              have hlt1 := hlt.2.1
              have hlt2 := hlt.2.2
              have e0 : decide ((i : Int) < (l0.length : Int)) = true := decide_eq_true (by omega)
              have e1 : decide ((i : Int) < (l1.length : Int)) = true := decide_eq_true (by omega)
              have e2 : decide ((i : Int) < 200) = true := decide_eq_true (by omega)
              have p0 : (0 : Int) ≤ (i : Int) := by omega
              have p1 : (i : Int) < (l0.length : Int) := by omega
              have p2 : (i : Int) < (l1.length : Int) := by omega
              obtain ⟨b0, ea0, hcx0⟩ := (R0.out.below hJ.bel).2.2 (by omega)
              obtain ⟨b1, ea1, hcx1⟩ := (R1.out.below hJ.bel).2.2 (by omega)
              have hx0 := hcx0 i hlt0
              have hx1 := hcx1 i hlt1
              subst ea0
              subst ea1
              obtain ⟨x, hx⟩ : ∃ x, l0.getD i 0 = x := ⟨_, rfl⟩
              obtain ⟨y, hy⟩ : ∃ y, l1.getD i 0 = y := ⟨_, rfl⟩
              rw [hx] at hx0
              rw [hy] at hx1
              obtain ⟨q, hq⟩ : ∃ q : Nat, (q : Int) = y % 4 := ⟨(y % 4).toNat, by omega⟩
              have hq4 : q < 4 := by omega
              have hand : Go.bits .and .i64 y 3 = (q : Int) := by rw [and3z, hq]
              have HX := Aside0.mk hx
              clear hJ hfew HJ hcx0 hcx1 hq hlt hx hy
              go_wp2_with fail
              clear hand
              refine (full_calls x wr).mono ?_
              rintro e w4 ⟨cx, g, rfl, hc, hg, hrow, hb⟩
              have HA4 := Aside0.mk (HA.out.below hb)
              obtain ⟨-, hcx, hread⟩ := row_read hrow (by simp)
              have HR := Aside0.mk (And.intro hcx hread)
              have HMg : Aside0 (∀ a, (some ⟨g, 0, none⟩ : Option Addr) = some a → ¬ Mut D C 4 wv a.block) := ⟨fun a ha hm => by cases ha; have h1 : g < wr.heap.size := HA.out.dev.dev.lt _ hm; omega⟩
              have HDies := Aside0.mk (dies_of HA.out.live)
              have HLen : Aside0 ((es q).length < 400) := ⟨by have h1 := HA.out.dev.dev.len q hq4; rw [HA.out.same q hq4, List.length_map] at h1; have := HFew.out q hq4; omega⟩
              clear hb hg hrow hread hc hcx hx0 hx1 HA
              go_wp2_with fail
              refine (write_strong w4 HA4.out.dev.dev HDies.out q hq4 HLen.out (some ⟨g, 0, none⟩) cx (List.replicate 64 x) (by simp) HR.out.2 HR.out.1 HMg.out).mono ?_
              rintro e w5 ⟨rfl, v, v', hD, hS, hnew⟩
              have HE := Aside0.mk (Cr.write HA4.out hq4 hD hS hnew)
              obtain ⟨cq, hlv, _⟩ := (HE.out.rows q hq4).slice
              have HLV := Aside0.mk hlv
              have hcL := (blk_cell HE.out.lists q).trans (list_at _ q hq4)
              rw [hlv] at hcL
              have hfL := blk_frozen HE.out.lists q
              obtain ⟨b0', ea0, hcx0⟩ := (R0.out.below HE.out.bel).2.2 (by omega)
              cases ea0
              have hx0 := hcx0 i hlt0
              rw [HX.out] at hx0
              have HF2 := Aside0.mk (HFew.out q hq4)
              have p4 : (0 : Int) ≤ (q : Int) := by omega
              have p5 : (q : Int) < 4 := by omega
              clear hD hS hnew HA4 HR HMg HDies HLen hlv hcx0
              rename_i left0
              clear left0
              go_wp2_with fail
              refine start_ (n := 12) (S := (fun w' => w'.cell? ⟨LL, q, none⟩ = some (.slice (some ⟨lb q, 0, none⟩) (ll q).length cq) ∧ w'.cell? (b0.add i) = some (.int .u8 x))) (ds := [11]) #[false, false, false, false, false, false, false, false, false, false, false, false] (by kernel_rfl) rfl rfl ⟨hcL, hx0⟩ (fun hHeld => ?_); refine with_tabW crash.tab18 crash.bits18 (fun HT_ HW_ => ?_)
              refine pure_ (i := 0) (N := (some 72)) (v := ?_) (a' := ?_) #[true, false, false, false, false, false, false, false, false, false, false, false] rfl rfl (any_of HT_.out (by kernel_rfl)) (fun _ _ _ h => h) (Or.inl ⟨by rfl, ?_⟩) ?_ ?_
              rotate_left
              · intro w'
                go_simp
                with_reducible rfl
              rotate_left
              · simp only [Act.put, List.setIfInBounds_toArray, List.set_cons_zero, List.set_cons_succ, i64_w, i32_w]
                rfl
              refine pure_ (i := 1) (N := (some 73)) (v := ?_) (a' := ?_) #[true, true, false, false, false, false, false, false, false, false, false, false] rfl rfl (any_of HT_.out (by kernel_rfl)) (fun _ _ _ h => h) (Or.inl ⟨by rfl, ?_⟩) ?_ ?_
              rotate_left
              · intro w'
                go_simp
                with_reducible rfl
              rotate_left
              · simp only [Act.put, List.setIfInBounds_toArray, List.set_cons_zero, List.set_cons_succ, i64_w, i32_w]
                rfl
              refine pure_ (i := 2) (N := (some 74)) (v := ?_) (a' := ?_) #[true, true, true, false, false, false, false, false, false, false, false, false] rfl rfl (any_of HT_.out (by kernel_rfl)) (fun _ _ _ h => h) (Or.inl ⟨by rfl, ?_⟩) ?_ ?_
              rotate_left
              · intro w'
                go_simp
                with_reducible rfl
              rotate_left
              · simp only [Act.put, List.setIfInBounds_toArray, List.set_cons_zero, List.set_cons_succ, i64_w, i32_w]
                rfl
              refine take_ (i := 3) (N := (some 75)) (v := ?_) (a' := ?_) #[true, true, true, true, false, false, false, false, false, false, false, false] rfl rfl (take_ofW HT_.out HW_.out (by kernel_rfl)) (fun _ _ _ h => h) (Or.inl ⟨by rfl, ?_⟩) hHeld ?_ ?_
              rotate_left
              · rintro w' ⟨s0, s1⟩
                go_simp
                with_reducible rfl
              rotate_left
              · simp only [Act.put, List.setIfInBounds_toArray, List.set_cons_zero, List.set_cons_succ, i64_w, i32_w]
                rfl
              refine pure_ (i := 4) (N := (some 76)) (v := ?_) (a' := ?_) #[true, true, true, true, true, false, false, false, false, false, false, false] rfl rfl (any_of HT_.out (by kernel_rfl)) (fun _ _ _ h => h) (Or.inl ⟨by rfl, ?_⟩) ?_ ?_
              rotate_left
              · intro w'
                go_simp
                with_reducible rfl
              rotate_left
              · simp only [Act.put, List.setIfInBounds_toArray, List.set_cons_zero, List.set_cons_succ, i64_w, i32_w]
                rfl
              refine pure_ (i := 5) (N := (some 77)) (v := ?_) (a' := ?_) #[true, true, true, true, true, true, false, false, false, false, false, false] rfl rfl (any_of HT_.out (by kernel_rfl)) (fun _ _ _ h => h) (Or.inl ⟨by rfl, ?_⟩) ?_ ?_
              rotate_left
              · intro w'
                go_simp
                with_reducible rfl
              rotate_left
              · simp only [Act.put, List.setIfInBounds_toArray, List.set_cons_zero, List.set_cons_succ, i64_w, i32_w]
                rfl
              refine pure_ (i := 6) (N := (some 78)) (v := ?_) (a' := ?_) #[true, true, true, true, true, true, true, false, false, false, false, false] rfl rfl (any_of HT_.out (by kernel_rfl)) (fun _ _ _ h => h) (Or.inl ⟨by rfl, ?_⟩) ?_ ?_
              rotate_left
              · intro w'
                go_simp
                with_reducible rfl
              rotate_left
              · simp only [Act.put, List.setIfInBounds_toArray, List.set_cons_zero, List.set_cons_succ, i64_w, i32_w]
                rfl
              refine take_ (i := 7) (N := (some 79)) (v := ?_) (a' := ?_) #[true, true, true, true, true, true, true, true, false, false, false, false] rfl rfl (take_ofW HT_.out HW_.out (by kernel_rfl)) (fun _ _ _ h => h) (Or.inl ⟨by rfl, ?_⟩) hHeld ?_ ?_
              rotate_left
              · rintro w' ⟨s0, s1⟩
                go_simp
                with_reducible rfl
              rotate_left
              · simp only [Act.put, List.setIfInBounds_toArray, List.set_cons_zero, List.set_cons_succ, i64_w, i32_w]
                rfl
              refine one_ (i := 8) (N := (some 80)) #[true, true, true, true, true, true, true, true, true, false, false, false] rfl rfl (one_of HT_.out (by kernel_rfl)) (by decide) (fun K hK => ?_)
              refine value_ (w1 := w5.drew.alloc (.cells #[.int .u8 x] 5)) (v := .slice (some ⟨w5.heap.size, 0, none⟩) 1 1) (by rfl) rfl (by go_simp) ?_
              have hb2 : Below w5.heap.size w5 (w5.drew.alloc (.cells #[.int .u8 x] 5)) := below_alloc (Below.drew (Below.refl w5.heap.size w5)) _
              have HE2 := Aside0.mk (HE.out.keep hb2)
              have hnx : (w5.drew.alloc (.cells #[.int .u8 x] 5)).cell? ⟨w5.heap.size, 0, none⟩ = some (.int .u8 x) := (blk_cell (blk_new w5.drew (.cells #[.int .u8 x] 5)) 0).trans rfl
              have hcL2 : (w5.drew.alloc (.cells #[.int .u8 x] 5)).cell? ⟨LL, q, none⟩ = some (.slice (some ⟨lb q, 0, none⟩) (ll q).length cq) := cell_old hb2 hcL
              have hx2 : (w5.drew.alloc (.cells #[.int .u8 x] 5)).cell? (b0.add i) = some (.int .u8 x) := cell_old hb2 hx0
              obtain ⟨h2, hh2⟩ : ∃ h2, w5.heap.size = h2 := ⟨_, rfl⟩
              have HH2 := Aside0.mk hh2
              rw [hh2] at hnx ⊢
              generalize w5.drew.alloc (.cells #[.int .u8 x] 5) = W2 at HE2 hb2 hnx hcL2 hx2 ⊢
              have HNX := Aside0.mk hnx
              have HX2 := Aside0.mk hx2
              clear hHeld hh2 hb2 hnx
              refine hK.out _ _ ⟨hcL2, hx2⟩ (fun hHeld => ?_)
              clear hK K
              refine norm_ (a' := ?_) ?_ ?_
              rotate_left
              · show Act.put _ (some 80) _ = _
                simp only [Act.put, List.setIfInBounds_toArray, List.set_cons_zero, List.set_cons_succ, i64_w, i32_w]
                rfl
              refine one_ (i := 9) (N := (some 81)) #[true, true, true, true, true, true, true, true, true, true, false, false] rfl rfl (one_of HT_.out (by kernel_rfl)) (by decide) (fun K hK => ?_)
              refine step_append_row (by rfl) (.tmp 75) (.tmp 80) (by rfl) (lv q) (some (lb q)) (ll q) x ⟨h2, 0, none⟩ 1 (by rw [HLV.out]; rfl) (by rfl) (HE2.out.rows q hq4) HNX.out (by have := HF2.out; omega) ?_
              intro v9 W3 g9 hrow9 hg9
              obtain ⟨c9, hv9, _⟩ := hrow9.slice
              rw [List.length_append, List.length_singleton] at hv9
              subst hv9
              have HN := Aside0.mk (HE2.out.note hq4 hrow9 hg9)
              have hlL : LL < W2.heap.size := HE2.out.lt.1
              have hblkL : W3.heap[LL]? = W2.heap[LL]? := by
                rcases hg9 with ⟨_, h⟩ | ⟨_, h⟩
                · exact h.block LL hlL (fun e => HE2.out.notLL q hq4 (Option.some.inj e).symm)
                · exact h.block LL hlL (by simp)
              have hcL3 : W3.cell? ⟨LL, q, none⟩ = some (.slice (some ⟨lb q, 0, none⟩) (ll q).length cq) := (World.cell?_of_block (w := W2) hblkL).trans hcL2
              have hfL3 : W3.frozen? ⟨LL, q, none⟩ = false := (World.frozen?_of_block (w := W2) hblkL).trans (blk_frozen HE2.out.lists q)
              have hx3 : W3.cell? (b0.add i) = some (.int .u8 x) := by
                obtain ⟨b0'', ea, hcx⟩ := (R0.out.below (show Below w.heap.size w W3 from by
                  rcases hg9 with ⟨_, h⟩ | ⟨_, h⟩
                  · exact HE2.out.bel.grown h HE2.out.bel.size (fun k e => by cases e; exact HE2.out.low.2.2 q hq4)
                  · exact HE2.out.bel.grown h HE2.out.bel.size (fun k e => by cases e))).2.2 (by omega)
                cases ea
                have := hcx i hlt0
                rw [HX.out] at this
                exact this
              clear hrow9 hg9 hHeld hblkL hcL2 hx2
              refine hK.out _ _ ⟨hcL3, hx3⟩ (fun hHeld => ?_)
              clear hK K
              refine norm_ (a' := ?_) ?_ ?_
              rotate_left
              · show Act.put _ (some 81) _ = _
                simp only [Act.put, List.setIfInBounds_toArray, List.set_cons_zero, List.set_cons_succ, i64_w, i32_w]
                rfl
              refine pure_ (i := 10) (N := (some 82)) (v := ?_) (a' := ?_) #[true, true, true, true, true, true, true, true, true, true, true, false] rfl rfl (any_of HT_.out (by kernel_rfl)) (fun _ _ _ h => h) (Or.inl ⟨by rfl, ?_⟩) ?_ ?_
              rotate_left
              · intro w'
                go_simp
                with_reducible rfl
              rotate_left
              · simp only [Act.put, List.setIfInBounds_toArray, List.set_cons_zero, List.set_cons_succ, i64_w, i32_w]
                rfl
              refine last_ (i := 11) (N := none) #[true, true, true, true, true, true, true, true, true, true, true, true] rfl rfl (one_of HT_.out (by kernel_rfl)) (by decide) (fun K hK => ?_)
              refine skip_ (w1 := ?_) (by rfl) rfl ?_ ?_
              rotate_left
              · go_simp
                rfl
              refine hK.out _ _ ?_
              clear hK K
              refine done_ (done_of HT_.out (by kernel_rfl)) ?_
              go_wp2
              go_roundg k1
              case measure => omega
              case rel =>
                refine ⟨i + 1, by go_num, by omega, by omega, by omega, by omega, ⟨_, _, _, _, _, _, _, _, HN.out, fun k hk => ?_⟩⟩
                by_cases e : k = q
                · subst e; rw [upd_same, List.length_append]; have := HFew.out k hk; simp; omega
                · rw [upd_other _ _ e]; have := HFew.out k hk; omega
          · have HX0 : Aside0 (∃ lv lb ll fl av wv es st, Cr w wr base D C LL lv lb ll fl av wv es st ∧ ∀ k, k < 4 → (ll k).length ≤ 201) := by
              obtain ⟨a1, a2, a3, a4, a5, a6, a7, a8, h1, h2⟩ := HJ.out
              exact ⟨⟨a1, a2, a3, a4, a5, a6, a7, a8, h1, fun k hk => by have := h2 k hk; omega⟩⟩
            by_cases c1 : i < l0.length
            · have e0 : decide ((i : Int) < (l0.length : Int)) = true := decide_eq_true (by omega)
              by_cases c2 : i < l1.length
              · have e1 : decide ((i : Int) < (l1.length : Int)) = true := decide_eq_true (by omega)
                have e2 : decide ((i : Int) < 200) = false := decide_eq_false (by omega)
                clear hlt
                go_wp2
                go_meet
                case rel => exact HX0
              · have e1 : decide ((i : Int) < (l1.length : Int)) = false := decide_eq_false (by omega)
                clear hlt
                go_wp2
                go_meet
                case rel => exact HX0
            · have e0 : decide ((i : Int) < (l0.length : Int)) = false := decide_eq_false (by omega)
              clear hlt
              go_wp2
              go_meet
              case rel => exact HX0
      case rest =>
        have HR0 : Aside0 (∃ lv lb ll fl av wv es st, CrR w wc base D C LL lv lb ll fl av wv es st ∧ (∀ k, k < 4 → st k = (ll k).map blk64) ∧ ∀ k, k < 4 → (ll k).length ≤ 201) := by
          obtain ⟨a1, a2, a3, a4, a5, a6, a7, a8, h1, h2⟩ := hcut.out
          refine ⟨⟨a1, a2, a3, a4, a5, a6, a7, a8, h1.reads fun k hk => ?_, h1.same, h2⟩⟩
          have q1 := h1.dev.dev.len k hk
          rw [h1.same k hk, List.length_map] at q1
          have := h2 k hk
          omega
        clear hcut
        go_upto_if 83 with (fail)
        go_cut [10] from 84 to 108 (fun v10 wc' => Aside0 (∃ lv lb ll fl av wv es st, CrR w wc' base D C LL lv lb ll fl av wv es st ∧ (∀ k, k < 4 → st k = (ll k).map blk64) ∧ ∀ k, k < 4 → (ll k).length ≤ 201))
        case first =>
          cases fl? with
          | false =>
            go_wp2
            go_meet
            case rel => exact HR0
          | true =>
            obtain ⟨lv, lb, ll, fl, av2, wv, es, st, hR, hsame, hfew⟩ := HR0.out
            have HR := Aside0.mk hR
            have HSame := Aside0.mk hsame
            have HFew := Aside0.mk hfew
            clear hR hsame hfew HR0
            go_wp2_with fail
            refine (flush_strong wc HR.out.dev.dev (dies_of HR.out.live)).mono ?_
            rintro e w3 ⟨rfl, av3, wv3, es3, hD, hS, hM⟩
            have HR3 := Aside0.mk (HR.out.flush (fun k hk => HR.out.blk k hk) hD hS hM)
            clear hD hS hM HR
            go_wp2_with fail
            refine (waiting_calls w3 HR3.out.dev.dev).mono ?_
            rintro e w4 ⟨v4, rfl, ho, hb⟩
            rw [waitN_none (stF st 4) 4 (fun k hk => by unfold stF; rw [if_pos hk]; simp)] at ho
            obtain ⟨A4, c4, e4, _⟩ := owns_form ho
            subst e4
            have HR4 := Aside0.mk (HR3.out.below hb)
            simp only [List.length_nil]
            clear ho hb HR3
            rename_i left0
            clear left0
            go_wp2_with fail
            go_loopg [15] 4 (fun kq v15 w' => ∃ i : Nat, v15 = .int .i64 (i : Int) ∧ i ≤ 4 ∧ 4 - i ≤ kq ∧ Aside0 (∃ lv', CrR w w' base D C LL lv' lb (fun k => if k < i then [lastI (ll k)] else ll k) fl.burn av3 wv3 es3 (stF st 4)))
            case atStart => exact ⟨0, rfl, by omega, by omega, ⟨lv, by have := HR4.out; simpa using this⟩⟩
            case round =>
              obtain ⟨i, rfl, hi, hk, HJ⟩ := hrel
              by_cases hlt : i < 4
              · cases gk with
                | zero => omega
                | succ k1 =>
                  obtain ⟨lv', hJ⟩ := HJ.out
                  have d0 : decide ((i : Int) < 4) = true := decide_eq_true (by omega)
                  have p0 : (0 : Int) ≤ (i : Int) := by omega
                  have p1 : (i : Int) < 4 := by omega
                  obtain ⟨off, cap, hv, hcap, hrd⟩ := hJ.rows i hlt
                  have hpos := hJ.pos i hlt
                  have hcut := hJ.cut i hlt hv
                  have hcell := (blk_cell hJ.lists i).trans (list_at _ i hlt)
                  have hfr := blk_frozen hJ.lists i
                  rw [hv] at hcell
                  have hlli : (fun k => if k < i then [lastI (ll k)] else ll k) i = ll i := if_neg (by omega)
                  simp only [if_neg (Nat.lt_irrefl i)] at hcell hcut hpos hcap
                  obtain ⟨L, hL⟩ : ∃ L, (ll i).length = L := ⟨_, rfl⟩
                  have hL201 := HFew.out i hlt
                  rw [hL] at hcell hcut hpos hcap hL201
                  have hcl := cut_last (lb i) off L cap hpos hcap
                  have hw : IntKind.i64.wrap ((L : Int) - 1) = ((L - 1 : Nat) : Int) := by rw [IntKind.wrap_i64]; omega
                  have hq0 : (0 : Int) ≤ ((L - 1 : Nat) : Int) := by omega
                  have hq1 : ((L - 1 : Nat) : Int) ≤ (L : Int) := by omega
                  have hupd : upd (fun k => if k < i then [lastI (ll k)] else ll k) i [lastI (ll i)] = fun k => if k < i + 1 then [lastI (ll k)] else ll k := by
                    funext k
                    unfold upd
                    by_cases h : k = i
                    · subst h; rw [if_pos rfl, if_pos (by omega)]
                    · rw [if_neg h]
                      show (if k < i then [lastI (ll k)] else ll k) = _
                      by_cases h1 : k < i
                      · rw [if_pos h1, if_pos (by omega)]
                      · rw [if_neg h1, if_neg (by omega)]
                  rw [hupd] at hcut
                  have HCut := Aside0.mk hcut
                  obtain ⟨m, hm⟩ : ∃ m, L - 1 = m := ⟨_, rfl⟩
                  rw [hm] at hcl hw hq0 hq1 HCut
                  clear hJ HJ hv hrd hcut hlli hL hL201 hupd hm hcap hpos
                  go_wp2
                  go_still_tail 11, (by kernel_rfl)
                  go_wp2
                  go_roundg k1
                  case measure => omega
                  case rel => exact ⟨i + 1, by go_num, by omega, by omega, ⟨_, HCut.out.below (Below.drew (Below.refl _ _))⟩⟩
              · obtain rfl : i = 4 := by omega
                have d0 : decide ((4 : Int) < 4) = false := by decide
                obtain ⟨lv', hJ⟩ := HJ.out
                have HE : Aside0 (∃ lv lb ll fl av wv es st, CrR w wr base D C LL lv lb ll fl av wv es st ∧ (∀ k, k < 4 → st k = (ll k).map blk64) ∧ ∀ k, k < 4 → (ll k).length ≤ 201) := ⟨⟨lv', lb, _, _, _, _, _, _, hJ, fun k hk => by
                  have hp := hJ.pos k hk
                  simp only [if_pos hk] at hp ⊢
                  rw [show stF st 4 k = [lastOf (st k)] by unfold stF; rw [if_pos hk]]
                  refine same_flush ?_ (HSame.out k hk)
                  have h1 := HR4.out.pos k hk
                  exact h1, fun k hk => by simp only [if_pos hk]; simp⟩⟩
                clear hJ HJ
                go_wp2
                go_meet
                case rel => exact HE
        case rest =>
          obtain ⟨lv, lb, ll, fl, av2, wv, es, st, hR, hsame, hfew⟩ := hcut.out
          have HR := Aside0.mk hR
          have HSame := Aside0.mk hsame
          have HFew := Aside0.mk hfew
          clear hR hsame hfew HR0 hcut
          go_wp2_with fail
          refine (crash_calls _ HR.out.dev.dev l2 _ ⟨A2, c2, rfl, HC2.out, R2.out.below HR.out.bel, fun hpos a ha hm => ?_⟩).mono ?_
          · obtain ⟨a', ha', hc'⟩ := R2.out.2.2 hpos
            rw [ha] at ha'
            have e := Option.some.inj ha'
            subst e
            have h1 := World.block_lt_of_cell? w _ (hc' 0 hpos)
            have h2 : (a.add 0).block = a.block := by unfold Addr.add; split <;> rfl
            rw [h2] at h1
            have h3 := HR.out.dev.dev.low _ hm
            have := HR.out.low.1
            omega
          rintro e w3 ⟨rfl, av3, wv3, es3, hD, hS⟩
          have HD3 := Aside0.mk hD
          have HL3 := Aside0.mk (HR.out.call (fl' := fl) (av' := av2) (es' := es) (st' := st) hS)
          have HPos := Aside0.mk HR.out.pos
          clear hD hS HR
          go_wp2_with fail
          refine (waiting_calls w3 HD3.out).mono ?_
          rintro e w4 ⟨v4, rfl, ho, hb⟩
          rw [waitN_none _ 4 (fun k hk => crashN_len st l2 4 k hk)] at ho
          obtain ⟨A4, c4, e4, _⟩ := owns_form ho
          subst e4
          have HD4 := Aside0.mk (HD3.out.below hb)
          have HB4 : Aside0 (Below w.heap.size w w4) := ⟨HL3.out.2.2.trans (hb.mono HL3.out.2.2.size)⟩
          have hLL4 := (hb.block LL (Array.getElem?_eq_some_iff.1 HL3.out.1).1).trans HL3.out.1
          have HLs := Aside0.mk hLL4
          have HRw : Aside0 (∀ k, k < 4 → ∃ off cap, lv k = .slice (some ⟨lb k, off, none⟩) (ll k).length cap ∧ (ll k).length ≤ cap ∧ ReadsInt w4 .u8 (some ⟨lb k, off, none⟩) (ll k).length (ll k)) := ⟨fun k hk => by
            obtain ⟨off, cap, h1, h2, h3⟩ := HL3.out.2.1 k hk
            exact ⟨off, cap, h1, h2, h3.below hb⟩⟩
          simp only [List.length_nil]
          clear ho hb hLL4 HD3 HL3
          rename_i left0
          clear left0
          go_wp2_with fail
          obtain ⟨wz, rfl⟩ : ∃ wz : World, wz = w4 := ⟨_, rfl⟩
          go_loopg [16, 17] 4 (fun kq v16 v17 w' => ∃ b : Nat, v17 = .int .i64 (b : Int) ∧ b ≤ 4 ∧ 4 - b ≤ kq ∧ v16 = .int .i64 ((cntW st b : Nat) : Int) ∧ Aside0 (Below wz.heap.size wz w'))
          case atStart => exact ⟨0, rfl, by omega, by omega, rfl, ⟨Below.refl _ _⟩⟩
          case round =>
            obtain ⟨b, rfl, hb4, hk, rfl, HBz⟩ := hrel
            by_cases hlt : b < 4
            · cases gk with
              | zero => omega
              | succ k1 =>
                have d0 : decide ((b : Int) < 4) = true := decide_eq_true (by omega)
                have p0 : (0 : Int) ≤ (b : Int) := by omega
                have p1 : (b : Int) < 4 := by omega
                have hcell := (blk_cell ((HBz.out.block LL (Array.getElem?_eq_some_iff.1 HLs.out).1).trans HLs.out) b).trans (list_at _ b hlt)
                obtain ⟨off, cap, hv, hcap, hrd⟩ := HRw.out b hlt
                rw [hv] at hcell
                have HRd := Aside0.mk (hrd.below HBz.out)
                have hpos := HPos.out b hlt
                obtain ⟨L, hL⟩ : ∃ L, (ll b).length = L := ⟨_, rfl⟩
                have HL := Aside0.mk hL
                have hL201 := HFew.out b hlt
                rw [hL] at hcell hpos hL201
                have hat : ∀ j, j < L → wr.cell? ⟨lb b, off + j, none⟩ = some (.int .u8 ((ll b).getD j 0)) := fun j hj => by
                  obtain ⟨a, ha, hc⟩ := HRd.out.2.2 (by omega)
                  cases ha
                  have := hc j (by omega)
                  have e : (⟨lb b, off, none⟩ : Addr).add j = ⟨lb b, off + j, none⟩ := by
                    unfold Addr.add
                    split
                    · rename_i h; rw [h]; rfl
                    · rfl
                  rw [e] at this
                  exact this
                have HAt := Aside0.mk hat
                have hc0 : wr.cell? ⟨lb b, off, none⟩ = some (.int .u8 ((ll b).getD 0 0)) := hat 0 hpos
                obtain ⟨x0, hx0⟩ : ∃ x0, (ll b).getD 0 0 = x0 := ⟨_, rfl⟩
                rw [hx0] at hc0
                have HX0 := Aside0.mk hx0
                have p2 : (0 : Int) < (L : Int) := by omega
                have p3 : 0 < L := hpos
                have HLt := Aside0.mk hlt
                clear hv hcap hrd hL hat hx0
                obtain ⟨t, ht⟩ : ∃ t : Bool, decide ((1 : Int) < (L : Int)) = t := ⟨_, rfl⟩
                obtain ⟨an, han⟩ : ∃ an, cntW st b = an := ⟨_, rfl⟩
                have HAn := Aside0.mk han
                rw [han]
                clear han
                go_upto_if 133 with (fail)
                have HBw : Aside0 (Below w.heap.size w wr) := ⟨HB4.out.trans (HBz.out.mono HB4.out.size)⟩
                have HSt : Aside0 ((st b).length = L) := ⟨by rw [HSame.out b HLt.out, List.length_map, HL.out]⟩
                have HT := Aside0.mk ht
                clear ht hc0
                go_cut [16, 18] from 134 to 162 (fun v16 v18 wc => v16 = .int .i64 ((cntW st (b + 1) : Nat) : Int) ∧ v18 = .int .u8 (wantOf l2 an (ll b)) ∧ wc = wr)
                case first =>
                  have hw18 : IntKind.i64.wrap ((an : Int) + 1) = ((an + 1 : Nat) : Int) := by
                    have : an ≤ 4 := by rw [← HAn.out]; exact Nat.le_trans (cntW_le st b) (by omega)
                    rw [IntKind.wrap_i64]; omega
                  cases t with
                  | false =>
                    have hL1 : L ≤ 1 := by have := HT.out; rw [decide_eq_false_iff_not] at this; omega
                    have HW : Aside0 (x0 = wantOf l2 an (ll b)) := ⟨by unfold wantOf; rw [if_pos (by rw [HL.out]; exact hL1)]; exact HX0.out.symm⟩
                    have HCn : Aside0 (cntW st (b + 1) = an) := ⟨by show (if (st b).length ≤ 1 then _ else _) = _; rw [if_pos (by rw [HSt.out]; exact hL1)]; exact HAn.out⟩
                    clear hw18
                    go_wp2
                    go_meet
                    case rel => exact ⟨by rw [HCn.out], by rw [HW.out], rfl⟩
                  | true =>
                    have hL1 : 1 < L := by have := HT.out; rw [decide_eq_true_eq] at this; omega
                    have HCn : Aside0 (cntW st (b + 1) = an + 1) := ⟨by show (if (st b).length ≤ 1 then _ else _) = _; rw [if_neg (by rw [HSt.out]; omega), HAn.out]⟩
                    have HWant : Aside0 (wantOf l2 an (ll b) = (ll b).getD (pickOf (l2.drop an) (L - 1)) 0) := ⟨by unfold wantOf; rw [if_neg (by rw [HL.out]; omega), HL.out]⟩
                    have hwL : IntKind.i64.wrap ((L : Int) - 1) = ((L - 1 : Nat) : Int) := by rw [IntKind.wrap_i64]; omega
                    by_cases hna : an < l2.length
                    · have e1 : decide ((an : Int) < (l2.length : Int)) = true := decide_eq_true (by omega)
                      have p4 : (0 : Int) ≤ (an : Int) := by omega
                      have p5 : (an : Int) < (l2.length : Int) := by omega
                      obtain ⟨a2, ea2, hc2'⟩ := (R2.out.below HBw.out).2.2 (by omega)
                      have hcp := hc2' an hna
                      obtain ⟨p, hp⟩ : ∃ p, l2.getD an 0 = p := ⟨_, rfl⟩
                      rw [hp] at hcp
                      have hdrop : l2.drop an = p :: l2.drop (an + 1) := by
                        rw [List.drop_eq_getElem_cons hna, ← hp, List.getD_eq_getElem?_getD, List.getElem?_eq_getElem hna]
                        rfl
                      have HPick : Aside0 (pickOf (l2.drop an) (L - 1) = (mx 0 (mn p ((L - 1 : Nat) : Int))).toNat) := ⟨by rw [hdrop]; rfl⟩
                      subst ea2
                      clear hc2' hp hdrop
                      by_cases hp0 : p < 0
                      · have e2 : decide (p < 0) = true := decide_eq_true hp0
                        have e3 : decide ((L : Int) ≤ 0) = false := decide_eq_false (by omega)
                        have hcz := HAt.out 0 (by omega)
                        rw [Nat.add_zero] at hcz
                        have HV : Aside0 ((ll b).getD 0 0 = wantOf l2 an (ll b)) := ⟨by rw [HWant.out, HPick.out]; congr 1; unfold mx mn; split <;> split <;> omega⟩
                        rw [HV.out] at hcz
                        clear hp0 hwL
                        go_wp2
                        go_meet
                        case rel => exact ⟨by rw [HCn.out]; go_num, rfl, rfl⟩
                      · have e2 : decide (p < 0) = false := decide_eq_false hp0
                        have p6 : 0 ≤ p := by omega
                        by_cases hpL : (L : Int) ≤ p
                        · have e3 : decide ((L : Int) ≤ p) = true := decide_eq_true hpL
                          have hcz := HAt.out (L - 1) (by omega)
                          have HV : Aside0 ((ll b).getD (L - 1) 0 = wantOf l2 an (ll b)) := ⟨by rw [HWant.out, HPick.out]; congr 1; unfold mx mn; split <;> split <;> omega⟩
                          obtain ⟨m, hm⟩ : ∃ m, L - 1 = m := ⟨_, rfl⟩
                          have p7 : (0 : Int) ≤ (m : Int) := by omega
                          have p8 : (m : Int) < (L : Int) := by omega
                          rw [hm] at hcz HV hwL
                          rw [HV.out] at hcz
                          clear hp0 hm
                          go_wp2
                          go_meet
                          case rel => exact ⟨by rw [HCn.out]; go_num, rfl, rfl⟩
                        · have e3 : decide ((L : Int) ≤ p) = false := decide_eq_false hpL
                          obtain ⟨pn, hpn⟩ : ∃ pn : Nat, p = (pn : Int) := ⟨p.toNat, by omega⟩
                          subst hpn
                          have hcz := HAt.out pn (by omega)
                          have HV : Aside0 ((ll b).getD pn 0 = wantOf l2 an (ll b)) := ⟨by rw [HWant.out, HPick.out]; congr 1; unfold mx mn; split <;> split <;> omega⟩
                          have p8 : (pn : Int) < (L : Int) := by omega
                          rw [HV.out] at hcz
                          clear hp0 hwL hpL
                          go_wp2
                          go_meet
                          case rel => exact ⟨by rw [HCn.out]; go_num, rfl, rfl⟩
                    · have e1 : decide ((an : Int) < (l2.length : Int)) = false := decide_eq_false (by omega)
                      have e3 : decide ((L : Int) ≤ 0) = false := decide_eq_false (by omega)
                      have hcz := HAt.out 0 (by omega)
                      rw [Nat.add_zero] at hcz
                      have HV : Aside0 ((ll b).getD 0 0 = wantOf l2 an (ll b)) := ⟨by rw [HWant.out, List.drop_eq_nil_of_le (by omega)]; rfl⟩
                      rw [HV.out] at hcz
                      have e1' : decide (an < l2.length) = false := decide_eq_false hna
                      clear hwL
                      go_wp2
                      go_meet
                      case rel => exact ⟨by rw [HCn.out]; go_num, rfl, rfl⟩
                case rest =>
                  obtain ⟨rfl, rfl, rfl⟩ := hcut
                  have HD5 := Aside0.mk (HD4.out.below HBz.out)
                  have HWt : Aside0 (lastOf ((crashN st l2 4).1 b) = blk64 (wantOf l2 an (ll b))) := ⟨by rw [← HAn.out]; exact crash_want (HSame.out b HLt.out) (by rw [HL.out]; exact p3) 4 HLt.out⟩
                  obtain ⟨x, hx⟩ : ∃ x, wantOf l2 an (ll b) = x := ⟨_, rfl⟩
                  rw [hx] at HWt ⊢
                  clear hcell hx
                  go_wp2_with fail
                  refine (read_yes _ HD5.out rfl b HLt.out).mono ?_
                  rintro e w9 ⟨v9, rfl, hr, hb⟩
                  rw [HWt.out] at hr
                  obtain ⟨A9, c9, e9, hc9, hr9⟩ := got_len (Got.of_R hr) (show (blk64 x).length = 64 by simp [blk64]) (by omega)
                  subst e9
                  have HR9 := Aside0.mk (And.intro hc9 hr9)
                  have HB9 : Aside0 (Below wz.heap.size wz w9) := ⟨HBz.out.trans (hb.mono HBz.out.size)⟩
                  clear hr hb hc9 hr9 HD5
                  go_wp2_with fail
                  refine (full_calls x w9).mono ?_
                  rintro e w10 ⟨cx, g, rfl, hc, hg, hrow, hb⟩
                  obtain ⟨-, hcx, hread⟩ := row_read hrow (by simp)
                  have HR := Aside0.mk (And.intro hcx hread)
                  have HR10 := Aside0.mk (HR9.out.2.below hb)
                  have HB10 : Aside0 (Below wz.heap.size wz w10) := ⟨HB9.out.trans (hb.mono HB9.out.size)⟩
                  clear hb hg hrow hread hc hcx
                  go_wp2_with fail
                  refine (same_len A9 c9 (blk64 x) 64 (by simp [blk64]) (some ⟨g, 0, none⟩) cx 64 (by simp [blk64]) w10 HR10.out (by have := HR9.out.1; simp [blk64]; omega) HR.out.2 HR.out.1).mono ?_
                  rintro e w11 ⟨rfl, hd⟩
                  have HB11 : Aside0 (Below wz.heap.size wz w11) := ⟨HB10.out.trans (hd.below.mono HB10.out.size)⟩
                  clear hd
                  go_wp2_with fail
                  go_roundg k1
                  case measure => omega
                  case rel => exact ⟨b + 1, by go_num, by omega, by omega, rfl, HB11⟩
            · obtain rfl : b = 4 := by omega
              have d0 : decide ((4 : Int) < 4) = false := by decide
              go_wp2
              go_ret
              exact ⟨rfl, HB4.out.trans (HBz.out.mono HB4.out.size)⟩
theorem crashes_row (A0 : Option Addr) (c0 : Nat) (l0 : List Int) (A1 : Option Addr) (c1 : Nat) (l1 : List Int) (A2 : Option Addr) (c2 : Nat) (l2 : List Int) (fl : Bool) (w : World) (hr0 : ReadsInt w .u8 A0 l0.length l0) (_ : l0.length ≤ c0) (_ : ∀ x ∈ l0, (Lit.int .u8 x).wf = true) (y0 : l0.length * 1 ≤ 140737488351232) (hr1 : ReadsInt w .i64 A1 l1.length l1) (_ : l1.length ≤ c1) (_ : ∀ x ∈ l1, (Lit.int .i64 x).wf = true) (y1 : l1.length * 8 ≤ 140737488351232) (hr2 : ReadsInt w .i64 A2 l2.length l2) (hc2 : l2.length ≤ c2) (_ : ∀ x ∈ l2, (Lit.int .i64 x).wf = true) (y2 : l2.length * 8 ≤ 140737488351232) :
    Calls Try.prog 5 #[.slice A0 l0.length c0, .slice A1 l1.length c1, .slice A2 l2.length c2, .bool fl] w fun e w' => e = .returned (.bool true) ∧ Below w.heap.size w w' :=
  crashes_main A0 c0 l0 A1 c1 l1 A2 c2 l2 fl w hr0 hr1 hr2 hc2 (by omega) (by omega) (by omega)
end Go.Proofs.Ytenomjfaodfjhaa.Keeps
