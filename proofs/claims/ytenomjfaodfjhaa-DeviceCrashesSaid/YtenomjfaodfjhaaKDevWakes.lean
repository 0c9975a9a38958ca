/- The fixed run of the device's laws. -/
import Derived.Test.YtenomjfaodfjhaaKDevNew
import Derived.Test.YtenomjfaodfjhaaKGot
import Derived.Test.YtenomjfaodfjhaaPlain
namespace Go.Proofs.Ytenomjfaodfjhaa.Keeps
open Go.RowKit Go.Proofs.Ytenomjfaodfjhaa.PDeviceKeeps Go.Proofs.Ytenomjfaodfjhaa.Plain Go.Proofs.YtenomjfaodfjhaaW.PrintWords Go.Proofs.YtenomjfaodfjhaaW.PrintLast Go.Proofs.YtenomjfaodfjhaaW.PrintMore
set_option linter.unusedVariables false
set_option linter.unusedSimpArgs false
theorem full_loop (x : Int) (d : Nat) : ∀ (k i : Nat), i + d = 64 → d < k → skerrylaw07_full.l0 k 64 x (List.replicate i x ++ List.replicate d 0) (i : Int) = some (List.replicate 64 x) := by
  induction d with
  | zero =>
    intro k i hi hk
    obtain ⟨k, rfl⟩ : ∃ m, k = m + 1 := ⟨k - 1, by omega⟩
    obtain rfl : i = 64 := by omega
    simp only [skerrylaw07_full.l0]
    rw [if_neg (by omega)]
    simp
  | succ d ih =>
    intro k i hi hk
    obtain ⟨k, rfl⟩ : ∃ m, k = m + 1 := ⟨k - 1, by omega⟩
    simp only [skerrylaw07_full.l0]
    rw [if_pos (by omega), if_pos (by omega), if_pos (by simp; omega), w64 (x := (i : Int) + 1) (by omega) (by omega)]
    have e : (List.replicate i x ++ List.replicate (d + 1) 0).set ((i : Int)).toNat x = List.replicate (i + 1) x ++ List.replicate d 0 := by
      rw [Int.toNat_natCast, List.set_append_right _ _ (by simp), List.length_replicate, Nat.sub_self, List.replicate_succ, List.set_cons_zero, List.replicate_succ', List.append_assoc]
      rfl
    rw [e]
    exact ih k (i + 1) (by omega) (by omega)
theorem full_is (x : Int) : skerrylaw07_full.f 66 64 x = some (List.replicate 64 x) := by
  unfold skerrylaw07_full.f
  rw [if_pos (by omega), if_pos (by decide)]
  exact full_loop x 64 66 0 rfl (by omega)
/-- full(64, x): 64 bytes x, in memory of their own. -/
theorem full_calls (x : Int) (w : World) : Calls Try.prog 12 #[.int .i64 64, .int .u8 x] w fun e w' => ∃ c g, e = .returned (.slice (some ⟨g, 0, none⟩) 64 c) ∧ 64 ≤ c ∧ w.heap.size ≤ g ∧ Row w' (.slice (some ⟨g, 0, none⟩) 64 c) (some g) (List.replicate 64 x) ∧ Below w.heap.size w w' := by
  refine (skerrylaw07_full.calls 66 64 x (List.replicate 64 x) w (full_is x)).mono ?_
  rintro e w' ⟨v, rfl, hr, hb⟩
  obtain ⟨g, hg, _, hrow⟩ := Row.of_owns' (Kd.own_of_R (enc := Value.int .u8) (h1 := fun _ => rfl) hr) (by simp)
  obtain ⟨c, hv, hc⟩ := hrow.slice
  subst hv
  simp only [List.length_replicate] at hrow hc ⊢
  exact ⟨c, g, rfl, hc, hg, hrow, hb⟩
theorem row_read {w : World} {g c m : Nat} {xs : List Int} (h : Row w (.slice (some ⟨g, 0, none⟩) m c) (some g) xs) (hm : xs.length ≤ 9223372036854775807) : m = xs.length ∧ xs.length ≤ c ∧ ReadsInt w .u8 (some ⟨g, 0, none⟩) xs.length xs := by
  obtain ⟨A, c', hv, hc, hr⟩ := h.reads hm
  injection hv with h1 h2 h3
  subst h1 h3
  exact ⟨h2, hc, hr⟩
theorem wake_crash : (crashN (upd (fun _ => [zeros 64]) 1 ((fun _ => [zeros 64]) 1 ++ [List.replicate 64 (7 : Int)])) [1] 4).1 1 = [List.replicate 64 7] := by decide +kernel
theorem picks_lit (w : World) (M : Nat → Prop) (hM : ∀ g, M g → g < w.heap.size) (p : Int) : PicksAt (w.alloc (.cells #[.int .i64 p] 3)) M [p] (.slice (some ⟨w.heap.size, 0, none⟩) 1 1) := by
  refine ⟨some ⟨w.heap.size, 0, none⟩, 1, rfl, Nat.le_refl _, ⟨rfl, by simp, fun _ => ⟨_, rfl, fun j hj => ?_⟩⟩, fun _ a ha hm => ?_⟩
  · have hj0 : j = 0 := by simpa using hj
    subst hj0
    have ha : (⟨w.heap.size, 0, none⟩ : Addr).add 0 = ⟨w.heap.size, 0, none⟩ := by unfold Addr.add; split <;> simp_all
    rw [ha]
    exact (blk_cell (blk_new w (.cells #[.int .i64 p] 3)) 0).trans rfl
  · cases ha
    have := hM _ hm
    simp at this
set_option maxHeartbeats 8000000 in
set_option maxRecDepth 100000 in
theorem wakes_calls (w : World) : Calls Try.prog 9 #[] w fun e w' => e = .returned (.bool true) ∧ Below w.heap.size w w' := by
  go_enter Try.func9, Try.ntmps9
  go_wp2_with fail
  refine (new_calls w 4 (by omega) (by omega)).mono ?_
  rintro e w1 ⟨D, C, av, rfl, hD, hB⟩
  have HD := Aside0.mk hD
  have HB := Aside0.mk hB
  clear hD hB
  go_wp2_with fail
  refine (full_calls 7 w1).mono ?_
  rintro e w2 ⟨c, g, rfl, hc, hg, hrow, hb⟩
  have HD2 := Aside0.mk (HD.out.below hb)
  have HB2 : Aside0 (Below w.heap.size w w2) := ⟨HB.out.trans (hb.mono HB.out.size)⟩
  have HG := Aside0.mk hg
  obtain ⟨-, hcx, hread⟩ := row_read hrow (by simp)
  have HR := Aside0.mk hread
  have HC := Aside0.mk hcx
  have HMg : Aside0 (∀ a, (some ⟨g, 0, none⟩ : Option Addr) = some a → ¬ Mut D C 4 (fun _ => .slice none 0 0) a.block) := ⟨fun a ha hm => by cases ha; have h1 : g < w1.heap.size := HD.out.lt _ hm; have := HG.out; omega⟩
  clear hb hg hrow hread hc hcx
  go_wp2_with fail
  refine (write_calls w2 HD2.out rfl 1 (by omega) (by simp) (some ⟨g, 0, none⟩) c (List.replicate 64 7) (by simp) HR.out HC.out HMg.out).mono ?_
  rintro e w3 ⟨rfl, v, v', hD3, hS3⟩
  have HD3 := Aside0.mk hD3
  have HS3 := Aside0.mk hS3
  clear hD3 hS3
  go_wp2_with fail
  refine (crash_calls _ (HD3.out.below (below_alloc (Below.refl _ _) (.cells #[.int .i64 1] 3))) [1] _ (picks_lit w3 _ HD3.out.lt 1)).mono ?_
  rintro e w4 ⟨rfl, av4, wv4, es4, hD4, hS4⟩
  have HD4 := Aside0.mk hD4
  have HS4 := Aside0.mk hS4
  clear hD4 hS4
  go_wp2_with fail
  refine (read_yes w4 HD4.out rfl 1 (by omega)).mono ?_
  rintro e w5 ⟨v5, rfl, hr5, hb5⟩
  have hl : lastOf ((crashN (upd (fun _ => [zeros 64]) 1 ((fun _ => [zeros 64]) 1 ++ [List.replicate 64 (7 : Int)])) [1] 4).1 1) = List.replicate 64 7 := by rw [wake_crash]; rfl
  rw [hl] at hr5
  obtain ⟨g5, hg5, _, hrow5⟩ := Row.of_owns' (Kd.own_of_R (enc := Value.int .u8) (h1 := fun _ => rfl) hr5) (by simp)
  obtain ⟨c5, hv5, _⟩ := hrow5.slice
  subst hv5
  obtain ⟨-, -, hread5⟩ := row_read hrow5 (by simp)
  obtain ⟨a5, ea5, hcell5⟩ := hread5.2.2 (by simp)
  have hcc := hcell5 0 (by simp)
  cases ea5
  have ha : (⟨g5, 0, none⟩ : Addr).add 0 = ⟨g5, 0, none⟩ := by unfold Addr.add; split <;> simp_all
  rw [ha, show (List.replicate 64 (7 : Int)).getD 0 0 = 7 from rfl] at hcc
  have HB5 := Aside0.mk hb5
  simp only [List.length_replicate]
  clear hl hr5 hg5 hrow5 hread5 hcell5 ha hb5
  go_wp2_with fail
  go_ret
  refine ⟨rfl, ?_⟩
  have b3 := HS3.out.below (B := w.heap.size) HB2.out.size HD2.out.low
  have b4 : Below w.heap.size (w3.alloc (.cells #[.int .i64 1] 3)) w4 := HS4.out.below (by have := b3.size; have := HB2.out.size; simp; omega) HD3.out.low
  have b34 : Below w.heap.size w3 (w3.alloc (.cells #[.int .i64 1] 3)) := (Below.refl _ _).alloc (by have := b3.size; have := HB2.out.size; omega) _
  have b5 := HB2.out.trans (b3.trans (b34.trans b4))
  exact b5.trans (HB5.out.mono b5.size)
end Go.Proofs.Ytenomjfaodfjhaa.Keeps
