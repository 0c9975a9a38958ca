/- A device's calls: at, last, Read, fits, burn, Write. -/
import Derived.Test.YtenomjfaodfjhaaKDevDef
import Derived.Test.YtenomjfaodfjhaaPDeviceKeepsx1
import Derived.Test.YtenomjfaodfjhaaWTab
import Derived.StillTailTactics
import Derived.StillTactics
import Derived.Outline
import Derived.Deep.QuietTactic
import Derived.BigQuiet
import Derived.Deep.CutRange
import Derived.Deep.RegionWith
import Derived.WalkSpells
namespace Go.Proofs.Ytenomjfaodfjhaa.Keeps
open Go.RowKit Go.Proofs.Ytenomjfaodfjhaa.PDeviceKeeps Go.Proofs.YtenomjfaodfjhaaW.PrintWords Go.Proofs.YtenomjfaodfjhaaW.PrintLast Go.Proofs.YtenomjfaodfjhaaW.PrintMore
set_option linter.unusedVariables false
set_option linter.unusedSimpArgs false
variable {base D C n Bk : Nat} {fl : Flags} {av wv : Nat → Value} {es : Nat → List Value} {st : Nat → List (List Int)}
set_option maxHeartbeats 4000000 in
set_option maxRecDepth 100000 in
theorem at_yes (w : World) (H : Dev w base D C n Bk fl av wv es st) (b : Nat) (hb : b < n) :
    Calls Try.prog 43 #[.pointer (some ⟨D, 0, none⟩), .int .i64 (b : Int)] w fun e w' => e = .returned (.pointer (some ⟨C, b * 2, none⟩)) ∧ w' = w := by
  have hc := (H.headCell 1).1
  have hn := H.hn
  have d0 : decide ((b : Int) < 0) = false := decide_eq_false (by omega)
  have d1 : decide ((n : Int) ≤ (b : Int)) = false := decide_eq_false (by omega)
  have p0 : (0 : Int) ≤ (b : Int) := by omega
  have p1 : (b : Int) < (n : Int) := by omega
  clear H
  simp only [headOf] at hc
  go_enter Try.func43, Try.ntmps43
  go_wp2
  go_ret
  exact ⟨rfl, rfl⟩
set_option maxHeartbeats 4000000 in
set_option maxRecDepth 100000 in
theorem last_calls (w : World) (H : Dev w base D C n Bk fl av wv es st) (k : Nat) (hk : k < n) :
    Calls Try.prog 47 #[.pointer (some ⟨C, k * 2, none⟩)] w fun e w' => ∃ v, e = .returned v ∧ (av k :: es k)[(es k).length]? = some v ∧ w' = w := by
  have HL := Aside0.mk (H.len k hk)
  have hc := (H.cellAv k hk).1
  have hd := (H.cellWv k hk).1
  have hlast := H.lastCell k hk
  have hmax : (es k).length ≤ 9223372036854775807 := by
    rcases (H.wait k hk).2 with ⟨h1, h2⟩ | ⟨g, cap, cur, h1, _, _, h2, h3, _⟩
    · omega
    · unfold maxLen at h3; omega
  clear H
  rcases hlast with (⟨he, hv⟩ | ⟨he, g, c, hv⟩) | ⟨g, c, v, he, hv, hlast, hcell⟩
  · rw [hv] at hd
    have HE := Aside0.mk he
    clear he hmax hv
    go_enter Try.func47, Try.ntmps47
    go_wp2
    go_ret
    exact ⟨_, rfl, by rw [HE.out]; rfl, rfl⟩
  · rw [hv] at hd
    have HE := Aside0.mk he
    clear he hmax hv
    go_enter Try.func47, Try.ntmps47
    go_wp2
    go_ret
    exact ⟨_, rfl, by rw [HE.out]; rfl, rfl⟩
  · rw [hv] at hd
    have hpos : 0 < (es k).length := List.length_pos_iff.2 he
    obtain ⟨m, hm⟩ : ∃ m, (es k).length = m := ⟨_, rfl⟩
    have HM := Aside0.mk hm
    have HLA := Aside0.mk hlast
    rw [hm] at hd hpos hmax hcell
    clear he hv hm hlast
    have d0 : decide ((0 : Int) < (m : Int)) = true := decide_eq_true (by omega)
    have hw : IntKind.i64.wrap ((m : Int) - 1) = ((m - 1 : Nat) : Int) := by rw [IntKind.wrap_i64]; omega
    have p0 : (0 : Int) ≤ ((m - 1 : Nat) : Int) := by omega
    have p1 : ((m - 1 : Nat) : Int) < (m : Int) := by omega
    go_enter Try.func47, Try.ntmps47
    go_wp2
    go_ret
    exact ⟨v, rfl, HLA.out, rfl⟩
set_option maxHeartbeats 4000000 in
set_option maxRecDepth 100000 in
theorem read_yes (w : World) (H : Dev w base D C n Bk fl av wv es st) (hdead : fl.dead = false) (b : Nat) (hb : b < n) :
    Calls Try.prog 14 #[.pointer (some ⟨D, 0, none⟩), .int .i64 (b : Int)] w fun e w' => ∃ v, e = .returned (.tuple #[v, .int .i64 0]) ∧ (Kd.int .u8).R 5 w' w.heap.size (fun _ => True) v (lastOf (st b)) ∧ Below w.heap.size w w' := by
  obtain ⟨v, g, hv, hrow, hlen, hmut⟩ := H.last b hb
  have hBk := H.hB
  obtain ⟨c, hvs, hcs⟩ := hrow.slice
  obtain ⟨A', c', hvs', hcs', hread⟩ := hrow.reads (by omega)
  have hA : A' = some ⟨g, 0, none⟩ := by rw [hvs] at hvs'; injection hvs' with h1 _ _; exact h1.symm
  have hc4 := (H.headCell 4).1
  simp only [headOf, hdead] at hc4
  have hat := at_yes w H b hb
  have hla := last_calls w H b hb
  have hcl : Calls Try.prog 45 #[v] w fun e w' => ∃ v0_ : Value, e = .returned (v0_) ∧ (Kd.int .u8).R 5 w' w.heap.size (fun _ => True) v0_ (lastOf (st b)) ∧ Below w.heap.size w w' := by
    rw [hvs']
    exact slices_Clone_byte_byte.calls A' c' (lastOf (st b)) (lastOf (st b)) w (row_int hread) hcs' (by unfold slices_Clone_byte_byte.f; rw [if_pos (by omega)])
  have HV := Aside0.mk hv
  have HAT := Aside0.mk hat
  have HLA := Aside0.mk hla
  have HCL := Aside0.mk hcl
  clear H hv hrow hlen hmut hvs hcs hvs' hcs' hread hA hat hla hcl hdead
  go_enter Try.func14, Try.ntmps14
  go_wp2_with fail
  refine HAT.out.mono ?_
  rintro e w1 ⟨rfl, rfl⟩
  go_wp2_with fail
  refine HLA.out.mono ?_
  rintro e w1 ⟨v1, rfl, hv1, rfl⟩
  have : v1 = v := Option.some.inj (hv1.symm.trans HV.out)
  subst this
  clear hv1
  go_wp2_with fail
  refine HCL.out.mono ?_
  rintro e w1 ⟨v2, rfl, hr, hb2⟩
  have HR := Aside0.mk (And.intro hr hb2)
  clear hr hb2
  go_wp2_with fail
  go_ret2
  exact ⟨v2, rfl, HR.out.1, HR.out.2⟩
set_option maxHeartbeats 4000000 in
set_option maxRecDepth 100000 in
theorem read_dead (w : World) (H : Dev w base D C n Bk fl av wv es st) (hdead : fl.dead = true) (b : Int) :
    Calls Try.prog 14 #[.pointer (some ⟨D, 0, none⟩), .int .i64 b] w fun e w' => e = .returned (.tuple #[.slice none 0 0, .int .i64 7]) ∧ w' = w := by
  have hc4 := (H.headCell 4).1
  simp only [headOf, hdead] at hc4
  clear H hdead
  go_enter Try.func14, Try.ntmps14
  go_wp2_with fail
  go_ret2
  exact ⟨rfl, rfl⟩
set_option maxHeartbeats 4000000 in
set_option maxRecDepth 100000 in
theorem fits_yes (w : World) (H : Dev w base D C n Bk fl av wv es st) (b : Nat) (hb : b < n) (A : Option Addr) (c : Nat) :
    Calls Try.prog 41 #[.pointer (some ⟨D, 0, none⟩), .int .i64 (b : Int), .slice A Bk c] w fun e w' => e = .returned (.int .i64 0) ∧ w' = w := by
  have hc0 := (H.headCell 0).1
  simp only [headOf] at hc0
  have HAT := Aside0.mk (at_yes w H b hb)
  clear H
  go_enter Try.func41, Try.ntmps41
  go_wp2_with fail
  refine HAT.out.mono ?_
  rintro e w1 ⟨rfl, rfl⟩
  go_wp2_with fail
  go_ret
  exact ⟨rfl, rfl⟩
set_option maxHeartbeats 4000000 in
set_option maxRecDepth 100000 in
theorem burn_calls (w : World) (H : Dev w base D C n Bk fl av wv es st) :
    Calls Try.prog 42 #[.pointer (some ⟨D, 0, none⟩)] w fun e w' => e = .returned (.int .i64 fl.code) ∧ Dev w' base D C n Bk fl.burn av wv es st ∧ Step w w' (Mut D C n wv) (Mut D C n wv) := by
  obtain ⟨fused, fuse, dead, writes⟩ := fl
  have hc2 := (H.headCell 2).1
  have hc3 := (H.headCell 3).1
  have hc4 := (H.headCell 4).1
  have hc5 := (H.headCell 5).1
  have hf := fun i => (H.headCell i).2
  simp only [headOf] at hc2 hc3 hc4 hc5
  have HH := Aside0.mk H
  clear H
  by_cases hd : dead = true ∨ (fused = true ∧ fuse = 0)
  · have hdies : Flags.dies ⟨fused, fuse, dead, writes⟩ = true := by simp only [Flags.dies, Bool.or_eq_true, Bool.and_eq_true, beq_iff_eq]; exact hd
    have HD := Aside0.mk hdies
    have HS := Aside0.mk (HH.out.setHead 4 (.bool true) (Flags.burn ⟨fused, fuse, dead, writes⟩) (by rw [Flags.burn, if_pos hdies]; rfl))
    have h40 := hf 4
    have hn1 : (w.setCell ⟨D, 4, none⟩ (.bool true)).cell? ⟨D, 4, none⟩ = some (.bool true) := (HS.out.1.headCell 4).1.trans (by rw [Flags.burn, if_pos hdies]; rfl)
    clear hdies hf
    cases dead with
    | true =>
      go_enter Try.func42, Try.ntmps42
      go_wp2_with fail
      go_ret
      exact ⟨by rw [Flags.code, if_pos HD.out]; rfl, HS.out⟩
    | false =>
      obtain ⟨rfl, rfl⟩ : fused = true ∧ fuse = 0 := hd.resolve_left (by simp)
      go_enter Try.func42, Try.ntmps42
      go_wp2_with fail
      go_ret
      exact ⟨by rw [Flags.code, if_pos HD.out]; rfl, HS.out⟩
  · have hdies : Flags.dies ⟨fused, fuse, dead, writes⟩ = false := by rw [← Bool.not_eq_true]; simp only [Flags.dies, Bool.or_eq_true, Bool.and_eq_true, beq_iff_eq]; exact hd
    have hdead : dead = false := by cases dead <;> simp_all
    subst hdead
    have HD := Aside0.mk hdies
    have S1 := HH.out.setHead 4 (.bool false) ⟨fused, fuse, false, writes⟩ rfl
    have S2 := S1.1.setHead 3 (.int .i64 (wrap64 (fuse - 1))) ⟨fused, wrap64 (fuse - 1), false, writes⟩ rfl
    have S3 := S2.1.setHead 5 (.int .i64 (wrap64 (writes + 1))) (Flags.burn ⟨fused, fuse, false, writes⟩) (by rw [Flags.burn, if_neg (by rw [hdies]; simp)]; rfl)
    have HS := Aside0.mk (And.intro S3.1 (S1.2.trans (S2.2.trans S3.2)))
    have h40 := hf 4
    have c14 := (S1.1.headCell 4).1
    have c13 := (S1.1.headCell 3).1
    have f13 := (S1.1.headCell 3).2
    have c25 := (S2.1.headCell 5).1
    have f25 := (S2.1.headCell 5).2
    simp only [headOf] at c14 c13 c25
    have ht : fused = false ∨ (fuse == 0) = false := by
      cases fused with
      | false => exact .inl rfl
      | true => exact .inr (by rw [beq_eq_false_iff_ne]; intro e; exact hd (.inr ⟨rfl, e⟩))
    clear S1 S2 S3 hf hdies hd
    cases fused with
    | false =>
      clear ht
      go_enter Try.func42, Try.ntmps42
      go_wp2_with fail
      go_ret
      exact ⟨by rw [Flags.code, if_neg (by rw [HD.out]; simp)]; rfl, HS.out⟩
    | true =>
      have ht0 : (fuse == 0) = false := ht.resolve_left (by simp)
      clear ht
      go_enter Try.func42, Try.ntmps42
      go_wp2_with fail
      go_ret
      exact ⟨by rw [Flags.code, if_neg (by rw [HD.out]; simp)]; rfl, HS.out⟩
def write.T11 : Bool × List (List Nat × List Nat) := (true, [([], []), ([], []), ([1], [1]), ([2], [2]), ([3], [3]), ([], []), ([5], [5]), ([6], [6]), ([4, 7, 6], [4, 7]), ([0, 0, 1, 2, 3, 4, 5, 6, 7, 8], [0]), ([9, 0, 1, 2, 3, 4, 5, 6, 7, 8], [9]), ([10, 8, 8, 0, 1, 2, 3, 4, 5, 6, 7, 8], [8, 10])])
def write.B11 : List Nat := [0, 0, 2, 6, 14, 0, 32, 96, 254, 511, 1023, 2047]
theorem write.tab11 : rtab .any (opsOf Try.f11 11) = write.T11 := by kernel_rfl
theorem write.bits11 : waitsOk write.T11.2 write.B11 = true := by kernel_rfl
set_option maxHeartbeats 8000000 in
set_option maxRecDepth 100000 in
theorem write_strong (w : World) (H : Dev w base D C n Bk fl av wv es st) (hlive : fl.dies = false) (b : Nat) (hb : b < n) (hfew : (es b).length < 400) (A : Option Addr) (c : Nat) (xs : List Int) (hxs : xs.length = Bk) (hr : ReadsInt w .u8 A xs.length xs) (hcx : xs.length ≤ c) (hA : ∀ a, A = some a → ¬ Mut D C n wv a.block) :
    Calls Try.prog 11 #[.pointer (some ⟨D, 0, none⟩), .int .i64 (b : Int), .slice A xs.length c] w fun e w' => e = .returned (.int .i64 0) ∧ ∃ v v', Dev w' base D C n Bk fl.burn av (upd wv b v') (upd es b (es b ++ [v])) (upd st b (st b ++ [xs])) ∧ Step w w' (Mut D C n wv) (Mut D C n (upd wv b v')) ∧ ∀ g, v.ownBlock = some g → w.heap.size ≤ g := by
  have HH := Aside0.mk H
  have HFit := Aside0.mk (by have := fits_yes w H b hb A c; rw [← hxs] at this; exact this)
  have HBurn := Aside0.mk (burn_calls w H)
  have HR := Aside0.mk hr
  have HA := Aside0.mk hA
  have hBk := H.hB
  have hcode : fl.code = 0 := by rw [Flags.code, if_neg (by rw [hlive]; simp)]
  rw [hcode] at HBurn
  have HXS := Aside0.mk hxs
  rw [← hxs] at hBk
  clear H hr hA hlive hcode hxs
  go_enter Try.func11, Try.ntmps11
  go_wp2_with fail
  refine HFit.out.mono ?_
  rintro e w1 ⟨rfl, rfl⟩
  go_wp2_with fail
  refine HBurn.out.mono ?_
  rintro e w2 ⟨rfl, hD2, hS2⟩
  have HD2 := Aside0.mk hD2
  have HS2 := Aside0.mk hS2
  clear hD2 hS2 HFit HBurn
  go_wp2_with fail
  refine (at_yes w2 HD2.out b hb).mono ?_
  rintro e w3 ⟨rfl, rfl⟩
  obtain ⟨Aw, cw, hwv, hcw⟩ := owns_form (HD2.out.wait b hb)
  have HWV := Aside0.mk hwv
  have hcell := (HD2.out.cellWv b hb).1
  rw [hwv] at hcell
  have d0 : ((((es b).length : Nat) : Int) == 400) = false := by rw [beq_eq_false_iff_ne]; omega
  clear hwv hcw
  go_wp2_with fail
  have HRd : Aside0 (ReadsInt w3 .u8 A xs.length xs) := ⟨reads_step HR.out (fun a ha hl => HS2.out.block a.block hl (HA.out a ha))⟩
  refine start_ (n := 12) (S := (fun w' => w'.cell? ⟨C, b * 2 + 1, none⟩ = some (.slice Aw (es b).length cw))) (ds := [11]) #[false, false, false, false, false, false, false, false, false, false, false, false] (by kernel_rfl) rfl rfl hcell (fun hHeld => ?_); refine with_tabW write.tab11 write.bits11 (fun HT_ HW_ => ?_)
  refine pure_ (i := 0) (N := (some 48)) (v := ?_) (a' := ?_) #[true, false, false, false, false, false, false, false, false, false, false, false] rfl rfl (any_of HT_.out (by kernel_rfl)) (fun _ _ _ h => h) (Or.inl ⟨by rfl, ?_⟩) ?_ ?_
  rotate_left
  · intro w'
    go_simp
    with_reducible rfl
  rotate_left
  · simp only [Act.put, List.setIfInBounds_toArray, List.set_cons_zero, List.set_cons_succ, i64_w, i32_w]
    rfl
  refine pure_ (i := 1) (N := (some 49)) (v := ?_) (a' := ?_) #[true, true, false, false, false, false, false, false, false, false, false, false] rfl rfl (any_of HT_.out (by kernel_rfl)) (fun _ _ _ h => h) (Or.inl ⟨by rfl, ?_⟩) ?_ ?_
  rotate_left
  · intro w'
    go_simp
    with_reducible rfl
  rotate_left
  · simp only [Act.put, List.setIfInBounds_toArray, List.set_cons_zero, List.set_cons_succ, i64_w, i32_w]
    rfl
  refine pure_ (i := 2) (N := (some 50)) (v := ?_) (a' := ?_) #[true, true, true, false, false, false, false, false, false, false, false, false] rfl rfl (any_of HT_.out (by kernel_rfl)) (fun _ _ _ h => h) (Or.inl ⟨by rfl, ?_⟩) ?_ ?_
  rotate_left
  · intro w'
    go_simp
    with_reducible rfl
  rotate_left
  · simp only [Act.put, List.setIfInBounds_toArray, List.set_cons_zero, List.set_cons_succ, i64_w, i32_w]
    rfl
  refine pure_ (i := 3) (N := (some 51)) (v := ?_) (a' := ?_) #[true, true, true, true, false, false, false, false, false, false, false, false] rfl rfl (any_of HT_.out (by kernel_rfl)) (fun _ _ _ h => h) (Or.inl ⟨by rfl, ?_⟩) ?_ ?_
  rotate_left
  · intro w'
    go_simp
    with_reducible rfl
  rotate_left
  · simp only [Act.put, List.setIfInBounds_toArray, List.set_cons_zero, List.set_cons_succ, i64_w, i32_w]
    rfl
  refine take_ (i := 4) (N := (some 52)) (v := ?_) (a' := ?_) #[true, true, true, true, true, false, false, false, false, false, false, false] rfl rfl (take_ofW HT_.out HW_.out (by kernel_rfl)) (fun _ _ _ h => h) (Or.inl ⟨by rfl, ?_⟩) hHeld ?_ ?_
  rotate_left
  · rintro w' s0
    go_simp
    with_reducible rfl
  rotate_left
  · simp only [Act.put, List.setIfInBounds_toArray, List.set_cons_zero, List.set_cons_succ, i64_w, i32_w]
    rfl
  refine pure_ (i := 5) (N := (some 53)) (v := ?_) (a' := ?_) #[true, true, true, true, true, true, false, false, false, false, false, false] rfl rfl (any_of HT_.out (by kernel_rfl)) (fun _ _ _ h => h) (Or.inl ⟨by rfl, ?_⟩) ?_ ?_
  rotate_left
  · intro w'
    go_simp
    with_reducible rfl
  rotate_left
  · simp only [Act.put, List.setIfInBounds_toArray, List.set_cons_zero, List.set_cons_succ, i64_w, i32_w]
    rfl
  refine one_ (i := 6) (N := (some 54)) #[true, true, true, true, true, true, true, false, false, false, false, false] rfl rfl (one_of HT_.out (by kernel_rfl)) (by decide) (fun K hK => ?_)
  refine goes_ Try.func45 (by kernel_rfl) rfl #[.slice A xs.length c] (by rfl) rfl rfl (by simp [Act.eval]) ?_
  refine (slices_Clone_byte_byte.calls A c xs xs w3.drew (row_int (reads_step HRd.out (fun _ _ _ => rfl))) hcx (by unfold slices_Clone_byte_byte.f; rw [if_pos (by omega)])).mono ?_
  rintro e W1 ⟨v1, rfl, hr1, hb1⟩
  refine ⟨_, rfl, ?_⟩
  have HD3 := Aside0.mk ((HD2.out.keep (W := w3.drew) (fun _ _ => rfl)).below hb1)
  have HS3 := Aside0.mk (Step.of_below (Mut D C n wv) (Below.trans (Below.drew (Below.refl w3.heap.size w3)) hb1))
  have ho1 := Kd.own_of_R (enc := Value.int .u8) (h1 := fun _ => rfl) hr1
  obtain ⟨g1, hg1, _, hrow1⟩ := Row.of_owns' ho1 (by omega)
  have HRow := Aside0.mk hrow1
  have HG1 := Aside0.mk (show w3.heap.size ≤ g1 from hg1)
  have HMg : Aside0 (¬ Mut D C n wv g1) := ⟨fun hm => by have h1 := HD2.out.lt g1 hm; have h2 := HG1.out; omega⟩
  obtain ⟨cv1, hv1, _⟩ := hrow1.slice
  subst hv1
  clear hr1 hb1 ho1 hg1 hrow1 hHeld
  refine hK.out _ _ (by have h := (HD3.out.cellWv b hb).1; rw [HWV.out] at h; exact h) (fun hHeld => ?_)
  clear hK K
  refine norm_ (a' := ?_) ?_ ?_
  rotate_left
  · show Act.put _ (some 54) _ = _
    simp only [Act.put, List.setIfInBounds_toArray, List.set_cons_zero, List.set_cons_succ, i64_w, i32_w]
    rfl
  refine one_ (i := 7) (N := (some 55)) #[true, true, true, true, true, true, true, true, false, false, false, false] rfl rfl (one_of HT_.out (by kernel_rfl)) (by decide) (fun K hK => ?_)
  refine value_ (w1 := W1.alloc (.cells #[.slice (some ⟨g1, 0, none⟩) xs.length cv1] 29)) (v := .slice (some ⟨W1.heap.size, 0, none⟩) 1 1) (by rfl) rfl (by go_simp) ?_
  have HN2 := Aside0.mk (news_one (blk_new W1 (.cells #[.slice (some ⟨g1, 0, none⟩) xs.length cv1] 29)))
  have HD4 := Aside0.mk (HD3.out.keep (W := W1.alloc (.cells #[.slice (some ⟨g1, 0, none⟩) xs.length cv1] 29)) (fun g hg => Below.heap_alloc _ _ _ hg))
  have HS4 := Aside0.mk (HS3.out.trans (Step.of_below (Mut D C n wv) (Below.alloc (Below.refl _ _) (Nat.le_refl _) (.cells #[.slice (some ⟨g1, 0, none⟩) xs.length cv1] 29))))
  have HR4 := Aside0.mk (HRow.out.keep (W := W1.alloc (.cells #[.slice (some ⟨g1, 0, none⟩) xs.length cv1] 29)) (fun g hg => Below.heap_alloc _ _ _ (HRow.out.lt g hg)))
  obtain ⟨h2, hh2⟩ : ∃ h2, W1.heap.size = h2 := ⟨_, rfl⟩
  rw [hh2] at HN2 ⊢
  generalize W1.alloc (.cells #[.slice (some ⟨g1, 0, none⟩) xs.length cv1] 29) = W2 at HN2 HD4 HS4 HR4 ⊢
  clear hHeld HD3 HS3 HRow hh2
  refine hK.out _ _ (by have h := (HD4.out.cellWv b hb).1; rw [HWV.out] at h; exact h) (fun hHeld => ?_)
  clear hK K
  refine norm_ (a' := ?_) ?_ ?_
  rotate_left
  · show Act.put _ (some 55) _ = _
    simp only [Act.put, List.setIfInBounds_toArray, List.set_cons_zero, List.set_cons_succ, i64_w, i32_w]
    rfl
  refine one_ (i := 8) (N := (some 56)) #[true, true, true, true, true, true, true, true, true, false, false, false] rfl rfl (one_of HT_.out (by kernel_rfl)) (by decide) (fun K hK => ?_)
  obtain ⟨i24, hi24, hz24, hs24, hb24⟩ := infoSB
  refine step_append_own (by rfl) (.tmp 52) (.tmp 55) 43 (by rfl) base 29 i24 (.slice none 0 0) 1 24 Try.underlying43 hi24 hz24 hs24 hb24 rfl (by decide) (wv b) (es b).length (es b) (by rw [HWV.out]; rfl) (HD4.out.wait b hb) ⟨h2, 0, none⟩ 1 1 [.slice (some ⟨g1, 0, none⟩) xs.length cv1] (by rfl) rfl HN2.out (by simp [Value.oneCell']) (by unfold maxLen; omega) (by omega) (by have h1 := HD4.out.lowD; have h3 := HD4.out.lt D (.inl rfl); omega) ?_
  intro v' W3 ho hg _ hat
  obtain ⟨A5, c5, hv5, _⟩ := owns_form ho
  subst hv5
  have HP := Aside0.mk (Dev.push HD4.out hb HR4.out HXS.out HMg.out ho hg hat)
  have HC3 := Aside0.mk (hg.block C (HD4.out.lt C (.inr (.inl rfl))) (fun e => (HD4.out.DW b hb).2 e.symm))
  have hcW : W3.cell? ⟨C, b * 2 + 1, none⟩ = some (.slice Aw (es b).length cw) := by
    have h := (HD4.out.cellWv b hb).1
    rw [HWV.out] at h
    exact (World.cell?_of_block (w := W2) HC3.out).trans h
  have hfW : W3.frozen? ⟨C, b * 2 + 1, none⟩ = false := (World.frozen?_of_block (w := W2) HC3.out).trans (HD4.out.cellWv b hb).2
  clear ho hg hat hHeld hi24 hz24 hs24 hb24
  refine hK.out _ _ hcW (fun hHeld => ?_)
  clear hK K
  refine norm_ (a' := ?_) ?_ ?_
  rotate_left
  · show Act.put _ (some 56) _ = _
    simp only [Act.put, List.setIfInBounds_toArray, List.set_cons_zero, List.set_cons_succ, i64_w, i32_w]
    rfl
  refine pure_ (i := 9) (N := (some 57)) (v := ?_) (a' := ?_) #[true, true, true, true, true, true, true, true, true, true, false, false] rfl rfl (any_of HT_.out (by kernel_rfl)) (fun _ _ _ h => h) (Or.inl ⟨by rfl, ?_⟩) ?_ ?_
  rotate_left
  · intro w'
    go_simp
    with_reducible rfl
  rotate_left
  · simp only [Act.put, List.setIfInBounds_toArray, List.set_cons_zero, List.set_cons_succ, i64_w, i32_w]
    rfl
  refine pure_ (i := 10) (N := (some 58)) (v := ?_) (a' := ?_) #[true, true, true, true, true, true, true, true, true, true, true, false] rfl rfl (any_of HT_.out (by kernel_rfl)) (fun _ _ _ h => h) (Or.inl ⟨by rfl, ?_⟩) ?_ ?_
  rotate_left
  · intro w'
    go_simp
    with_reducible rfl
  rotate_left
  · simp only [Act.put, List.setIfInBounds_toArray, List.set_cons_zero, List.set_cons_succ, i64_w, i32_w]
    rfl
  refine last_ (i := 11) (N := none) #[true, true, true, true, true, true, true, true, true, true, true, true] rfl rfl (one_of HT_.out (by kernel_rfl)) (by decide) (fun K hK => ?_)
  refine skip_ (w1 := ?_) (by rfl) rfl ?_ ?_
  rotate_left
  · go_simp
    rfl
  refine hK.out _ _ ?_
  clear hK K
  refine done_ (done_of HT_.out (by kernel_rfl)) ?_
  go_wp2
  go_ret
  exact ⟨rfl, _, _, HP.out.1, HS2.out.trans (HS4.out.trans HP.out.2), fun g e => by have e' : g1 = g := Option.some.inj e; have := HG1.out; have := HS2.out.size; omega⟩
theorem write_calls (w : World) (H : Dev w base D C n Bk fl av wv es st) (hlive : fl.dies = false) (b : Nat) (hb : b < n) (hfew : (es b).length < 400) (A : Option Addr) (c : Nat) (xs : List Int) (hxs : xs.length = Bk) (hr : ReadsInt w .u8 A xs.length xs) (hcx : xs.length ≤ c) (hA : ∀ a, A = some a → ¬ Mut D C n wv a.block) :
    Calls Try.prog 11 #[.pointer (some ⟨D, 0, none⟩), .int .i64 (b : Int), .slice A xs.length c] w fun e w' => e = .returned (.int .i64 0) ∧ ∃ v v', Dev w' base D C n Bk fl.burn av (upd wv b v') (upd es b (es b ++ [v])) (upd st b (st b ++ [xs])) ∧ Step w w' (Mut D C n wv) (Mut D C n (upd wv b v')) :=
  (write_strong w H hlive b hb hfew A c xs hxs hr hcx hA).mono fun _ _ ⟨h, v, v', h1, h2, _⟩ => ⟨h, v, v', h1, h2⟩
end Go.Proofs.Ytenomjfaodfjhaa.Keeps
