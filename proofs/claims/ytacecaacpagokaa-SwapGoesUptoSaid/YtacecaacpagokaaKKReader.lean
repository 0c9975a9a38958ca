/- Numbers are read one behind the other: contracts. -/
import Derived.Test.YtacecaacpagokaaKKBox
import Derived.Test.YtacecaacpagokaaPureSwapGoes
namespace Go.Proofs.Ytacecaacpagokaa.Codec
open Go.RowKit Go.Proofs.Ytacecaacpagokaa.PSwapGoes Go.Proofs.Ytacecaacpagokaa.Plain Go.Proofs.Ytacecaacpagokaa.Pure Go.Proofs.YtacecaacpagokaaW.PrintWords Go.Proofs.YtacecaacpagokaaW.PrintLast Go.Proofs.YtacecaacpagokaaW.PrintMore
set_option linter.unusedVariables false
set_option linter.unusedSimpArgs false

/-- A reader: its block, its bytes, its place. -/
structure Reader (w : World) (RP : Nat) (A : Option Addr) (c : Nat) (l : List Int) (at_ : Nat) : Prop where
  blk : w.heap[RP]? = some (.cells #[.slice A l.length c, .int .i64 at_] 80 (0, 0))
  rd : Kd.C (Kd.int .u8) w A l.length l
  cap : l.length ≤ c
  apart : ∀ ad, A = some ad → 0 < l.length → ad.block ≠ RP
abbrev nilV : Value := .slice none 0 0
theorem Reader.wrote {w W : World} {RP : Nat} {A : Option Addr} {c : Nat} {l : List Int} {a b : Nat} (H : Reader w RP A c l a) (hq : Wrote w W RP nilV nilV) (hb : W.heap[RP]? = some (.cells #[.slice A l.length c, .int .i64 b] 80 (0, 0))) : Reader W RP A c l b :=
  ⟨hb, brow_ofC (reads_wrote (brow_C H.rd) hq (fun ad e hn => ⟨H.apart ad e hn, by simp [nilV, Value.ownBlock]⟩)), H.cap, H.apart⟩
theorem Reader.later {w W : World} {RP : Nat} {A : Option Addr} {c : Nat} {l : List Int} {a : Nat} (H : Reader w RP A c l a) (hb : Below w.heap.size w W) : Reader W RP A c l a :=
  ⟨blk_below H.blk hb, Kd.C_below H.rd hb, H.cap, H.apart⟩
def rnum.T1 : Bool × List (List Nat × List Nat) := (true, [([], []), ([0], [0]), ([1], [1]), ([2], [2]), ([], []), ([4], [4]), ([5], [5]), ([6], [6]), ([], []), ([3, 7, 8], [3, 7, 8]), ([9], [9]), ([10], [10]), ([10], [10]), ([11, 9, 0, 1, 2, 3, 4, 5, 6, 7, 8, 9, 10, 11], [11]), ([12, 13, 0, 1, 2, 3, 4, 5, 6, 7, 8, 9, 10, 11, 12, 13], [12])])
def rnum.B1 : List Nat := [0, 1, 3, 7, 0, 16, 48, 112, 0, 511, 1023, 2047, 2047, 4095, 16383]
theorem rnum.tab1 : rtab .any (opsOf Try.f31 1) = rnum.T1 := by kernel_rfl
theorem rnum.bits1 : waitsOk rnum.T1.2 rnum.B1 = true := by kernel_rfl

set_option maxHeartbeats 4000000 in
set_option maxRecDepth 100000 in
theorem rnum_calls (n : Nat) (hn : n = 1 ∨ n = 2 ∨ n = 4) {w : World} {RP : Nat} {A : Option Addr} {c : Nat} {l : List Int} {at_ : Nat} (H : Reader w RP A c l at_) (hl : Bytes l) (hs : l.length ≤ 140737488351232) (hin : at_ + n ≤ l.length) :
    Calls Try.prog 31 #[.pointer (some ⟨RP, 0, none⟩), .int .i64 n] w fun e w' => e = .returned (.int .i64 (le (field_part.seg l at_ n))) ∧ Reader w' RP A c l (at_ + n) ∧ Wrote w w' RP nilV nilV := by
  have HG := Aside0.mk (get_yes hl hs (a := (at_ : Int)) (n := (n : Int)) (by omega) ⟨by omega, by omega, by omega, by omega⟩)
  have hu3 := Try.underlying80
  have HH := Aside0.mk H
  have HAN : Aside0 (((at_ : Int) + (n : Int)) = ((at_ + n : Nat) : Int)) := ⟨by omega⟩
  have b1 : (at_ : Int) + (n : Int) ≤ 140737488351232 := by omega
  have x0 : w.cell? ⟨RP, 0, none⟩ = some (.slice A l.length c) := (blk_cell H.blk 0).trans rfl
  have x1 : w.cell? ⟨RP, 1, none⟩ = some (.int .i64 at_) := (blk_cell H.blk 1).trans rfl
  obtain ⟨z, hz⟩ : ∃ z, le (field_part.seg l at_ n) = z := ⟨_, rfl⟩
  rw [hz] at HG ⊢
  clear H hn hl hs hin hz
  go_enter Try.func31, Try.ntmps31
  go_upto_region 1 with (fail)
  refine start_ (n := 15) (S := (fun w' => w'.cell? ⟨RP, 0, none⟩ = some (.slice A l.length c) ∧ w'.cell? ⟨RP, 1, none⟩ = some (.int .i64 at_))) (ds := [9]) #[false, false, false, false, false, false, false, false, false, false, false, false, false, false, false] (by kernel_rfl) rfl rfl ⟨x0, x1⟩ (fun hHeld => ?_); refine with_tabW rnum.tab1 rnum.bits1 (fun HT_ HW_ => ?_)
  have HD := Aside0.mk (HH.out.later (below_drew (Below.refl w.heap.size w)))
  have HBD := Aside0.mk (below_drew (Below.refl w.heap.size w))
  generalize w.drew = wd at HD HBD hHeld ⊢
  refine pure_ (i := 0) (N := (some 8)) (v := ?_) (a' := ?_) #[true, false, false, false, false, false, false, false, false, false, false, false, false, false, false] rfl rfl (any_of HT_.out (by kernel_rfl)) (fun _ _ _ h => h) (Or.inl ⟨by rfl, ?_⟩) ?_ ?_
  rotate_left
  · intro w'
    go_simp
    with_reducible rfl
  rotate_left
  · simp only [Act.put, List.setIfInBounds_toArray, List.set_cons_zero, List.set_cons_succ, i64_w, i32_w]
    rfl
  refine pure_ (i := 1) (N := (some 9)) (v := ?_) (a' := ?_) #[true, true, false, false, false, false, false, false, false, false, false, false, false, false, false] rfl rfl (any_of HT_.out (by kernel_rfl)) (fun _ _ _ h => h) (Or.inl ⟨by rfl, ?_⟩) ?_ ?_
  rotate_left
  · intro w'
    go_simp
    with_reducible rfl
  rotate_left
  · simp only [Act.put, List.setIfInBounds_toArray, List.set_cons_zero, List.set_cons_succ, i64_w, i32_w]
    rfl
  refine pure_ (i := 2) (N := (some 10)) (v := ?_) (a' := ?_) #[true, true, true, false, false, false, false, false, false, false, false, false, false, false, false] rfl rfl (any_of HT_.out (by kernel_rfl)) (fun _ _ _ h => h) (Or.inl ⟨by rfl, ?_⟩) ?_ ?_
  rotate_left
  · intro w'
    go_simp
    with_reducible rfl
  rotate_left
  · simp only [Act.put, List.setIfInBounds_toArray, List.set_cons_zero, List.set_cons_succ, i64_w, i32_w]
    rfl
  refine take_ (i := 3) (N := (some 11)) (v := ?_) (a' := ?_) #[true, true, true, true, false, false, false, false, false, false, false, false, false, false, false] rfl rfl (take_ofW HT_.out HW_.out (by kernel_rfl)) (fun _ _ _ h => h) (Or.inl ⟨by rfl, ?_⟩) hHeld ?_ ?_
  rotate_left
  · rintro w' ⟨z0, z1⟩
    go_simp
    with_reducible rfl
  rotate_left
  · simp only [Act.put, List.setIfInBounds_toArray, List.set_cons_zero, List.set_cons_succ, i64_w, i32_w]
    rfl
  refine pure_ (i := 4) (N := (some 12)) (v := ?_) (a' := ?_) #[true, true, true, true, true, false, false, false, false, false, false, false, false, false, false] rfl rfl (any_of HT_.out (by kernel_rfl)) (fun _ _ _ h => h) (Or.inl ⟨by rfl, ?_⟩) ?_ ?_
  rotate_left
  · intro w'
    go_simp
    with_reducible rfl
  rotate_left
  · simp only [Act.put, List.setIfInBounds_toArray, List.set_cons_zero, List.set_cons_succ, i64_w, i32_w]
    rfl
  refine pure_ (i := 5) (N := (some 13)) (v := ?_) (a' := ?_) #[true, true, true, true, true, true, false, false, false, false, false, false, false, false, false] rfl rfl (any_of HT_.out (by kernel_rfl)) (fun _ _ _ h => h) (Or.inl ⟨by rfl, ?_⟩) ?_ ?_
  rotate_left
  · intro w'
    go_simp
    with_reducible rfl
  rotate_left
  · simp only [Act.put, List.setIfInBounds_toArray, List.set_cons_zero, List.set_cons_succ, i64_w, i32_w]
    rfl
  refine pure_ (i := 6) (N := (some 14)) (v := ?_) (a' := ?_) #[true, true, true, true, true, true, true, false, false, false, false, false, false, false, false] rfl rfl (any_of HT_.out (by kernel_rfl)) (fun _ _ _ h => h) (Or.inl ⟨by rfl, ?_⟩) ?_ ?_
  rotate_left
  · intro w'
    go_simp
    with_reducible rfl
  rotate_left
  · simp only [Act.put, List.setIfInBounds_toArray, List.set_cons_zero, List.set_cons_succ, i64_w, i32_w]
    rfl
  refine take_ (i := 7) (N := (some 15)) (v := ?_) (a' := ?_) #[true, true, true, true, true, true, true, true, false, false, false, false, false, false, false] rfl rfl (take_ofW HT_.out HW_.out (by kernel_rfl)) (fun _ _ _ h => h) (Or.inl ⟨by rfl, ?_⟩) hHeld ?_ ?_
  rotate_left
  · rintro w' ⟨z0, z1⟩
    go_simp
    with_reducible rfl
  rotate_left
  · simp only [Act.put, List.setIfInBounds_toArray, List.set_cons_zero, List.set_cons_succ, i64_w, i32_w]
    rfl
  refine pure_ (i := 8) (N := (some 16)) (v := ?_) (a' := ?_) #[true, true, true, true, true, true, true, true, true, false, false, false, false, false, false] rfl rfl (any_of HT_.out (by kernel_rfl)) (fun _ _ _ h => h) (Or.inl ⟨by rfl, ?_⟩) ?_ ?_
  rotate_left
  · intro w'
    go_simp
    with_reducible rfl
  rotate_left
  · simp only [Act.put, List.setIfInBounds_toArray, List.set_cons_zero, List.set_cons_succ, i64_w, i32_w]
    rfl
  refine last_ (i := 9) (N := (some 17)) #[true, true, true, true, true, true, true, true, true, true, false, false, false, false, false] rfl rfl (one_of HT_.out (by kernel_rfl)) (by decide) (fun K hK => ?_)
  refine goes_ Try.func40 (by kernel_rfl) rfl #[.slice A l.length c, .int .i64 (at_ : Int), .int .i64 (n : Int)] (by rfl) rfl rfl (by simp [Act.eval]) ?_
  ((with_reducible refine (field_Get.calls A c l at_ n _ _ wd HD.out.rd HD.out.cap HG.out).mono ?_); rintro e w2 ⟨rfl, hb⟩)
  refine ⟨_, rfl, ?_⟩
  have HR2 := Aside0.mk (HD.out.later hb)
  have HB2 := Aside0.mk (below_then HBD.out HBD.out.size hb)
  clear hb hHeld x0 x1
  refine hK.out _ _ ?_
  clear hK K
  refine norm_ (a' := ?_) ?_ ?_
  rotate_left
  · show Act.put _ (some 17) _ = _
    simp only [Act.put, List.setIfInBounds_toArray, List.set_cons_zero, List.set_cons_succ, i64_w, i32_w]
    rfl
  refine pure_ (i := 10) (N := (some 7)) (v := ?_) (a' := ?_) #[true, true, true, true, true, true, true, true, true, true, true, false, false, false, false] rfl rfl (any_of HT_.out (by kernel_rfl)) (fun _ _ _ h => h) (Or.inl ⟨by rfl, ?_⟩) ?_ ?_
  rotate_left
  · intro w'
    go_simp
    with_reducible rfl
  rotate_left
  · simp only [Act.put, List.setIfInBounds_toArray, List.set_cons_zero, List.set_cons_succ, i64_w, i32_w]
    rfl
  refine pure_ (i := 11) (N := (some 18)) (v := ?_) (a' := ?_) #[true, true, true, true, true, true, true, true, true, true, true, true, false, false, false] rfl rfl (any_of HT_.out (by kernel_rfl)) (fun _ _ _ h => h) (Or.inl ⟨by rfl, ?_⟩) ?_ ?_
  rotate_left
  · intro w'
    go_simp
    with_reducible rfl
  rotate_left
  · simp only [Act.put, List.setIfInBounds_toArray, List.set_cons_zero, List.set_cons_succ, i64_w, i32_w]
    rfl
  refine pure_ (i := 12) (N := (some 19)) (v := ?_) (a' := ?_) #[true, true, true, true, true, true, true, true, true, true, true, true, true, false, false] rfl rfl (any_of HT_.out (by kernel_rfl)) (fun _ _ _ h => h) (Or.inl ⟨by rfl, ?_⟩) ?_ ?_
  rotate_left
  · intro w'
    go_simp
    with_reducible rfl
  rotate_left
  · simp only [Act.put, List.setIfInBounds_toArray, List.set_cons_zero, List.set_cons_succ, i64_w, i32_w]
    rfl
  refine pure_ (i := 13) (N := (some 5)) (v := ?_) (a' := ?_) #[true, true, true, true, true, true, true, true, true, true, true, true, true, true, false] rfl rfl (any_of HT_.out (by kernel_rfl)) (fun _ _ _ h => h) (Or.inl ⟨by rfl, ?_⟩) ?_ ?_
  rotate_left
  · intro w'
    go_simp
    with_reducible rfl
  rotate_left
  · simp only [Act.put, List.setIfInBounds_toArray, List.set_cons_zero, List.set_cons_succ, i64_w, i32_w]
    rfl
  refine pure_ (i := 14) (N := (some 6)) (v := ?_) (a' := ?_) #[true, true, true, true, true, true, true, true, true, true, true, true, true, true, true] rfl rfl (any_of HT_.out (by kernel_rfl)) (fun _ _ _ h => h) (Or.inl ⟨by rfl, ?_⟩) ?_ ?_
  rotate_left
  · intro w'
    go_simp
    with_reducible rfl
  rotate_left
  · simp only [Act.put, List.setIfInBounds_toArray, List.set_cons_zero, List.set_cons_succ, i64_w, i32_w]
    rfl
  refine done_ (done_of HT_.out (by kernel_rfl)) ?_
  have x1 : w2.cell? ⟨RP, 1, none⟩ = some (.int .i64 at_) := (blk_cell HR2.out.blk 1).trans rfl
  have f1 := blk_frozen HR2.out.blk 1
  go_wp2
  go_ret
  have hbk : (w2.setCell ⟨RP, 1, none⟩ (.int .i64 ((at_ : Int) + (n : Int)))).heap[RP]? = some (.cells #[.slice A l.length c, .int .i64 ((at_ + n : Nat) : Int)] 80 (0, 0)) := blk_put HR2.out.blk 1 _ (by rw [HAN.out]; rfl)
  have hq := (Wrote.of_below RP nilV HB2.out).trans (Wrote.setE (w := w2) RP 1 (.int .i64 ((at_ : Int) + (n : Int))) nilV)
  exact ⟨rfl, HH.out.wrote hq hbk, hq⟩
/-- What a block's cells become, when numbers are stored at places: the i-th at P i. -/
def upd (P : Nat → Nat × Nat) (V : Nat → Int) (g : Nat) (cs : Array Value) : Nat → Array Value
  | 0 => cs
  | i + 1 => if (P i).1 = g then (upd P V g cs i).setIfInBounds (P i).2 (.int .i64 (V i)) else upd P V g cs i
theorem upd_size (P : Nat → Nat × Nat) (V : Nat → Int) (g : Nat) (cs : Array Value) (k : Nat) : (upd P V g cs k).size = cs.size := by
  induction k with
  | zero => rfl
  | succ k ih => unfold upd; split <;> simp [ih]
theorem upd_none (P : Nat → Nat × Nat) (V : Nat → Int) (g : Nat) (cs : Array Value) (k : Nat) (h : ∀ i, i < k → (P i).1 ≠ g) : upd P V g cs k = cs := by
  induction k with
  | zero => rfl
  | succ k ih => unfold upd; rw [if_neg (h k (by omega)), ih fun i hi => h i (by omega)]
/-- What becomes of the world, when numbers are read and stored. -/
structure Stored (w w' : World) (RP : Nat) (P : Nat → Nat × Nat) (V : Nat → Int) (k : Nat) : Prop where
  os : w'.os = w.os
  tape : w'.tape = w.tape
  output : w'.output = w.output
  size : w.heap.size ≤ w'.heap.size
  block : ∀ g o, w.heap[g]? = some o → g ≠ RP → (∀ i, i < k → (P i).1 ≠ g) → w'.heap[g]? = some o
  cells : ∀ g cs t, w.heap[g]? = some (.cells cs t (0, 0)) → g ≠ RP → w'.heap[g]? = some (.cells (upd P V g cs k) t (0, 0))
theorem Stored.refl (w : World) (RP : Nat) (P : Nat → Nat × Nat) (V : Nat → Int) : Stored w w RP P V 0 := ⟨rfl, rfl, rfl, Nat.le_refl _, fun _ _ h _ _ => h, fun _ _ _ h _ => h⟩
theorem Stored.step {w w1 w2 : World} {RP : Nat} {P : Nat → Nat × Nat} {V : Nat → Int} {k : Nat} (h : Stored w w1 RP P V k) (hq : Wrote w1 w2 RP nilV nilV) (hne : (P k).1 ≠ RP) : Stored w (w2.setCell ⟨(P k).1, (P k).2, none⟩ (.int .i64 (V k))) RP P V (k + 1) := by
  have hnil : ∀ g, nilV.ownBlock ≠ some g := by intro g; simp [nilV, Value.ownBlock]
  refine ⟨hq.os.trans h.os, hq.tape.trans h.tape, hq.output.trans h.output, ?_, fun g o hg hw hp => ?_, fun g cs t hg hw => ?_⟩
  · have := Nat.le_trans h.size hq.size
    simpa [World.setCell] using this
  · have h1 := h.block g o hg hw fun i hi => hp i (by omega)
    have h2 := (hq.block g (blk_lt h1) hw (hnil g)).trans h1
    exact (Below.heap_setCell w2 ⟨(P k).1, (P k).2, none⟩ _ g (fun e => hp k (by omega) e.symm)).trans h2
  · have h1 := h.cells g cs t hg hw
    have h2 := (hq.block g (blk_lt h1) hw (hnil g)).trans h1
    unfold upd
    by_cases c : (P k).1 = g
    · rw [if_pos c]
      subst c
      exact blk_put h2 (P k).2 _ rfl
    · rw [if_neg c]
      exact (Below.heap_setCell w2 ⟨(P k).1, (P k).2, none⟩ _ g (fun e => c e.symm)).trans h2
theorem Stored.below {w w' : World} {RP base : Nat} {P : Nat → Nat × Nat} {V : Nat → Int} {k : Nat} (h : Stored w w' RP P V k) (hr : base ≤ RP) (hp : ∀ i, i < k → base ≤ (P i).1) {w0 : World} (h0 : Below base w0 w) (hb : base ≤ w.heap.size) : Below base w0 w' := by
  refine h0.trans ⟨h.os, h.tape, h.output, h.size, fun g hg => ?_⟩
  have hlt : g < w.heap.size := Nat.lt_of_lt_of_le hg hb
  have e : w.heap[g]? = some w.heap[g] := Array.getElem?_eq_getElem hlt
  rw [e]
  exact h.block g _ e (by omega) fun i hi e2 => by have := hp i hi; omega
theorem stored_reads {w w' : World} {RP : Nat} {P : Nat → Nat × Nat} {V : Nat → Int} {k : Nat} {A : Option Addr} {n : Nat} {l : List Int} (h : Kd.C (Kd.int .u8) w A n l) (hq : Stored w w' RP P V k) (ha : ∀ ad, A = some ad → 0 < n → ad.block ≠ RP ∧ ∀ i, i < k → (P i).1 ≠ ad.block) : Kd.C (Kd.int .u8) w' A n l := by
  have hr := brow_C h
  refine brow_ofC ⟨hr.1, hr.2.1, fun hn => ?_⟩
  obtain ⟨ad, e, hc⟩ := hr.2.2 hn
  refine ⟨ad, e, fun j hj => ?_⟩
  have hj := hc j hj
  have hlt := World.block_lt_of_cell? w _ hj
  have hb : (ad.add j).block = ad.block := by unfold Addr.add; split <;> rfl
  obtain ⟨h1, h2⟩ := ha ad e hn
  have eo : w.heap[(ad.add j).block]? = some w.heap[(ad.add j).block] := Array.getElem?_eq_getElem hlt
  have hkeep := hq.block (ad.add j).block _ eo (by rw [hb]; exact h1) (by rw [hb]; exact h2)
  rw [← hj]
  unfold World.cell?
  rw [hkeep, eo]
/-- The i-th number that is read. -/
def nth (l : List Int) (at_ n : Nat) (i : Nat) : Int := le (field_part.seg l ((at_ + n * i : Nat) : Int) (n : Int))
set_option maxHeartbeats 4000000 in
set_option maxRecDepth 100000 in
theorem rnums_calls (n : Nat) (hn : n = 1 ∨ n = 2 ∨ n = 4) {w : World} {RP : Nat} {A : Option Addr} {c : Nat} {l : List Int} {at_ : Nat} (H : Reader w RP A c l at_) (hl : Bytes l) (hs : l.length ≤ 140737488351232) (k : Nat) (hin : at_ + n * k ≤ l.length) (hk : k ≤ 64)
    (G : Nat) (P : Nat → Nat × Nat) (pc : Array Value) (pt : TypeId) (hG : w.heap[G]? = some (.cells pc pt (0, 0))) (hpc : ∀ i, i < k → pc[i]? = some (.pointer (some ⟨(P i).1, (P i).2, none⟩)))
    (hP : ∀ i, i < k → (P i).1 ≠ RP ∧ (P i).1 ≠ G ∧ (∀ ad, A = some ad → 0 < l.length → ad.block ≠ (P i).1) ∧ ∃ cs t, w.heap[(P i).1]? = some (.cells cs t (0, 0)) ∧ ∃ x, cs[(P i).2]? = some (.int .i64 x)) (hGR : G ≠ RP) :
    Calls Try.prog 30 #[.pointer (some ⟨RP, 0, none⟩), .int .i64 n, .slice (some ⟨G, 0, none⟩) k k] w fun e w' => e = .returned (.tuple #[]) ∧ Reader w' RP A c l (at_ + n * k) ∧ Stored w w' RP P (nth l at_ n) k := by
  have HH := Aside0.mk H
  have HN := Aside0.mk hn
  have HL := Aside0.mk (And.intro hl hs)
  have HI := Aside0.mk hin
  have HG := Aside0.mk hG
  have HPC := Aside0.mk hpc
  have HP := Aside0.mk hP
  have HGR := Aside0.mk hGR
  have hk2 : (k : Int) ≤ 64 := by omega
  clear H hn hl hs hin hG hpc hP hGR hk
  go_enter Try.func30, Try.ntmps30
  go_wp2_with fail
  go_loopg [10] k (fun kq v10 w' => ∃ i : Nat, v10 = .int .i64 (i : Int) ∧ i ≤ k ∧ k - i ≤ kq ∧ Aside0 (Reader w' RP A c l (at_ + n * i) ∧ Stored w w' RP P (nth l at_ n) i))
  case atStart => exact ⟨0, rfl, by omega, by omega, ⟨HH.out, Stored.refl _ _ _ _⟩⟩
  case round =>
    obtain ⟨i, rfl, hi, hkq, HS⟩ := hrel
    by_cases hlt : i < k
    · cases gk with
      | zero => omega
      | succ k1 =>
        obtain ⟨hp1, hp2, hp3, cs, t, hcs, x, hx⟩ := HP.out i hlt
        have hGw := HS.out.2.cells G pc pt HG.out HGR.out
        rw [upd_none P _ G pc i (fun j hj => (HP.out j (by omega)).2.1)] at hGw
        have hcell : wr.cell? ⟨G, i, none⟩ = some (.pointer (some ⟨(P i).1, (P i).2, none⟩)) := (blk_cell hGw i).trans (HPC.out i hlt)
        have hmul : n * i + n ≤ n * k := by
          have : n * (i + 1) ≤ n * k := Nat.mul_le_mul_left _ hlt
          rw [Nat.mul_succ] at this
          exact this
        have HC := Aside0.mk (rnum_calls n HN.out HS.out.1 HL.out.1 HL.out.2 (by have := HI.out; omega))
        have HT := Aside0.mk (HS.out.2.cells (P i).1 cs t hcs hp1)
        have HPi := Aside0.mk (And.intro hp1 (And.intro hp2 hp3))
        have HX : Aside0 (∃ x, (upd P (nth l at_ n) (P i).1 cs i)[(P i).2]? = some x) := ⟨by
          have h := (Array.getElem?_eq_some_iff.1 hx).1
          exact ⟨_, Array.getElem?_eq_getElem (by rw [upd_size]; exact h)⟩⟩
        obtain ⟨x', hx'⟩ := HX.out
        have HX2 := Aside0.mk hx'
        clear hp1 hp2 hp3 hcs hx hGw hmul HX hx'
        have hnth : le (field_part.seg l ((at_ + n * i : Nat) : Int) (n : Int)) = nth l at_ n i := rfl
        rw [hnth] at HC
        clear hnth
        obtain ⟨z, hz⟩ : ∃ z, nth l at_ n i = z := ⟨_, rfl⟩
        rw [hz] at HC
        have HZ := Aside0.mk hz
        clear hz
        obtain ⟨⟨pb, po⟩, hpp⟩ : ∃ pp, P i = pp := ⟨_, rfl⟩
        rw [hpp] at hcell HT HPi HX2
        have HPP := Aside0.mk hpp
        clear hpp
        have d0 : decide ((i : Int) < (k : Int)) = true := decide_eq_true (by omega)
        have d0n : decide (i < k) = true := decide_eq_true (by omega)
        have p0' : (0 : Int) ≤ (i : Int) := by omega
        have p1' : (i : Int) < (k : Int) := by omega
        go_wp2_with fail
        ((with_reducible refine HC.out.mono ?_); rintro e w2 ⟨rfl, hr2, hq2⟩)
        have HR2 := Aside0.mk hr2
        have HQ2 := Aside0.mk hq2
        have hT2 := (hq2.block pb (blk_lt HT.out) HPi.out.1 (by simp [nilV, Value.ownBlock])).trans HT.out
        have xc := (blk_cell hT2 po).trans HX2.out
        have fc := blk_frozen hT2 po
        clear hr2 hq2 hT2 hcell HC
        go_wp2_with fail
        go_roundg k1
        case measure => omega
        case rel =>
          refine ⟨i + 1, by go_num, by omega, by omega, ⟨?_, ?_⟩⟩
          · have hn1 : at_ + n * (i + 1) = at_ + n * i + n := by rw [Nat.mul_succ]; omega
            rw [hn1]
            have hb : (w2.setCell ⟨pb, po, none⟩ (.int .i64 z)).heap[RP]? = some (.cells #[.slice A l.length c, .int .i64 ((at_ + n * i + n : Nat) : Int)] 80 (0, 0)) := (Below.heap_setCell w2 ⟨pb, po, none⟩ _ RP (fun e => HPi.out.1 e.symm)).trans HR2.out.blk
            refine ⟨hb, ?_, HR2.out.cap, HR2.out.apart⟩
            have hrd := brow_C HR2.out.rd
            refine brow_ofC ⟨hrd.1, hrd.2.1, fun hn => ?_⟩
            obtain ⟨ad, e, hc⟩ := hrd.2.2 hn
            refine ⟨ad, e, fun j hj => ?_⟩
            have hj := hc j hj
            have hbk : (ad.add j).block = ad.block := by unfold Addr.add; split <;> rfl
            rw [← hj]
            unfold World.cell?
            rw [Below.heap_setCell w2 ⟨pb, po, none⟩ _ (ad.add j).block (by rw [hbk]; exact HPi.out.2.2 ad e hn)]
          · have h := HS.out.2.step HQ2.out (by rw [HPP.out]; exact HPi.out.1)
            rw [HPP.out, HZ.out] at h
            exact h
    · obtain rfl : i = k := by omega
      have d0 : decide ((i : Int) < (i : Int)) = false := decide_eq_false (by omega)
      go_wp2
      go_end0
      exact ⟨rfl, HS.out.1, HS.out.2⟩
theorem Reader.far {w : World} {RP X : Nat} {A : Option Addr} {c : Nat} {l : List Int} {a : Nat} (H : Reader w RP A c l a) (hx : X ≠ RP) (hA : ∀ ad, A = some ad → 0 < l.length → ad.block ≠ X) (i : Nat) (u : Value) : Reader (w.setCell ⟨X, i, none⟩ u) RP A c l a := by
  have hb := (Below.heap_setCell w ⟨X, i, none⟩ u RP (fun e => hx e.symm)).trans H.blk
  refine ⟨hb, ?_, H.cap, H.apart⟩
  have hrd := brow_C H.rd
  refine brow_ofC ⟨hrd.1, hrd.2.1, fun hn => ?_⟩
  obtain ⟨ad, e, hc⟩ := hrd.2.2 hn
  refine ⟨ad, e, fun j hj => ?_⟩
  have hj := hc j hj
  have hbk : (ad.add j).block = ad.block := by unfold Addr.add; split <;> rfl
  rw [← hj]
  unfold World.cell?
  rw [Below.heap_setCell w ⟨X, i, none⟩ _ (ad.add j).block (by rw [hbk]; exact hA ad e hn)]
end Go.Proofs.Ytacecaacpagokaa.Codec
