/- Bytes that are handed in are neither kept nor changed, what is read is new memory; two devices have nothing in common: the walk of the law. No conditions. -/
import Derived.Test.YtenomjfaodfjhaaKDevWakes
import Derived.Test.YtenomjfaodfjhaaKDevWait
import Derived.Test.YtenomjfaodfjhaaKIGot
namespace Go.Proofs.Ytenomjfaodfjhaa.Keeps
open Go.RowKit Go.Proofs.Ytenomjfaodfjhaa.PDeviceKeeps Go.Proofs.Ytenomjfaodfjhaa.Plain Go.Proofs.YtenomjfaodfjhaaW.PrintWords Go.Proofs.YtenomjfaodfjhaaW.PrintLast Go.Proofs.YtenomjfaodfjhaaW.PrintMore
set_option linter.unusedVariables false
set_option linter.unusedSimpArgs false
/-- A device all of whose blocks lie in I. -/
structure DevIn (w : World) (I : Nat → Prop) (base D C n Bk : Nat) (fl : Flags) (av wv : Nat → Value) (es : Nat → List Value) (st : Nat → List (List Int)) : Prop where
  dev : Dev w base D C n Bk fl av wv es st
  muts : ∀ g, Mut D C n wv g → I g
  row : ∀ k, k < n → ∀ v, v ∈ av k :: es k → ∀ g, v.ownBlock = some g → I g
theorem Row.block {w : World} {v : Value} {g : Nat} {xs : List Int} (h : Row w v (some g) xs) : v.ownBlock = some g := by
  obtain ⟨c, hv, _⟩ := h.slice
  subst hv
  rfl
variable {base D C n Bk : Nat} {fl : Flags} {av wv : Nat → Value} {es : Nat → List Value} {st : Nat → List (List Int)} {I : Nat → Prop} {w W : World}
theorem DevIn.keep (H : DevIn w I base D C n Bk fl av wv es st) (hk : ∀ g, g < w.heap.size → I g → W.heap[g]? = w.heap[g]?) : DevIn W I base D C n Bk fl av wv es st := by
  have km : ∀ g, Mut D C n wv g → W.heap[g]? = w.heap[g]? := fun g hg => hk g (H.dev.lt g hg) (H.muts g hg)
  refine ⟨⟨(km D (.inl rfl)).trans H.dev.head, ?_, fun k h => owns_keep (H.dev.wait k h) fun g e => km g (.inr (.inr ⟨k, h, e⟩)), H.dev.len, fun k h j v hv => ?_, H.dev.DC, H.dev.DW, H.dev.WW, H.dev.lowD, H.dev.lowC, H.dev.hn, H.dev.hB⟩, H.muts, H.row⟩
  · obtain ⟨cc, h, r⟩ := H.dev.cells
    exact ⟨cc, (km C (.inr (.inl rfl))).trans h, r⟩
  · obtain ⟨g, xs, h1, h2, h3, h4⟩ := H.dev.rows k h j v hv
    exact ⟨g, xs, h1, h2, h3.keep fun g' e => hk g' (h3.lt g' e) (H.row k h v (List.mem_of_getElem? hv) g' (by cases e; exact h3.block)), h4⟩
theorem DevIn.below (H : DevIn w I base D C n Bk fl av wv es st) (hb : Below w.heap.size w W) : DevIn W I base D C n Bk fl av wv es st := H.keep fun g h _ => hb.block g h
theorem DevIn.mono {I' : Nat → Prop} (H : DevIn w I base D C n Bk fl av wv es st) (h : ∀ g, I g → I' g) : DevIn w I' base D C n Bk fl av wv es st := ⟨H.dev, fun g hg => h g (H.muts g hg), fun k hk v hv g e => h g (H.row k hk v hv g e)⟩
theorem DevIn.step {fl' : Flags} {av' wv' : Nat → Value} {es' : Nat → List Value} {st' : Nat → List (List Int)} (H : DevIn w I base D C n Bk fl av wv es st) (H' : Dev W base D C n Bk fl' av' wv' es' st') (S : Step w W (Mut D C n wv) (Mut D C n wv'))
    (hr : ∀ k, k < n → ∀ v, v ∈ av' k :: es' k → v ∈ av k :: es k ∨ ∀ g, v.ownBlock = some g → w.heap.size ≤ g) : DevIn W (fun g => I g ∨ (w.heap.size ≤ g ∧ g < W.heap.size)) base D C n Bk fl' av' wv' es' st' := by
  refine ⟨H', fun g hg => ?_, fun k hk v hv g e => ?_⟩
  · rcases Nat.lt_or_ge g w.heap.size with c | c
    · exact .inl (H.muts g (S.old g c hg))
    · exact .inr ⟨c, H'.lt g hg⟩
  · rcases hr k hk v hv with h | h
    · exact .inl (H.row k hk v h g e)
    · refine .inr ⟨h g e, ?_⟩
      obtain ⟨j, hj⟩ := List.getElem?_of_mem hv
      obtain ⟨g', xs, _, _, h3, _⟩ := H'.rows k hk j v hj
      rw [h3.block] at e
      cases e
      exact h3.lt g rfl
theorem DevIn.ofNew {D C n : Nat} {av : Nat → Value} {w w' : World} (H : Dev w' w.heap.size D C n 64 flags0 av (fun _ => .slice none 0 0) (fun _ => []) (fun _ => [zeros 64])) (hr : ∀ k, k < n → ∀ g, (av k).ownBlock = some g → w.heap.size ≤ g) :
    DevIn w' (fun g => w.heap.size ≤ g ∧ g < w'.heap.size) w.heap.size D C n 64 flags0 av (fun _ => .slice none 0 0) (fun _ => []) (fun _ => [zeros 64]) := by
  refine ⟨H, fun g hg => ⟨H.low g hg, H.lt g hg⟩, fun k hk v hv g e => ?_⟩
  have hv' : v = av k := by simpa using hv
  subst hv'
  obtain ⟨g', xs, _, _, h3, _⟩ := H.rows k hk 0 (av k) rfl
  have e' := h3.block
  rw [e] at e'
  cases e'
  exact ⟨hr k hk g e, h3.lt g rfl⟩
theorem mem_upd_snoc {av : Nat → Value} {es : Nat → List Value} {b k : Nat} {v u : Value} (h : u ∈ av k :: upd es b (es b ++ [v]) k) : u ∈ av k :: es k ∨ u = v := by
  by_cases e : k = b
  · subst e
    rw [upd_same, ← List.cons_append, List.mem_append] at h
    rcases h with h | h
    · exact .inl h
    · exact .inr (by simpa using h)
  · rw [upd_other _ _ e] at h; exact .inl h
theorem mem_upd_load {av : Nat → Value} {es : Nat → List Value} {b k : Nat} {v u : Value} (h : u ∈ upd av b v k :: upd es b [] k) : u ∈ av k :: es k ∨ u = v := by
  by_cases e : k = b
  · subst e
    rw [upd_same, upd_same] at h
    exact .inr (by simpa using h)
  · rw [upd_other _ _ e, upd_other _ _ e] at h; exact .inl h
/-- A row of bytes of one's own, its cells told. -/
theorem row_of_fill {w : World} {g : Nat} {l : List Int} (hg : w.heap[g]? = some (.cells (nums .u8 (fill l (l.length + 4))).toArray 5 (0, 0))) (hl : l.length ≤ 281474976710000) : Row w (.slice (some ⟨g, 0, none⟩) l.length (l.length + 4)) (some g) l := by
  refine .inr ⟨g, l.length + 4, _, rfl, rfl, by omega, by unfold maxLen; omega, hg, by simp [nums, fill_len l (l.length + 4) (by omega) (by omega)], ?_⟩
  show (nums .u8 (fill l (l.length + 4))).take l.length = _
  simp [nums, fill]
theorem blk_drawn {w w2 : World} (d : Drawn0 w w2) (g : Nat) : w2.heap[g]? = w.heap[g]? := by
  obtain ⟨n, rfl⟩ := d
  rfl
theorem drawn_trans {a b c : World} (h : Drawn0 a b) (k : Drawn0 b c) : Drawn0 a c := by
  obtain ⟨n, rfl⟩ := h
  obtain ⟨m, rfl⟩ := k
  exact ⟨⟨n + m, by rw [World.drewN_drewN]⟩⟩
theorem row_lit64 (w0 W : World) (hb : w0.heap.size ≤ W.heap.size) : (Kd.int .i64).R 3 (W.alloc (.cells #[] 3)) w0.heap.size (fun _ => True) (.slice (some ⟨W.heap.size, 0, none⟩) 0 0) [] :=
  Kd.R_of_own (enc := Value.int .i64) (h1 := fun _ => rfl) (own_lit W w0.heap.size 3 .i64 [] hb (by decide)) (fun _ _ => trivial)
theorem row_i64 {w : World} {A : Option Addr} {xs : List Int} (h : ReadsInt w .i64 A xs.length xs) : (Kd.int .i64).C w A xs.length xs := Kd.C_of_reads (d := (0 : Int)) (h1 := fun _ => rfl) (readsInt_of.1 h)
theorem pick4 (a b c d : Value) : ∀ k, k < 4 → #[a, b, c, d][k]? = some ((fun k => match k with | 0 => a | 1 => b | 2 => c | _ => d) k) := by
  intro k hk
  rcases (by omega : k = 0 ∨ k = 1 ∨ k = 2 ∨ k = 3) with rfl | rfl | rfl | rfl <;> rfl
theorem pick2 (a b : Value) : ∀ k, k < 2 → #[a, b][k]? = some ((fun k => match k with | 0 => a | _ => b) k) := by
  intro k hk
  rcases (by omega : k = 0 ∨ k = 1) with rfl | rfl <;> rfl
theorem got_keepI {w W : World} {v : Value} {xs : List Int} {lo hi : Nat} (h : KeepsI.Got w v xs lo hi) (hk : ∀ g, lo ≤ g → g < hi → W.heap[g]? = w.heap[g]?) : KeepsI.Got W v xs lo hi := by
  obtain ⟨b, h1, h2⟩ := h
  exact ⟨b, h1.keep fun g e => hk g (h2 g e).1 (h2 g e).2, h2⟩
theorem got_keep {w W : World} {v : Value} {xs : List Int} {lo hi : Nat} (h : Got w v xs lo hi) (hk : ∀ g, lo ≤ g → g < hi → W.heap[g]? = w.heap[g]?) : Got W v xs lo hi := by
  obtain ⟨b, h1, h2⟩ := h
  exact ⟨b, h1.keep fun g e => hk g (h2 g e).1 (h2 g e).2, h2⟩
theorem roomy_len (A : Option Addr) (c : Nat) (l : List Int) (m : Nat) (hm : l.length = m) (w : World) (hr : ReadsInt w .u8 A l.length l) (hl : m ≤ 281474976710000) :
    Calls Try.prog 16 #[.slice A m c] w fun e w' => e = .returned (.slice (some ⟨w.heap.size, 0, none⟩) m (m + 4)) ∧ w'.heap[w.heap.size]? = some (.cells (nums .u8 (fill l (l.length + 4))).toArray 5 (0, 0)) ∧ Below w.heap.size w w' := by
  subst hm
  exact roomy_calls A c l w hr hl
theorem kept_len (g : Nat) (A : Option Addr) (c : Nat) (l : List Int) (m : Nat) (hm : l.length = m) (w : World) (hg : w.heap[g]? = some (.cells (nums .u8 (fill l (l.length + 4))).toArray 5 (0, 0))) (hr : ReadsInt w .u8 A l.length l) (hl : l.length ≤ 281474976710000) :
    Calls Try.prog 18 #[.slice (some ⟨g, 0, none⟩) m (m + 4), .slice A m c] w fun e w' => e = .returned (.bool true) ∧ Drawn0 w w' := by
  subst hm
  exact kept_calls g A c l w hg hr hl
theorem write_len (w : World) (H : Dev w base D C n Bk fl av wv es st) (hlive : fl.dies = false) (b : Nat) (hb : b < n) (hfew : (es b).length < 400) (A : Option Addr) (c : Nat) (xs : List Int) (hxs : xs.length = Bk) (hr : ReadsInt w .u8 A xs.length xs) (hcx : xs.length ≤ c) (hA : ∀ a, A = some a → ¬ Mut D C n wv a.block) :
    Calls Try.prog 11 #[.pointer (some ⟨D, 0, none⟩), .int .i64 (b : Int), .slice A Bk c] w fun e w' => e = .returned (.int .i64 0) ∧ ∃ v v', Dev w' base D C n Bk fl.burn av (upd wv b v') (upd es b (es b ++ [v])) (upd st b (st b ++ [xs])) ∧ Step w w' (Mut D C n wv) (Mut D C n (upd wv b v')) ∧ ∀ g, v.ownBlock = some g → w.heap.size ≤ g := by
  have h := write_strong w H hlive b hb hfew A c xs hxs hr hcx hA
  rw [show (Value.slice A Bk c) = .slice A xs.length c by rw [hxs]]
  exact h
theorem load_len (w : World) (H : Dev w base D C n Bk fl av wv es st) (b : Nat) (hb : b < n) (A : Option Addr) (c : Nat) (xs : List Int) (hxs : xs.length = Bk) (hr : ReadsInt w .u8 A xs.length xs) (hcx : xs.length ≤ c) :
    Calls Try.prog 17 #[.pointer (some ⟨D, 0, none⟩), .int .i64 (b : Int), .slice A Bk c] w fun e w' => e = .returned (.int .i64 0) ∧ ∃ v, Dev w' base D C n Bk fl (upd av b v) (upd wv b (.slice none 0 0)) (upd es b []) (upd st b [xs]) ∧ Step w w' (Mut D C n wv) (Mut D C n (upd wv b (.slice none 0 0))) ∧ ∀ g, v.ownBlock = some g → w.heap.size ≤ g := by
  have h := load_strong w H b hb A c xs hxs hr hcx
  rw [show (Value.slice A Bk c) = .slice A xs.length c by rw [hxs]]
  exact h
theorem same_len (A0 : Option Addr) (c0 : Nat) (l : List Int) (m0 : Nat) (hm0 : l.length = m0) (A1 : Option Addr) (c1 : Nat) (m1 : Nat) (hm1 : l.length = m1) (w : World) (h0 : ReadsInt w .u8 A0 l.length l) (hc0 : l.length ≤ c0) (h1 : ReadsInt w .u8 A1 l.length l) (hc1 : l.length ≤ c1) :
    Calls Try.prog 15 #[.slice A0 m0 c0, .slice A1 m1 c1] w fun e w' => e = .returned (.bool true) ∧ Drawn0 w w' := by
  subst hm0
  subst hm1
  exact skerryref01_SameBytes.calls A0 c0 l A1 c1 l true w (row_int h0) hc0 (row_int h1) hc1 (by simp [skerryref01_SameBytes.f])
theorem lastOf_end (l : List (List Int)) (x : List Int) : lastOf (l ++ [x]) = x := by simp [lastOf, List.getLastD_eq_getLast?]
theorem crashN_one (st : Nat → List (List Int)) (ps : List Int) (k : Nat) (h : (st k).length ≤ 1) : ∀ i, (crashN st ps i).1 k = st k := by
  intro i
  induction i with
  | zero => rfl
  | succ i ih =>
    unfold crashN
    split
    · exact ih
    · rename_i hl
      simp only
      rw [upd_other _ _ (by rintro rfl; exact hl h)]
      exact ih
theorem last_crash (H : Dev w base D C n Bk fl av wv es st) (ps : List Int) (k : Nat) (x : List Int) (hst : st k = [x]) : lastOf ((crashN st ps n).1 k) = x := by
  rw [crashN_one st ps k (by rw [hst]; exact Nat.le_refl 1), hst]
  rfl
theorem got_len {w : World} {v : Value} {xs : List Int} {lo hi m : Nat} (h : Got w v xs lo hi) (hm : xs.length = m) (hb : m ≤ 9223372036854775807) : ∃ A c, v = .slice A m c ∧ m ≤ c ∧ ReadsInt w .u8 A xs.length xs := by
  subst hm
  obtain ⟨b, h1, _⟩ := h
  exact h1.reads hb
theorem got_row' {w : World} {g c m : Nat} {xs : List Int} (h : Row w (.slice (some ⟨g, 0, none⟩) m c) (some g) xs) : Got w (.slice (some ⟨g, 0, none⟩) m c) xs g (g + 1) := ⟨some g, h, fun g' e => by cases e; omega⟩
theorem igot_form {w : World} {v : Value} {xs : List Int} {lo hi : Nat} (h : KeepsI.Got w v xs lo hi) : ∃ A m c, v = .slice A m c := by
  obtain ⟨b, h1, _⟩ := h
  obtain ⟨A, c, e⟩ := h1.rd.form
  exact ⟨A, _, c, e⟩
theorem igot_owns {w : World} {base : Nat} {v : Value} {xs : List Int} (h : w.ownsRow base 3 1 v xs.length (nums .i64 xs)) : KeepsI.Got w v xs base w.heap.size := ⟨v.ownBlock, KeepsI.Row.of_owns h, fun g e => h.lt g e⟩
theorem igot_picks {w : World} {v : Value} {xs : List Int} {lo hi : Nat} {M : Nat → Prop} (h : KeepsI.Got w v xs lo hi) (hm : xs.length ≤ 9223372036854775807) (hM : ∀ g, lo ≤ g → g < hi → ¬ M g) (hM0 : ∀ A, v = .slice A 0 0 → ∀ a, A = some a → ¬ M a.block) : PicksAt w M xs v := by
  obtain ⟨b, ⟨⟨A, rfl⟩, _, rfl⟩ | ⟨g, cap, cur, rfl, e, h3, h4, h5, h6, h7⟩, hb⟩ := h
  · exact ⟨A, 0, rfl, Nat.le_refl _, ⟨rfl, by simp, by simp⟩, fun h => by simp at h⟩
  · refine ⟨_, cap, rfl, h3, ⟨rfl, hm, fun _ => ⟨_, rfl, fun j hj => ?_⟩⟩, fun _ a ha => ?_⟩
    · have ha : (⟨g, 0, none⟩ : Addr).add j = ⟨g, j, none⟩ := by unfold Addr.add; split <;> simp_all
      have hx : cur.toList[j]? = (nums .i64 xs)[j]? := by rw [← h7, List.getElem?_take, if_pos hj]
      rw [ha, blk_cell h5 j, ← Array.getElem?_toList, hx]
      simp only [nums, List.getElem?_map]
      rw [List.getD_eq_getElem?_getD, List.getElem?_eq_getElem hj]
      rfl
    · cases ha
      have := hb g e
      exact hM _ this.1 this.2
theorem ints_self_loop (l : List Int) (hl : l.length ≤ 17592186043904) (d : Nat) : ∀ (k : Nat) (i : Int), 0 ≤ i → (l.length : Int) - i = d → d < k → skerryref01_SameInts.l0 k l l i = some true := by
  induction d with
  | zero =>
    intro k i h0 hd hk
    obtain ⟨k, rfl⟩ : ∃ m, k = m + 1 := ⟨k - 1, by omega⟩
    simp only [skerryref01_SameInts.l0]
    rw [if_neg (by omega)]
  | succ d ih =>
    intro k i h0 hd hk
    obtain ⟨k, rfl⟩ : ∃ m, k = m + 1 := ⟨k - 1, by omega⟩
    simp only [skerryref01_SameInts.l0]
    rw [if_pos (by omega), if_pos h0, if_pos (by omega), if_pos True.intro, w64 (x := i + 1) (by omega) (by omega)]
    exact ih k (i + 1) (by omega) (by omega) (by omega)
theorem ints_self (l : List Int) (hl : l.length ≤ 17592186043904) : skerryref01_SameInts.f (l.length + 1) l l = some true := by
  unfold skerryref01_SameInts.f
  rw [if_pos rfl]
  exact ints_self_loop l hl l.length _ 0 (by omega) (by omega) (by omega)
set_option maxHeartbeats 32000000 in
set_option maxRecDepth 100000 in
theorem keeps_main (x y : Int) (A3 : Option Addr) (c3 : Nat) (l3 : List Int) (w : World) (hr3 : ReadsInt w .i64 A3 l3.length l3) (hc3 : l3.length ≤ c3) (hl3 : l3.length ≤ 17592186043904) :
    Calls Try.prog 4 #[.int .u8 x, .int .u8 y, .slice A3 l3.length c3] w fun e w' => e = .returned (.bool true) ∧ Below w.heap.size w w' := by
  have R3 := Aside0.mk hr3
  have HC3 := Aside0.mk hc3
  clear hr3 hc3
  go_enter Try.func4, Try.ntmps4
  go_wp2_with fail
  refine (wakes_calls w).mono ?_
  rintro e w1 ⟨rfl, hb⟩
  have HB1 := Aside0.mk hb
  have HK1 := Aside0.mk hb.size
  clear hb
  go_wp2_with fail
  refine (new_strong w1 4 (by omega) (by omega)).mono ?_
  rintro e w2 ⟨D, C, av, rfl, hD, hb, hr⟩
  have DI2 := Aside0.mk (DevIn.ofNew hD hr)
  have HB2 : Aside0 (Below w.heap.size w w2) := ⟨HB1.out.trans (hb.mono HK1.out)⟩
  have HK2 := Aside0.mk hb.size
  clear hD hb hr HB1
  go_wp2_with fail
  refine (new_strong w2 4 (by omega) (by omega)).mono ?_
  rintro e w3 ⟨D', C', av', rfl, hD, hb, hr⟩
  have OI3 := Aside0.mk (DevIn.ofNew hD hr)
  have DI3 := Aside0.mk (DI2.out.below hb)
  have HB3 : Aside0 (Below w.heap.size w w3) := ⟨HB2.out.trans (hb.mono HB2.out.size)⟩
  have HK3 := Aside0.mk hb.size
  clear hD hb hr HB2 DI2
  go_wp2_with fail
  refine (full_calls x w3).mono ?_
  rintro e w4 ⟨ca, ga, rfl, hca, hga, hrow, hb⟩
  have RA4 := Aside0.mk hrow
  have HGA := Aside0.mk (And.intro hga (hrow.lt ga rfl))
  have OI4 := Aside0.mk (OI3.out.below hb)
  have DI4 := Aside0.mk (DI3.out.below hb)
  have HB4 : Aside0 (Below w.heap.size w w4) := ⟨HB3.out.trans (hb.mono HB3.out.size)⟩
  have HK4 := Aside0.mk hb.size
  obtain ⟨-, hcx, hread⟩ := row_read hrow (by simp)
  have HRd4 := Aside0.mk (And.intro hcx hread)
  clear hrow hb hga hca hcx hread HB3 OI3 DI3
  go_wp2_with fail
  obtain ⟨la, hla⟩ : ∃ la, List.replicate 64 x = la := ⟨_, rfl⟩
  have hlen : la.length = 64 := by rw [← hla]; simp
  rw [hla] at RA4 HRd4
  have HLA := Aside0.mk hla
  have HLen := Aside0.mk hlen
  clear hla
  refine (roomy_len (some ⟨ga, 0, none⟩) ca la 64 hlen w4 HRd4.out.2 (by omega)).mono ?_
  rintro e w5 ⟨rfl, hg5, hb⟩
  obtain ⟨gr, hgr⟩ : ∃ gr, w4.heap.size = gr := ⟨_, rfl⟩
  have HG5 := Aside0.mk hg5
  have OI5 := Aside0.mk (OI4.out.below hb)
  have DI5 := Aside0.mk (DI4.out.below hb)
  have RA5 := Aside0.mk (RA4.out.keep (fun g e => hb.block g (RA4.out.lt g e)))
  have HB5 : Aside0 (Below w.heap.size w w5) := ⟨HB4.out.trans (hb.mono HB4.out.size)⟩
  have HGR : Aside0 (w4.heap.size = gr ∧ gr < w5.heap.size) := ⟨hgr, by rw [← hgr]; exact (Array.getElem?_eq_some_iff.1 hg5).1⟩
  have HK5 := Aside0.mk hb.size
  rw [hgr] at HG5 ⊢
  clear hg5 hb hgr HB4 OI4 DI4 HRd4 RA4 hlen
  have h8 : l3.length * 8 ≤ 140737488355328 := by omega
  go_upto_region 10 with ((with_reducible refine gate_builtin (b := .append) (xs := #[.tmp 50, .tmp 51]) rfl ?_); at_builtin; refine Kd.R_append_rows (Kd.int .i64) (w0 := w5) w5.heap.size rfl (.tmp 50) (.tmp 51) 30 3 (.int .i64 0) 8 rfl Try.underlying30 info3 rfl (by decide) (by omega) _ [] l3 _ _ _ (fun _ => True) (fun _ => False) rfl rfl (row_lit64 w5 w5 (Nat.le_refl _)) (Kd.C_alloc (Kd.C_below (row_i64 R3.out) HB5.out) _) (fun _ _ h => h) (fun _ h => h.elim) (fun _ _ => trivial) ((Below.refl _ _).alloc (Nat.le_refl _) _) (by simp) (by simpa using h8) ?_; intro v6 w6 ho hb hg hat; have HO := Aside0.mk ho; have HBp := Aside0.mk hb; clear ho hb hg hat)
  have GP6 := Aside0.mk (KeepsI.Got.of_R (show (Kd.int .i64).R 3 w6 w5.heap.size (fun _ => True) v6 l3 from HO.out))
  have HP0 : Aside0 (∀ A, v6 = .slice A 0 0 → ∀ a, A = some a → w5.heap.size ≤ a.block ∧ a.block < w6.heap.size) := ⟨fun A e a ha => by
    subst ha
    exact (Kd.own_of_R (enc := Value.int .i64) (h1 := fun _ => rfl) HO.out).lt a.block (by rw [e]; rfl)⟩
  have OI6 := Aside0.mk (OI5.out.below HBp.out)
  have DI6 := Aside0.mk (DI5.out.below HBp.out)
  have RA6 := Aside0.mk (RA5.out.keep (fun g e => HBp.out.block g (RA5.out.lt g e)))
  have HG6 := Aside0.mk ((HBp.out.block gr HGR.out.2).trans HG5.out)
  have HB6 : Aside0 (Below w.heap.size w w6) := ⟨HB5.out.trans (HBp.out.mono HB5.out.size)⟩
  have HK6 := Aside0.mk HBp.out.size
  clear HO HBp HB5 HG5 OI5 DI5 RA5 h8
  go_wp2_with fail
  refine (write_len w6 DI6.out.dev rfl 1 (by omega) (by simp) (some ⟨gr, 0, none⟩) 68 la HLen.out (reads_fill HG6.out (by have := HLen.out; omega)) (by have := HLen.out; omega) (fun a ha hm => by cases ha; have h1 : w1.heap.size ≤ gr ∧ gr < w2.heap.size := DI6.out.muts _ hm; have := HGR.out; have := HK1.out; have := HK2.out; have := HK3.out; have := HK4.out; have := HK5.out; have := HK6.out; omega)).mono ?_
  rintro e w7 ⟨rfl, v7, v7', hD, hS, hnew⟩
  have DI7 := Aside0.mk (DI6.out.step hD hS (fun k hk u hu => by
    rcases mem_upd_snoc hu with h | h
    · exact .inl h
    · subst h; exact .inr hnew))
  have OI7 := Aside0.mk (OI6.out.keep (fun g hl hg => hS.block g hl (fun hm => by have h1 := DI6.out.muts g hm; have := HK1.out; have := HK2.out; have := HK3.out; have := HK4.out; have := HK5.out; have := HK6.out; omega)))
  have RA7 := Aside0.mk (RA6.out.keep (fun g e => hS.block g (RA6.out.lt g e) (fun hm => by cases e; have h1 := DI6.out.muts _ hm; have := HGA.out; have := HK1.out; have := HK2.out; have := HK3.out; have := HK4.out; have := HK5.out; have := HK6.out; omega)))
  have HG7 := Aside0.mk ((hS.block gr (by have := HGR.out; have := HK1.out; have := HK2.out; have := HK3.out; have := HK4.out; have := HK5.out; have := HK6.out; omega) (fun hm => by have h1 := DI6.out.muts _ hm; have := HGR.out; have := HK1.out; have := HK2.out; have := HK3.out; have := HK4.out; have := HK5.out; have := HK6.out; omega)).trans HG6.out)
  have GP7 := Aside0.mk (got_keepI (W := w7) GP6.out (fun g h1 h2 => hS.block g h2 (fun hm => by have h1 := DI6.out.muts _ hm; have := HK1.out; have := HK2.out; have := HK3.out; have := HK4.out; have := HK5.out; have := HK6.out; omega)))
  have HB7 : Aside0 (Below w.heap.size w w7) := ⟨HB6.out.trans (hS.below HB6.out.size (fun g hm => by have h1 := DI6.out.muts _ hm; have := HK1.out; have := HK2.out; have := HK3.out; have := HK4.out; have := HK5.out; have := HK6.out; omega))⟩
  have HK7 := Aside0.mk hS.size
  clear hD hS hnew DI6 OI6 RA6 HG6 GP6 HB6
  go_wp2_with fail
  refine (load_len w7 DI7.out.dev 2 (by omega) (some ⟨gr, 0, none⟩) 68 la HLen.out (reads_fill HG7.out (by have := HLen.out; omega)) (by have := HLen.out; omega)).mono ?_
  rintro e w8 ⟨rfl, v8, hD, hS, hnew⟩
  have DI8 := Aside0.mk (DevIn.mono (I' := fun g => (w1.heap.size ≤ g ∧ g < w2.heap.size) ∨ (w6.heap.size ≤ g ∧ g < w8.heap.size)) (DI7.out.step hD hS (fun k hk u hu => by
    rcases mem_upd_load hu with h | h
    · exact .inl h
    · subst h; exact .inr hnew)) (fun g hg => by have h2 := hS.size; have := HK1.out; have := HK2.out; have := HK3.out; have := HK4.out; have := HK5.out; have := HK6.out; have := HK7.out; omega))
  have OI8 := Aside0.mk (OI7.out.keep (fun g hl hg => hS.block g hl (fun hm => by have h1 := DI7.out.muts g hm; have := HK1.out; have := HK2.out; have := HK3.out; have := HK4.out; have := HK5.out; have := HK6.out; have := HK7.out; omega)))
  have RA8 := Aside0.mk (RA7.out.keep (fun g e => hS.block g (RA7.out.lt g e) (fun hm => by cases e; have h1 := DI7.out.muts _ hm; have := HGA.out; have := HK1.out; have := HK2.out; have := HK3.out; have := HK4.out; have := HK5.out; have := HK6.out; have := HK7.out; omega)))
  have HG8 := Aside0.mk ((hS.block gr (by have := HGR.out; have := HK1.out; have := HK2.out; have := HK3.out; have := HK4.out; have := HK5.out; have := HK6.out; have := HK7.out; omega) (fun hm => by have h1 := DI7.out.muts _ hm; have := HGR.out; have := HK1.out; have := HK2.out; have := HK3.out; have := HK4.out; have := HK5.out; have := HK6.out; have := HK7.out; omega)).trans HG7.out)
  have GP8 := Aside0.mk (got_keepI (W := w8) GP7.out (fun g h1 h2 => hS.block g (by have := HK1.out; have := HK2.out; have := HK3.out; have := HK4.out; have := HK5.out; have := HK6.out; have := HK7.out; omega) (fun hm => by have h1 := DI7.out.muts _ hm; have := HK1.out; have := HK2.out; have := HK3.out; have := HK4.out; have := HK5.out; have := HK6.out; have := HK7.out; omega)))
  have HB8 : Aside0 (Below w.heap.size w w8) := ⟨HB7.out.trans (hS.below HB7.out.size (fun g hm => by have h1 := DI7.out.muts _ hm; have := HK1.out; have := HK2.out; have := HK3.out; have := HK4.out; have := HK5.out; have := HK6.out; have := HK7.out; omega))⟩
  have HK8 := Aside0.mk hS.size
  clear hD hS hnew DI7 OI7 RA7 HG7 GP7 HB7
  go_wp2_with fail
  refine (kept_len gr (some ⟨ga, 0, none⟩) ca la 64 HLen.out w8 HG8.out (row_read RA8.out (by have := HLen.out; omega)).2.2 (by have := HLen.out; omega)).mono ?_
  rintro e w9 ⟨rfl, hd⟩
  have hb := hd.below
  have DI9 := Aside0.mk (DI8.out.below hb)
  have OI9 := Aside0.mk (OI8.out.below hb)
  have RA9 := Aside0.mk (RA8.out.keep (fun g e => hb.block g (RA8.out.lt g e)))
  have GP9 := Aside0.mk (got_keepI (W := w9) GP8.out (fun g h1 h2 => hb.block g (by have := HK1.out; have := HK2.out; have := HK3.out; have := HK4.out; have := HK5.out; have := HK6.out; have := HK7.out; have := HK8.out; omega)))
  have RR9 : Aside0 (∃ xs : List Int, xs.length = 64 ∧ Row w9 (.slice (some ⟨gr, 0, none⟩) 64 68) (some gr) xs) := ⟨la, HLen.out, by
    have h := row_of_fill ((blk_drawn hd gr).trans HG8.out) (by have := HLen.out; omega)
    rw [HLen.out] at h
    exact h⟩
  have HB9 : Aside0 (Below w.heap.size w w9) := ⟨HB8.out.trans (hb.mono HB8.out.size)⟩
  have HK9 := Aside0.mk hb.size
  clear hd hb DI8 OI8 RA8 GP8 HG8 HB8
  go_wp2_with fail
  go_loopg [14] 64 (fun kq vi w' => ∃ i : Nat, vi = .int .i64 (i : Int) ∧ i ≤ 64 ∧ 64 - i ≤ kq ∧ Aside0 (∃ xs : List Int, xs.length = 64 ∧ Row w' (.slice (some ⟨gr, 0, none⟩) 64 68) (some gr) xs) ∧ Aside0 (Fr (fun g => g = gr) w9 w'))
  case atStart => exact ⟨0, rfl, by omega, by omega, RR9, ⟨Fr.refl _ _⟩⟩
  case round =>
    obtain ⟨i, rfl, hi, hk, HXr, HF⟩ := hrel
    by_cases hlt : i < 64
    · cases gk with
      | zero => omega
      | succ k1 =>
        obtain ⟨xs, hxs, hrow⟩ := HXr.out
        have d0 : decide ((i : Int) < 64) = true := decide_eq_true (by omega)
        have p0 : (0 : Int) ≤ (i : Int) := by omega
        have p1 : (i : Int) < 64 := by omega
        obtain ⟨g', c', u, hg', -, hcell, hfr⟩ := hrow.cell i (by omega)
        have eg : gr = g' := Option.some.inj hg'
        subst eg
        have HXR : Aside0 (∃ ys : List Int, ys.length = 64 ∧ Row (wr.setCell ⟨gr, i, none⟩ (.int .u8 y)) (.slice (some ⟨gr, 0, none⟩) 64 68) (some gr) ys) := ⟨xs.set i y, by rw [List.length_set]; exact hxs, hrow.set i y (by omega)⟩
        clear hg' hxs hrow HXr
        go_wp2
        go_roundg k1
        case measure => omega
        case rel => exact ⟨i + 1, by go_num, by omega, by omega, HXR, ⟨HF.out.setCell (.inl rfl) _⟩⟩
    · obtain rfl : i = 64 := by omega
      have d0 : decide ((64 : Int) < 64) = false := by decide
      obtain ⟨w10, rfl⟩ : ∃ w10 : World, w10 = wr := ⟨_, rfl⟩
      have DI10 := Aside0.mk (DI9.out.keep (W := w10) (fun g hl hg => HF.out.block g hl (by have := HGR.out; have := HK1.out; have := HK2.out; have := HK3.out; have := HK4.out; have := HK5.out; have := HK6.out; have := HK7.out; have := HK8.out; have := HK9.out; omega)))
      have OI10 := Aside0.mk (OI9.out.keep (W := w10) (fun g hl hg => HF.out.block g hl (by have := HGR.out; have := HK1.out; have := HK2.out; have := HK3.out; have := HK4.out; have := HK5.out; have := HK6.out; have := HK7.out; have := HK8.out; have := HK9.out; omega)))
      have RA10 := Aside0.mk (RA9.out.keep (W := w10) (fun g e => by cases e; exact HF.out.block _ (RA9.out.lt _ rfl) (by have := HGR.out; have := HGA.out; have := HK1.out; have := HK2.out; have := HK3.out; have := HK4.out; have := HK5.out; have := HK6.out; have := HK7.out; have := HK8.out; have := HK9.out; omega)))
      have GP10 := Aside0.mk (got_keepI (W := w10) GP9.out (fun g h1 h2 => HF.out.block g (by have := HK1.out; have := HK2.out; have := HK3.out; have := HK4.out; have := HK5.out; have := HK6.out; have := HK7.out; have := HK8.out; have := HK9.out; omega) (by have := HGR.out; have := HK1.out; have := HK2.out; have := HK3.out; have := HK4.out; have := HK5.out; have := HK6.out; have := HK7.out; have := HK8.out; have := HK9.out; omega)))
      have HB10 : Aside0 (Below w.heap.size w w10) := ⟨HB9.out.trans ⟨HF.out.os, HF.out.tape, HF.out.output, HF.out.size, fun k hk => HF.out.block k (by have := HK1.out; have := HK2.out; have := HK3.out; have := HK4.out; have := HK5.out; have := HK6.out; have := HK7.out; have := HK8.out; have := HK9.out; omega) (by have := HGR.out; have := HK1.out; have := HK2.out; have := HK3.out; have := HK4.out; have := HK5.out; have := HK6.out; have := HK7.out; have := HK8.out; have := HK9.out; omega)⟩⟩
      have HK10 := Aside0.mk HF.out.size
      obtain ⟨xr, hxr, hrr⟩ := HXr.out
      have HXLen := Aside0.mk hxr
      have RR10 := Aside0.mk hrr
      clear hxr hrr HXr HF DI9 OI9 RA9 GP9 HB9 RR9 d0
      go_wp2_with fail
      refine (read_yes w10 DI10.out.dev rfl 1 (by omega)).mono ?_
      rintro e w11 ⟨vb, rfl, hr_, hb_⟩
      rw [show lastOf _ = la from (by show lastOf (_ ++ [la]) = la; exact lastOf_end _ _)] at hr_
      have Gvb_11 := Aside0.mk (Got.of_R hr_)
      have DI11 := Aside0.mk (DI10.out.below hb_)
      have OI11 := Aside0.mk (OI10.out.below hb_)
      have RA11 := Aside0.mk (RA10.out.keep (fun g e => hb_.block g (RA10.out.lt g e)))
      have GP11 := Aside0.mk (got_keepI (W := w11) GP10.out (fun g h1 h2 => hb_.block g (by have := HK1.out; have := HK2.out; have := HK3.out; have := HK4.out; have := HK5.out; have := HK6.out; have := HK7.out; have := HK8.out; have := HK9.out; have := HK10.out; omega)))
      have RR11 := Aside0.mk (RR10.out.keep (fun g e => hb_.block g (RR10.out.lt g e)))
      have HB11 : Aside0 (Below w.heap.size w w11) := ⟨HB10.out.trans (hb_.mono HB10.out.size)⟩
      have HK11 := Aside0.mk hb_.size
      clear DI10 OI10 RA10 GP10 RR10 HB10
      clear hr_ hb_
      obtain ⟨Avb, cvb, e_, hc_, _⟩ := got_len Gvb_11.out HLen.out (by omega)
      subst e_
      have HCvb := Aside0.mk hc_
      clear hc_
      rename_i left_
      clear left_
      go_wp2_with fail
      refine (read_yes w11 DI11.out.dev rfl 2 (by omega)).mono ?_
      rintro e w12 ⟨vc, rfl, hr_, hb_⟩
      rw [show lastOf _ = la from (by rfl)] at hr_
      have Gvc_12 := Aside0.mk (Got.of_R hr_)
      have DI12 := Aside0.mk (DI11.out.below hb_)
      have OI12 := Aside0.mk (OI11.out.below hb_)
      have RA12 := Aside0.mk (RA11.out.keep (fun g e => hb_.block g (RA11.out.lt g e)))
      have GP12 := Aside0.mk (got_keepI (W := w12) GP11.out (fun g h1 h2 => hb_.block g (by have := HK1.out; have := HK2.out; have := HK3.out; have := HK4.out; have := HK5.out; have := HK6.out; have := HK7.out; have := HK8.out; have := HK9.out; have := HK10.out; have := HK11.out; omega)))
      have RR12 := Aside0.mk (RR11.out.keep (fun g e => hb_.block g (RR11.out.lt g e)))
      have HB12 : Aside0 (Below w.heap.size w w12) := ⟨HB11.out.trans (hb_.mono HB11.out.size)⟩
      have Gvb_12 := Aside0.mk (got_keep (W := w12) Gvb_11.out (fun g h1 h2 => hb_.block g (by have := HK1.out; have := HK2.out; have := HK3.out; have := HK4.out; have := HK5.out; have := HK6.out; have := HK7.out; have := HK8.out; have := HK9.out; have := HK10.out; have := HK11.out; omega)))
      have HK12 := Aside0.mk hb_.size
      clear DI11 OI11 RA11 GP11 RR11 HB11 Gvb_11
      clear hr_ hb_
      obtain ⟨Avc, cvc, e_, hc_, _⟩ := got_len Gvc_12.out HLen.out (by omega)
      subst e_
      have HCvc := Aside0.mk hc_
      clear hc_
      rename_i left_
      clear left_
      go_wp2_with fail
      refine (read_yes w12 DI12.out.dev rfl 1 (by omega)).mono ?_
      rintro e w13 ⟨vg, rfl, hr_, hb_⟩
      rw [show lastOf _ = la from (by show lastOf (_ ++ [la]) = la; exact lastOf_end _ _)] at hr_
      have Gvg_13 := Aside0.mk (Got.of_R hr_)
      have DI13 := Aside0.mk (DI12.out.below hb_)
      have OI13 := Aside0.mk (OI12.out.below hb_)
      have RA13 := Aside0.mk (RA12.out.keep (fun g e => hb_.block g (RA12.out.lt g e)))
      have GP13 := Aside0.mk (got_keepI (W := w13) GP12.out (fun g h1 h2 => hb_.block g (by have := HK1.out; have := HK2.out; have := HK3.out; have := HK4.out; have := HK5.out; have := HK6.out; have := HK7.out; have := HK8.out; have := HK9.out; have := HK10.out; have := HK11.out; have := HK12.out; omega)))
      have RR13 := Aside0.mk (RR12.out.keep (fun g e => hb_.block g (RR12.out.lt g e)))
      have HB13 : Aside0 (Below w.heap.size w w13) := ⟨HB12.out.trans (hb_.mono HB12.out.size)⟩
      have Gvb_13 := Aside0.mk (got_keep (W := w13) Gvb_12.out (fun g h1 h2 => hb_.block g (by have := HK1.out; have := HK2.out; have := HK3.out; have := HK4.out; have := HK5.out; have := HK6.out; have := HK7.out; have := HK8.out; have := HK9.out; have := HK10.out; have := HK11.out; have := HK12.out; omega)))
      have Gvc_13 := Aside0.mk (got_keep (W := w13) Gvc_12.out (fun g h1 h2 => hb_.block g (by have := HK1.out; have := HK2.out; have := HK3.out; have := HK4.out; have := HK5.out; have := HK6.out; have := HK7.out; have := HK8.out; have := HK9.out; have := HK10.out; have := HK11.out; have := HK12.out; omega)))
      have HK13 := Aside0.mk hb_.size
      clear DI12 OI12 RA12 GP12 RR12 HB12 Gvb_12 Gvc_12
      clear hr_ hb_
      obtain ⟨Avg, cvg, e_, hc_, _⟩ := got_len Gvg_13.out HLen.out (by omega)
      subst e_
      have HCvg := Aside0.mk hc_
      clear hc_
      rename_i left_
      clear left_
      go_wp2_with fail
      refine (waiting_calls w13 DI13.out.dev).mono ?_
      rintro e w14 ⟨vw, rfl, hr_, hb_⟩
      obtain ⟨Lvw, hL_, hG_⟩ : ∃ L : List Int, L.length ≤ 8 ∧ KeepsI.Got w14 vw L w13.heap.size w14.heap.size := ⟨_, waitN_len _ 4, igot_owns hr_⟩
      have Gvw_14 := Aside0.mk hG_
      have HLvw := Aside0.mk hL_
      clear hG_ hL_
      have DI14 := Aside0.mk (DI13.out.below hb_)
      have OI14 := Aside0.mk (OI13.out.below hb_)
      have RA14 := Aside0.mk (RA13.out.keep (fun g e => hb_.block g (RA13.out.lt g e)))
      have GP14 := Aside0.mk (got_keepI (W := w14) GP13.out (fun g h1 h2 => hb_.block g (by have := HK1.out; have := HK2.out; have := HK3.out; have := HK4.out; have := HK5.out; have := HK6.out; have := HK7.out; have := HK8.out; have := HK9.out; have := HK10.out; have := HK11.out; have := HK12.out; have := HK13.out; omega)))
      have RR14 := Aside0.mk (RR13.out.keep (fun g e => hb_.block g (RR13.out.lt g e)))
      have HB14 : Aside0 (Below w.heap.size w w14) := ⟨HB13.out.trans (hb_.mono HB13.out.size)⟩
      have Gvb_14 := Aside0.mk (got_keep (W := w14) Gvb_13.out (fun g h1 h2 => hb_.block g (by have := HK1.out; have := HK2.out; have := HK3.out; have := HK4.out; have := HK5.out; have := HK6.out; have := HK7.out; have := HK8.out; have := HK9.out; have := HK10.out; have := HK11.out; have := HK12.out; have := HK13.out; omega)))
      have Gvc_14 := Aside0.mk (got_keep (W := w14) Gvc_13.out (fun g h1 h2 => hb_.block g (by have := HK1.out; have := HK2.out; have := HK3.out; have := HK4.out; have := HK5.out; have := HK6.out; have := HK7.out; have := HK8.out; have := HK9.out; have := HK10.out; have := HK11.out; have := HK12.out; have := HK13.out; omega)))
      have Gvg_14 := Aside0.mk (got_keep (W := w14) Gvg_13.out (fun g h1 h2 => hb_.block g (by have := HK1.out; have := HK2.out; have := HK3.out; have := HK4.out; have := HK5.out; have := HK6.out; have := HK7.out; have := HK8.out; have := HK9.out; have := HK10.out; have := HK11.out; have := HK12.out; have := HK13.out; omega)))
      have HK14 := Aside0.mk hb_.size
      clear DI13 OI13 RA13 GP13 RR13 HB13 Gvb_13 Gvc_13 Gvg_13
      clear hr_ hb_
      obtain ⟨Avw, mvw, cvw, e_⟩ := igot_form Gvw_14.out
      subst e_
      go_wp2_with fail
      refine (waiting_calls w14 DI14.out.dev).mono ?_
      rintro e w15 ⟨vv, rfl, hr_, hb_⟩
      obtain ⟨Lvv, hL_, hG_⟩ : ∃ L : List Int, L.length ≤ 8 ∧ KeepsI.Got w15 vv L w14.heap.size w15.heap.size := ⟨_, waitN_len _ 4, igot_owns hr_⟩
      have Gvv_15 := Aside0.mk hG_
      have HLvv := Aside0.mk hL_
      clear hG_ hL_
      have DI15 := Aside0.mk (DI14.out.below hb_)
      have OI15 := Aside0.mk (OI14.out.below hb_)
      have RA15 := Aside0.mk (RA14.out.keep (fun g e => hb_.block g (RA14.out.lt g e)))
      have GP15 := Aside0.mk (got_keepI (W := w15) GP14.out (fun g h1 h2 => hb_.block g (by have := HK1.out; have := HK2.out; have := HK3.out; have := HK4.out; have := HK5.out; have := HK6.out; have := HK7.out; have := HK8.out; have := HK9.out; have := HK10.out; have := HK11.out; have := HK12.out; have := HK13.out; have := HK14.out; omega)))
      have RR15 := Aside0.mk (RR14.out.keep (fun g e => hb_.block g (RR14.out.lt g e)))
      have HB15 : Aside0 (Below w.heap.size w w15) := ⟨HB14.out.trans (hb_.mono HB14.out.size)⟩
      have Gvb_15 := Aside0.mk (got_keep (W := w15) Gvb_14.out (fun g h1 h2 => hb_.block g (by have := HK1.out; have := HK2.out; have := HK3.out; have := HK4.out; have := HK5.out; have := HK6.out; have := HK7.out; have := HK8.out; have := HK9.out; have := HK10.out; have := HK11.out; have := HK12.out; have := HK13.out; have := HK14.out; omega)))
      have Gvc_15 := Aside0.mk (got_keep (W := w15) Gvc_14.out (fun g h1 h2 => hb_.block g (by have := HK1.out; have := HK2.out; have := HK3.out; have := HK4.out; have := HK5.out; have := HK6.out; have := HK7.out; have := HK8.out; have := HK9.out; have := HK10.out; have := HK11.out; have := HK12.out; have := HK13.out; have := HK14.out; omega)))
      have Gvg_15 := Aside0.mk (got_keep (W := w15) Gvg_14.out (fun g h1 h2 => hb_.block g (by have := HK1.out; have := HK2.out; have := HK3.out; have := HK4.out; have := HK5.out; have := HK6.out; have := HK7.out; have := HK8.out; have := HK9.out; have := HK10.out; have := HK11.out; have := HK12.out; have := HK13.out; have := HK14.out; omega)))
      have Gvw_15 := Aside0.mk (got_keepI (W := w15) Gvw_14.out (fun g h1 h2 => hb_.block g (by have := HK1.out; have := HK2.out; have := HK3.out; have := HK4.out; have := HK5.out; have := HK6.out; have := HK7.out; have := HK8.out; have := HK9.out; have := HK10.out; have := HK11.out; have := HK12.out; have := HK13.out; have := HK14.out; omega)))
      have HK15 := Aside0.mk hb_.size
      clear DI14 OI14 RA14 GP14 RR14 HB14 Gvb_14 Gvc_14 Gvg_14 Gvw_14
      clear hr_ hb_
      obtain ⟨Avv, mvv, cvv, e_⟩ := igot_form Gvv_15.out
      subst e_
      go_wp2_with fail
      refine (same_len Avb cvb la 64 HLen.out (some ⟨ga, 0, none⟩) ca 64 HLen.out w15 (by obtain ⟨A_, c_, e_, _, h_⟩ := got_len Gvb_15.out HLen.out (by omega); cases e_; exact h_) (by have := HLen.out; have := HCvb.out; omega) (row_read RA15.out (by have := HLen.out; omega)).2.2 (row_read RA15.out (by have := HLen.out; omega)).2.1).mono ?_
      rintro e w16 ⟨rfl, hd_⟩
      have hb_ := hd_.below
      have DI16 := Aside0.mk (DI15.out.below hb_)
      have OI16 := Aside0.mk (OI15.out.below hb_)
      have RA16 := Aside0.mk (RA15.out.keep (fun g e => hb_.block g (RA15.out.lt g e)))
      have GP16 := Aside0.mk (got_keepI (W := w16) GP15.out (fun g h1 h2 => hb_.block g (by have := HK1.out; have := HK2.out; have := HK3.out; have := HK4.out; have := HK5.out; have := HK6.out; have := HK7.out; have := HK8.out; have := HK9.out; have := HK10.out; have := HK11.out; have := HK12.out; have := HK13.out; have := HK14.out; have := HK15.out; omega)))
      have RR16 := Aside0.mk (RR15.out.keep (fun g e => hb_.block g (RR15.out.lt g e)))
      have HB16 : Aside0 (Below w.heap.size w w16) := ⟨HB15.out.trans (hb_.mono HB15.out.size)⟩
      have Gvb_16 := Aside0.mk (got_keep (W := w16) Gvb_15.out (fun g h1 h2 => hb_.block g (by have := HK1.out; have := HK2.out; have := HK3.out; have := HK4.out; have := HK5.out; have := HK6.out; have := HK7.out; have := HK8.out; have := HK9.out; have := HK10.out; have := HK11.out; have := HK12.out; have := HK13.out; have := HK14.out; have := HK15.out; omega)))
      have Gvc_16 := Aside0.mk (got_keep (W := w16) Gvc_15.out (fun g h1 h2 => hb_.block g (by have := HK1.out; have := HK2.out; have := HK3.out; have := HK4.out; have := HK5.out; have := HK6.out; have := HK7.out; have := HK8.out; have := HK9.out; have := HK10.out; have := HK11.out; have := HK12.out; have := HK13.out; have := HK14.out; have := HK15.out; omega)))
      have Gvg_16 := Aside0.mk (got_keep (W := w16) Gvg_15.out (fun g h1 h2 => hb_.block g (by have := HK1.out; have := HK2.out; have := HK3.out; have := HK4.out; have := HK5.out; have := HK6.out; have := HK7.out; have := HK8.out; have := HK9.out; have := HK10.out; have := HK11.out; have := HK12.out; have := HK13.out; have := HK14.out; have := HK15.out; omega)))
      have Gvw_16 := Aside0.mk (got_keepI (W := w16) Gvw_15.out (fun g h1 h2 => hb_.block g (by have := HK1.out; have := HK2.out; have := HK3.out; have := HK4.out; have := HK5.out; have := HK6.out; have := HK7.out; have := HK8.out; have := HK9.out; have := HK10.out; have := HK11.out; have := HK12.out; have := HK13.out; have := HK14.out; have := HK15.out; omega)))
      have Gvv_16 := Aside0.mk (got_keepI (W := w16) Gvv_15.out (fun g h1 h2 => hb_.block g (by have := HK1.out; have := HK2.out; have := HK3.out; have := HK4.out; have := HK5.out; have := HK6.out; have := HK7.out; have := HK8.out; have := HK9.out; have := HK10.out; have := HK11.out; have := HK12.out; have := HK13.out; have := HK14.out; have := HK15.out; omega)))
      have HK16 := Aside0.mk hb_.size
      clear DI15 OI15 RA15 GP15 RR15 HB15 Gvb_15 Gvc_15 Gvg_15 Gvw_15 Gvv_15
      clear hd_ hb_
      go_wp2_with fail
      refine (same_len Avc cvc la 64 HLen.out (some ⟨ga, 0, none⟩) ca 64 HLen.out w16 (by obtain ⟨A_, c_, e_, _, h_⟩ := got_len Gvc_16.out HLen.out (by omega); cases e_; exact h_) (by have := HLen.out; have := HCvc.out; omega) (row_read RA16.out (by have := HLen.out; omega)).2.2 (row_read RA16.out (by have := HLen.out; omega)).2.1).mono ?_
      rintro e w17 ⟨rfl, hd_⟩
      have hb_ := hd_.below
      have DI17 := Aside0.mk (DI16.out.below hb_)
      have OI17 := Aside0.mk (OI16.out.below hb_)
      have RA17 := Aside0.mk (RA16.out.keep (fun g e => hb_.block g (RA16.out.lt g e)))
      have GP17 := Aside0.mk (got_keepI (W := w17) GP16.out (fun g h1 h2 => hb_.block g (by have := HK1.out; have := HK2.out; have := HK3.out; have := HK4.out; have := HK5.out; have := HK6.out; have := HK7.out; have := HK8.out; have := HK9.out; have := HK10.out; have := HK11.out; have := HK12.out; have := HK13.out; have := HK14.out; have := HK15.out; have := HK16.out; omega)))
      have RR17 := Aside0.mk (RR16.out.keep (fun g e => hb_.block g (RR16.out.lt g e)))
      have HB17 : Aside0 (Below w.heap.size w w17) := ⟨HB16.out.trans (hb_.mono HB16.out.size)⟩
      have Gvb_17 := Aside0.mk (got_keep (W := w17) Gvb_16.out (fun g h1 h2 => hb_.block g (by have := HK1.out; have := HK2.out; have := HK3.out; have := HK4.out; have := HK5.out; have := HK6.out; have := HK7.out; have := HK8.out; have := HK9.out; have := HK10.out; have := HK11.out; have := HK12.out; have := HK13.out; have := HK14.out; have := HK15.out; have := HK16.out; omega)))
      have Gvc_17 := Aside0.mk (got_keep (W := w17) Gvc_16.out (fun g h1 h2 => hb_.block g (by have := HK1.out; have := HK2.out; have := HK3.out; have := HK4.out; have := HK5.out; have := HK6.out; have := HK7.out; have := HK8.out; have := HK9.out; have := HK10.out; have := HK11.out; have := HK12.out; have := HK13.out; have := HK14.out; have := HK15.out; have := HK16.out; omega)))
      have Gvg_17 := Aside0.mk (got_keep (W := w17) Gvg_16.out (fun g h1 h2 => hb_.block g (by have := HK1.out; have := HK2.out; have := HK3.out; have := HK4.out; have := HK5.out; have := HK6.out; have := HK7.out; have := HK8.out; have := HK9.out; have := HK10.out; have := HK11.out; have := HK12.out; have := HK13.out; have := HK14.out; have := HK15.out; have := HK16.out; omega)))
      have Gvw_17 := Aside0.mk (got_keepI (W := w17) Gvw_16.out (fun g h1 h2 => hb_.block g (by have := HK1.out; have := HK2.out; have := HK3.out; have := HK4.out; have := HK5.out; have := HK6.out; have := HK7.out; have := HK8.out; have := HK9.out; have := HK10.out; have := HK11.out; have := HK12.out; have := HK13.out; have := HK14.out; have := HK15.out; have := HK16.out; omega)))
      have Gvv_17 := Aside0.mk (got_keepI (W := w17) Gvv_16.out (fun g h1 h2 => hb_.block g (by have := HK1.out; have := HK2.out; have := HK3.out; have := HK4.out; have := HK5.out; have := HK6.out; have := HK7.out; have := HK8.out; have := HK9.out; have := HK10.out; have := HK11.out; have := HK12.out; have := HK13.out; have := HK14.out; have := HK15.out; have := HK16.out; omega)))
      have HK17 := Aside0.mk hb_.size
      clear DI16 OI16 RA16 GP16 RR16 HB16 Gvb_16 Gvc_16 Gvg_16 Gvw_16 Gvv_16
      clear hd_ hb_
      go_wp2_with fail
      refine (same_len Avg cvg la 64 HLen.out (some ⟨ga, 0, none⟩) ca 64 HLen.out w17 (by obtain ⟨A_, c_, e_, _, h_⟩ := got_len Gvg_17.out HLen.out (by omega); cases e_; exact h_) (by have := HLen.out; have := HCvg.out; omega) (row_read RA17.out (by have := HLen.out; omega)).2.2 (row_read RA17.out (by have := HLen.out; omega)).2.1).mono ?_
      rintro e w18 ⟨rfl, hd_⟩
      have hb_ := hd_.below
      have DI18 := Aside0.mk (DI17.out.below hb_)
      have OI18 := Aside0.mk (OI17.out.below hb_)
      have RA18 := Aside0.mk (RA17.out.keep (fun g e => hb_.block g (RA17.out.lt g e)))
      have GP18 := Aside0.mk (got_keepI (W := w18) GP17.out (fun g h1 h2 => hb_.block g (by have := HK1.out; have := HK2.out; have := HK3.out; have := HK4.out; have := HK5.out; have := HK6.out; have := HK7.out; have := HK8.out; have := HK9.out; have := HK10.out; have := HK11.out; have := HK12.out; have := HK13.out; have := HK14.out; have := HK15.out; have := HK16.out; have := HK17.out; omega)))
      have RR18 := Aside0.mk (RR17.out.keep (fun g e => hb_.block g (RR17.out.lt g e)))
      have HB18 : Aside0 (Below w.heap.size w w18) := ⟨HB17.out.trans (hb_.mono HB17.out.size)⟩
      have Gvb_18 := Aside0.mk (got_keep (W := w18) Gvb_17.out (fun g h1 h2 => hb_.block g (by have := HK1.out; have := HK2.out; have := HK3.out; have := HK4.out; have := HK5.out; have := HK6.out; have := HK7.out; have := HK8.out; have := HK9.out; have := HK10.out; have := HK11.out; have := HK12.out; have := HK13.out; have := HK14.out; have := HK15.out; have := HK16.out; have := HK17.out; omega)))
      have Gvc_18 := Aside0.mk (got_keep (W := w18) Gvc_17.out (fun g h1 h2 => hb_.block g (by have := HK1.out; have := HK2.out; have := HK3.out; have := HK4.out; have := HK5.out; have := HK6.out; have := HK7.out; have := HK8.out; have := HK9.out; have := HK10.out; have := HK11.out; have := HK12.out; have := HK13.out; have := HK14.out; have := HK15.out; have := HK16.out; have := HK17.out; omega)))
      have Gvg_18 := Aside0.mk (got_keep (W := w18) Gvg_17.out (fun g h1 h2 => hb_.block g (by have := HK1.out; have := HK2.out; have := HK3.out; have := HK4.out; have := HK5.out; have := HK6.out; have := HK7.out; have := HK8.out; have := HK9.out; have := HK10.out; have := HK11.out; have := HK12.out; have := HK13.out; have := HK14.out; have := HK15.out; have := HK16.out; have := HK17.out; omega)))
      have Gvw_18 := Aside0.mk (got_keepI (W := w18) Gvw_17.out (fun g h1 h2 => hb_.block g (by have := HK1.out; have := HK2.out; have := HK3.out; have := HK4.out; have := HK5.out; have := HK6.out; have := HK7.out; have := HK8.out; have := HK9.out; have := HK10.out; have := HK11.out; have := HK12.out; have := HK13.out; have := HK14.out; have := HK15.out; have := HK16.out; have := HK17.out; omega)))
      have Gvv_18 := Aside0.mk (got_keepI (W := w18) Gvv_17.out (fun g h1 h2 => hb_.block g (by have := HK1.out; have := HK2.out; have := HK3.out; have := HK4.out; have := HK5.out; have := HK6.out; have := HK7.out; have := HK8.out; have := HK9.out; have := HK10.out; have := HK11.out; have := HK12.out; have := HK13.out; have := HK14.out; have := HK15.out; have := HK16.out; have := HK17.out; omega)))
      have HK18 := Aside0.mk hb_.size
      clear DI17 OI17 RA17 GP17 RR17 HB17 Gvb_17 Gvc_17 Gvg_17 Gvw_17 Gvv_17
      clear hd_ hb_
      go_wp2_with fail
      have S4_ : ∃ S : Nat → Prop, S = (fun g => ∃ k, k < 4 ∧ (fun k => match k with | 0 => w10.heap.size | 1 => w11.heap.size | 2 => w12.heap.size | _ => gr) k ≤ g ∧ g < (fun k => match k with | 0 => w11.heap.size | 1 => w12.heap.size | 2 => w13.heap.size | _ => gr + 1) k) := ⟨_, rfl⟩
      obtain ⟨S_, hS_⟩ := S4_
      have HSx : Aside0 (∀ g, S_ g → (w10.heap.size ≤ g ∧ g < w13.heap.size) ∨ g = gr) := ⟨by
        intro g hg
        rw [hS_] at hg
        obtain ⟨k, hk, h1, h2⟩ := hg
        rcases (by omega : k = 0 ∨ k = 1 ∨ k = 2 ∨ k = 3) with rfl | rfl | rfl | rfl <;> simp only at h1 h2 <;> (have := HK1.out; have := HK2.out; have := HK3.out; have := HK4.out; have := HK5.out; have := HK6.out; have := HK7.out; have := HK8.out; have := HK9.out; have := HK10.out; have := HK11.out; have := HK12.out; have := HK13.out; have := HK14.out; have := HK15.out; have := HK16.out; have := HK17.out; have := HK18.out; omega)⟩
      refine (apart_fr 4 4 (fun k => match k with | 0 => _ | 1 => _ | 2 => _ | _ => _) (fun k => match k with | 0 => la | 1 => la | 2 => la | _ => xr) (fun k => match k with | 0 => w10.heap.size | 1 => w11.heap.size | 2 => w12.heap.size | _ => gr) (fun k => match k with | 0 => w11.heap.size | 1 => w12.heap.size | 2 => w13.heap.size | _ => gr + 1) w18 (by omega) (by omega) ?_ ?_ ?_ _ rfl _ (pick4 _ _ _ _)).mono ?_
      · intro k hk
        rcases (by omega : k = 0 ∨ k = 1 ∨ k = 2 ∨ k = 3) with rfl | rfl | rfl | rfl
        · exact Gvb_18.out
        · exact Gvc_18.out
        · exact Gvg_18.out
        · exact got_row' RR18.out
      · intro k l hk hl hkl
        rcases (by omega : (k = 0 ∧ l = 1) ∨ (k = 0 ∧ l = 2) ∨ (k = 0 ∧ l = 3) ∨ (k = 1 ∧ l = 2) ∨ (k = 1 ∧ l = 3) ∨ (k = 2 ∧ l = 3)) with ⟨rfl, rfl⟩ | ⟨rfl, rfl⟩ | ⟨rfl, rfl⟩ | ⟨rfl, rfl⟩ | ⟨rfl, rfl⟩ | ⟨rfl, rfl⟩ <;> simp only <;> (have := HGR.out; have := HK1.out; have := HK2.out; have := HK3.out; have := HK4.out; have := HK5.out; have := HK6.out; have := HK7.out; have := HK8.out; have := HK9.out; have := HK10.out; have := HK11.out; have := HK12.out; have := HK13.out; have := HK14.out; have := HK15.out; have := HK16.out; have := HK17.out; have := HK18.out; omega)
      · intro k hk
        rcases (by omega : k = 0 ∨ k = 1 ∨ k = 2 ∨ k = 3) with rfl | rfl | rfl | rfl <;> simp only <;> (have := HLen.out; have := HXLen.out; omega)
      rintro e w19 ⟨rfl, F_⟩
      rw [← hS_] at F_
      have hb_ : ∀ g, g < w18.heap.size → ¬ S_ g → w19.heap[g]? = w18.heap[g]? := fun g hl hs => (F_.block g (by simp; omega) hs).trans (Below.heap_alloc _ _ _ hl)
      have hz_ : w18.heap.size + 1 ≤ w19.heap.size := by have := F_.size; simpa using this
      have DI19 := Aside0.mk (DI18.out.keep (W := w19) (fun g hl hg => hb_ g hl (by intro hs; have h0 := HSx.out _ hs; have := HGR.out; have := HGA.out; have := HK1.out; have := HK2.out; have := HK3.out; have := HK4.out; have := HK5.out; have := HK6.out; have := HK7.out; have := HK8.out; have := HK9.out; have := HK10.out; have := HK11.out; have := HK12.out; have := HK13.out; have := HK14.out; have := HK15.out; have := HK16.out; have := HK17.out; have := HK18.out; omega)))
      have OI19 := Aside0.mk (OI18.out.keep (W := w19) (fun g hl hg => hb_ g hl (by intro hs; have h0 := HSx.out _ hs; have := HGR.out; have := HGA.out; have := HK1.out; have := HK2.out; have := HK3.out; have := HK4.out; have := HK5.out; have := HK6.out; have := HK7.out; have := HK8.out; have := HK9.out; have := HK10.out; have := HK11.out; have := HK12.out; have := HK13.out; have := HK14.out; have := HK15.out; have := HK16.out; have := HK17.out; have := HK18.out; omega)))
      have RA19 := Aside0.mk (RA18.out.keep (W := w19) (fun g e => hb_ g (RA18.out.lt g e) (by cases e; intro hs; have h0 := HSx.out _ hs; have := HGR.out; have := HGA.out; have := HK1.out; have := HK2.out; have := HK3.out; have := HK4.out; have := HK5.out; have := HK6.out; have := HK7.out; have := HK8.out; have := HK9.out; have := HK10.out; have := HK11.out; have := HK12.out; have := HK13.out; have := HK14.out; have := HK15.out; have := HK16.out; have := HK17.out; have := HK18.out; omega)))
      have GP19 := Aside0.mk (got_keepI (W := w19) GP18.out (fun g h1 h2 => hb_ g (by have := HK1.out; have := HK2.out; have := HK3.out; have := HK4.out; have := HK5.out; have := HK6.out; have := HK7.out; have := HK8.out; have := HK9.out; have := HK10.out; have := HK11.out; have := HK12.out; have := HK13.out; have := HK14.out; have := HK15.out; have := HK16.out; have := HK17.out; have := HK18.out; omega) (by intro hs; have h0 := HSx.out _ hs; have := HGR.out; have := HGA.out; have := HK1.out; have := HK2.out; have := HK3.out; have := HK4.out; have := HK5.out; have := HK6.out; have := HK7.out; have := HK8.out; have := HK9.out; have := HK10.out; have := HK11.out; have := HK12.out; have := HK13.out; have := HK14.out; have := HK15.out; have := HK16.out; have := HK17.out; have := HK18.out; omega)))
      have HB19 : Aside0 (Below w.heap.size w w19) := ⟨HB18.out.trans ⟨F_.os, F_.tape, F_.output, by have := F_.size; simp at this; omega, fun k hk => hb_ k (by have := HK1.out; have := HK2.out; have := HK3.out; have := HK4.out; have := HK5.out; have := HK6.out; have := HK7.out; have := HK8.out; have := HK9.out; have := HK10.out; have := HK11.out; have := HK12.out; have := HK13.out; have := HK14.out; have := HK15.out; have := HK16.out; have := HK17.out; have := HK18.out; omega) (by intro hs; have h0 := HSx.out _ hs; have := HGR.out; have := HGA.out; have := HK1.out; have := HK2.out; have := HK3.out; have := HK4.out; have := HK5.out; have := HK6.out; have := HK7.out; have := HK8.out; have := HK9.out; have := HK10.out; have := HK11.out; have := HK12.out; have := HK13.out; have := HK14.out; have := HK15.out; have := HK16.out; have := HK17.out; have := HK18.out; omega)⟩⟩
      have Gvw_19 := Aside0.mk (got_keepI (W := w19) Gvw_18.out (fun g h1 h2 => hb_ g (by have := HK1.out; have := HK2.out; have := HK3.out; have := HK4.out; have := HK5.out; have := HK6.out; have := HK7.out; have := HK8.out; have := HK9.out; have := HK10.out; have := HK11.out; have := HK12.out; have := HK13.out; have := HK14.out; have := HK15.out; have := HK16.out; have := HK17.out; have := HK18.out; omega) (by intro hs; have h0 := HSx.out _ hs; have := HGR.out; have := HGA.out; have := HK1.out; have := HK2.out; have := HK3.out; have := HK4.out; have := HK5.out; have := HK6.out; have := HK7.out; have := HK8.out; have := HK9.out; have := HK10.out; have := HK11.out; have := HK12.out; have := HK13.out; have := HK14.out; have := HK15.out; have := HK16.out; have := HK17.out; have := HK18.out; omega)))
      have Gvv_19 := Aside0.mk (got_keepI (W := w19) Gvv_18.out (fun g h1 h2 => hb_ g (by have := HK1.out; have := HK2.out; have := HK3.out; have := HK4.out; have := HK5.out; have := HK6.out; have := HK7.out; have := HK8.out; have := HK9.out; have := HK10.out; have := HK11.out; have := HK12.out; have := HK13.out; have := HK14.out; have := HK15.out; have := HK16.out; have := HK17.out; have := HK18.out; omega) (by intro hs; have h0 := HSx.out _ hs; have := HGR.out; have := HGA.out; have := HK1.out; have := HK2.out; have := HK3.out; have := HK4.out; have := HK5.out; have := HK6.out; have := HK7.out; have := HK8.out; have := HK9.out; have := HK10.out; have := HK11.out; have := HK12.out; have := HK13.out; have := HK14.out; have := HK15.out; have := HK16.out; have := HK17.out; have := HK18.out; omega)))
      have HK19 := Aside0.mk (show w18.heap.size ≤ w19.heap.size by omega)
      clear F_ hb_ hz_ hS_ HSx DI18 OI18 RA18 GP18 RR18 HB18 Gvb_18 Gvc_18 Gvg_18 Gvw_18 Gvv_18
      clear S_
      go_wp2_with fail
      have S4_ : ∃ S : Nat → Prop, S = (fun g => ∃ k, k < 2 ∧ (fun k => match k with | 0 => w13.heap.size | _ => w14.heap.size) k ≤ g ∧ g < (fun k => match k with | 0 => w14.heap.size | _ => w15.heap.size) k) := ⟨_, rfl⟩
      obtain ⟨S_, hS_⟩ := S4_
      have HSx : Aside0 (∀ g, S_ g → (w13.heap.size ≤ g ∧ g < w15.heap.size)) := ⟨by
        intro g hg
        rw [hS_] at hg
        obtain ⟨k, hk, h1, h2⟩ := hg
        rcases (by omega : k = 0 ∨ k = 1) with rfl | rfl <;> simp only at h1 h2 <;> (have := HK1.out; have := HK2.out; have := HK3.out; have := HK4.out; have := HK5.out; have := HK6.out; have := HK7.out; have := HK8.out; have := HK9.out; have := HK10.out; have := HK11.out; have := HK12.out; have := HK13.out; have := HK14.out; have := HK15.out; have := HK16.out; have := HK17.out; have := HK18.out; have := HK19.out; omega)⟩
      refine (KeepsI.apart_fr 2 2 (fun k => match k with | 0 => _ | _ => _) (fun k => match k with | 0 => Lvw | _ => Lvv) (fun k => match k with | 0 => w13.heap.size | _ => w14.heap.size) (fun k => match k with | 0 => w14.heap.size | _ => w15.heap.size) w19 (by omega) (by omega) ?_ ?_ ?_ _ rfl _ (pick2 _ _)).mono ?_
      · intro k hk
        rcases (by omega : k = 0 ∨ k = 1) with rfl | rfl
        · exact Gvw_19.out
        · exact Gvv_19.out
      · intro k l hk hl hkl
        rcases (by omega : k = 0 ∧ l = 1) with ⟨rfl, rfl⟩
        simp only
        omega
      · intro k hk
        rcases (by omega : k = 0 ∨ k = 1) with rfl | rfl <;> simp only <;> (have := HLvw.out; have := HLvv.out; omega)
      rintro e w20 ⟨rfl, F_⟩
      rw [← hS_] at F_
      have hb_ : ∀ g, g < w19.heap.size → ¬ S_ g → w20.heap[g]? = w19.heap[g]? := fun g hl hs => (F_.block g (by simp; omega) hs).trans (Below.heap_alloc _ _ _ hl)
      have hz_ : w19.heap.size + 1 ≤ w20.heap.size := by have := F_.size; simpa using this
      have DI20 := Aside0.mk (DI19.out.keep (W := w20) (fun g hl hg => hb_ g hl (by intro hs; have h0 := HSx.out _ hs; have := HGR.out; have := HGA.out; have := HK1.out; have := HK2.out; have := HK3.out; have := HK4.out; have := HK5.out; have := HK6.out; have := HK7.out; have := HK8.out; have := HK9.out; have := HK10.out; have := HK11.out; have := HK12.out; have := HK13.out; have := HK14.out; have := HK15.out; have := HK16.out; have := HK17.out; have := HK18.out; have := HK19.out; omega)))
      have OI20 := Aside0.mk (OI19.out.keep (W := w20) (fun g hl hg => hb_ g hl (by intro hs; have h0 := HSx.out _ hs; have := HGR.out; have := HGA.out; have := HK1.out; have := HK2.out; have := HK3.out; have := HK4.out; have := HK5.out; have := HK6.out; have := HK7.out; have := HK8.out; have := HK9.out; have := HK10.out; have := HK11.out; have := HK12.out; have := HK13.out; have := HK14.out; have := HK15.out; have := HK16.out; have := HK17.out; have := HK18.out; have := HK19.out; omega)))
      have RA20 := Aside0.mk (RA19.out.keep (W := w20) (fun g e => hb_ g (RA19.out.lt g e) (by cases e; intro hs; have h0 := HSx.out _ hs; have := HGR.out; have := HGA.out; have := HK1.out; have := HK2.out; have := HK3.out; have := HK4.out; have := HK5.out; have := HK6.out; have := HK7.out; have := HK8.out; have := HK9.out; have := HK10.out; have := HK11.out; have := HK12.out; have := HK13.out; have := HK14.out; have := HK15.out; have := HK16.out; have := HK17.out; have := HK18.out; have := HK19.out; omega)))
      have GP20 := Aside0.mk (got_keepI (W := w20) GP19.out (fun g h1 h2 => hb_ g (by have := HK1.out; have := HK2.out; have := HK3.out; have := HK4.out; have := HK5.out; have := HK6.out; have := HK7.out; have := HK8.out; have := HK9.out; have := HK10.out; have := HK11.out; have := HK12.out; have := HK13.out; have := HK14.out; have := HK15.out; have := HK16.out; have := HK17.out; have := HK18.out; have := HK19.out; omega) (by intro hs; have h0 := HSx.out _ hs; have := HGR.out; have := HGA.out; have := HK1.out; have := HK2.out; have := HK3.out; have := HK4.out; have := HK5.out; have := HK6.out; have := HK7.out; have := HK8.out; have := HK9.out; have := HK10.out; have := HK11.out; have := HK12.out; have := HK13.out; have := HK14.out; have := HK15.out; have := HK16.out; have := HK17.out; have := HK18.out; have := HK19.out; omega)))
      have HB20 : Aside0 (Below w.heap.size w w20) := ⟨HB19.out.trans ⟨F_.os, F_.tape, F_.output, by have := F_.size; simp at this; omega, fun k hk => hb_ k (by have := HK1.out; have := HK2.out; have := HK3.out; have := HK4.out; have := HK5.out; have := HK6.out; have := HK7.out; have := HK8.out; have := HK9.out; have := HK10.out; have := HK11.out; have := HK12.out; have := HK13.out; have := HK14.out; have := HK15.out; have := HK16.out; have := HK17.out; have := HK18.out; have := HK19.out; omega) (by intro hs; have h0 := HSx.out _ hs; have := HGR.out; have := HGA.out; have := HK1.out; have := HK2.out; have := HK3.out; have := HK4.out; have := HK5.out; have := HK6.out; have := HK7.out; have := HK8.out; have := HK9.out; have := HK10.out; have := HK11.out; have := HK12.out; have := HK13.out; have := HK14.out; have := HK15.out; have := HK16.out; have := HK17.out; have := HK18.out; have := HK19.out; omega)⟩⟩
      have HK20 := Aside0.mk (show w19.heap.size ≤ w20.heap.size by omega)
      clear F_ hb_ hz_ hS_ HSx DI19 OI19 RA19 GP19 HB19 Gvw_19 Gvv_19
      clear S_
      go_wp2_with fail
      refine (crash_calls w20 DI20.out.dev l3 _ (igot_picks GP20.out (by omega) (fun g h1 h2 hm => by have h0 := DI20.out.muts g hm; have := HK1.out; have := HK2.out; have := HK3.out; have := HK4.out; have := HK5.out; have := HK6.out; have := HK7.out; have := HK8.out; have := HK9.out; have := HK10.out; have := HK11.out; have := HK12.out; have := HK13.out; have := HK14.out; have := HK15.out; have := HK16.out; have := HK17.out; have := HK18.out; have := HK19.out; have := HK20.out; omega) (fun A e a ha hm => by have h0 := DI20.out.muts _ hm; have h1 := HP0.out A e a ha; have := HK1.out; have := HK2.out; have := HK3.out; have := HK4.out; have := HK5.out; have := HK6.out; have := HK7.out; have := HK8.out; have := HK9.out; have := HK10.out; have := HK11.out; have := HK12.out; have := HK13.out; have := HK14.out; have := HK15.out; have := HK16.out; have := HK17.out; have := HK18.out; have := HK19.out; have := HK20.out; omega))).mono ?_
      rintro e w21 ⟨rfl, av21, wv21, es21, hD, hS⟩
      have DD21 := Aside0.mk hD
      have HLC := Aside0.mk (last_crash DI20.out.dev l3 2 la rfl)
      have OI21 := Aside0.mk (OI20.out.keep (W := w21) (fun g hl hg => hS.block g hl (fun hm => by have h0 := DI20.out.muts g hm; have := HK1.out; have := HK2.out; have := HK3.out; have := HK4.out; have := HK5.out; have := HK6.out; have := HK7.out; have := HK8.out; have := HK9.out; have := HK10.out; have := HK11.out; have := HK12.out; have := HK13.out; have := HK14.out; have := HK15.out; have := HK16.out; have := HK17.out; have := HK18.out; have := HK19.out; have := HK20.out; omega)))
      have RA21 := Aside0.mk (RA20.out.keep (W := w21) (fun g e => hS.block g (RA20.out.lt g e) (fun hm => by cases e; have h0 := DI20.out.muts _ hm; have := HGA.out; have := HK1.out; have := HK2.out; have := HK3.out; have := HK4.out; have := HK5.out; have := HK6.out; have := HK7.out; have := HK8.out; have := HK9.out; have := HK10.out; have := HK11.out; have := HK12.out; have := HK13.out; have := HK14.out; have := HK15.out; have := HK16.out; have := HK17.out; have := HK18.out; have := HK19.out; have := HK20.out; omega)))
      have GP21 := Aside0.mk (got_keepI (W := w21) GP20.out (fun g h1 h2 => hS.block g (by have := HK1.out; have := HK2.out; have := HK3.out; have := HK4.out; have := HK5.out; have := HK6.out; have := HK7.out; have := HK8.out; have := HK9.out; have := HK10.out; have := HK11.out; have := HK12.out; have := HK13.out; have := HK14.out; have := HK15.out; have := HK16.out; have := HK17.out; have := HK18.out; have := HK19.out; have := HK20.out; omega) (fun hm => by have h0 := DI20.out.muts g hm; have := HK1.out; have := HK2.out; have := HK3.out; have := HK4.out; have := HK5.out; have := HK6.out; have := HK7.out; have := HK8.out; have := HK9.out; have := HK10.out; have := HK11.out; have := HK12.out; have := HK13.out; have := HK14.out; have := HK15.out; have := HK16.out; have := HK17.out; have := HK18.out; have := HK19.out; have := HK20.out; omega)))
      have HB21 : Aside0 (Below w.heap.size w w21) := ⟨HB20.out.trans (hS.below HB20.out.size (fun g hm => by have h0 := DI20.out.muts g hm; have := HK1.out; have := HK2.out; have := HK3.out; have := HK4.out; have := HK5.out; have := HK6.out; have := HK7.out; have := HK8.out; have := HK9.out; have := HK10.out; have := HK11.out; have := HK12.out; have := HK13.out; have := HK14.out; have := HK15.out; have := HK16.out; have := HK17.out; have := HK18.out; have := HK19.out; have := HK20.out; omega))⟩
      have HK21 := Aside0.mk hS.size
      clear hD hS DI20 OI20 RA20 GP20 HB20
      go_wp2_with fail
      refine (read_yes w21 OI21.out.dev rfl 1 (by omega)).mono ?_
      rintro e w22 ⟨vz, rfl, hr_, hb_⟩
      rw [show lastOf [zeros 64] = zeros 64 from rfl] at hr_
      have GZ := Aside0.mk (Got.of_R hr_)
      have DD22 := Aside0.mk (DD21.out.below hb_)
      have RA22 := Aside0.mk (RA21.out.keep (fun g e => hb_.block g (RA21.out.lt g e)))
      have GP22 := Aside0.mk (got_keepI (W := w22) GP21.out (fun g h1 h2 => hb_.block g (by have := HK1.out; have := HK2.out; have := HK3.out; have := HK4.out; have := HK5.out; have := HK6.out; have := HK7.out; have := HK8.out; have := HK9.out; have := HK10.out; have := HK11.out; have := HK12.out; have := HK13.out; have := HK14.out; have := HK15.out; have := HK16.out; have := HK17.out; have := HK18.out; have := HK19.out; have := HK20.out; have := HK21.out; omega)))
      have HB22 : Aside0 (Below w.heap.size w w22) := ⟨HB21.out.trans (hb_.mono HB21.out.size)⟩
      clear hr_ hb_ DD21 OI21 RA21 GP21 HB21
      obtain ⟨A6, c6, e6, hc6, hr6, _⟩ := igot_picks (M := fun _ => False) GP22.out (by omega) (fun _ _ _ h => h) (fun _ _ _ _ h => h)
      subst e6
      have HR6 := Aside0.mk hr6
      have HC6 := Aside0.mk hc6
      obtain ⟨Az, cz, ez, hcz, hrz⟩ := got_len GZ.out (show (zeros 64).length = 64 by simp [zeros]) (by omega)
      subst ez
      have HZ := Aside0.mk (And.intro hcz hrz)
      have HSI := Aside0.mk (ints_self l3 hl3)
      have hmb : ∀ W, (Instr.makeSlice 29 (.int .i64 64) (.int .i64 64)).run Try.prog W = .ok (.slice (some ⟨W.heap.size, 0, none⟩) 64 64) (W.alloc (.cells (madeCells #[.int .u8 0] 64) 5)) := fun W => make_bytes 64 (by omega) W
      clear hr6 hc6 hcz hrz GP22 GZ
      go_wp2_with fail
      refine (skerryref01_SameInts.calls _ A6 c6 l3 A3 c3 l3 true w22 (row_i64 HR6.out) HC6.out (Kd.C_below (row_i64 R3.out) HB22.out) HC3.out HSI.out).mono ?_
      rintro e w23 ⟨rfl, hd_⟩
      have HB23 : Aside0 (Below w.heap.size w w23) := ⟨HB22.out.trans (hd_.below.mono HB22.out.size)⟩
      have DD23 := Aside0.mk (DD22.out.below hd_.below)
      have RA23 := Aside0.mk (RA22.out.keep (fun g e => hd_.below.block g (RA22.out.lt g e)))
      have HZ23 := Aside0.mk (HZ.out.2.below hd_.below)
      clear hd_ DD22 RA22 HB22
      go_wp2_with fail
      refine (same_len Az cz (zeros 64) 64 (by simp [zeros]) (some ⟨w23.heap.size, 0, none⟩) 64 64 (by simp [zeros]) _ (HZ23.out.below (below_alloc (Below.refl _ _) _)) (by have := HZ.out.1; simp [zeros]; omega) (row_read (row_made w23 64 (by omega)) (by simp [zeros])).2.2 (by simp [zeros])).mono ?_
      rintro e w24 ⟨rfl, hd_⟩
      have hb_ : Below w23.heap.size w23 w24 := (below_alloc (Below.refl _ _) _).trans (hd_.below.mono (by simp))
      have HB24 : Aside0 (Below w.heap.size w w24) := ⟨HB23.out.trans (hb_.mono HB23.out.size)⟩
      have DD24 := Aside0.mk (DD23.out.below hb_)
      have RA24 := Aside0.mk (RA23.out.keep (fun g e => hb_.block g (RA23.out.lt g e)))
      clear hd_ hb_ DD23 RA23 HB23 hmb
      go_wp2_with fail
      refine (read_yes w24 DD24.out rfl 2 (by omega)).mono ?_
      rintro e w25 ⟨vy, rfl, hr_, hb_⟩
      rw [HLC.out] at hr_
      have HB25 : Aside0 (Below w.heap.size w w25) := ⟨HB24.out.trans (hb_.mono HB24.out.size)⟩
      have RA25 := Aside0.mk (RA24.out.keep (fun g e => hb_.block g (RA24.out.lt g e)))
      obtain ⟨Ay, cy, ey, hcy, hry⟩ := got_len (Got.of_R hr_) HLen.out (by omega)
      subst ey
      have HY := Aside0.mk (And.intro hcy hry)
      clear hr_ hb_ hcy hry RA24 DD24 HB24
      go_wp2_with fail
      refine (same_len Ay cy la 64 HLen.out (some ⟨ga, 0, none⟩) ca 64 HLen.out w25 HY.out.2 (by have := HLen.out; have := HY.out.1; omega) (row_read RA25.out (by have := HLen.out; omega)).2.2 (row_read RA25.out (by have := HLen.out; omega)).2.1).mono ?_
      rintro e w26 ⟨rfl, hd_⟩
      have HD26 := Aside0.mk hd_
      clear hd_
      go_wp2_with fail
      go_ret
      exact ⟨rfl, HB25.out.trans (HD26.out.below.mono HB25.out.size)⟩
theorem keeps_row (x y : Int) (A3 : Option Addr) (c3 : Nat) (l3 : List Int) (w : World) (_ : (Lit.int .u8 x).wf = true) (_ : (Lit.int .u8 y).wf = true) (hr3 : ReadsInt w .i64 A3 l3.length l3) (hc3 : l3.length ≤ c3) (hw3 : ∀ x ∈ l3, (Lit.int .i64 x).wf = true) (hy3 : l3.length * 8 ≤ 140737488351232) :
    Calls Try.prog 4 #[.int .u8 x, .int .u8 y, .slice A3 l3.length c3] w fun e w' => e = .returned (.bool true) ∧ Below w.heap.size w w' :=
  keeps_main x y A3 c3 l3 w hr3 hc3 (by omega)
end Go.Proofs.Ytenomjfaodfjhaa.Keeps
