/- What is handed in is not changed, what is answered is new memory: the walk. -/
import Derived.Test.YtbplffdmggbcdaaDoorKKUndesc
import Derived.Test.YtbplffdmggbcdaaDoorKKUnhead
import Derived.Test.YtbplffdmggbcdaaDoorKKUndir
import Derived.Test.YtbplffdmggbcdaaDoorKKUnrec
import Derived.Test.YtbplffdmggbcdaaDoorKKWakes
import Derived.Test.YtbplffdmggbcdaaDoorKGot
import Derived.Test.YtbplffdmggbcdaaDoorKIGot
import Derived.Deep.CutRange
import Derived.Outline
namespace Go.Proofs.YtbplffdmggbcdaaDoor.Codec
open Go.RowKit Go.Proofs.YtbplffdmggbcdaaDoor.PCodecKeeps Go.Proofs.YtbplffdmggbcdaaDoor.Plain Go.Proofs.YtbplffdmggbcdaaDoor.Pure Go.Proofs.YtbplffdmggbcdaaDoorW.PrintWords Go.Proofs.YtbplffdmggbcdaaDoorW.PrintLast Go.Proofs.YtbplffdmggbcdaaDoorW.PrintMore
set_option linter.unusedVariables false
set_option linter.unusedSimpArgs false

def GotB (W : World) (v : Value) (xs : List Int) (lo hi : Nat) : Prop := Keeps.Got W v xs lo hi ∧ hi ≤ W.heap.size
theorem GotB.below {W W' : World} {v : Value} {xs : List Int} {lo hi : Nat} (h : GotB W v xs lo hi) (hb : Below W.heap.size W W') : GotB W' v xs lo hi := ⟨h.1.below hb h.2, Nat.le_trans h.2 hb.size⟩
theorem GotB.form {W : World} {v : Value} {xs : List Int} {lo hi : Nat} (h : GotB W v xs lo hi) : ∃ A n c, v = .slice A n c := by
  obtain ⟨⟨b, h1, _⟩, _⟩ := h
  obtain ⟨A, c, e⟩ := h1.rd.form
  exact ⟨A, _, c, e⟩
def GotI (W : World) (v : Value) (xs : List Int) (lo hi : Nat) : Prop := KeepsI.Got W v xs lo hi ∧ hi ≤ W.heap.size
theorem GotI.below {W W' : World} {v : Value} {xs : List Int} {lo hi : Nat} (h : GotI W v xs lo hi) (hb : Below W.heap.size W W') : GotI W' v xs lo hi := ⟨h.1.below hb h.2, Nat.le_trans h.2 hb.size⟩
theorem GotI.form {W : World} {v : Value} {xs : List Int} {lo hi : Nat} (h : GotI W v xs lo hi) : ∃ A n c, v = .slice A n c := by
  obtain ⟨⟨b, h1, _⟩, _⟩ := h
  obtain ⟨A, c, e⟩ := h1.rd.form
  exact ⟨A, _, c, e⟩
theorem GotI.fr {S : Nat → Prop} {W W' : World} {v : Value} {xs : List Int} {lo hi : Nat} (h : GotI W v xs lo hi) (hf : Keeps.Fr S W W') (hS : ∀ g, lo ≤ g → g < hi → ¬ S g) : GotI W' v xs lo hi := by
  obtain ⟨⟨b, h1, h2⟩, h3⟩ := h
  exact ⟨⟨b, h1.keep fun g hg => hf.block g (by have := (h2 g hg).2; omega) (hS g (h2 g hg).1 (h2 g hg).2), h2⟩, Nat.le_trans h3 hf.size⟩
theorem recRes_form (u : List Int × Int × Int) : ∃ x y z, recRes u = .tuple #[x, .int .i64 y, .int .i64 z] := by
  unfold recRes
  split
  · split <;> exact ⟨_, _, _, rfl⟩
  · exact ⟨_, _, _, rfl⟩
theorem same_l0 (l : List Int) (hl : l.length ≤ 9223372036854775806) : ∀ n i : Nat, i + n = l.length → skerryref01_SameInts.l0 (n + 1) l l (i : Int) = some true
  | 0, i, h => by
    unfold skerryref01_SameInts.l0
    rw [if_neg (by omega)]
  | n + 1, i, h => by
    unfold skerryref01_SameInts.l0
    rw [if_pos (by omega), if_pos (by omega), if_pos (by omega), if_pos rfl, w64 (by omega) (by omega)]
    exact same_l0 l hl n (i + 1) (by omega)
theorem same_ints (l : List Int) (hl : l.length ≤ 9223372036854775806) : skerryref01_SameInts.f (l.length + 1) l l = some true := by
  unfold skerryref01_SameInts.f
  rw [if_pos rfl]
  exact same_l0 l hl l.length 0 (by omega)
theorem pick2 (a b : Value) : ∀ k, k < 2 → #[a, b][k]? = some ((fun k => match k with | 0 => a | _ => b) k) := by
  intro k hk
  rcases (by omega : k = 0 ∨ k = 1) with rfl | rfl <;> rfl
theorem pick3 (a b c : Value) : ∀ k, k < 3 → #[a, b, c][k]? = some ((fun k => match k with | 0 => a | 1 => b | _ => c) k) := by
  intro k hk
  rcases (by omega : k = 0 ∨ k = 1 ∨ k = 2) with rfl | rfl | rfl <;> rfl
theorem irow_lit0 (W : World) : (Kd.int .i64).R 3 (W.alloc (.cells #[] 3)) W.heap.size (fun _ => True) (.slice (some ⟨W.heap.size, 0, none⟩) 0 0) [] :=
  Kd.R_of_own (enc := Value.int .i64) (h1 := fun _ => rfl) (own_lit W W.heap.size 3 .i64 [] (Nat.le_refl _) (by decide)) (fun _ _ => trivial)
set_option maxHeartbeats 4000000 in
set_option maxRecDepth 100000 in
theorem keeps_main (A1 : Option Addr) (c1 : Nat) (list : List Int) (A2 : Option Addr) (c2 : Nat) (b : List Int) (w : World) (hr1 : ReadsInt w .i64 A1 list.length list) (hc1 : list.length ≤ c1) (hl1 : list.length ≤ 17592186043904) (hr2 : ReadsInt w .u8 A2 b.length b) (hy : Bytes b) (hl2 : b.length ≤ 140737488351232) :
    Calls Tryd.prog 5 #[.slice A1 list.length c1, .slice A2 b.length c2] w fun e w' => e = .returned (.bool true) ∧ Below w.heap.size w w' := by
  have R1 := Aside0.mk hr1
  have R2 := Aside0.mk hr2
  have HC1 := Aside0.mk hc1
  have HLL := Aside0.mk hl1
  have HLB := Aside0.mk (And.intro hy hl2)
  obtain ⟨⟨m0, m1, m2, m3, m4, m5, m6, m7, m8, m9, m10, m11, m12⟩, hsu⟩ : ∃ u, unsuperOut b = u := ⟨_, rfl⟩
  obtain ⟨⟨k0, k1, k2, k3⟩, hhu⟩ : ∃ u, unheadOut b = u := ⟨_, rfl⟩
  have HSU : ∀ gr, Aside0 (∀ W, _ → _) := fun gr => ⟨fun W h => unsuper_calls (some ⟨gr, 0, none⟩) (b.length + 4) b W h (by omega) hy hl2 m0 m1 m2 m3 m4 m5 m6 m7 m8 m9 m10 m11 m12 hsu⟩
  have HHU : ∀ gr, Aside0 (∀ W, _ → _) := fun gr => ⟨fun W h => unheader_calls (some ⟨gr, 0, none⟩) (b.length + 4) b W h (by omega) hy hl2 k0 k1 k2 k3 hhu⟩
  have hfit : (0 + list.length) * 8 ≤ 140737488355328 := by omega
  clear hr1 hr2 hc1 hl1 hy hl2 hsu hhu
  go_enter Tryd.func5, Tryd.ntmps5
  go_wp2_with fail
  refine (wakes_calls _).mono ?_
  rintro e w1 ⟨rfl, hb⟩
  have HB1 := Aside0.mk hb
  clear hb
  go_wp2_with fail
  refine (Keeps.roomy_calls A2 c2 b w1 (R2.out.below HB1.out) (by have := HLB.out.2; omega)).mono ?_
  rintro e w2 ⟨rfl, hg2, hb⟩
  obtain ⟨gr, hgr⟩ : ∃ gr, w1.heap.size = gr := ⟨_, rfl⟩
  have HB2 := Aside0.mk (below_then HB1.out HB1.out.size hb)
  have HZ0 : Aside0 (w.heap.size ≤ w1.heap.size) := ⟨HB1.out.size⟩
  have HZ1 : Aside0 (w1.heap.size ≤ w2.heap.size) := ⟨hb.size⟩
  rw [hgr] at hg2 ⊢
  have HG2 := Aside0.mk hg2
  have HZK : Aside0 (gr < w2.heap.size) := ⟨blk_lt hg2⟩
  clear hg2 hb HB1 hgr
  replace HSU := HSU gr
  replace HHU := HHU gr
  have hsz : (w2.alloc (.cells #[] 3)).heap.size = w2.heap.size + 1 := by simp
  go_wp2_with ((with_reducible refine gate_builtin (b := .append) (xs := #[.tmp 21, .tmp 22]) rfl ?_); at_builtin; refine Kd.R_append_rows (Kd.int .i64) (w0 := w2) w2.heap.size rfl (.tmp 21) (.tmp 22) 59 3 (.int .i64 0) 8 rfl Tryd.underlying59 info3i rfl (by decide) (by omega) (.slice (some ⟨w2.heap.size, 0, none⟩) 0 0) [] list A1 list.length c1 (fun _ => True) (fun _ => False) (by rfl) (by rfl) (irow_lit0 w2) (Kd.C_below (ireads_C (R1.out.below HB2.out)) (below_alloc (Below.refl _ _) _)) (fun _ _ h => h) (fun _ h => h.elim) (fun _ _ => trivial) (below_alloc (Below.refl _ _) _) (by rw [hsz]; omega) hfit ?_; intro v4 w4 ho hb hg hat; have HG := Aside0.mk (blk_below HG2.out hb); have HB := Aside0.mk (below_then HB2.out HB2.out.size hb); (obtain ⟨A6, c6, rfl, hc6, hC6⟩ := irow_reads ho); have HCL : Aside0 (Kd.C (Kd.int .i64) w4 A6 list.length list) := ⟨hC6⟩; have HC6 : Aside0 (list.length ≤ c6) := ⟨hc6⟩; have HGL := Aside0.mk (show GotI w4 (.slice A6 list.length c6) list w2.heap.size w4.heap.size from ⟨KeepsI.Got.of_R ho, Nat.le_refl _⟩); have HZ4 := Aside0.mk hb.size; clear ho hb hg hat hc6 hC6 HB2 HG2 hfit hsz)
  go_wp2_with fail
  ((refine (desc_any 5 A6 c6 list 128 w4 (iC_reads HCL.out) (by have := HLL.out; omega) (iarg_lt HCL.out)).mono ?_); rintro e w5 ⟨vx, Lx, ex, rfl, hR, hLn, hb⟩)
  replace HG := Aside0.mk (blk_below HG.out hb); replace HCL := Aside0.mk (Kd.C_below HCL.out hb); replace HGL := Aside0.mk (HGL.out.below hb); replace HB := Aside0.mk (below_then HB.out HB.out.size hb)
  have HZ5 := Aside0.mk hb.size
  have GVx := Aside0.mk ((show GotB w5 vx Lx w4.heap.size w5.heap.size from ⟨Keeps.Got.of_R hR, Nat.le_refl _⟩))
  clear hb
  have HLnx := Aside0.mk hLn
  clear hR hLn
  go_wp2_with fail
  ((refine (desc_any 5 A6 c6 list 128 w5 (iC_reads HCL.out) (by have := HLL.out; omega) (iarg_lt HCL.out)).mono ?_); rintro e w6 ⟨vy, Ly, ey, rfl, hR, hLn, hb⟩)
  replace HG := Aside0.mk (blk_below HG.out hb); replace HCL := Aside0.mk (Kd.C_below HCL.out hb); replace HGL := Aside0.mk (HGL.out.below hb); replace GVx := Aside0.mk (GVx.out.below hb); replace HB := Aside0.mk (below_then HB.out HB.out.size hb)
  have HZ6 := Aside0.mk hb.size
  have GVy := Aside0.mk ((show GotB w6 vy Ly w5.heap.size w6.heap.size from ⟨Keeps.Got.of_R hR, Nat.le_refl _⟩))
  clear hb
  have HLny := Aside0.mk hLn
  clear hR hLn
  go_wp2_with fail
  ((refine (undesc_any (some ⟨gr, 0, none⟩) (b.length + 4) b w6 (Keeps.row_int (Keeps.reads_fill HG.out (by have := HLB.out.2; omega))) (by omega) HLB.out.1 HLB.out.2).mono ?_); rintro e w7 ⟨sp, vp, Lp, ep, rfl, hR, hLn, hb⟩)
  replace HG := Aside0.mk (blk_below HG.out hb); replace HCL := Aside0.mk (Kd.C_below HCL.out hb); replace HGL := Aside0.mk (HGL.out.below hb); replace GVx := Aside0.mk (GVx.out.below hb); replace GVy := Aside0.mk (GVy.out.below hb); replace HB := Aside0.mk (below_then HB.out HB.out.size hb)
  have HZ7 := Aside0.mk hb.size
  have GVp := Aside0.mk ((show GotI w7 vp Lp w6.heap.size w7.heap.size from ⟨KeepsI.Got.of_R hR, Nat.le_refl _⟩))
  clear hb
  have HLnp := Aside0.mk hLn
  clear hR hLn
  go_wp2_with fail
  ((refine (undesc_any (some ⟨gr, 0, none⟩) (b.length + 4) b w7 (Keeps.row_int (Keeps.reads_fill HG.out (by have := HLB.out.2; omega))) (by omega) HLB.out.1 HLB.out.2).mono ?_); rintro e w8 ⟨sq, vq, Lq, eq, rfl, hR, hLn, hb⟩)
  replace HG := Aside0.mk (blk_below HG.out hb); replace HCL := Aside0.mk (Kd.C_below HCL.out hb); replace HGL := Aside0.mk (HGL.out.below hb); replace GVx := Aside0.mk (GVx.out.below hb); replace GVy := Aside0.mk (GVy.out.below hb); replace GVp := Aside0.mk (GVp.out.below hb); replace HB := Aside0.mk (below_then HB.out HB.out.size hb)
  have HZ8 := Aside0.mk hb.size
  have GVq := Aside0.mk ((show GotI w8 vq Lq w7.heap.size w8.heap.size from ⟨KeepsI.Got.of_R hR, Nat.le_refl _⟩))
  clear hb
  have HLnq := Aside0.mk hLn
  clear hR hLn
  go_wp2_with fail
  ((refine (HSU.out w8 (Keeps.row_int (Keeps.reads_fill HG.out (by have := HLB.out.2; omega)))).mono ?_); rintro e w9 ⟨rfl, hb⟩)
  replace HG := Aside0.mk (blk_below HG.out hb); replace HCL := Aside0.mk (Kd.C_below HCL.out hb); replace HGL := Aside0.mk (HGL.out.below hb); replace GVx := Aside0.mk (GVx.out.below hb); replace GVy := Aside0.mk (GVy.out.below hb); replace GVp := Aside0.mk (GVp.out.below hb); replace GVq := Aside0.mk (GVq.out.below hb); replace HB := Aside0.mk (below_then HB.out HB.out.size hb)
  have HZ9 := Aside0.mk hb.size
  clear hb
  go_wp2_with fail
  ((refine (HHU.out w9 (Keeps.row_int (Keeps.reads_fill HG.out (by have := HLB.out.2; omega)))).mono ?_); rintro e w10 ⟨rfl, hb⟩)
  replace HG := Aside0.mk (blk_below HG.out hb); replace HCL := Aside0.mk (Kd.C_below HCL.out hb); replace HGL := Aside0.mk (HGL.out.below hb); replace GVx := Aside0.mk (GVx.out.below hb); replace GVy := Aside0.mk (GVy.out.below hb); replace GVp := Aside0.mk (GVp.out.below hb); replace GVq := Aside0.mk (GVq.out.below hb); replace HB := Aside0.mk (below_then HB.out HB.out.size hb)
  have HZ10 := Aside0.mk hb.size
  clear hb
  have HUN := Aside0.mk (uninode_calls (some ⟨gr, 0, none⟩) (b.length + 4) b w10 (Keeps.row_int (Keeps.reads_fill HG.out (by have := HLB.out.2; omega))) (by omega) HLB.out.1 HLB.out.2)
  generalize aggI (uniVals b) = ga at HUN
  go_wp2_with fail
  ((refine (HUN.out).mono ?_); rintro e w11 ⟨rfl, hb⟩)
  replace HG := Aside0.mk (blk_below HG.out hb); replace HCL := Aside0.mk (Kd.C_below HCL.out hb); replace HGL := Aside0.mk (HGL.out.below hb); replace GVx := Aside0.mk (GVx.out.below hb); replace GVy := Aside0.mk (GVy.out.below hb); replace GVp := Aside0.mk (GVp.out.below hb); replace GVq := Aside0.mk (GVq.out.below hb); replace HB := Aside0.mk (below_then HB.out HB.out.size hb)
  have HZ11 := Aside0.mk hb.size
  clear hb
  clear HUN
  go_wp2_with fail
  ((refine (undirent_calls (some ⟨gr, 0, none⟩) (b.length + 4) b w11 (Keeps.row_int (Keeps.reads_fill HG.out (by have := HLB.out.2; omega))) (by omega) HLB.out.1 HLB.out.2).mono ?_); rintro e w12 ⟨rfl, hb⟩)
  replace HG := Aside0.mk (blk_below HG.out hb); replace HCL := Aside0.mk (Kd.C_below HCL.out hb); replace HGL := Aside0.mk (HGL.out.below hb); replace GVx := Aside0.mk (GVx.out.below hb); replace GVy := Aside0.mk (GVy.out.below hb); replace GVp := Aside0.mk (GVp.out.below hb); replace GVq := Aside0.mk (GVq.out.below hb); replace HB := Aside0.mk (below_then HB.out HB.out.size hb)
  have HZ12 := Aside0.mk hb.size
  clear hb
  have HUR := Aside0.mk (unrecord_calls (some ⟨gr, 0, none⟩) (b.length + 4) b 0 w12 (Keeps.row_int (Keeps.reads_fill HG.out (by have := HLB.out.2; omega))) (by omega) HLB.out.1 HLB.out.2 (by omega))
  obtain ⟨rx, ry, rz, hrr⟩ := recRes_form (unf b 0)
  rw [hrr] at HUR
  clear hrr
  go_wp2_with fail
  ((refine (HUR.out).mono ?_); rintro e w13 ⟨rfl, hb⟩)
  replace HG := Aside0.mk (blk_below HG.out hb); replace HCL := Aside0.mk (Kd.C_below HCL.out hb); replace HGL := Aside0.mk (HGL.out.below hb); replace GVx := Aside0.mk (GVx.out.below hb); replace GVy := Aside0.mk (GVy.out.below hb); replace GVp := Aside0.mk (GVp.out.below hb); replace GVq := Aside0.mk (GVq.out.below hb); replace HB := Aside0.mk (below_then HB.out HB.out.size hb)
  have HZ13 := Aside0.mk hb.size
  clear hb
  clear HUR
  go_wp2_with fail
  ((refine (skerryref01_SameInts.calls (list.length + 1) A6 c6 list A1 c1 list true w13 HCL.out HC6.out (ireads_C (R1.out.below HB.out)) HC1.out (same_ints list (by have := HLL.out; omega))).mono ?_); rintro e w14 ⟨rfl, hd⟩)
  have hb := hd.below
  replace HG := Aside0.mk (blk_below HG.out hb); replace HCL := Aside0.mk (Kd.C_below HCL.out hb); replace HGL := Aside0.mk (HGL.out.below hb); replace GVx := Aside0.mk (GVx.out.below hb); replace GVy := Aside0.mk (GVy.out.below hb); replace GVp := Aside0.mk (GVp.out.below hb); replace GVq := Aside0.mk (GVq.out.below hb); replace HB := Aside0.mk (below_then HB.out HB.out.size hb)
  have HZ14 := Aside0.mk hb.size
  clear hb hd
  go_wp2_with fail
  ((refine (Keeps.kept_calls gr A2 c2 b w14 HG.out (R2.out.below HB.out) (by have := HLB.out.2; omega)).mono ?_); rintro e w15 ⟨rfl, hd⟩)
  have hb := hd.below
  replace HG := Aside0.mk (blk_below HG.out hb); replace HCL := Aside0.mk (Kd.C_below HCL.out hb); replace HGL := Aside0.mk (HGL.out.below hb); replace GVx := Aside0.mk (GVx.out.below hb); replace GVy := Aside0.mk (GVy.out.below hb); replace GVp := Aside0.mk (GVp.out.below hb); replace GVq := Aside0.mk (GVq.out.below hb); replace HB := Aside0.mk (below_then HB.out HB.out.size hb)
  have HZ15 := Aside0.mk hb.size
  clear hb hd
  obtain ⟨Ax, nx, cx, rfl⟩ := GVx.out.form
  obtain ⟨Ay, ny, cy, rfl⟩ := GVy.out.form
  obtain ⟨Ap, np, cp, rfl⟩ := GVp.out.form
  obtain ⟨Aq, nq, cq, rfl⟩ := GVq.out.form
  go_wp2_with fail
  refine (Keeps.apart_fr 2 2 (fun k => match k with | 0 => _ | _ => _) (fun k => match k with | 0 => Lx | _ => Ly) (fun k => match k with | 0 => w4.heap.size | _ => w5.heap.size) (fun k => match k with | 0 => w5.heap.size | _ => w6.heap.size) w15 (by omega) (by omega) ?_ ?_ ?_ _ rfl _ (pick2 _ _)).mono ?_
  · intro k hk
    rcases (by omega : k = 0 ∨ k = 1) with rfl | rfl
    · exact GVx.out.1
    · exact GVy.out.1
  · intro k l hk hl hkl
    have := HZ4.out; have := HZ5.out; have := HZ6.out; have := HZ7.out; have := HZ8.out; have := HZ9.out; have := HZ10.out; have := HZ11.out; have := HZ12.out; have := HZ13.out; have := HZ14.out; have := HZ15.out; have := HZ0.out; have := HZ1.out; have := HZK.out
    rcases (by omega : k = 0 ∧ l = 1) with ⟨rfl, rfl⟩
    refine .inl ?_
    simp only
    omega
  · intro k hk
    have := HLnx.out; have := HLny.out
    rcases (by omega : k = 0 ∨ k = 1) with rfl | rfl <;> simp only <;> omega
  rintro e wf ⟨rfl, hf⟩
  have hS : ∀ g, (fun g => ∃ k, k < 2 ∧ (fun k => match k with | 0 => w4.heap.size | _ => w5.heap.size) k ≤ g ∧ g < (fun k => match k with | 0 => w5.heap.size | _ => w6.heap.size) k) g → w4.heap.size ≤ g ∧ g < w6.heap.size := by
    rintro g ⟨k, hk, h1, h2⟩
    have := HZ4.out; have := HZ5.out; have := HZ6.out; have := HZ7.out; have := HZ8.out; have := HZ9.out; have := HZ10.out; have := HZ11.out; have := HZ12.out; have := HZ13.out; have := HZ14.out; have := HZ15.out; have := HZ0.out; have := HZ1.out; have := HZK.out
    rcases (by omega : k = 0 ∨ k = 1) with rfl | rfl <;> simp only at h1 h2 <;> omega
  have hb : Below w15.heap.size w15 (w15.alloc (.cells #[.slice Ax nx cx, .slice Ay ny cy] 27)) := below_alloc (Below.refl _ _) _
  replace HG := Aside0.mk (blk_below HG.out hb); replace HCL := Aside0.mk (Kd.C_below HCL.out hb); replace HGL := Aside0.mk (HGL.out.below hb); replace GVx := Aside0.mk (GVx.out.below hb); replace GVy := Aside0.mk (GVy.out.below hb); replace GVp := Aside0.mk (GVp.out.below hb); replace GVq := Aside0.mk (GVq.out.below hb); replace HB := Aside0.mk (below_then HB.out HB.out.size hb)
  have hzA : w15.heap.size ≤ (w15.alloc (.cells #[.slice Ax nx cx, .slice Ay ny cy] 27)).heap.size := hb.size
  have HGf : Aside0 (wf.heap[gr]? = _) := ⟨(hf.block gr (blk_lt HG.out) (fun h => by have := (hS gr h).1; have := HZ4.out; have := HZ5.out; have := HZ6.out; have := HZ7.out; have := HZ8.out; have := HZ9.out; have := HZ10.out; have := HZ11.out; have := HZ12.out; have := HZ13.out; have := HZ14.out; have := HZ15.out; have := HZ0.out; have := HZ1.out; have := HZK.out; omega)).trans HG.out⟩
  have HBf : Aside0 (Below w.heap.size w wf) := ⟨HB.out.trans ⟨hf.os, hf.tape, hf.output, hf.size, fun k hk => hf.block k (by have := HB.out.size; omega) (fun h => by have := (hS k h).1; have := HZ4.out; have := HZ5.out; have := HZ6.out; have := HZ7.out; have := HZ8.out; have := HZ9.out; have := HZ10.out; have := HZ11.out; have := HZ12.out; have := HZ13.out; have := HZ14.out; have := HZ15.out; have := HZ0.out; have := HZ1.out; have := HZK.out; omega)⟩⟩
  have HGp := Aside0.mk (GVp.out.fr hf (fun g h1 h2 h => by have := (hS g h).2; have := HZ4.out; have := HZ5.out; have := HZ6.out; have := HZ7.out; have := HZ8.out; have := HZ9.out; have := HZ10.out; have := HZ11.out; have := HZ12.out; have := HZ13.out; have := HZ14.out; have := HZ15.out; have := HZ0.out; have := HZ1.out; have := HZK.out; omega))
  have HGq := Aside0.mk (GVq.out.fr hf (fun g h1 h2 h => by have := (hS g h).2; have := HZ4.out; have := HZ5.out; have := HZ6.out; have := HZ7.out; have := HZ8.out; have := HZ9.out; have := HZ10.out; have := HZ11.out; have := HZ12.out; have := HZ13.out; have := HZ14.out; have := HZ15.out; have := HZ0.out; have := HZ1.out; have := HZK.out; omega))
  have HGm := Aside0.mk (HGL.out.fr hf (fun g h1 h2 h => by have := (hS g h).1; have := HZ4.out; have := HZ5.out; have := HZ6.out; have := HZ7.out; have := HZ8.out; have := HZ9.out; have := HZ10.out; have := HZ11.out; have := HZ12.out; have := HZ13.out; have := HZ14.out; have := HZ15.out; have := HZ0.out; have := HZ1.out; have := HZK.out; omega))
  have HZf : Aside0 (w15.heap.size ≤ wf.heap.size) := ⟨Nat.le_trans hzA hf.size⟩
  clear hf hS hb hzA HB HG HGL GVp GVq GVx GVy HCL
  go_wp2_with fail
  refine (KeepsI.apart_got 3 3 (fun k => match k with | 0 => _ | 1 => _ | _ => _) (fun k => match k with | 0 => Lp | 1 => Lq | _ => list) (fun k => match k with | 0 => w6.heap.size | 1 => w7.heap.size | _ => w2.heap.size) (fun k => match k with | 0 => w7.heap.size | 1 => w8.heap.size | _ => w4.heap.size) w2.heap.size wf (by omega) (by omega) ?_ ?_ ?_ ?_ ?_ _ rfl _ (pick3 _ _ _)).mono ?_
  · intro k hk
    rcases (by omega : k = 0 ∨ k = 1 ∨ k = 2) with rfl | rfl | rfl
    · exact HGp.out.1
    · exact HGq.out.1
    · exact HGm.out.1
  · intro k l hk hl hkl
    have := HZ4.out; have := HZ5.out; have := HZ6.out; have := HZ7.out; have := HZ8.out; have := HZ9.out; have := HZ10.out; have := HZ11.out; have := HZ12.out; have := HZ13.out; have := HZ14.out; have := HZ15.out; have := HZ0.out; have := HZ1.out; have := HZK.out
    rcases (by omega : (k = 0 ∧ l = 1) ∨ (k = 0 ∧ l = 2) ∨ (k = 1 ∧ l = 2)) with ⟨rfl, rfl⟩ | ⟨rfl, rfl⟩ | ⟨rfl, rfl⟩
    · refine .inl ?_
      simp only
      omega
    · refine .inr ?_
      simp only
      omega
    · refine .inr ?_
      simp only
      omega
  · intro k hk
    have := HLnp.out; have := HLnq.out; have := HLL.out
    rcases (by omega : k = 0 ∨ k = 1 ∨ k = 2) with rfl | rfl | rfl <;> simp only <;> omega
  · intro k hk
    have := HZ4.out; have := HZ5.out; have := HZ6.out; have := HZ7.out; have := HZ8.out; have := HZ9.out; have := HZ10.out; have := HZ11.out; have := HZ12.out; have := HZ13.out; have := HZ14.out; have := HZ15.out; have := HZ0.out; have := HZ1.out; have := HZK.out
    rcases (by omega : k = 0 ∨ k = 1 ∨ k = 2) with rfl | rfl | rfl <;> simp only <;> omega
  · have := HZ4.out; have := HZ5.out; have := HZ6.out; have := HZ7.out; have := HZ8.out; have := HZ9.out; have := HZ10.out; have := HZ11.out; have := HZ12.out; have := HZ13.out; have := HZ14.out; have := HZ15.out; have := HZ0.out; have := HZ1.out; have := HZK.out
    have := HZf.out
    omega
  rintro e wg ⟨rfl, hg⟩
  have hga : Below wf.heap.size wf (wf.alloc (.cells #[.slice Ap np cp, .slice Aq nq cq, .slice A6 list.length c6] 59)) := below_alloc (Below.refl _ _) _
  have HGg : Aside0 (wg.heap[gr]? = some (.cells (nums .u8 (Keeps.fill b (b.length + 4))).toArray 5 (0, 0))) := ⟨(hg.block gr (by have := HZK.out; omega)).trans (blk_below HGf.out hga)⟩
  have HBg : Aside0 (Below w.heap.size w wg) := ⟨(below_then HBf.out HBf.out.size hga).trans (hg.mono (by have := HZ0.out; have := HZ1.out; omega))⟩
  clear hg hga HGp HGq HGm HBf HGf
  go_wp2_with fail
  refine (Keeps.kept_calls gr A2 c2 b wg HGg.out (R2.out.below HBg.out) (by have := HLB.out.2; omega)).mono ?_
  rintro e wh ⟨rfl, hd⟩
  have HBh : Aside0 (Below w.heap.size w wh) := ⟨below_then HBg.out HBg.out.size hd.below⟩
  clear hd
  go_wp2_with fail
  go_ret
  exact ⟨rfl, HBh.out⟩
theorem keeps_row (A1 : Option Addr) (c1 : Nat) (l1 : List Int) (A2 : Option Addr) (c2 : Nat) (l2 : List Int) (w : World) (hr1 : ReadsInt w .i64 A1 l1.length l1) (hc1 : l1.length ≤ c1) (_ : ∀ x ∈ l1, (Lit.int .i64 x).wf = true) (y1 : l1.length * 8 ≤ 140737488351232) (hr2 : ReadsInt w .u8 A2 l2.length l2) (_ : l2.length ≤ c2) (hw : ∀ x ∈ l2, (Lit.int .u8 x).wf = true) (y2 : l2.length * 1 ≤ 140737488351232) :
    Calls Tryd.prog 5 #[.slice A1 l1.length c1, .slice A2 l2.length c2] w fun e w' => e = .returned (.bool true) ∧ Below w.heap.size w w' :=
  keeps_main A1 c1 l1 A2 c2 l2 w hr1 hc1 (by omega) hr2 (bytes_wf hw) (by omega)
end Go.Proofs.YtbplffdmggbcdaaDoor.Codec
