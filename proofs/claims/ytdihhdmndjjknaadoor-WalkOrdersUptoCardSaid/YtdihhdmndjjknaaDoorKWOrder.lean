/- walk.Order: paths in order, each once: a contract. -/
import Derived.Test.YtdihhdmndjjknaaDoorKWUniq
namespace Go.Proofs.YtdihhdmndjjknaaDoor.Walk
open Go.RowKit Go.Shelf Go.Proofs.YtdihhdmndjjknaaDoor.PWalkOrders Go.Proofs.YtdihhdmndjjknaaDoor.Plain Go.Proofs.YtdihhdmndjjknaaDoor.Codec Go.Proofs.YtdihhdmndjjknaaDoorW.PrintWords Go.Proofs.YtdihhdmndjjknaaDoorW.PrintLast Go.Proofs.YtdihhdmndjjknaaDoorW.PrintMore
set_option linter.unusedVariables false
set_option linter.unusedSimpArgs false
/-- Values of one cell. -/
abbrev OneV : Type := { v : Value // v.oneCell' = true }
def kdV : Kd OneV := Kd.scalar (fun x => x.1) (fun x => x.2)
theorem plain_C2 {w : World} {A : Option Addr} {l : List ByteArray} (h : Kd.C Kd.string w A l.length l) : PlainAt A l := by
  by_cases c : l = []
  · exact .inl c
  · right
    have hpos : 0 < l.length := by cases l with | nil => exact absurd rfl c | cons _ _ => simp
    obtain ⟨ad, e, hc⟩ := (Kd.reads_of_C (enc := Value.string) (d := (⟨#[]⟩ : ByteArray)) (h1 := fun _ => rfl) h).2.2 hpos
    have hs := World.cell?_spot (hc 0 hpos)
    have ha : ad.add 0 = ad := by simp [Addr.add]
    rw [ha] at hs
    obtain ⟨g, o, sp⟩ := ad
    simp only at hs
    subst hs
    exact ⟨g, o, e⟩
theorem lit_C1 (W : World) (x : ByteArray) : Kd.C Kd.string (W.alloc (.cells #[.string x] 9)) (some ⟨W.heap.size, 0, none⟩) 1 [x] := lit_C W [x] (by simp)
theorem comp_sub (qs : List Nm) : ∀ p ∈ comp qs, p ∈ qs := by
  have h : ∀ (l : List Nm) (x : Nm), ∀ p ∈ compG x l, p ∈ l := by
    intro l
    induction l with
    | nil => intro x p hp; exact hp
    | cons y l ih =>
      intro x p hp
      have hp : p ∈ (if y.2 = x.2 then compG y l else y :: compG y l) := hp
      split at hp
      · exact List.mem_cons_of_mem _ (ih y p hp)
      · rcases List.mem_cons.1 hp with e | e
        · rw [e]; exact List.mem_cons_self
        · exact List.mem_cons_of_mem _ (ih y p e)
  cases qs with
  | nil => intro p hp; exact hp
  | cons x l =>
    intro p hp
    rcases List.mem_cons.1 (show p ∈ x :: compG x l from hp) with e | e
    · rw [e]; exact List.mem_cons_self
    · exact List.mem_cons_of_mem _ (h l x p e)
theorem infoV : (Tryd.prog.info? 22).map (fun i => (i.zero, i.size, i.bytes)) = some (some (.slice none 0 0), 1, 24) := by kernel_rfl
/-- A value that holds names, away from a row's block. -/
def NApart (w : World) (v : Value) (p : Nm) : Prop := ∃ A c, p.1 = .slice A p.2.length c ∧ p.2.length ≤ c ∧ p.2.length ≤ 16 ∧ Kd.C Kd.string w A p.2.length p.2 ∧ ∀ ad, A = some ad → 0 < p.2.length → ad.block < w.heap.size ∧ v.ownBlock ≠ some ad.block
/-- A row of values that hold names. -/
structure LRow (base : Nat) (w : World) (v : Value) (ps : List Nm) : Prop where
  row : ∃ xs : List OneV, xs.map (fun x => x.1) = ps.map (fun p => p.1) ∧ Kd.R kdV 22 w base (fun _ => True) v xs
  names : ∀ p ∈ ps, NApart w v p
theorem vrow_own {base : Nat} {ok : Nat → Prop} {w : World} {v : Value} {xs : List OneV} (h : Kd.R kdV 22 w base ok v xs) : w.ownsRow base 22 1 v xs.length (xs.map fun x => x.1) := Kd.own_of_R (enc := fun x : OneV => x.1) (h1 := fun x => x.2) h
theorem LRow.nil (base : Nat) (w : World) : LRow base w (.slice none 0 0) [] := ⟨⟨[], rfl, Kd.R_of_own (enc := fun x : OneV => x.1) (h1 := fun x => x.2) (World.ownsRow_nil _ _ _ _) (fun _ _ => trivial)⟩, by simp⟩
theorem NApart.below {w W : World} {v : Value} {p : Nm} (h : NApart w v p) (hb : Below w.heap.size w W) : NApart W v p := by
  obtain ⟨A, c, e, h1, h2, h3, h4⟩ := h
  exact ⟨A, c, e, h1, h2, Kd.C_below h3 hb, fun ad q hn => ⟨Nat.lt_of_lt_of_le (h4 ad q hn).1 hb.size, (h4 ad q hn).2⟩⟩
theorem LRow.below {base : Nat} {w W : World} {v : Value} {ps : List Nm} (h : LRow base w v ps) (hb : Below w.heap.size w W) : LRow base W v ps := by
  obtain ⟨⟨xs, hx, hr⟩, hn⟩ := h
  refine ⟨⟨xs, hx, ?_⟩, fun p hp => (hn p hp).below hb⟩
  have h2 := vrow_own hr
  refine Kd.R_of_own (enc := fun x : OneV => x.1) (h1 := fun x => x.2) ⟨h2.1, ?_⟩ (fun _ _ => trivial)
  rcases h2.2 with hn | ⟨g, cap, cur, rfl, hg, hgg, rest⟩
  · exact .inl hn
  · exact .inr ⟨g, cap, cur, rfl, hg, (hb.block g (blk_lt hgg)).trans hgg, rest⟩
theorem LRow.form {base : Nat} {w : World} {v : Value} {ps : List Nm} (h : LRow base w v ps) : (v = .slice none 0 0 ∧ ps = []) ∨ ∃ g cap cs, v = .slice (some ⟨g, 0, none⟩) ps.length cap ∧ base ≤ g ∧ w.heap[g]? = some (.cells cs 22 (0, 0)) ∧ ps.length ≤ cap ∧ (∀ (j : Nat) (p : Nm), ps[j]? = some p → cs[j]? = some p.1) ∧ ∀ p ∈ ps, NamesAt w g p := by
  obtain ⟨⟨xs, hx, hr⟩, hn⟩ := h
  have hlen : xs.length = ps.length := by have := congrArg List.length hx; simpa using this
  have h2 := vrow_own hr
  rcases h2.2 with ⟨h3, h4⟩ | ⟨g, cap, cur, h3, hg, hgg, hc, hm, hs, ht⟩
  · exact .inl ⟨h3, List.eq_nil_of_length_eq_zero (by omega)⟩
  · right
    rw [hlen] at h3
    refine ⟨g, cap, cur, h3, hg, hgg, by omega, fun j p hj => ?_, fun p hp => ?_⟩
    · have e : (cur.toList.take (xs.length * 1))[j]? = (ps.map (fun p => p.1))[j]? := by rw [ht, hx]
      have hj2 : j < ps.length := (List.getElem?_eq_some_iff.1 hj).1
      rw [List.getElem?_take_of_lt (by omega), List.getElem?_map, hj] at e
      simpa using e
    · obtain ⟨A, c, e, h5, h6, h7, h8⟩ := hn p hp
      refine ⟨A, c, e, h5, h6, h7, fun ad q hq => ⟨(h8 ad q hq).1, fun e2 => (h8 ad q hq).2 ?_⟩⟩
      rw [h3, e2]
      rfl
theorem lit_V (W : World) (x : OneV) : Kd.C kdV (W.alloc (.cells #[x.1] 22)) (some ⟨W.heap.size, 0, none⟩) 1 [x] := by
  refine Kd.C_of_reads (enc := fun x : OneV => x.1) (d := x) (h1 := fun x => x.2) ⟨rfl, by decide, fun _ => ⟨_, rfl, fun j hj => ?_⟩⟩
  obtain rfl : j = 0 := by omega
  rw [add_plain, blk_cell (blk_new W (.cells #[x.1] 22))]
  rfl
theorem NApart.grown {W w3 : World} {v v3 : Value} {p : Nm} (h : NApart W v p) (hg : W.grownBy w3 v.ownBlock) (hat : v3.ownBlock = v.ownBlock ∨ ∃ b, v3.ownBlock = some b ∧ W.heap.size ≤ b) : NApart w3 v3 p := by
  obtain ⟨A, c, e, h1, h2, h3, h4⟩ := h
  refine ⟨A, c, e, h1, h2, C_keep h3 fun ad q hn => hg.block _ (h4 ad q hn).1 fun e2 => (h4 ad q hn).2 e2.symm, fun ad q hn => ⟨Nat.lt_of_lt_of_le (h4 ad q hn).1 hg.size, fun e2 => ?_⟩⟩
  rcases hat with e3 | ⟨b, e3, hb⟩
  · exact (h4 ad q hn).2 (e3 ▸ e2)
  · rw [e3] at e2
    have := Option.some.inj e2
    have := (h4 ad q hn).1
    omega
theorem LRow.push {base : Nat} {W w3 : World} {v v3 : Value} {ps : List Nm} {q : Nm} {xs : List OneV} (h : ∀ p ∈ ps, NApart W v p) (hq : NApart W v q) (hx : xs.map (fun x => x.1) = (ps ++ [q]).map (fun p => p.1)) (hr : Kd.R kdV 22 w3 base (fun _ => True) v3 xs) (hg : W.grownBy w3 v.ownBlock) (hat : v3.ownBlock = v.ownBlock ∨ ∃ b, v3.ownBlock = some b ∧ W.heap.size ≤ b) : LRow base w3 v3 (ps ++ [q]) := by
  refine ⟨⟨xs, hx, hr⟩, fun p hp => ?_⟩
  rcases List.mem_append.1 hp with e | e
  · exact (h p e).grown hg hat
  · rw [List.mem_singleton.1 e]; exact hq.grown hg hat
/-- A path's names, as they come, are away from a row that was there before. -/
theorem split_apart {W W2 : World} {v : Value} {A : Option Addr} {k : Nat} {L : List ByteArray} (hr : Kd.R Kd.string 9 W2 W.heap.size (fun _ => True) (.slice A L.length k) L) (hL : L.length ≤ 16) (hv : ∀ b, v.ownBlock = some b → b < W.heap.size) : NApart W2 v (.slice A L.length k, L) := by
  obtain ⟨_, hk, hc⟩ := Kd.R_reads' hr
  refine ⟨A, k, rfl, hk, hL, hc, fun ad e hn => ?_⟩
  have ho := (texts_own hr).lt
  subst e
  have h1 := ho ad.block rfl
  refine ⟨h1.2, fun e2 => ?_⟩
  have := hv _ e2
  omega
set_option maxHeartbeats 4000000 in
set_option maxRecDepth 100000 in
theorem compact_none (w : World) : Calls Tryd.prog 28 #[.slice none 0 0, .func (.func 25) #[] #[]] w fun e w' => e = .returned (.slice none 0 0) ∧ w = w' := by
  go_enter Tryd.func28, Tryd.ntmps28
  go_wp2
  go_ret
  exact ⟨rfl, rfl⟩
set_option maxHeartbeats 8000000 in
set_option maxRecDepth 100000 in
theorem order_calls (A : Option Addr) (c : Nat) (l : List ByteArray) (w : World) (hr : Kd.C Kd.string w A l.length l) (hl : l.length ≤ 1048576) (hsz : ∀ p ∈ l, p.size ≤ 9223372036854775807) :
    Calls Tryd.prog 17 #[.slice A l.length c] w fun e w' => ((¬ AllSplit l ∧ e = .returned (.tuple #[.slice none 0 0, .int .i64 16])) ∨ (AllSplit l ∧ ∃ v N, OrderOf l N ∧ e = .returned (.tuple #[v, .int .i64 0]) ∧ Kd.R Kd.string 9 w' w.heap.size (fun _ => True) v (N.map fun x => (joinOut x).1))) ∧ Below w.heap.size w w' := by
  have HR := Aside0.mk hr
  have HL := Aside0.mk hl
  have HSZ := Aside0.mk hsz
  clear hr hl hsz
  go_enter Tryd.func17, Tryd.ntmps17
  go_wp2_with fail
  go_loopg [16, 4] l.length (fun kq v16 v4 w' => ∃ (i : Nat) (ps : List Nm), v16 = .int .i64 (i : Int) ∧ i ≤ l.length ∧ l.length - i ≤ kq ∧ Aside0 (LRow w.heap.size w' v4 ps) ∧ Aside0 (ps.map (fun p => p.2) = (l.take i).map (fun p => (splitOut p).1)) ∧ Aside0 (∀ p ∈ l.take i, (splitOut p).2 = 0) ∧ Aside0 (Below w.heap.size w w'))
  case atStart => exact ⟨0, [], rfl, by omega, by omega, ⟨LRow.nil _ _⟩, ⟨by simp⟩, ⟨by simp⟩, ⟨Below.refl _ _⟩⟩
  case round =>
    obtain ⟨i, ps, rfl, hi, hkq, HLR, HMP, HAS, HB⟩ := hrel
    by_cases hlt : i < l.length
    · cases gk with
      | zero => omega
      | succ k1 =>
        obtain ⟨ad, hA, hc⟩ := load_str (Kd.C_below HR.out HB.out) i hlt
        obtain ⟨x, hx⟩ : ∃ x, l.getD i ⟨#[]⟩ = x := ⟨_, rfl⟩
        rw [hx] at hc
        have hgx : l[i]? = some x := by rw [← hx, List.getD_eq_getElem?_getD, List.getElem?_eq_getElem hlt]; rfl
        have hmem : x ∈ l := List.mem_of_getElem? hgx
        have htk : l.take (i + 1) = l.take i ++ [x] := by rw [List.take_add_one, hgx]; rfl
        have HSP := Aside0.mk (split_calls x (HSZ.out x hmem) wr)
        unfold SplitEnds at HSP
        have hsl := splitOut_le x
        have hscase := split_cases x
        obtain ⟨⟨L, er⟩, hL⟩ : ∃ z, splitOut x = z := ⟨_, rfl⟩
        rw [hL] at HSP hsl hscase
        simp only at HSP hsl hscase
        have HXL := Aside0.mk (And.intro hL (And.intro hsl (And.intro hmem htk)))
        have hw1 : wrap64 ((i : Int) + 1) = (i : Int) + 1 := w64 (by omega) (by have := HL.out; omega)
        have d0 : decide ((i : Int) < (l.length : Int)) = true := decide_eq_true (by omega)
        have d0n : decide (i < l.length) = true := decide_eq_true hlt
        have p0 : (0 : Int) ≤ (i : Int) := by omega
        have p1 : (i : Int) < (l.length : Int) := by omega
        have HK := Aside0.mk (And.intro hlt hkq)
        clear hx hgx hmem htk hL hsl hi hkq
        subst hA
        rcases hscase with he | ⟨he, hnil⟩
        · subst he
          go_wp2_with fail
          ((refine HSP.out.mono ?_); rintro e w2 ⟨v2, rfl, hr2, hb⟩)
          obtain ⟨A2, k2, rfl, hk2, hc2, _⟩ := texts_reads hr2
          have HLR2 := Aside0.mk (HLR.out.below hb)
          have HB2 := Aside0.mk (below_then HB.out HB.out.size hb)
          have HNQ := Aside0.mk (split_apart (v := u4) hr2 HXL.out.2.1 (fun b e => by
            obtain ⟨xs, _, hrr⟩ := HLR.out.row
            exact (((vrow_own hrr).lt) b e).2))
          clear hr2 hk2 hc2 hb HSP
          obtain ⟨xs, hxs, hrr⟩ := HLR2.out.row
          have HXS := Aside0.mk hxs
          have HRR := Aside0.mk hrr
          have hfit : (xs.length + 1) * 24 ≤ 140737488355328 := by
            have h1 := congrArg List.length hxs
            have h2 := congrArg List.length HMP.out
            simp only [List.length_map, List.length_take] at h1 h2
            have := HL.out
            omega
          clear hxs hrr
          go_wp2_with ((with_reducible refine gate_builtin (b := .append) (xs := #[.tmp 28, .tmp 30]) rfl ?_); at_builtin; refine Kd.R_append_rows kdV (w0 := w) w.heap.size rfl (.tmp 28) (.tmp 30) 45 22 (.slice none 0 0) 24 rfl Tryd.underlying45 infoV rfl (by decide) (by omega) u4 xs [(⟨.slice A2 L.length k2, rfl⟩ : OneV)] (some ⟨w2.heap.size, 0, none⟩) 1 1 (fun _ => True) (fun _ => False) (by rfl) (by rfl) (Kd.R_alloc HRR.out _) (lit_V w2 ⟨.slice A2 L.length k2, rfl⟩) (fun _ _ h => h) (fun _ h => h.elim) (fun _ _ => trivial) (HB2.out.alloc HB2.out.size _) (HB2.out.alloc HB2.out.size _).size hfit ?_; intro v3 w3 ho hb hg hat; have HP3 := Aside0.mk (LRow.push (q := (.slice A2 L.length k2, L)) (fun p hp => ((HLR2.out.names p hp).below (below_alloc (Below.refl _ _) _))) (HNQ.out.below (below_alloc (Below.refl _ _) _)) (by rw [List.map_append, HXS.out, List.map_append]; rfl) ho hg hat); have HB3 := Aside0.mk hb; clear ho hb hg hat)
          go_roundg k1
          case measure => omega
          case rel =>
            refine ⟨i + 1, _, by go_num, by have := HK.out; omega, by have := HK.out; omega, HP3, ⟨?_⟩, ⟨?_⟩, HB3⟩
            · rw [List.map_append, HMP.out, HXL.out.2.2.2, List.map_append]
              congr 1
              show [L] = [(splitOut x).1]
              rw [HXL.out.1]
            · rw [HXL.out.2.2.2]
              intro p hp
              rcases List.mem_append.1 hp with e | e
              · exact HAS.out p e
              · rw [List.mem_singleton.1 e, HXL.out.1]
        · subst he
          go_wp2_with fail
          ((refine HSP.out.mono ?_); rintro e w2 ⟨v2, rfl, hr2, hb⟩)
          have H2 := Aside0.mk (below_then HB.out HB.out.size hb)
          clear hr2 hb
          go_wp2
          go_ret2
          refine ⟨.inl ⟨fun h => ?_, rfl⟩, H2.out⟩
          have := h x HXL.out.2.2.1
          rw [HXL.out.1] at this
          cases this
    · obtain rfl : i = l.length := by omega
      have hall : AllSplit l := by have h := HAS.out; rw [List.take_length] at h; exact h
      have hmp : ps.map (fun p => p.2) = l.map (fun p => (splitOut p).1) := by have h := HMP.out; rw [List.take_length] at h; exact h
      have hpl : ps.length = l.length := by have := congrArg List.length hmp; simpa using this
      have HALL := Aside0.mk hall
      have HMQ := Aside0.mk hmp
      have d0 : decide ((l.length : Int) < (l.length : Int)) = false := decide_eq_false (by omega)
      rcases HLR.out.form with ⟨e4, eps⟩ | ⟨g, cap, cs, e4, hg, hcell, hcap, hpre, hnm⟩
      · subst eps
        have hl0 : l.length = 0 := hpl.symm
        have hln : l = [] := List.eq_nil_of_length_eq_zero hl0
        have HS := Aside0.mk (AnyF.slices_SortFunc_none Tryd.laysSlF06_f26 none 0 (.func (.func 27) #[] #[]) wr)
        have HLN := Aside0.mk hln
        subst e4
        clear hpl hall hmp hl0 hln
        go_wp2_with fail
        ((refine HS.out.mono ?_); rintro e w2 ⟨rfl, rfl⟩)
        clear HS
        go_wp2_with fail
        ((refine (compact_none _).mono ?_); rintro e w3 ⟨rfl, rfl⟩)
        go_wp2_with fail
        go_loopg [39, 9] 1 (fun kq v39 v9 w' => v39 = .int .i64 0 ∧ v9 = .slice none 0 0 ∧ Aside0 (Below w.heap.size w w'))
        case atStart => exact ⟨rfl, rfl, HB⟩
        case round =>
          obtain ⟨rfl, rfl, HBZ⟩ := hrel
          go_wp2
          go_ret2
          refine ⟨.inr ⟨HALL.out, _, [], ⟨List.Pairwise.nil, fun x => ?_, Nat.zero_le _⟩, rfl, texts_nil _ _⟩, HBZ.out⟩
          rw [HLN.out]
          exact Iff.rfl
      · have hS := sort_calls wr g cap 22 cs ps hcell hpre hnm (by have := HL.out; omega)
        have HS := Aside0.mk hS
        have HCAP := Aside0.mk (And.intro hcap (And.intro hg hpl))
        have HNM := Aside0.mk hnm
        subst e4
        clear hS hcell hcap hpre hnm hg hpl hall hmp
        go_wp2_with fail
        ((refine HS.out.mono ?_); rintro e w2 ⟨rfl, qs, cs1, hperm, hpw, hcell1, hsz1, hpre1, htd1⟩)
        have hql : qs.length = ps.length := hperm.length_eq
        have hC := compact_calls w2 g cap 22 cs1 qs hcell1 hpre1 (fun p hp => (HNM.out p (hperm.mem_iff.1 hp)).turned htd1) (by rw [hql]; have := HCAP.out.2.2; have := HL.out; omega) (by rw [hql]; exact HCAP.out.1)
        rw [hql] at hC
        have HC := Aside0.mk hC
        have HB2 := Aside0.mk (htd1.below HB.out HB.out.size HCAP.out.2.1)
        have HQ := Aside0.mk (And.intro hperm (comp_strict qs hpw))
        have HNM2 : Aside0 (∀ p ∈ comp qs, NamesAt w2 g p) := ⟨fun p hp => (HNM.out p (hperm.mem_iff.1 (comp_sub qs p hp))).turned htd1⟩
        clear hperm hpw hcell1 hsz1 hpre1 htd1 hql hC HS
        go_wp2_with fail
        ((refine HC.out.mono ?_); rintro e w3 ⟨cs2, rfl, hR, hpre2⟩)
        have HB3 := Aside0.mk (hR.turned.below HB2.out HB2.out.size HCAP.out.2.1)
        have HR3 := Aside0.mk hR
        have HP3 := Aside0.mk hpre2
        clear hR hpre2 HC
        have hcl : (comp qs).length ≤ 1048576 := by have h1 := comp_len qs; have h2 := HQ.out.1.length_eq; have := HCAP.out.2.2; have := HL.out; omega
        have HCL := Aside0.mk hcl
        have HNY : Aside0 (∀ p ∈ comp qs, ∃ y, (splitOut y).1 = p.2) := ⟨fun p hp => by
          have h1 := HQ.out.1.mem_iff.1 (comp_sub qs p hp)
          have h2 : p.2 ∈ ps.map (fun p => p.2) := List.mem_map_of_mem h1
          rw [HMQ.out] at h2
          obtain ⟨y, _, hy⟩ := List.mem_map.1 h2
          exact ⟨y, hy⟩⟩
        have HOR : Aside0 (OrderOf l ((comp qs).map (fun q => q.2))) := ⟨⟨HQ.out.2.1, fun x => by
          rw [HQ.out.2.2 x, ← HMQ.out]
          exact (HQ.out.1.map _).mem_iff, by rw [List.length_map, ← HCAP.out.2.2, ← HQ.out.1.length_eq]; exact comp_len qs⟩⟩
        clear hcl
        go_wp2_with fail
        go_loopg [39, 9] (comp qs).length (fun kq v39 v9 w' => ∃ i : Nat, v39 = .int .i64 (i : Int) ∧ i ≤ (comp qs).length ∧ (comp qs).length - i ≤ kq ∧ Aside0 (Kd.R Kd.string 9 w' w3.heap.size (fun _ => True) v9 (((comp qs).take i).map fun p => (joinOut p.2).1)) ∧ Aside0 (Below w3.heap.size w3 w'))
        case atStart => exact ⟨0, rfl, by omega, by omega, ⟨texts_nil _ _⟩, ⟨Below.refl _ _⟩⟩
        case round =>
          obtain ⟨i, rfl, hi, hkq2, HOUT, HBW⟩ := hrel
          by_cases hlt2 : i < (comp qs).length
          · cases gk with
            | zero => omega
            | succ g1 =>
              obtain ⟨⟨vp, lp⟩, hp⟩ : ∃ p, (comp qs)[i]? = some p := ⟨_, List.getElem?_eq_getElem hlt2⟩
              have hpm := List.mem_of_getElem? hp
              obtain ⟨Ap, cp, ep, hp1, hp2, hp3, hp4⟩ := (HNM2.out _ hpm).turned HR3.out.turned
              simp only at ep hp1 hp2 hp3 hp4
              subst ep
              have hcp := elem_at (w := wr) (blk_below HR3.out.cell HBW.out) (HP3.out i _ hp)
              simp only at hcp
              obtain ⟨y, hy⟩ := HNY.out _ hpm
              simp only at hy
              have hC := Kd.C_below hp3 HBW.out
              have hJ := join_calls Ap cp lp wr hC hp1 (plain_C2 hC) (by omega) (by rw [← hy]; exact join_small _ (splitOut_ok y) (splitOut_le y))
              have HJ := Aside0.mk hJ
              obtain ⟨⟨jp, je⟩, hjp⟩ : ∃ z, joinOut lp = z := ⟨_, rfl⟩
              rw [hjp] at HJ
              have htk : ((comp qs).take (i + 1)).map (fun p => (joinOut p.2).1) = ((comp qs).take i).map (fun p => (joinOut p.2).1) ++ [jp] := by
                rw [List.take_add_one, hp, List.map_append]
                show _ ++ [(joinOut lp).1] = _
                rw [hjp]
              have HTK := Aside0.mk htk
              have hw1 : wrap64 ((i : Int) + 1) = (i : Int) + 1 := w64 (by omega) (by have := HCL.out; omega)
              have d1 : decide ((i : Int) < ((comp qs).length : Int)) = true := decide_eq_true (by omega)
              have d1n : decide (i < (comp qs).length) = true := decide_eq_true hlt2
              have p0 : (0 : Int) ≤ (i : Int) := by omega
              have p1 : (i : Int) < ((comp qs).length : Int) := by omega
              have HK2 := Aside0.mk (And.intro hlt2 hkq2)
              clear hp hpm hp1 hp2 hp3 hp4 hy hC hJ hjp htk hi hkq2
              go_wp2_with fail
              ((refine HJ.out.mono ?_); rintro e w4 ⟨rfl, hb⟩)
              have HO4 := Aside0.mk (texts_below HOUT.out hb (Nat.le_refl _))
              have HB4 := Aside0.mk (below_then HBW.out HBW.out.size hb)
              clear hb HJ hcp
              obtain ⟨T, hT⟩ : ∃ T, ((comp qs).take i).map (fun p => (joinOut p.2).1) = T := ⟨_, rfl⟩
              have hfit : (T.length + 1) * 16 ≤ 140737488355328 := by
                rw [← hT, List.length_map, List.length_take]
                have := HCL.out
                omega
              rw [hT] at HO4
              have HTE := Aside0.mk hT
              clear hT
              go_wp2_with ((with_reducible refine gate_builtin (b := .append) (xs := #[.tmp 48, .tmp 50]) rfl ?_); at_builtin; refine Kd.R_append_rows Kd.string (w0 := w3) w3.heap.size rfl (.tmp 48) (.tmp 50) 22 9 (.string ⟨#[]⟩) 16 rfl Tryd.underlying22 info9 rfl (by decide) (by omega) u9 T [jp] (some ⟨w4.heap.size, 0, none⟩) 1 1 (fun _ => True) (fun _ => False) (by rfl) (by rfl) (Kd.R_alloc HO4.out _) (lit_C1 w4 jp) (fun _ _ h => h) (fun _ h => h.elim) (fun _ _ => trivial) (HB4.out.alloc HB4.out.size _) (HB4.out.alloc HB4.out.size _).size hfit ?_; intro v5 w5 ho hb hg hat; have HO5 := Aside0.mk ho; have HB5 := Aside0.mk hb; clear ho hb hg hat)
              go_roundg g1
              case measure => omega
              case rel =>
                refine ⟨i + 1, by go_num, by have := HK2.out; omega, by have := HK2.out; omega, ⟨?_⟩, HB5⟩
                rw [HTK.out, HTE.out]
                exact HO5.out
          · obtain rfl : i = (comp qs).length := by omega
            have d1 : decide (((comp qs).length : Int) < ((comp qs).length : Int)) = false := decide_eq_false (by omega)
            have ho := HOUT.out
            rw [List.take_length] at ho
            have HFIN := Aside0.mk (texts_below ho (Below.refl _ _) (show w.heap.size ≤ w3.heap.size from HB3.out.size))
            have HBF := Aside0.mk (HB3.out.trans (HBW.out.mono HB3.out.size))
            clear ho
            go_wp2
            go_ret2
            refine ⟨.inr ⟨HALL.out, _, _, HOR.out, rfl, ?_⟩, HBF.out⟩
            rw [List.map_map]
            exact HFIN.out
end Go.Proofs.YtdihhdmndjjknaaDoor.Walk
