/- Rows of one's own that are appended to, one by one: the plain part, and the append's own law. -/
import Derived.Test.YtkfeigigjilaiaaDoorKRows
namespace Go.Proofs.YtkfeigigjilaiaaDoor.Keeps
open Go.RowKit Go.Proofs.YtkfeigigjilaiaaDoorW.PrintWords Go.Proofs.YtkfeigigjilaiaaDoorW.PrintLast Go.Proofs.YtkfeigigjilaiaaDoorW.PrintMore
set_option linter.unusedVariables false
set_option linter.unusedSimpArgs false
theorem Row.owns {w : World} {v : Value} {g : Nat} {xs : List Int} (h : Row w v (some g) xs) : w.ownsRow 0 5 1 v xs.length (nums .u8 xs) := by
  rcases h with ⟨_, h, _⟩ | ⟨g', cap, cur, rfl, h2, h3, h4, h5, h6, h7⟩
  · cases h
  · exact ⟨by simp [nums], .inr ⟨g', cap, cur, rfl, Nat.zero_le _, h5, h3, h4, by omega, by rw [Nat.mul_one]; exact h7⟩⟩
theorem Row.of_owns' {w : World} {base : Nat} {v : Value} {xs : List Int} (h : w.ownsRow base 5 1 v xs.length (nums .u8 xs)) (hp : 0 < xs.length) : ∃ g, base ≤ g ∧ v.ownBlock = some g ∧ Row w v (some g) xs := by
  obtain ⟨_, h0 | ⟨g, cap, cur, rfl, hb, hh, hn, hm, hs, ht⟩⟩ := h
  · omega
  · exact ⟨g, hb, rfl, .inr ⟨g, cap, cur, rfl, rfl, hn, hm, hh, by omega, by rw [Nat.mul_one] at ht; exact ht⟩⟩
theorem run_append_row (ty : TypeId) (W : World) (v : Value) (cb : Option Nat) (xs : List Int) (x : Int) (ad : Addr) (c : Nat) (h : Row W v cb xs) (hx : W.cell? ad = some (.int .u8 x)) (hl : xs.length + 1 ≤ 140737488355328) :
    ∃ v' w' h', (Builtin.append_ #[22, 22] ty #[v, .slice (some ad) 1 c]).run Tryd.prog W = .ok v' w' ∧ Row w' v' (some h') (xs ++ [x]) ∧ ((cb = some h' ∧ W.grownBy w' cb) ∨ (W.heap.size ≤ h' ∧ W.grownBy w' none)) := by
  obtain ⟨i, hi, h3⟩ := Option.map_eq_some_iff.1 info5
  simp only [Prod.mk.injEq] at h3
  obtain ⟨hz, hs, hb⟩ := h3
  have had : ad.add 0 = ad := by unfold Addr.add; split <;> simp_all
  have hnews : ∀ j u, [Value.int .u8 x][j]? = some u → W.cell? (ad.add j) = some u := by
    intro j u hu
    cases j with
    | zero => rw [had, hx]; simpa using hu
    | succ j => simp at hu
  have hnum : nums .u8 xs ++ [Value.int .u8 x] = nums .u8 (xs ++ [x]) := by simp [nums]
  have hlen : (xs ++ [x]).length = xs.length + 1 := by simp
  have hmax : xs.length + 1 ≤ maxLen := by unfold maxLen; omega
  have grown : ∀ v' w' base, W.heap.size ≤ base → w'.ownsRow base 5 1 v' (xs.length + 1) (nums .u8 xs ++ [Value.int .u8 x]) → ∃ h', base ≤ h' ∧ Row w' v' (some h') (xs ++ [x]) := by
    intro v' w' base _ ho
    rw [hnum, ← hlen] at ho
    obtain ⟨g, h1, _, h2⟩ := Row.of_owns' ho (by omega)
    exact ⟨g, h1, h2⟩
  rcases h with ⟨⟨A, rfl⟩, rfl, rfl⟩ | ⟨g, cap, cur, rfl, rfl, h3, h4, h5, h6, h7⟩
  · cases A with
    | none =>
      obtain ⟨v', w', hrun, ho, hg, _⟩ := run_append_own (P := Tryd.prog) W W.heap.size 22 ty 5 i (.int .u8 0) 1 1 Tryd.underlying22 hi hz hs hb rfl (by decide) (.slice none 0 0) 0 [] (World.ownsRow_nil _ _ _ _) ad 1 c [.int .u8 x] rfl hnews (by simp [Value.oneCell']) (by simpa using hmax) (by omega) (Nat.le_refl _)
      obtain ⟨h', hb', hr⟩ := grown v' w' _ (Nat.le_refl _) ho
      exact ⟨v', w', h', hrun, hr, .inr ⟨hb', hg⟩⟩
    | some b =>
      obtain ⟨v', w', hrun, ho, hg⟩ := run_append_arg_grows (P := Tryd.prog) W 22 ty 5 i (.int .u8 0) 1 1 Tryd.underlying22 hi hz hs hb rfl (by decide) b 0 0 [] rfl (by intro j u hu; simp at hu) ad 1 c [.int .u8 x] rfl hnews (by omega) (by simpa using hmax) (by omega)
      obtain ⟨h', hb', hr⟩ := grown v' w' _ (Nat.le_refl _) ho
      exact ⟨v', w', h', hrun, hr, .inr ⟨hb', hg⟩⟩
  · by_cases hroom : xs.length + 1 ≤ cap
    · have hown : W.ownsRow 0 5 1 (.slice (some ⟨g, 0, none⟩) xs.length cap) xs.length (nums .u8 xs) := ⟨by simp [nums], .inr ⟨g, cap, cur, rfl, Nat.zero_le _, h5, h3, h4, by omega, by rw [Nat.mul_one]; exact h7⟩⟩
      have hr := run_append_room (P := Tryd.prog) W 22 ty 5 i Tryd.underlying22 hi g xs.length cap cur h5 ad 1 c [.int .u8 x] (by rw [hs]; rfl) hnews (by simp [Value.oneCell']) hroom (by rw [hs]; simp; omega)
      refine ⟨_, _, g, hr, .inr ⟨g, cap, _, by rw [hlen], rfl, by rw [hlen]; exact hroom, h4, setRow_heap W g cur _ 5 _ h5, ?_, ?_⟩, .inl ⟨rfl, ⟨rfl, rfl, rfl, by simp, fun k _ hk => setRow_other W g k _ (fun e => hk (by rw [e]))⟩⟩⟩
      · rw [hs]; simp; omega
      · rw [hs, hlen, ← hnum, ← h7]
        simp only [Nat.mul_one]
        rw [List.append_assoc, ← List.append_assoc, List.take_append_of_le_length (by simp; omega)]
        exact List.take_of_length_le (by simp; omega)
    · have hcells : ∀ j u, (nums .u8 xs)[j]? = some u → W.cell? ((⟨g, 0, none⟩ : Addr).add j) = some u := by
        intro j u hu
        have hadd : (⟨g, 0, none⟩ : Addr).add j = ⟨g, j, none⟩ := by unfold Addr.add; split <;> simp_all
        rw [hadd, blk_cell h5 j]
        rw [← h7, List.getElem?_take] at hu
        split at hu
        · simpa using hu
        · cases hu
      obtain ⟨v', w', hrun, ho, hg⟩ := run_append_arg_grows (P := Tryd.prog) W 22 ty 5 i (.int .u8 0) 1 1 Tryd.underlying22 hi hz hs hb rfl (by decide) ⟨g, 0, none⟩ xs.length cap (nums .u8 xs) (by simp [nums]) hcells ad 1 c [.int .u8 x] rfl hnews (by omega) hmax (by omega)
      obtain ⟨h', hb', hr⟩ := grown v' w' _ (Nat.le_refl _) ho
      exact ⟨v', w', h', hrun, hr, .inr ⟨hb', hg⟩⟩
theorem wpList_append_row {ops : Array Oper} {rest : List Oper} {o : Oper} {a : Act} {Q : Exit → Act → World → Prop} {W : World} (hgd : o.guard = none) (s y : Operand) (ho : o.op = .call { callee := .builtin .append, args := #[s, y], argTypes := #[22, 22] })
    (v : Value) (cb : Option Nat) (xs : List Int) (x : Int) (ad : Addr) (c : Nat) (hs : a.eval s = v) (hy : a.eval y = .slice (some ad) 1 c) (h : Row W v cb xs) (hx : W.cell? ad = some (.int .u8 x)) (hl : xs.length + 1 ≤ 140737488355328)
    (hK : ∀ v' w' h', Row w' v' (some h') (xs ++ [x]) → ((cb = some h' ∧ W.grownBy w' cb) ∨ (W.heap.size ≤ h' ∧ W.grownBy w' none)) → wpList Tryd.prog ops Q rest (a.put o.dst v') w') : wpList Tryd.prog ops Q (o :: rest) a W := by
  refine wpList_plain hgd fun K hK' => ?_
  obtain ⟨v', w', h', hrun, h1, h2⟩ := run_append_row o.type W v cb xs x ad c h hx hl
  unfold Oper.wp
  simp [execOp, ho, resolve, invoke, builtin, hs, hy, hrun, Result.andThen]
  exact hK' _ _ (hK v' w' h' h1 h2)
theorem owns_keep {w W : World} {base : Nat} {e : TypeId} {size : Nat} {v : Value} {n : Nat} {xs : List Value} (h : w.ownsRow base e size v n xs) (hk : ∀ g, v.ownBlock = some g → W.heap[g]? = w.heap[g]?) : W.ownsRow base e size v n xs := by
  refine ⟨h.1, ?_⟩
  rcases h.2 with hn | ⟨g, cap, cur, rfl, hb, hgg, rest⟩
  · exact .inl hn
  · exact .inr ⟨g, cap, cur, rfl, hb, (hk g rfl).trans hgg, rest⟩
/-- i rows are grown; those from f on are as they were; B0: the heap's size when the call began. -/
structure St (w : World) (B0 n : Nat) (vs : Nat → Value) (bs : Nat → Option Nat) (L : Nat → Nat) (i f : Nat) (gs : Nat → Value) (cs : Nat → Nat) (gv : Value) : Prop where
  rows : ∀ k, k < n → Rd w (vs k) (bs k) (M (off L k) (L k))
  full : ∀ k, f ≤ k → k < n → Row w (vs k) (bs k) (M (off L k) (L k))
  grown : ∀ k, k < i → Row w (gs k) (some (cs k)) (M (off L k) (L k) ++ M (off L n + 6 * k) 6)
  kinds : ∀ k, k < i → bs k = some (cs k) ∨ B0 ≤ cs k
  apart : ∀ k l, k < i → l < i → k ≠ l → cs k ≠ cs l
  own : w.ownsRow B0 22 1 gv i ((List.range i).map gs)
  sep : ∀ k, k < i → gv.ownBlock ≠ some (cs k)
  size : B0 ≤ w.heap.size
/-- Row i, j of whose marks are appended. -/
structure Cur (w : World) (B0 n : Nat) (bs : Nat → Option Nat) (L : Nat → Nat) (i : Nat) (cs : Nat → Nat) (gv : Value) (j : Nat) (g : Value) (cb : Option Nat) : Prop where
  row : Row w g cb (M (off L i) (L i) ++ M (off L n + 6 * i) j)
  kind : cb = bs i ∨ ∃ h, cb = some h ∧ B0 ≤ h ∧ (∀ k, k < i → cs k ≠ h) ∧ gv.ownBlock ≠ some h
variable {w W : World} {B0 n : Nat} {vs : Nat → Value} {bs : Nat → Option Nat} {L : Nat → Nat} {G i f : Nat} {gs : Nat → Value} {cs : Nat → Nat} {gv : Value}
theorem Cur.ne (F : Fam n vs bs L G B0) (S : St w B0 n vs bs L i f gs cs gv) (hi : i < n) {j : Nat} {g : Value} {cb : Option Nat} (C : Cur w B0 n bs L i cs gv j g cb) (h : Nat) (hb : cb = some h) : (∀ k, k < i → cs k ≠ h) ∧ gv.ownBlock ≠ some h := by
  rcases C.kind with c | ⟨h', c, h1, h2, h3⟩
  · rw [hb] at c
    refine ⟨fun k hk e => ?_, fun e => ?_⟩
    · rcases S.kinds k hk with q | q
      · exact F.apart k i (by omega) hi (by omega) _ q (by rw [← c, e])
      · have := F.lt i hi h c.symm; omega
    · have := (S.own.lt h e).1
      have := F.lt i hi h c.symm
      omega
  · rw [hb] at c; cases c; exact ⟨h2, h3⟩
theorem St.keep (S : St w B0 n vs bs L i f gs cs gv) (hs : w.heap.size ≤ W.heap.size) (hk : ∀ g, g < w.heap.size → W.heap[g]? = w.heap[g]?) : St W B0 n vs bs L i f gs cs gv := by
  have hrd : ∀ k, k < n → Rd W (vs k) (bs k) (M (off L k) (L k)) := by
    intro k hk'
    rcases S.rows k hk' with h | ⟨g, cap, cur, h1, h2, h5, h7⟩
    · exact .inl h
    · exact .inr ⟨g, cap, cur, h1, h2, (hk g (Array.getElem?_eq_some_iff.1 h5).1).trans h5, h7⟩
  exact ⟨hrd, fun k h1 h2 => (S.full k h1 h2).keep fun g hg => hk g ((S.full k h1 h2).lt g hg), fun k h1 => (S.grown k h1).keep fun g hg => hk g ((S.grown k h1).lt g hg), S.kinds, S.apart, owns_keep S.own fun g hg => hk g (S.own.lt g hg).2, S.sep, Nat.le_trans S.size hs⟩
theorem Cur.keep {j : Nat} {g : Value} {cb : Option Nat} (C : Cur w B0 n bs L i cs gv j g cb) (hk : ∀ g, g < w.heap.size → W.heap[g]? = w.heap[g]?) : Cur W B0 n bs L i cs gv j g cb :=
  ⟨C.row.keep fun g hg => hk g (C.row.lt g hg), C.kind⟩
/-- One mark is appended to row i. -/
theorem grow_step (F : Fam n vs bs L G B0) (S : St w B0 n vs bs L i (i + 1) gs cs gv) (hi : i < n) {j : Nat} {g : Value} {cb : Option Nat} (C : Cur w B0 n bs L i cs gv j g cb) {v' : Value} {w' : World} {h' : Nat}
    (hr : Row w' v' (some h') (M (off L i) (L i) ++ M (off L n + 6 * i) j ++ [mk ((off L n + 6 * i + j : Nat) : Int)])) (hg : (cb = some h' ∧ w.grownBy w' cb) ∨ (w.heap.size ≤ h' ∧ w.grownBy w' none)) :
    St w' B0 n vs bs L i (i + 1) gs cs gv ∧ Cur w' B0 n bs L i cs gv (j + 1) v' (some h') := by
  rw [List.append_assoc, ← M_succ] at hr
  rcases hg with ⟨rfl, hg⟩ | ⟨hge, hg⟩
  · have hne := C.ne F S hi h' rfl
    have hlt := C.row.lt h' rfl
    have far : ∀ k, k < w.heap.size → k ≠ h' → w'.heap[k]? = w.heap[k]? := fun k hk hne => hg.block k hk (by intro e; cases e; exact hne rfl)
    refine ⟨⟨fun k hk => ?_, fun k h1 h2 => (S.full k h1 h2).keep fun q hq => far q ((S.full k h1 h2).lt q hq) ?_, fun k h1 => (S.grown k h1).keep fun q hq => far q ((S.grown k h1).lt q hq) ?_, S.kinds, S.apart, owns_keep S.own fun q hq => far q (S.own.lt q hq).2 ?_, S.sep, Nat.le_trans S.size hg.size⟩, ⟨hr, ?_⟩⟩
    · have hR := S.rows k hk
      by_cases hb : bs k = some h'
      · have hki : k = i := by
          rcases C.kind with c | ⟨q, c, c1, _⟩
          · exact Decidable.byContradiction fun hne => F.apart k i hk hi hne h' hb c.symm
          · cases c; have := F.lt k hk h' hb; omega
        subst hki
        rcases hR with hR | ⟨q, cap, cur, h1, h2, h5, h7⟩
        · exact .inl hR
        · rw [hb] at h2; cases h2
          rw [hb]
          exact Rd.before hr h1
      · rcases hR with hR | ⟨q, cap, cur, h1, h2, h5, h7⟩
        · exact .inl hR
        · exact .inr ⟨q, cap, cur, h1, h2, (far q (Array.getElem?_eq_some_iff.1 h5).1 (by rintro rfl; exact hb h2)).trans h5, h7⟩
    · rintro rfl
      rcases C.kind with c | ⟨p, c, c1, _⟩
      · exact F.apart k i h2 hi (by omega) _ hq c.symm
      · cases c; have := F.lt k h2 _ hq; omega
    · rintro rfl; cases hq; exact hne.1 k h1 rfl
    · rintro rfl; exact hne.2 hq
    · rcases C.kind with c | c
      · exact .inl c
      · exact .inr c
  · have far : ∀ k, k < w.heap.size → w'.heap[k]? = w.heap[k]? := fun k hk => hg.block k hk (by simp)
    refine ⟨S.keep hg.size far, ⟨hr, .inr ⟨h', rfl, Nat.le_trans S.size hge, fun k hk e => ?_, fun e => ?_⟩⟩⟩
    · have := (S.grown k hk).lt _ rfl; omega
    · have := (S.own.lt _ e).2; omega
/-- The grown row is appended to the list of them. -/
theorem grow_next (F : Fam n vs bs L G B0) (S : St w B0 n vs bs L i (i + 1) gs cs gv) (hi : i < n) {g : Value} {h : Nat} (C : Cur w B0 n bs L i cs gv 6 g (some h)) {v' : Value} {w' : World}
    (ho : w'.ownsRow B0 22 1 v' (i + 1) ((List.range i).map gs ++ [g])) (hg : w.grownBy w' gv.ownBlock) (hv : v'.ownBlock = gv.ownBlock ∨ v'.ownBlock = some w.heap.size) :
    ∃ gs' cs', St w' B0 n vs bs L (i + 1) (i + 1) gs' cs' v' := by
  have hne := C.ne F S hi h rfl
  have far : ∀ k, k < w.heap.size → gv.ownBlock ≠ some k → w'.heap[k]? = w.heap[k]? := fun k hk hne => hg.block k hk (fun e => hne e.symm)
  have farb : ∀ k, k < n → ∀ q, bs k = some q → gv.ownBlock ≠ some q := fun k hk q hq e => by have := (S.own.lt q e).1; have := F.lt k hk q hq; omega
  have hup : ∀ k, k < i → (fun k => if k = i then g else gs k) k = gs k := fun k hk => if_neg (by omega)
  refine ⟨fun k => if k = i then g else gs k, fun k => if k = i then h else cs k, ⟨fun k hk => ?_, fun k h1 h2 => (S.full k h1 h2).keep fun q hq => far q ((S.full k h1 h2).lt q hq) (farb k h2 q hq), fun k h1 => ?_, fun k h1 => ?_, fun k l hk hl hne' => ?_, ?_, fun k hk => ?_, Nat.le_trans S.size hg.size⟩⟩
  · rcases S.rows k hk with hR | ⟨q, cap, cur, h1, h2, h5, h7⟩
    · exact .inl hR
    · exact .inr ⟨q, cap, cur, h1, h2, (far q (Array.getElem?_eq_some_iff.1 h5).1 (farb k hk q h2)).trans h5, h7⟩
  · by_cases e : k = i
    · subst e
      simp only [if_true]
      exact C.row.keep fun q hq => far q (C.row.lt q hq) (by cases hq; exact hne.2)
    · simp only [if_neg e]
      exact (S.grown k (by omega)).keep fun q hq => far q ((S.grown k (by omega)).lt q hq) (by cases hq; exact S.sep k (by omega))
  · by_cases e : k = i
    · subst e
      simp only [if_true]
      rcases C.kind with c | ⟨q, c, c1, _⟩
      · exact .inl c.symm
      · cases c; exact .inr c1
    · simp only [if_neg e]; exact S.kinds k (by omega)
  · by_cases e1 : k = i
    · subst e1
      simp only [if_true, if_neg (show l ≠ k by omega)]
      exact fun e => hne.1 l (by omega) e.symm
    · by_cases e2 : l = i
      · subst e2
        simp only [if_true, if_neg e1]
        exact hne.1 k (by omega)
      · simp only [if_neg e1, if_neg e2]
        exact S.apart k l (by omega) (by omega) hne'
  · rw [List.range_succ, List.map_append]
    have : (List.range i).map (fun k => if k = i then g else gs k) = (List.range i).map gs := List.map_congr_left fun k hk => hup k (List.mem_range.1 hk)
    rw [this]
    simpa using ho
  · by_cases e : k = i
    · subst e
      simp only [if_true]
      rcases hv with c | c
      · rw [c]; exact hne.2
      · rw [c]; intro e; have e := Option.some.inj e; have := C.row.lt _ rfl; omega
    · simp only [if_neg e]
      rcases hv with c | c
      · rw [c]; exact S.sep k (by omega)
      · rw [c]; intro e'; have e' := Option.some.inj e'; have := (S.grown k (by omega)).lt _ rfl; omega
end Go.Proofs.YtkfeigigjilaiaaDoor.Keeps
