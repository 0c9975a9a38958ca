/- Numbers written one behind the other: contracts. -/
import Derived.Test.YtacecaacpagokaaKKWriter
import Derived.Lib.AppendStr
namespace Go.Proofs.Ytacecaacpagokaa.Codec
open Go.RowKit Go.Proofs.Ytacecaacpagokaa.PSwapGoes Go.Proofs.Ytacecaacpagokaa.Plain Go.Proofs.Ytacecaacpagokaa.Pure Go.Proofs.YtacecaacpagokaaW.PrintWords Go.Proofs.YtacecaacpagokaaW.PrintLast Go.Proofs.YtacecaacpagokaaW.PrintMore
set_option linter.unusedVariables false
set_option linter.unusedSimpArgs false
/-- A row of numbers lies apart from a writer. -/
def ApartW (A : Option Addr) (n : Nat) (WP : Nat) (v : Value) : Prop := ∀ ad, A = some ad → 0 < n → ad.block ≠ WP ∧ v.ownBlock ≠ some ad.block
theorem reads_wrote {w w' : World} {WP : Nat} {v v' : Value} {k : IntKind} {A : Option Addr} {n : Nat} {l : List Int} (h : ReadsInt w k A n l) (hq : Wrote w w' WP v v') (ha : ApartW A n WP v) : ReadsInt w' k A n l := by
  refine ⟨h.1, h.2.1, fun hn => ?_⟩
  obtain ⟨ad, e, hc⟩ := h.2.2 hn
  refine ⟨ad, e, fun j hj => ?_⟩
  have hj := hc j hj
  have hlt := World.block_lt_of_cell? w _ hj
  have hb : (ad.add j).block = ad.block := by unfold Addr.add; split <;> rfl
  obtain ⟨h1, h2⟩ := ha ad e hn
  have hkeep := hq.block (ad.add j).block hlt (by rw [hb]; exact h1) (by rw [hb]; exact h2)
  rw [← hj]
  unfold World.cell?
  rw [hkeep]
theorem load_int {w : World} {A : Option Addr} {l : List Int} (h : ReadsInt w .i64 A l.length l) (i : Nat) (hi : i < l.length) : ∃ ad, A = some ad ∧ w.cell? (ad.add i) = some (.int .i64 (l.getD i 0)) := by
  obtain ⟨ad, e, hc⟩ := h.at_ (i : Int) (by omega) (by omega)
  refine ⟨ad, e, ?_⟩
  simpa [rd] using hc
theorem wnums_take (n : Nat) (s : List Int × Int) (l : List Int) (i : Nat) (hi : i < l.length) : wnums n s (l.take (i + 1)) = wnum n (wnums n s (l.take i)) (l.getD i 0) := by
  rw [List.take_succ_eq_append_getElem hi, wnums_snoc]
  simp [List.getD, List.getElem?_eq_getElem hi]
set_option maxHeartbeats 4000000 in
set_option maxRecDepth 100000 in
theorem numbers_calls (n : Nat) (hn : n = 1 ∨ n = 2 ∨ n = 4) (A : Option Addr) (c : Nat) (l : List Int) {w : World} {base WP : Nat} {v : Value} {s : List Int × Int} (H : Writer w base WP v s) (hbase : base ≤ w.heap.size) (hl : s.1.length + n * l.length ≤ 70368744177664)
    (hr : ReadsInt w .i64 A l.length l) (ha : ApartW A l.length WP v) :
    Calls Try.prog 38 #[.pointer (some ⟨WP, 0, none⟩), .int .i64 n, .slice A l.length c] w fun e w' => e = .returned (.tuple #[]) ∧ ∃ v', Writer w' base WP v' (wnums n s l) ∧ Wrote w w' WP v v' := by
  have HH := Aside0.mk H
  have HN := Aside0.mk hn
  have HL := Aside0.mk hl
  have HBS := Aside0.mk hbase
  have HR := Aside0.mk hr
  have HA := Aside0.mk ha
  have hll : l.length ≤ 9223372036854775807 := hr.2.1
  clear H hn hl hbase hr ha
  go_enter Try.func38, Try.ntmps38
  go_wp2_with fail
  go_loopg [10] l.length (fun kq v10 w' => ∃ (i : Nat) (v' : Value), v10 = .int .i64 (i : Int) ∧ i ≤ l.length ∧ l.length - i ≤ kq ∧ Aside0 (Writer w' base WP v' (wnums n s (l.take i)) ∧ Wrote w w' WP v v'))
  case atStart => exact ⟨0, v, rfl, by omega, by omega, ⟨HH.out, Wrote.refl w WP v⟩⟩
  case round =>
    obtain ⟨i, v1, rfl, hi, hk, HS⟩ := hrel
    by_cases hlt : i < l.length
    · cases gk with
      | zero => omega
      | succ k1 =>
        obtain ⟨ad, rfl, hcell⟩ := load_int (reads_wrote HR.out HS.out.2 HA.out) i hlt
        obtain ⟨z, hz⟩ : ∃ z, l.getD i 0 = z := ⟨_, rfl⟩
        rw [hz] at hcell
        have HZ := Aside0.mk hz
        have hlen : (wnums n s (l.take i)).1.length ≤ 70368744177664 := by
          have h1 := wnums_length n (l.take i) s
          have h2 := HL.out
          have h3 : n * (l.take i).length ≤ n * l.length := Nat.mul_le_mul_left _ (by rw [List.length_take]; omega)
          omega
        have hb2 : base ≤ wr.heap.size := Nat.le_trans HBS.out HS.out.2.size
        have HC := Aside0.mk (number_calls n HN.out z HS.out.1 hb2 hlen)
        clear hz hlen hb2
        have d0 : decide ((i : Int) < (l.length : Int)) = true := decide_eq_true (by omega)
        have p0' : (0 : Int) ≤ (i : Int) := by omega
        have p1' : (i : Int) < (l.length : Int) := by omega
        go_wp2_with fail
        ((with_reducible refine HC.out.mono ?_); rintro e w2 ⟨rfl, v2, hw2, hq2⟩)
        have HS2 := Aside0.mk (And.intro hw2 (HS.out.2.trans hq2))
        clear hw2 hq2 hcell HC
        go_wp2_with fail
        go_roundg k1
        case measure => omega
        case rel =>
          refine ⟨i + 1, v2, by go_num, by omega, by omega, ⟨?_⟩⟩
          have h := HS2.out
          rw [wnums_take n s l i hlt, HZ.out]
          exact h
    · obtain rfl : i = l.length := by omega
      have d0 : decide ((l.length : Int) < (l.length : Int)) = false := decide_eq_false (by omega)
      go_wp2
      go_end0
      refine ⟨rfl, v1, ?_⟩
      have h := HS.out
      rwa [List.take_length] at h
/-- Appending a text's bytes: where the row lies behind. -/
theorem append_str_at {W : World} (base : Nat) (t u ty e : TypeId) (i : TypeInfo) (ht : Try.prog.underlying t = some (.slice e)) (hu : Try.prog.underlying u = some .string) (hi : Try.prog.info? e = some i) (hz : i.zero = some (.int .u8 0)) (hsize : i.size = 1) (hby : i.bytes = 1)
    (v : Value) (n : Nat) (xs : List Value) (hown : W.ownsRow base e 1 v n xs) (s : ByteArray) (hl : n + s.size ≤ 140737488355328) (hbase : base ≤ W.heap.size) :
    ∃ v' w', (Builtin.append_ #[t, u] ty #[v, .string s]).run Try.prog W = .ok v' w' ∧ w'.ownsRow base e 1 v' (n + s.size) (xs ++ Lib.strCells s) ∧ W.grownBy w' v.ownBlock ∧ (v'.ownBlock = v.ownBlock ∨ ∃ b, v'.ownBlock = some b ∧ W.heap.size ≤ b) := by
  have hm : n + s.size ≤ maxLen := by unfold maxLen; omega
  rcases hown.2 with ⟨rfl, rfl⟩ | ⟨g, cap, cur, rfl, hbg, hg, hnc, hcm, hcs, htake⟩
  · have hx : xs = [] := List.eq_nil_of_length_eq_zero (by simpa using hown.1)
    subst hx
    obtain ⟨v', w', hr, ho, hgr, _⟩ := Lib.run_append_own_string (P := Try.prog) (w := W) W.heap.size t u ty e i ht hu hi hz hsize hby (.slice none 0 0) 0 [] (World.ownsRow_nil _ _ _ _) s hm hl (Nat.le_refl _)
    refine ⟨v', w', hr, own_less ho hbase, hgr, ?_⟩
    cases hv : v'.ownBlock with
    | none => exact .inl rfl
    | some k => exact .inr ⟨k, rfl, (ho.lt k hv).1⟩
  · obtain ⟨v', w', hr, ho, hgr, _⟩ := Lib.run_append_own_string (P := Try.prog) (w := W) base t u ty e i ht hu hi hz hsize hby _ n xs hown s hm hl hbase
    refine ⟨v', w', hr, ho, hgr, ?_⟩
    have hcs' : cur.size = cap := by simpa using hcs
    by_cases hroom : n + s.size ≤ cap
    · have hr2 := Lib.run_append_room_string (P := Try.prog) (w := W) t u ty e i ht hu hi hsize g n cap cur hg s hroom (by omega)
      rw [hr] at hr2
      injection hr2 with h1 h2
      left
      rw [h1]
      rfl
    · have holds : ∀ j u, xs[j]? = some u → W.cell? ((⟨g, 0, none⟩ : Addr).add j) = some u := hown.cells (g := g) rfl
      have hr2 := Lib.run_append_grow_string (P := Try.prog) (w := W) t u ty e i (.int .u8 0) ht hu hi hz ⟨g, 0, none⟩ n cap xs (by rw [hsize]; simpa using hown.1) holds s (by omega) (by omega) (by rw [hby]; exact growslice_fits (by omega) (by omega))
      rw [hr] at hr2
      injection hr2 with h1 h2
      right
      rw [h1]
      exact ⟨_, rfl, Nat.le_refl _⟩
theorem strCells_nums (s : ByteArray) : Lib.strCells s = nums .u8 (bytesOf s) := by
  unfold Lib.strCells nums bytesOf
  rw [List.map_map]
  rfl
theorem step_append_str {ops : Array Oper} {o : Oper} {a : Act} {W : World} {Kc : Act → World → Prop} {Q : Exit → Act → World → Prop} (hw : Region.wanted o (yielded ops a.tmps) = true) (s x : Operand)
    (ho : o.op = .call { callee := .builtin .append, args := #[s, x], argTypes := #[22, 9] }) (base : Nat) (v : Value) (xs : List Int) (hs : a.eval s = v) (hr : Kd.R (Kd.int .u8) 5 W base (fun _ => True) v xs) (t : ByteArray) (hx : a.eval x = .string t)
    (hl : xs.length + t.size ≤ 140737488355328) (hbase : base ≤ W.heap.size)
    (h : ∀ v' w', Kd.R (Kd.int .u8) 5 w' base (fun _ => True) v' (xs ++ bytesOf t) → W.grownBy w' v.ownBlock → (v'.ownBlock = v.ownBlock ∨ ∃ b, v'.ownBlock = some b ∧ W.heap.size ≤ b) → Kc (a.put o.dst v') w') :
    if Region.wanted o (yielded ops a.tmps) = true then Oper.wp Try.prog o a W Kc Q else Kc (a.put o.dst undef) W := by
  rw [if_pos hw]
  obtain ⟨i5, hi5⟩ := Option.map_eq_some_iff.1 info5
  simp only [Prod.mk.injEq] at hi5
  obtain ⟨hi5, hz5, hs5, hb5⟩ := hi5
  obtain ⟨v', w', hr1, h2, h3, h4⟩ := append_str_at (W := W) base 22 9 o.type 5 i5 Try.underlying22 Try.underlying9 hi5 hz5 hs5 hb5 v xs.length (nums .u8 xs) (brow_own hr) t hl hbase
  rw [strCells_nums, ← nums_append, ← bytesOf_length, ← List.length_append] at h2
  unfold Oper.wp execOp
  simp only [ho, resolve, invoke, builtin, Sem.run_bind, Sem.run_pure, Result.andThen_ok, List.map_toArray, List.map_cons, List.map_nil, hs, hx, hr1]
  exact h v' w' (Kd.R_of_own (enc := Value.int .u8) (h1 := fun _ => rfl) h2 (fun _ _ => trivial)) h3 h4
theorem wpList_append_str {ops : Array Oper} {rest : List Oper} {o : Oper} {a : Act} {W : World} {Q : Exit → Act → World → Prop} (hgd : o.guard = none) (s x : Operand)
    (ho : o.op = .call { callee := .builtin .append, args := #[s, x], argTypes := #[22, 9] }) (base : Nat) (v : Value) (xs : List Int) (hs : a.eval s = v) (hr : Kd.R (Kd.int .u8) 5 W base (fun _ => True) v xs) (t : ByteArray) (hx : a.eval x = .string t)
    (hl : xs.length + t.size ≤ 140737488355328) (hbase : base ≤ W.heap.size)
    (h : ∀ v' w', Kd.R (Kd.int .u8) 5 w' base (fun _ => True) v' (xs ++ bytesOf t) → W.grownBy w' v.ownBlock → (v'.ownBlock = v.ownBlock ∨ ∃ b, v'.ownBlock = some b ∧ W.heap.size ≤ b) → wpList Try.prog ops Q rest (a.put o.dst v') w') :
    wpList Try.prog ops Q (o :: rest) a W := by
  refine wpList_plain hgd fun K hK => ?_
  obtain ⟨i5, hi5⟩ := Option.map_eq_some_iff.1 info5
  simp only [Prod.mk.injEq] at hi5
  obtain ⟨hi5, hz5, hs5, hb5⟩ := hi5
  obtain ⟨v', w', hr1, h2, h3, h4⟩ := append_str_at (W := W) base 22 9 o.type 5 i5 Try.underlying22 Try.underlying9 hi5 hz5 hs5 hb5 v xs.length (nums .u8 xs) (brow_own hr) t hl hbase
  rw [strCells_nums, ← nums_append, ← bytesOf_length, ← List.length_append] at h2
  unfold Oper.wp execOp
  simp only [ho, resolve, invoke, builtin, Sem.run_bind, Sem.run_pure, Result.andThen_ok, List.map_toArray, List.map_cons, List.map_nil, hs, hx, hr1]
  exact hK _ _ (h v' w' (Kd.R_of_own (enc := Value.int .u8) (h1 := fun _ => rfl) h2 (fun _ _ => trivial)) h3 h4)
end Go.Proofs.Ytacecaacpagokaa.Codec
