/- strings.Split at a byte 47: the parts, as a contract. -/
import Derived.Test.YtdihhdmndjjknaaDoorKWName
import Derived.WalkLawsBesides
import Derived.Laws.Externs
import Derived.Lib.Bytealg
import Derived.Deep.CutRange
import Derived.Deep.DeepCutAuto
import Derived.Deep.Cut
import Derived.OwnWalk
namespace Go.Proofs.YtdihhdmndjjknaaDoor.Walk
open Go.RowKit Go.Proofs.YtdihhdmndjjknaaDoor.PWalkOrders Go.Proofs.YtdihhdmndjjknaaDoor.Plain Go.Proofs.YtdihhdmndjjknaaDoor.Codec Go.Proofs.YtdihhdmndjjknaaDoorW.PrintWords Go.Proofs.YtdihhdmndjjknaaDoorW.PrintLast Go.Proofs.YtdihhdmndjjknaaDoorW.PrintMore
set_option linter.unusedVariables false
set_option linter.unusedSimpArgs false
theorem drop_list (u : ByteArray) (j : Nat) : (u.extract j u.size).data.toList = u.data.toList.drop j := by
  rw [ByteArray.data_extract, Array.toList_extract]
  have e : u.size = u.data.toList.length := (list_len u).symm
  rw [e]
  show (u.data.toList.drop j).take (u.data.toList.length - j) = _
  rw [List.take_of_length_le]
  rw [List.length_drop]
  exact Nat.le_refl _
theorem take_list (u : ByteArray) (j : Nat) : u.extract 0 j = bs (u.data.toList.take j) := by
  have h : (u.extract 0 j).data.toList = u.data.toList.take j := by
    rw [ByteArray.data_extract, Array.toList_extract]
    show (u.data.toList.drop 0).take (j - 0) = _
    simp
  rw [← h, bs_of]
theorem parts_none (l : List UInt8) (h : Lib.countByte l 47 = 0) : parts l = [bs l] := by unfold parts; rw [pieces_none l h]; rfl
theorem parts_first (l : List UInt8) (h : Lib.countByte l 47 ≠ 0) : parts l = bs (l.take (first l)) :: parts (l.drop (first l + 1)) := by
  unfold parts
  rw [(pieces_first l h).2.1]
  rfl
theorem parts_length (l : List UInt8) : (parts l).length = Lib.countByte l 47 + 1 := by unfold parts; rw [List.length_map, pieces_count]
set_option maxHeartbeats 1000000 in
set_option maxRecDepth 100000 in
theorem count_calls (s : ByteArray) (w : World) : Calls Tryd.prog 43 #[.string s, .string ⟨#[47]⟩] w fun e w' => e = .returned (.int .i64 (Lib.countByte s.data.toList 47 : Nat)) ∧ w = w' := by
  go_enter Tryd.func43, Tryd.ntmps43
  go_wp2
  rw [run_callFunc_extern (fn := Tryd.f63) Tryd.func63 (by kernel_rfl) (by kernel_rfl) (by kernel_rfl) (e := Extern.BytealgCount.count) (by kernel_rfl), Lib.run_countString]
  simp only [Result.andThen]
  rw [Oper.upon_value]
  go_wp2
  go_ret
  exact ⟨rfl, rfl⟩
set_option maxHeartbeats 1000000 in
set_option maxRecDepth 100000 in
theorem sidx_calls (s : ByteArray) (w : World) : Calls Tryd.prog 74 #[.string s, .int .u8 47] w fun e w' => e = .returned (.int .i64 (Lib.indexByte s.data.toList 47)) ∧ w = w' := by
  go_enter Tryd.func74, Tryd.ntmps74
  go_wp2
  rw [run_callFunc_extern (fn := Tryd.f80) Tryd.func80 (by kernel_rfl) (by kernel_rfl) (by kernel_rfl) (e := Extern.BytealgIndexByte.indexByte) (by kernel_rfl), Lib.run_indexByteString]
  simp only [Result.andThen]
  rw [Oper.upon_value]
  go_wp2
  go_ret
  exact ⟨rfl, rfl⟩
set_option maxHeartbeats 1000000 in
set_option maxRecDepth 100000 in
theorem lindex_calls (s : ByteArray) (w : World) : Calls Tryd.prog 64 #[.string s, .string ⟨#[47]⟩] w fun e w' => e = .returned (.int .i64 (Lib.indexByte s.data.toList 47)) ∧ w = w' := by
  by_cases c : s.toList = [47]
  · obtain rfl : s = ⟨#[47]⟩ := by
      have e : s.data.toList = [47] := by rw [← ByteArray.toList_eq]; exact c
      obtain ⟨⟨l⟩⟩ := s
      simp at e
      rw [e]
    clear c
    go_enter Tryd.func64, Tryd.ntmps64
    go_wp2
    go_ret
    exact ⟨rfl, rfl⟩
  · have h1 : ([47] == s.toList) = false := by rw [beq_eq_false_iff_ne]; exact fun e => c e.symm
    clear c
    go_enter Tryd.func64, Tryd.ntmps64
    go_wp2_with fail
    refine (sidx_calls s _).mono ?_
    rintro e w2 ⟨rfl, rfl⟩
    go_wp2
    go_ret
    exact ⟨rfl, rfl⟩
set_option maxHeartbeats 1000000 in
set_option maxRecDepth 100000 in
theorem index_calls (s : ByteArray) (w : World) : Calls Tryd.prog 44 #[.string s, .string ⟨#[47]⟩] w fun e w' => e = .returned (.int .i64 (Lib.indexByte s.data.toList 47)) ∧ w = w' := by
  go_enter Tryd.func44, Tryd.ntmps44
  go_wp2_with fail
  refine (lindex_calls s _).mono ?_
  rintro e w2 ⟨rfl, rfl⟩
  go_wp2
  go_ret
  exact ⟨rfl, rfl⟩
/-- The cells of a row of texts, of which the first stand. -/
def rowOf (xs : List ByteArray) (n : Nat) : Array Value := ((xs ++ List.replicate (n - xs.length) (⟨#[]⟩ : ByteArray)).map Value.string).toArray
theorem rowOf_size (xs : List ByteArray) (n : Nat) (h : xs.length ≤ n) : (rowOf xs n).size = n := by simp [rowOf]; omega
theorem rowOf_at (xs : List ByteArray) (n i : Nat) (h : xs.length ≤ n) (hi : i < n) : ∃ x, (rowOf xs n)[i]? = some (.string x) := by
  have hs : i < (xs ++ List.replicate (n - xs.length) (⟨#[]⟩ : ByteArray)).length := by simp; omega
  refine ⟨(xs ++ List.replicate (n - xs.length) (⟨#[]⟩ : ByteArray))[i], ?_⟩
  simp only [rowOf, List.getElem?_toArray, List.getElem?_map, List.getElem?_eq_getElem hs, Option.map_some]
theorem rowOf_put (xs : List ByteArray) (n : Nat) (x : ByteArray) (h : xs.length < n) : (rowOf xs n).setIfInBounds xs.length (.string x) = rowOf (xs ++ [x]) n := by
  obtain ⟨m, hm⟩ : ∃ m, n - xs.length = m + 1 := ⟨n - xs.length - 1, by omega⟩
  have hm2 : n - (xs ++ [x]).length = m := by simp; omega
  unfold rowOf
  rw [hm, hm2]
  simp [List.replicate_succ, List.set_append_right]
theorem rowOf_full (xs : List ByteArray) : rowOf xs xs.length = (xs.map Value.string).toArray := by simp [rowOf]
theorem info9 : (Tryd.prog.info? 9).map (fun i => (i.zero, i.size, i.bytes)) = some (some (.string ⟨#[]⟩), 1, 16) := by kernel_rfl
theorem made_row (m : Nat) : madeCells #[Value.string ⟨#[]⟩] m = rowOf [] m := by
  apply Array.ext'
  rw [Go.toList_madeCells_one]
  simp [rowOf]
theorem make_texts (n : Nat) (hm : n ≤ 100000) (W : World) : (Instr.makeSlice 22 (.int .i64 (n : Int)) (.int .i64 (n : Int))).run Tryd.prog W = .ok (.slice (some ⟨W.heap.size, 0, none⟩) n n) (W.alloc (.cells (rowOf [] n) 9)) := by
  obtain ⟨i, hi, h3⟩ := Option.map_eq_some_iff.1 info9
  simp only [Prod.mk.injEq] at h3
  obtain ⟨hz, hs, hb⟩ := h3
  have := run_make (P := Tryd.prog) W 22 9 i (.string ⟨#[]⟩) Tryd.underlying22 hi hz .i64 .i64 n n (by omega) (by omega) (by rw [hb]; omega) (by omega)
  rw [this, hs, ← made_row]
  simp [Value.cells]
theorem row_owned {w : World} {g base : Nat} {xs : List ByteArray} (h : w.heap[g]? = some (.cells (xs.map Value.string).toArray 9 (0, 0))) (hg : base ≤ g) (hl : xs.length ≤ maxLen) : Kd.R Kd.string 9 w base (fun _ => True) (.slice (some ⟨g, 0, none⟩) xs.length xs.length) xs := by
  refine Kd.R_of_own (enc := Value.string) (h1 := fun _ => rfl) ⟨by simp [encs], ?_⟩ (fun _ _ => trivial)
  refine .inr ⟨g, _, _, rfl, hg, h, Nat.le_refl _, hl, by simp, ?_⟩
  simp only [encs, Nat.mul_one]
  exact List.take_of_length_le (by simp)
theorem cut_texts (A : Option Addr) (n m : Nat) (h : m ≤ n) (W : World) (hn : n ≤ 100000) : (Instr.slice 22 (.slice A n n) none (some (.int .i64 (m : Int))) none).run Tryd.prog W = .ok (.slice A m n) W := by
  obtain ⟨i, hi, h3⟩ := Option.map_eq_some_iff.1 info9
  simp only [Prod.mk.injEq] at h3
  obtain ⟨hz, hs, hb⟩ := h3
  have hel : Tryd.prog.elem 22 = 9 := by simp [Program.elem, Tryd.underlying22]
  have hu : Tryd.prog.underlying 22 = some (.slice (Tryd.prog.elem 22)) := by rw [hel]; exact Tryd.underlying22
  have ha : (A.map fun x => x.add 0) = A := by cases A <;> simp [Addr.add]
  rw [run_slice_h W 22 A n n hu .i64 m (by omega) (by omega), hel]
  simp [sizeOf, typeInfo, hi, hs, sliced, Result.andThen, ha]
theorem split_arith {j n c us : Nat} (h1 : j < us) (h2 : us ≤ 200) (h3 : n < c) (h4 : c ≤ 200) : (0 : Int) ≤ (j : Int) ∧ (j : Int) < (us : Int) ∧ (j : Int) ≤ (us : Int) ∧ (j : Int) + 1 ≤ (us : Int) ∧ (us : Int) ≤ 200 ∧ (0 : Int) ≤ (j : Int) + 1 ∧ decide ((j : Int) < 0) = false ∧ decide ((n : Int) < (c : Int)) = true ∧ (0 : Int) ≤ (n : Int) ∧ (n : Int) < (c : Int) + 1 ∧ n < c + 1 ∧ wrap64 ((j : Int) + 1) = (j : Int) + 1 ∧ wrap64 (j : Int) = (j : Int) ∧ wrap64 ((n : Int) + 1) = (n : Int) + 1 :=
  ⟨by omega, by omega, by omega, by omega, by omega, by omega, decide_eq_false (by omega), decide_eq_true (by omega), by omega, by omega, by omega, w64 (by omega) (by omega), w64 (by omega) (by omega), w64 (by omega) (by omega)⟩
theorem split_arith2 {n : Nat} (h4 : n ≤ 200) : decide ((n : Int) < (n : Int)) = false ∧ (0 : Int) ≤ (n : Int) ∧ (n : Int) < (n : Int) + 1 ∧ n < n + 1 ∧ wrap64 ((n : Int) + 1) = (n : Int) + 1 :=
  ⟨decide_eq_false (by omega), by omega, by omega, by omega, w64 (by omega) (by omega)⟩
set_option maxHeartbeats 4000000 in
set_option maxRecDepth 100000 in
theorem gsplit_calls (s : ByteArray) (hs : s.size ≤ 200) (w : World) : Calls Tryd.prog 31 #[.string s, .string ⟨#[47]⟩, .int .i64 0, .int .i64 (-1)] w fun e w' => ∃ v, e = .returned v ∧ Kd.R Kd.string 9 w' w.heap.size (fun _ => True) v (parts s.data.toList) ∧ Below w.heap.size w w' := by
  have hN := parts_length s.data.toList
  have hcl := count_le s.data.toList
  rw [list_len] at hcl
  have HC := Aside0.mk (count_calls s)
  obtain ⟨c, hc⟩ : ∃ c, Lib.countByte s.data.toList 47 = c := ⟨_, rfl⟩
  rw [hc] at hN hcl HC
  have hmk : ∀ W : World, (Instr.makeSlice 22 (.int .i64 ((c : Int) + 1)) (.int .i64 ((c : Int) + 1))).run Tryd.prog W = .ok (.slice (some ⟨W.heap.size, 0, none⟩) (c + 1) (c + 1)) (W.alloc (.cells (rowOf [] (c + 1)) 9)) := fun W => make_texts (c + 1) (by omega) W
  have hc1 : (c : Int) ≤ (s.size : Int) := by omega
  have hs1 : (s.size : Int) ≤ 200 := by omega
  have h1 : wrap64 ((c : Int) + 1) = (c : Int) + 1 := w64 (by omega) (by omega)
  have h2 : wrap64 ((s.size : Int) + 1) = (s.size : Int) + 1 := w64 (by omega) (by omega)
  have h3 : decide ((s.size : Int) + 1 < (c : Int) + 1) = false := decide_eq_false (by omega)
  have h4 : (c : Int) + 1 - 1 = (c : Int) := by omega
  have h5 : wrap64 (c : Int) = (c : Int) := w64 (by omega) (by omega)
  have HN := Aside0.mk hN
  have HS := Aside0.mk hs
  have HCL := Aside0.mk hcl
  clear hN hs hcl hc
  go_enter Tryd.func31, Tryd.ntmps31
  go_wp2_with fail
  refine (HC.out _).mono ?_
  rintro e w2 ⟨rfl, rfl⟩
  go_wp2_with fail
  have HB1 := Aside0.mk (below_alloc (Below.refl w.heap.size w) (.cells (rowOf [] (c + 1)) 9))
  have HG1 := Aside0.mk (blk_new w (.cells (rowOf [] (c + 1)) 9))
  generalize w.alloc (.cells (rowOf [] (c + 1)) 9) = w1 at HB1 HG1 ⊢
  obtain ⟨G, hG⟩ : ∃ G, w.heap.size = G := ⟨_, rfl⟩
  rw [hG] at HG1 ⊢
  have HGe := Aside0.mk hG
  clear hG hmk HC h1 h2 h3 h4 h5
  go_loopg [0, 10] (c + 1) (fun kq v0 v10 w' => ∃ (u : ByteArray) (D : List ByteArray), v0 = .string u ∧ v10 = .int .i64 (D.length : Int) ∧ D.length ≤ c ∧ c + 1 - D.length ≤ kq ∧ Aside0 (parts s.data.toList = D ++ parts u.data.toList) ∧ Aside0 (u.size ≤ 200) ∧ Aside0 (w'.heap[G]? = some (.cells (rowOf D (c + 1)) 9 (0, 0)) ∧ Below w.heap.size w w'))
  case atStart => exact ⟨s, [], rfl, rfl, by simp, by simp, ⟨rfl⟩, HS, ⟨HG1.out, HB1.out⟩⟩
  case round =>
    obtain ⟨u, D, rfl, rfl, hD, hk, HP, HU, HW⟩ := hrel
    have hl : D.length + Lib.countByte u.data.toList 47 = c := by
      have h := congrArg List.length HP.out
      rw [HN.out, List.length_append, parts_length] at h
      omega
    obtain ⟨n, hn⟩ : ∃ n, D.length = n := ⟨_, rfl⟩
    have HDn := Aside0.mk hn
    rw [hn] at hD hk hl ⊢
    clear hn
    have hc2 : c ≤ 200 := by have := HCL.out; omega
    by_cases hlt : n < c
    · cases gk with
      | zero => omega
      | succ k1 =>
        have hcb : Lib.countByte u.data.toList 47 ≠ 0 := by omega
        have HPF := Aside0.mk (parts_first _ hcb)
        have hf1 := (pieces_first _ hcb).1
        have hix := index_calls u
        rw [idx_eq, if_neg hcb] at hix
        have HIX := Aside0.mk hix
        obtain ⟨j, hj⟩ : ∃ j, first u.data.toList = j := ⟨_, rfl⟩
        rw [hj] at HIX hf1 HPF
        rw [list_len] at hf1
        have hus : u.size ≤ 200 := HU.out
        obtain ⟨g0, g1, g2, g3, g4, g5, e0, d0, p0, p1, p2, w1', w2', w3'⟩ := split_arith hf1 hus hlt hc2
        have hDle : D.length ≤ c + 1 := by rw [HDn.out]; exact Nat.le_of_lt p2
        obtain ⟨x, hx⟩ := rowOf_at D (c + 1) n hDle p2
        have xc : wr.cell? ⟨G, n, none⟩ = some (.string x) := (blk_cell HW.out.1 n).trans hx
        have fc : wr.frozen? ⟨G, n, none⟩ = false := blk_frozen HW.out.1 n
        have HK : Aside0 (n + 1 ≤ c ∧ c + 1 - n ≤ k1 + 1) := ⟨⟨hlt, hk⟩⟩
        have d0n : decide (n < c) = true := decide_eq_true hlt
        clear hcb hix hj hus hx hf1 hl hk hD hc2 hDle
        go_wp2_with fail
        refine (HIX.out _).mono ?_
        rintro e w2 ⟨rfl, rfl⟩
        go_wp2_with fail
        go_roundg k1
        case measure => omega
        case rel =>
          have hlen : (D ++ [bs (u.data.toList.take j)]).length = n + 1 := by rw [List.length_append, HDn.out]; rfl
          refine ⟨u.extract (j + 1) u.size, D ++ [bs (u.data.toList.take j)], rfl, ?_, ?_, ?_, ⟨?_⟩, ⟨?_⟩, ⟨?_, ?_⟩⟩
          · rw [hlen]
            rfl
          · rw [hlen]
            exact HK.out.1
          · rw [hlen]
            have := HK.out.2
            omega
          · rw [drop_list, HP.out, HPF.out]
            simp
          · rw [← list_len, drop_list, List.length_drop, list_len]
            have := HU.out
            omega
          · have hput := blk_put HW.out.1 n (.string (u.extract 0 j)) rfl
            have he : (rowOf D (c + 1)).setIfInBounds n (.string (u.extract 0 j)) = rowOf (D ++ [bs (u.data.toList.take j)]) (c + 1) := by
              rw [take_list, ← HDn.out]
              exact rowOf_put D (c + 1) _ (by rw [HDn.out]; exact p2)
            rw [he] at hput
            exact hput
          · exact below_set HW.out.2 (Nat.le_of_eq HGe.out)
    · obtain rfl : n = c := by omega
      have hcb : Lib.countByte u.data.toList 47 = 0 := by omega
      have HPN := Aside0.mk (parts_none _ hcb)
      obtain ⟨d0, p0, p1, p2, w3'⟩ := split_arith2 hc2
      have hDle : D.length ≤ n + 1 := by rw [HDn.out]; exact Nat.le_of_lt p2
      have hct : ∀ W : World, (Instr.slice 22 (.slice (some ⟨G, 0, none⟩) (n + 1) (n + 1)) none (some (.int .i64 ((n : Int) + 1))) none).run Tryd.prog W = .ok (.slice (some ⟨G, 0, none⟩) (n + 1) (n + 1)) W := fun W => cut_texts _ (n + 1) (n + 1) (Nat.le_refl _) W (by omega)
      obtain ⟨x, hx⟩ := rowOf_at D (n + 1) n hDle p2
      have xc : wr.cell? ⟨G, n, none⟩ = some (.string x) := (blk_cell HW.out.1 n).trans hx
      have fc : wr.frozen? ⟨G, n, none⟩ = false := blk_frozen HW.out.1 n
      clear hcb hx hl hk hD hDle
      go_wp2
      go_ret
      have hput := blk_put HW.out.1 n (.string u) rfl
      have hlen : (D ++ [u]).length = n + 1 := by rw [List.length_append, HDn.out]; rfl
      have he : (rowOf D (n + 1)).setIfInBounds n (.string u) = ((D ++ [u]).map Value.string).toArray := by
        have h := rowOf_put D (n + 1) u (by rw [HDn.out]; exact p2)
        rw [HDn.out] at h
        rw [h, ← hlen]
        exact rowOf_full _
      rw [he] at hput
      have hr := row_owned hput (Nat.le_of_eq HGe.out) (by rw [hlen]; unfold maxLen; omega)
      rw [hlen] at hr
      have e : parts s.data.toList = D ++ [u] := by rw [HP.out, HPN.out, bs_of]
      rw [e]
      exact ⟨_, rfl, hr, below_set HW.out.2 (Nat.le_of_eq HGe.out)⟩
end Go.Proofs.YtdihhdmndjjknaaDoor.Walk
