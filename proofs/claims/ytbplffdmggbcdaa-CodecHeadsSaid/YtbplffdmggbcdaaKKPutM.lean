/- The reference's put onto a constant text's row: a contract. -/
import Derived.Test.YtbplffdmggbcdaaKKMark
namespace Go.Proofs.Ytbplffdmggbcdaa.Codec
open Go.RowKit Go.Proofs.Ytbplffdmggbcdaa.PCodecHeads Go.Proofs.Ytbplffdmggbcdaa.Plain Go.Proofs.Ytbplffdmggbcdaa.Pure Go.Proofs.YtbplffdmggbcdaaW.PrintWords Go.Proofs.YtbplffdmggbcdaaW.PrintLast Go.Proofs.YtbplffdmggbcdaaW.PrintMore
set_option linter.unusedVariables false
set_option linter.unusedSimpArgs false
theorem rowm_below {w W : World} {base : Nat} {v : Value} {l : List Int} (h : RowM w base v l) (hb : Below w.heap.size w W) : RowM W base v l := rowm_keep h fun g e => hb.block g (rowm_lt h g e).2
theorem lit1_C (W : World) (z : Int) : Kd.C (Kd.int .u8) (W.alloc (.cells #[.int .u8 z] 5)) (some ⟨W.heap.size, 0, none⟩) 1 [z] := by
  refine brow_ofC ⟨rfl, by decide, fun _ => ⟨_, rfl, fun j hj => ?_⟩⟩
  obtain rfl : j = 0 := by omega
  rw [add_plain, blk_cell (blk_new W (.cells #[.int .u8 z] 5))]
  rfl
set_option maxHeartbeats 4000000 in
set_option maxRecDepth 100000 in
theorem rputm_calls (n : Nat) (hn : n = 2 ∨ n = 4) (x : Int) (hx : Fits n x) {w1 W : World} {v : Value} {l : List Int} (hB : Below w1.heap.size w1 W) (hv : RowM W w1.heap.size v l) (hl : l.length ≤ 70368744000000) :
    Calls Try.prog 23 #[v, .int .i64 n, .int .i64 x] W fun e w' => ∃ v', e = .returned v' ∧ RowM w' w1.heap.size v' (l ++ leB n x) ∧ Below w1.heap.size w1 w' := by
  have h := rput_is hn x hx l (by omega) (k := 8) (by omega)
  obtain ⟨r, hr⟩ : ∃ r, l ++ leB n x = r := ⟨_, rfl⟩
  rw [hr] at h ⊢
  have H' : Aside0 (skerryref06_put.l0 8 l n x 0 = some r) := ⟨h⟩
  have HB := Aside0.mk hB
  have HO := Aside0.mk hv
  have HL := Aside0.mk hl
  clear h hr hB hv hl hn hx
  go_enter Try.func23, Try.ntmps23
  go_wp2
  go_loopg [0, 2, 7] 8 (fun kq v0 v2 v7 w' => ∃ (x0 : List Int) (x2 x7 : Int), v2 = .int .i64 x2 ∧ v7 = .int .i64 x7 ∧ Aside0 (skerryref06_put.l0 kq x0 n x2 x7 = some r) ∧ Aside0 (kq ≤ 8 ∧ x0.length + kq ≤ l.length + 8) ∧ Aside0 (RowM w' w1.heap.size v0 x0) ∧ Aside0 (Below w1.heap.size w1 w'))
  case atStart => exact ⟨l, x, 0, rfl, rfl, H', ⟨by omega, by omega⟩, HO, HB⟩
  case round =>
    clear H' HB HO
    obtain ⟨x0, x2, x7, rfl, rfl, HA, HK, HO, HB⟩ := hrel
    cases gk with
    | zero => exact absurd HA.out (by simp [skerryref06_put.l0])
    | succ k1 =>
      have H := HA.out
      clear HA
      simp only [skerryref06_put.l0] at H
      by_cases c4 : x7 < (n : Int)
      · rw [if_pos c4, if_pos (by have := HK.out; have := HL.out; omega)] at H
        have c4b : decide (x7 < (n : Int)) = true := decide_eq_true c4
        clear c4
        have H' := Aside0.mk H
        clear H
        go_wp2_with (at_builtin; refine wpList_rowm rfl (.tmp 13) (.tmp 17) rfl w1.heap.size u0 x0 [(Int.tmod x2 256) % 256] _ _ _ rfl rfl (rowm_below HO.out (below_alloc (Below.refl _ _) _)) (lit1_C _ _) (HB.out.alloc HB.out.size _).size (by have := HK.out; have := HL.out; simp; omega) ?_; intro v6 w6 ho hg hat; have HO6 := Aside0.mk ho; have HB6 := Aside0.mk ((HB.out.alloc HB.out.size (.cells #[.int .u8 ((Int.tmod x2 256) % 256)] 5)).grown hg (HB.out.alloc HB.out.size _).size (fun k e => (rowm_lt HO.out k e).1)); clear ho hg hat)
        go_roundg k1
        case measure => omega
        case rel => exact ⟨_, _, _, rfl, rfl, H', ⟨by have := HK.out; omega, by have := HK.out; simp; omega⟩, HO6, HB6⟩
      · rw [if_neg c4] at H
        have c4b : decide (x7 < (n : Int)) = false := decide_eq_false c4
        clear c4
        obtain rfl := Option.some.inj H
        clear H
        go_wp2
        go_ret
        exact ⟨_, rfl, HO.out, HB.out⟩
end Go.Proofs.Ytbplffdmggbcdaa.Codec
