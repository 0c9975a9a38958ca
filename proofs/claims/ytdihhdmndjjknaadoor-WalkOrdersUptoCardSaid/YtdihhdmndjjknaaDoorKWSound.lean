/- Names together: whether they are sound; a path's names: contracts. -/
import Derived.Test.YtdihhdmndjjknaaDoorKWSplit
namespace Go.Proofs.YtdihhdmndjjknaaDoor.Walk
open Go.RowKit Go.Proofs.YtdihhdmndjjknaaDoor.PWalkOrders Go.Proofs.YtdihhdmndjjknaaDoor.Plain Go.Proofs.YtdihhdmndjjknaaDoor.Codec Go.Proofs.YtdihhdmndjjknaaDoorW.PrintWords Go.Proofs.YtdihhdmndjjknaaDoorW.PrintLast Go.Proofs.YtdihhdmndjjknaaDoorW.PrintMore
set_option linter.unusedVariables false
set_option linter.unusedSimpArgs false
theorem load_str {w : World} {A : Option Addr} {l : List ByteArray} (h : Kd.C Kd.string w A l.length l) (i : Nat) (hi : i < l.length) : ∃ ad, A = some ad ∧ w.cell? (ad.add i) = some (.string (l.getD i ⟨#[]⟩)) := by
  obtain ⟨ad, e, hc⟩ := (Kd.reads_of_C (enc := Value.string) (d := (⟨#[]⟩ : ByteArray)) (h1 := fun _ => rfl) h).2.2 (by omega)
  exact ⟨ad, e, hc i hi⟩
set_option maxHeartbeats 4000000 in
set_option maxRecDepth 100000 in
theorem odd_calls (s : ByteArray) (w : World) : Calls Tryd.prog 33 #[.string s] w fun e w' => e = .returned (.bool (!decide (NameOk s))) ∧ Below w.heap.size w w' := by
  have HC := Aside0.mk (fun W => name_calls s W)
  by_cases h : NameOk s
  · have hn : nameOut s = 0 := by unfold nameOut; rw [if_pos h]
    rw [hn] at HC
    rw [decide_eq_true h]
    clear hn h
    go_enter Tryd.func33, Tryd.ntmps33
    go_wp2_with fail
    ((with_reducible refine (HC.out _).mono ?_); rintro e w2 ⟨rfl, hb⟩)
    have HB := Aside0.mk hb
    clear hb
    go_wp2
    go_ret
    exact ⟨rfl, HB.out⟩
  · have hn : nameOut s = 16 := by unfold nameOut; rw [if_neg h]
    rw [hn] at HC
    rw [decide_eq_false h]
    clear hn h
    go_enter Tryd.func33, Tryd.ntmps33
    go_wp2_with fail
    ((with_reducible refine (HC.out _).mono ?_); rintro e w2 ⟨rfl, hb⟩)
    have HB := Aside0.mk hb
    clear hb
    go_wp2
    go_ret
    exact ⟨rfl, HB.out⟩
/-- Are all names sound? -/
def AllOk (l : List ByteArray) : Prop := ∀ p ∈ l, NameOk p
instance (l : List ByteArray) : Decidable (AllOk l) := by unfold AllOk; infer_instance
set_option maxHeartbeats 4000000 in
set_option maxRecDepth 100000 in
theorem ifunc_calls (A : Option Addr) (c : Nat) (l : List ByteArray) (w : World) (hr : Kd.C Kd.string w A l.length l) (hl : l.length ≤ 1048576) :
    Calls Tryd.prog 45 #[.slice A l.length c, .func (.func 33) #[] #[]] w fun e w' => (∃ r : Int, e = .returned (.int .i64 r) ∧ ((r = -1 ∧ AllOk l) ∨ (0 ≤ r ∧ ¬ AllOk l))) ∧ Below w.heap.size w w' := by
  have HR := Aside0.mk hr
  have HL := Aside0.mk hl
  clear hr hl
  go_enter Tryd.func45, Tryd.ntmps45
  go_wp2_with fail
  go_loopg [8] l.length (fun kq v8 w' => ∃ i : Nat, v8 = .int .i64 (i : Int) ∧ i ≤ l.length ∧ l.length - i ≤ kq ∧ Aside0 (AllOk (l.take i)) ∧ Aside0 (Below w.heap.size w w'))
  case atStart => exact ⟨0, rfl, by omega, by omega, ⟨fun p hp => by simp at hp⟩, ⟨Below.refl _ _⟩⟩
  case round =>
    obtain ⟨i, rfl, hi, hk, HA, HB⟩ := hrel
    by_cases hlt : i < l.length
    · cases gk with
      | zero => omega
      | succ k1 =>
        obtain ⟨ad, hA, hc⟩ := load_str (Kd.C_below HR.out HB.out) i hlt
        obtain ⟨x, hx⟩ : ∃ x, l.getD i ⟨#[]⟩ = x := ⟨_, rfl⟩
        rw [hx] at hc
        have HX := Aside0.mk hx
        have HC := Aside0.mk (odd_calls x wr)
        have hw1 : wrap64 ((i : Int) + 1) = (i : Int) + 1 := w64 (by omega) (by have := HL.out; omega)
        have d0 : decide ((i : Int) < (l.length : Int)) = true := decide_eq_true (by omega)
        have d0n : decide (i < l.length) = true := decide_eq_true hlt
        have p0 : (0 : Int) ≤ (i : Int) := by omega
        have p1 : (i : Int) < (l.length : Int) := by omega
        have hmem : x ∈ l := by rw [← hx, List.getD_eq_getElem?_getD, List.getElem?_eq_getElem hlt]; exact List.getElem_mem hlt
        have htk : l.take (i + 1) = l.take i ++ [x] := by rw [List.take_add_one, ← hx, List.getD_eq_getElem?_getD, List.getElem?_eq_getElem hlt]; rfl
        have HM := Aside0.mk hmem
        have HT := Aside0.mk htk
        have HK := Aside0.mk (And.intro hlt hk)
        clear hx hmem htk hi
        subst hA
        by_cases ho : NameOk x
        · rw [decide_eq_true ho] at HC
          have HO := Aside0.mk ho
          clear ho
          go_wp2_with fail
          ((refine HC.out.mono ?_); rintro e w2 ⟨rfl, hb⟩)
          have HB2 := Aside0.mk (below_then HB.out HB.out.size hb)
          clear hb hk
          go_wp2
          go_roundg k1
          case measure => omega
          case rel =>
            refine ⟨i + 1, by go_num, by have := HK.out; omega, by have := HK.out; omega, ⟨?_⟩, HB2⟩
            rw [HT.out]
            intro p hp
            rcases List.mem_append.1 hp with h | h
            · exact HA.out p h
            · rw [List.mem_singleton.1 h]; exact HO.out
        · rw [decide_eq_false ho] at HC
          have HO := Aside0.mk ho
          clear ho
          go_wp2_with fail
          ((refine HC.out.mono ?_); rintro e w2 ⟨rfl, hb⟩)
          have HB2 := Aside0.mk (below_then HB.out HB.out.size hb)
          clear hb hk
          go_wp2
          go_ret
          exact ⟨⟨_, rfl, .inr ⟨by omega, fun h => HO.out (h x HM.out)⟩⟩, HB2.out⟩
    · obtain rfl : i = l.length := by omega
      have d0 : decide ((l.length : Int) < (l.length : Int)) = false := decide_eq_false (by omega)
      go_wp2
      go_ret
      refine ⟨⟨_, rfl, .inl ⟨rfl, ?_⟩⟩, HB.out⟩
      have h := HA.out
      rw [List.take_length] at h
      exact h
set_option maxHeartbeats 4000000 in
set_option maxRecDepth 100000 in
theorem cfunc_calls (A : Option Addr) (c : Nat) (l : List ByteArray) (w : World) (hr : Kd.C Kd.string w A l.length l) (hl : l.length ≤ 1048576) :
    Calls Tryd.prog 32 #[.slice A l.length c, .func (.func 33) #[] #[]] w fun e w' => e = .returned (.bool (!decide (AllOk l))) ∧ Below w.heap.size w w' := by
  have HC := Aside0.mk (ifunc_calls A c l w hr hl)
  clear hr hl
  by_cases ho : AllOk l
  · rw [decide_eq_true ho]
    have HO := Aside0.mk ho
    clear ho
    go_enter Tryd.func32, Tryd.ntmps32
    go_wp2_with fail
    ((refine HC.out.mono ?_); rintro e w2 ⟨⟨r, rfl, hr⟩, hb⟩)
    have HB := Aside0.mk hb
    obtain rfl : r = -1 := by
      rcases hr with ⟨h, _⟩ | ⟨_, h⟩
      · exact h
      · exact absurd HO.out h
    clear hb HC hr
    go_wp2
    go_ret
    exact ⟨rfl, HB.out⟩
  · rw [decide_eq_false ho]
    have HO := Aside0.mk ho
    clear ho
    go_enter Tryd.func32, Tryd.ntmps32
    go_wp2_with fail
    ((refine HC.out.mono ?_); rintro e w2 ⟨⟨r, rfl, hr⟩, hb⟩)
    have HB := Aside0.mk hb
    have h0 : 0 ≤ r := by
      rcases hr with ⟨_, h⟩ | ⟨h, _⟩
      · exact absurd h HO.out
      · exact h
    have d0 : decide (0 ≤ r) = true := decide_eq_true h0
    clear hb HC hr
    go_wp2
    go_ret
    exact ⟨rfl, HB.out⟩
set_option maxHeartbeats 4000000 in
set_option maxRecDepth 100000 in
theorem sound_calls (A : Option Addr) (c : Nat) (l : List ByteArray) (w : World) (hr : Kd.C Kd.string w A l.length l) (hl : l.length ≤ 1048576) :
    Calls Tryd.prog 22 #[.slice A l.length c] w fun e w' => e = .returned (.bool (decide (Sound l))) ∧ Below w.heap.size w w' := by
  have HC := Aside0.mk (cfunc_calls A c l w hr hl)
  clear hr
  by_cases h16 : l.length ≤ 16
  · have d0 : decide ((l.length : Int) ≤ 16) = true := decide_eq_true (by omega)
    have d0n : decide (l.length ≤ 16) = true := decide_eq_true h16
    have e : decide (Sound l) = decide (AllOk l) := by
      by_cases h : AllOk l
      · rw [decide_eq_true h]; exact decide_eq_true ⟨h16, h⟩
      · rw [decide_eq_false h]; exact decide_eq_false fun q => h q.2
    rw [e]
    obtain ⟨b, hb⟩ : ∃ b, decide (AllOk l) = b := ⟨_, rfl⟩
    rw [hb] at HC ⊢
    clear hb e hl
    go_enter Tryd.func22, Tryd.ntmps22
    go_wp2_with fail
    ((refine HC.out.mono ?_); rintro e w2 ⟨rfl, hb⟩)
    have HB := Aside0.mk hb
    clear hb HC
    go_wp2
    go_ret
    exact ⟨by simp, HB.out⟩
  · have d0 : decide ((l.length : Int) ≤ 16) = false := decide_eq_false (by omega)
    have d0n : decide (l.length ≤ 16) = false := decide_eq_false h16
    have e : decide (Sound l) = false := decide_eq_false fun q => h16 q.1
    rw [e]
    clear e hl HC
    go_enter Tryd.func22, Tryd.ntmps22
    go_wp2
    go_ret
    exact ⟨rfl, Below.refl _ _⟩
end Go.Proofs.YtdihhdmndjjknaaDoor.Walk
