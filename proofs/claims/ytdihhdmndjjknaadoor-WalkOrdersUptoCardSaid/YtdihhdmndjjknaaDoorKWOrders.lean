/- What stands above, and the order of every list, is what the document says: the walk of the law WalkOrders. -/
import Derived.Test.YtdihhdmndjjknaaDoorKWROrder
namespace Go.Proofs.YtdihhdmndjjknaaDoor.Walk
open Go.RowKit Go.Shelf Go.Proofs.YtdihhdmndjjknaaDoor.PWalkOrders Go.Proofs.YtdihhdmndjjknaaDoor.Plain Go.Proofs.YtdihhdmndjjknaaDoor.Codec Go.Proofs.YtdihhdmndjjknaaDoorW.PrintWords Go.Proofs.YtdihhdmndjjknaaDoorW.PrintLast Go.Proofs.YtdihhdmndjjknaaDoorW.PrintMore
set_option linter.unusedVariables false
set_option linter.unusedSimpArgs false
/-- What an order answers: told by its input alone. -/
def Told (f : Nat) (l X : List ByteArray) (er : Int) : Prop := ∀ (A : Option Addr) (c : Nat) (w : World), Kd.C Kd.string w A l.length l →
    Calls Tryd.prog f #[.slice A l.length c] w fun e w' => ∃ v, e = .returned (.tuple #[v, .int .i64 er]) ∧ Kd.R Kd.string 9 w' w.heap.size (fun _ => True) v X ∧ Below w.heap.size w w'
theorem told_of {f : Nat} {l : List ByteArray} (H : ∀ (A : Option Addr) (c : Nat) (w : World), Kd.C Kd.string w A l.length l → Calls Tryd.prog f #[.slice A l.length c] w fun e w' => ((¬ AllSplit l ∧ e = .returned (.tuple #[.slice none 0 0, .int .i64 16])) ∨ (AllSplit l ∧ ∃ v N, OrderOf l N ∧ e = .returned (.tuple #[v, .int .i64 0]) ∧ Kd.R Kd.string 9 w' w.heap.size (fun _ => True) v (N.map fun x => (joinOut x).1))) ∧ Below w.heap.size w w')
    {X : List ByteArray} {er : Int} (h1 : ¬ AllSplit l → X = [] ∧ er = 16) (h2 : AllSplit l → ∀ N, OrderOf l N → X = (N.map fun x => (joinOut x).1) ∧ er = 0) : Told f l X er := by
  intro A c w hr
  refine (H A c w hr).mono ?_
  rintro e w' ⟨ho, hb⟩
  rcases ho with ⟨hno, rfl⟩ | ⟨hall, v, N, hN, rfl, hrow⟩
  · obtain ⟨rfl, rfl⟩ := h1 hno
    exact ⟨_, rfl, texts_nil _ _, hb⟩
  · obtain ⟨rfl, rfl⟩ := h2 hall N hN
    exact ⟨v, rfl, hrow, hb⟩
theorem both_told (l : List ByteArray) (hl : l.length ≤ 1048576) (hsz : ∀ p ∈ l, p.size ≤ 9223372036854775807) : ∃ (X : List ByteArray) (er : Int), X.length ≤ 1048576 ∧ Told 17 l X er ∧ Told 19 l X er := by
  have hA := fun A c w hr => order_calls A c l w hr hl hsz
  have hB := fun A c w hr => rorder_calls A c l w hr hl
  by_cases hall : AllSplit l
  · by_cases hN : ∃ N, OrderOf l N
    · obtain ⟨N, hN⟩ := hN
      have h2 : AllSplit l → ∀ M, OrderOf l M → (N.map fun x => (joinOut x).1) = (M.map fun x => (joinOut x).1) ∧ (0 : Int) = 0 := fun _ M hM => by rw [hM.uniq hN]; exact ⟨rfl, rfl⟩
      exact ⟨_, 0, by rw [List.length_map]; exact Nat.le_trans hN.len hl, told_of hA (fun q => absurd hall q) h2, told_of hB (fun q => absurd hall q) h2⟩
    · exact ⟨[], 0, by simp, told_of hA (fun q => absurd hall q) fun _ M hM => absurd ⟨M, hM⟩ hN, told_of hB (fun q => absurd hall q) fun _ M hM => absurd ⟨M, hM⟩ hN⟩
  · exact ⟨[], 16, by simp, told_of hA (fun _ => ⟨rfl, rfl⟩) fun q => absurd q hall, told_of hB (fun _ => ⟨rfl, rfl⟩) fun q => absurd q hall⟩
set_option maxHeartbeats 8000000 in
set_option maxRecDepth 100000 in
theorem orders_calls (a b : ByteArray) (ha : a.size ≤ 1125899906842624) (hb : b.size ≤ 1125899906842624) (A : Option Addr) (c : Nat) (l : List ByteArray) (w : World) (hr : Kd.C Kd.string w A l.length l) (hl : l.length ≤ 1048576) (hsz : ∀ p ∈ l, p.size ≤ 9223372036854775807) :
    Calls Tryd.prog 6 #[.string a, .string b, .slice A l.length c] w fun e w' => e = .returned (.bool true) ∧ Below w.heap.size w w' := by
  have HW := Aside0.mk (wakes_calls w)
  obtain ⟨X, er, hX, h1, h2⟩ := both_told l hl hsz
  unfold Told at h1 h2
  have HX := Aside0.mk hX
  have HO := Aside0.mk h1
  have HP := Aside0.mk h2
  have HA := Aside0.mk (fun W => above_calls a b (by omega) (by omega) W)
  have HB := Aside0.mk (fun W => skerryref16_Above.calls 600 a b (aboveOut a b).1 (aboveOut a b).2 W (rabove_is a b 600 (by decide)))
  obtain ⟨⟨x, ex⟩, hx⟩ : ∃ z, aboveOut a b = z := ⟨_, rfl⟩
  rw [hx] at HA HB
  have HR := Aside0.mk hr
  have q1 : (ex == ex) = true := beq_iff_eq.2 rfl
  have q2 : (er == er) = true := beq_iff_eq.2 rfl
  have q3 : (x == x) = true := beq_iff_eq.2 rfl
  clear ha hb hr hl hsz hX h1 h2 hx
  go_enter Tryd.func6, Tryd.ntmps6
  go_wp2_with fail
  ((refine HW.out.mono ?_); rintro e w1 ⟨rfl, hb⟩)
  have H1 := Aside0.mk hb
  clear hb HW
  go_wp2_with fail
  ((refine (HA.out w1).mono ?_); rintro e w2 ⟨rfl, hb⟩)
  have H2 := Aside0.mk (below_then H1.out H1.out.size hb)
  clear hb HA
  go_wp2_with fail
  ((refine (HB.out w2).mono ?_); rintro e w3 ⟨rfl, hb⟩)
  have H3 := Aside0.mk (below_then H2.out H2.out.size hb)
  have HR3 := Aside0.mk (HO.out A c w3 (Kd.C_below HR.out H3.out))
  clear hb HB HO
  go_wp2_with fail
  ((refine HR3.out.mono ?_); rintro e w4 ⟨v4, rfl, hr, hb⟩)
  have H4 := Aside0.mk (below_then H3.out H3.out.size hb)
  obtain ⟨A4, k4, rfl, hk, hc, _⟩ := texts_reads hr
  have HC4 := Aside0.mk hc
  have HK4 := Aside0.mk hk
  have HR4 := Aside0.mk (HP.out A c w4 (Kd.C_below HR.out H4.out))
  clear hb hr hk hc HR3 HP
  go_wp2_with fail
  ((refine HR4.out.mono ?_); rintro e w5 ⟨v5, rfl, hr, hb⟩)
  have H5 := Aside0.mk (below_then H4.out H4.out.size hb)
  obtain ⟨A5, k5, rfl, hk, hc, _⟩ := texts_reads hr
  have HST := Aside0.mk (skerryref01_SameTexts.calls (X.length + 1) A4 k4 X A5 k5 X true w5 (Kd.C_below HC4.out hb) HK4.out hc hk (same_texts X HX.out))
  clear hb hr hk hc HR4 HC4 HK4
  cases x <;> (
  go_wp2_with fail
  ((refine HST.out.mono ?_); rintro e w6 ⟨rfl, hd⟩)
  have H6 := Aside0.mk (below_then H5.out H5.out.size hd.below)
  clear hd HST H1 H2 H3 H4 H5
  go_wp2
  go_ret
  exact ⟨rfl, H6.out⟩)
/-- The bytes of all, and one more of each. -/
def sumS : List ByteArray → Nat
  | [] => 0
  | x :: l => x.size + 1 + sumS l
theorem sum_len (l : List ByteArray) : l.length ≤ sumS l := by
  induction l with
  | nil => exact Nat.le_refl _
  | cons x l ih => show l.length + 1 ≤ x.size + 1 + sumS l; omega
theorem sum_mem (l : List ByteArray) (p : ByteArray) (h : p ∈ l) : p.size ≤ sumS l := by
  induction l with
  | nil => cases h
  | cons x l ih =>
    show p.size ≤ x.size + 1 + sumS l
    rcases List.mem_cons.1 h with e | e
    · subst e; omega
    · have := ih e; omega
theorem orders_row (a b : ByteArray) (A : Option Addr) (c : Nat) (l : List ByteArray) (w : World) (ha : a.size ≤ 1048576) (hb : b.size ≤ 1048576) (hr : Kd.C Kd.string w A l.length l) (hc : l.length ≤ c) (hz : sumS l ≤ 1048576) :
    Calls Tryd.prog 6 #[.string a, .string b, .slice A l.length c] w fun e w' => e = .returned (.bool true) ∧ Below w.heap.size w w' :=
  orders_calls a b (by omega) (by omega) A c l w hr (Nat.le_trans (sum_len l) hz) (fun p hp => by have := sum_mem l p hp; omega)
end Go.Proofs.YtdihhdmndjjknaaDoor.Walk
