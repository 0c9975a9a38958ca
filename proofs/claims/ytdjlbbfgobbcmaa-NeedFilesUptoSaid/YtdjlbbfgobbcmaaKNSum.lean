/- Sums of amounts: what the program answers, us a contract. -/
import Derived.Test.YtdjlbbfgobbcmaaKNNum
namespace Go.Proofs.Ytdjlbbfgobbcmaa.Need
open Go.RowKit Go.Proofs.Ytdjlbbfgobbcmaa.PlainFloat Go.Proofs.Ytdjlbbfgobbcmaa.Turn Go.Proofs.YtdjlbbfgobbcmaaW.PrintWords Go.Proofs.YtdjlbbfgobbcmaaW.PrintLast
set_option linter.unusedVariables false
set_option linter.unusedSimpArgs false
/-- The first numbers together. -/
def tot (us : Nat → Int) : Nat → Int
  | 0 => 0
  | k + 1 => tot us k + us k
theorem tot_range {us : Nat → Int} {n : Nat} (h : ∀ k, k < n → Part (us k)) : ∀ k, k ≤ n → 0 ≤ tot us k ∧ tot us k ≤ 1073741824 * (k : Int) := by
  intro k
  induction k with
  | zero => intro _; exact ⟨Int.le_refl _, Int.le_refl _⟩
  | succ k ih =>
    intro hk
    have a := ih (by omega)
    have b := h k (by omega)
    unfold Part at b
    show 0 ≤ tot us k + us k ∧ tot us k + us k ≤ _
    omega
theorem tot_congr {us vs : Nat → Int} {n : Nat} (h : ∀ k, k < n → us k = vs k) : tot us n = tot vs n := by
  induction n with
  | zero => rfl
  | succ n ih =>
    show tot us n + us n = tot vs n + vs n
    rw [ih (fun k hk => h k (by omega)), h n (by omega)]
theorem tot_add (us : Nat → Int) (n m : Nat) : tot us (n + m) = tot us n + tot (fun k => us (n + k)) m := by
  induction m with
  | zero => show tot us n = tot us n + 0; omega
  | succ m ih =>
    show tot us (n + m) + us (n + m) = tot us n + (tot (fun k => us (n + k)) m + us (n + m))
    rw [ih]
    omega
theorem leq_not {a b : Nat} {x y : Int} (ha : Rep a x) (hb : Rep b y) (h : y < x) : (FloatKind.f64.format.order a b == some Ordering.lt || FloatKind.f64.format.order a b == some Ordering.eq) = false := by
  rw [ord_rep ha hb]
  simp only [compare, compareOfLessAndEq]
  rw [if_neg (show ¬ x < y by omega), if_neg (show ¬ x = y by omega)]
  rfl
theorem whole_no (x : Nat) (a : Int) (h : Rep x a) (p : 1073741824 < a) (w : World) : Calls Try.prog 29 #[.float .f64 x] w fun e w' => e = .returned (.bool false) ∧ w = w' := by
  have hge := geq_bool h rep_zero (by omega)
  have hle := leq_not h rep_most p
  clear h p
  go_enter Try.func29, Try.ntmps29
  go_wp2
  go_ret
  exact ⟨rfl, rfl⟩
theorem sound_no (x y : Nat) (a : Int) (hx : Rep x a) (p : 1073741824 < a) (w : World) : Calls Try.prog 19 #[.complex .f64 x y] w fun e w' => e = .returned (.bool false) ∧ w = w' := by
  have H := Aside0.mk (And.intro hx p)
  clear hx p
  go_enter Try.func19, Try.ntmps19
  go_wp2_with fail
  refine (whole_no x a H.out.1 H.out.2 _).mono ?_
  rintro e w2 ⟨rfl, rfl⟩
  go_wp2
  go_ret
  exact ⟨rfl, rfl⟩
/-- What a sum answers. -/
def SumOut (a b : Int) (x y : Nat) (r : Int) : Prop := (a ≤ 1073741824 ∧ r = 0 ∧ Rep x a ∧ Rep y b) ∨ (1073741824 < a ∧ r = 3 ∧ x = 0 ∧ y = 0)
def SumEnds (a b : Int) (w : World) (e : Ending) (w' : World) : Prop := ∃ x y r, e = .returned (.tuple #[.complex .f64 x y, .int .i64 r]) ∧ SumOut a b x y r ∧ w = w'
set_option maxHeartbeats 4000000 in
set_option maxRecDepth 100000 in
theorem sum_calls (w : World) (xs ys : Nat → Nat) (us vs : Nat → Int) (A : Option Addr) (g n cap : Nat) (hn : n ≤ 4194304) (hx : ∀ k, k < n → Rep (xs k) (us k) ∧ Rep (ys k) (vs k) ∧ Part (us k) ∧ Part (vs k))
    (hc : ∀ k, k < n → w.cell? ⟨g, k, none⟩ = some (.complex .f64 (xs k) (ys k))) (hb : Part (tot vs n)) (hA : n = 0 ∨ A = some ⟨g, 0, none⟩) :
    Calls Try.prog 11 #[.slice A n cap] w (SumEnds (tot us n) (tot vs n) w) := by
  have ha2 := tot_range (us := us) (n := n) (fun k hk => (hx k hk).2.2.1)
  have hb2 := tot_range (us := vs) (n := n) (fun k hk => (hx k hk).2.2.2)
  have HX := Aside0.mk hx
  have HC := Aside0.mk hc
  have HA := Aside0.mk hA
  have HT := Aside0.mk (And.intro ha2 hb2)
  have HBn := Aside0.mk hb
  have hn2 : (n : Int) ≤ 4194304 := by omega
  clear hx hc hA ha2 hb2 hb hn
  go_enter Try.func11, Try.ntmps11
  go_wp2
  go_loop [4, 9] (fun al i => ∃ k x y : Nat, k ≤ n ∧ i = .int .i64 k ∧ al = .complex .f64 x y ∧ Aside0 (Rep x (tot us k)) ∧ Aside0 (Rep y (tot vs k))) (fun _ i => n - (intOf i).toNat)
  case atStart => exact ⟨0, 0, 0, Nat.zero_le _, rfl, rfl, ⟨rep_zero⟩, ⟨rep_zero⟩⟩
  case round =>
    obtain ⟨k, x, y, hk, rfl, rfl, RX, RY⟩ := hrel
    by_cases hlt : k < n
    · obtain rfl : A = some ⟨g, 0, none⟩ := by
        rcases HA.out with h | h
        · omega
        · exact h
      have hcell := HC.out k hlt
      obtain ⟨r1, r2, p1, p2⟩ := HX.out k hlt
      have t1 := HT.out.1 (k + 1) (by omega)
      have t2 := HT.out.2 (k + 1) (by omega)
      have e1 : tot us (k + 1) = tot us k + us k := rfl
      have e2 : tot vs (k + 1) = tot vs k + vs k := rfl
      rw [e1] at t1
      rw [e2] at t2
      obtain ⟨re, im, es, rs, is⟩ := sum_rep RX.out RY.out r1 r2 (by omega) (by omega)
      have hadd := fun W => run_complex_sum (P := Try.prog) W .add (Or.inl rfl) 25 .f64 _ _ _ _ _ _ es
      have HS := Aside0.mk (And.intro (And.intro r1 r2) (And.intro (And.intro p1 p2) (And.intro rs is)))
      clear r1 r2 p1 p2 rs is t1 t2 e1 e2 es
      generalize xs k = xk at *
      generalize ys k = yk at *
      go_wp2_with fail
      refine (sound xk yk _ _ HS.out.1.1 HS.out.1.2 HS.out.2.1.1 HS.out.2.1.2 _).mono ?_
      rintro e w2 ⟨rfl, rfl⟩
      go_wp2
      go_round
      case rel => exact ⟨k + 1, re, im, by omega, by go_num, rfl, ⟨HS.out.2.2.1⟩, ⟨HS.out.2.2.2⟩⟩
      case measure => simp [intOf]; omega
    · obtain rfl : k = n := by omega
      clear hlt hk
      by_cases c : tot us k ≤ 1073741824
      · have hs := sound x y _ _ RX.out RY.out ⟨(HT.out.1 k (Nat.le_refl _)).1, c⟩ HBn.out
        have HCc := Aside0.mk c
        clear c
        go_wp2_with fail
        refine (hs _).mono ?_
        rintro e w2 ⟨rfl, rfl⟩
        clear hs
        go_wp2
        go_ret2
        exact ⟨x, y, 0, rfl, .inl ⟨HCc.out, rfl, RX.out, RY.out⟩, rfl⟩
      · have hs := sound_no x y _ RX.out (by omega)
        have HCc := Aside0.mk c
        clear c
        go_wp2_with fail
        refine (hs _).mono ?_
        rintro e w2 ⟨rfl, rfl⟩
        clear hs
        go_wp2
        go_ret2
        exact ⟨0, 0, 3, rfl, .inr ⟨by have := HCc.out; omega, rfl, rfl, rfl⟩, rfl⟩
end Go.Proofs.Ytdjlbbfgobbcmaa.Need
