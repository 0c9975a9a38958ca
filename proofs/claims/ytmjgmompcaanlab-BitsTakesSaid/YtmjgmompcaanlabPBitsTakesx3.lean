-- Written by this session's own tool (prn.py) over the kit's printer; its templates are the session's own. Lean checks it.
import Derived.Test.YtmjgmompcaanlabPBitsTakesx0
import Derived.Test.YtmjgmompcaanlabPBitsTakesx1
import Derived.Test.YtmjgmompcaanlabPBitsTakesx2
namespace Go.Proofs.Ytmjgmompcaanlab.PBitsTakes
open Go.RowKit Go.Proofs.YtmjgmompcaanlabW.PrintWords Go.Proofs.YtmjgmompcaanlabW.PrintLast Go.Proofs.YtmjgmompcaanlabW.PrintMore
attribute [local go_sem] max2_int min2_int max_two min_two max_three min_three max_four min_four   -- for this text's walks alone
set_option linter.unusedVariables false
set_option linter.unusedSimpArgs false

/-! ### bits_First: function 19 -/
/-- What holds at a jump to label l, for some labels; any other goto: no way out. -/
def bits_First.jumps (L : List Nat) (J : Nat → Act → World → Prop) (Q : Exit → Act → World → Prop) : Exit → Act → World → Prop
  | .goto l, a, w => l ∈ L ∧ J l a w
  | e, a, w => Q e a w
/-- A scope in which the run jumps to several labels: what holds at every jump, and a measure that every pass from a label lowers. -/
theorem bits_First.scope {P : Program} {a : Act} {w : World} {Q : Exit → Act → World → Prop} {c : Code} (L : List Nat) (rest : Nat → Code) (J : Nat → Act → World → Prop) (μ : Nat → Act → World → Nat) (hf : ∀ l ∈ L, findLabel c l = some (rest l))
    (first : c.wp P (bits_First.jumps L J Q) a w)
    (pass : ∀ l ∈ L, ∀ a w, J l a w → (rest l).wp P (bits_First.jumps L (fun l' a' w' => J l' a' w' ∧ μ l' a' w' < μ l a w) Q) a w) : (Code.scope c).wp P Q a w := by
  intro b k cs
  have hg : ∀ l ∈ L, gotoIn l (.inScope c :: k) = some (.code (rest l) :: .inScope c :: k) := fun l hl => by simp [gotoIn, hf l hl]
  have key : ∀ n l a w, l ∈ L → μ l a w = n → J l a w → ∃ e a' w', Q e a' w' ∧ Arrives P (lone (b.at a (.code (rest l) :: .inScope c :: k)) cs w) b k cs e a' w' := by
    intro n
    induction n using Nat.strongRecOn with
    | _ n ih =>
      intro l a w hl hn hJ
      obtain ⟨e, a₁, w₁, hq, harr⟩ := pass l hl a w hJ b (.inScope c :: k) cs
      cases e with
      | normal => exact ⟨.normal, a₁, w₁, hq, Steps.trans harr (.one step_inScope)⟩
      | exit id => exact ⟨.exit id, a₁, w₁, hq, fun k' hk => harr k' (by simp [exitTo, hk])⟩
      | goto l' =>
        obtain ⟨hl', hJ', hlt⟩ := hq
        obtain ⟨e₂, a₂, w₂, hq₂, harr₂⟩ := ih _ (by omega) l' a₁ w₁ hl' rfl hJ'
        exact ⟨e₂, a₂, w₂, hq₂, .of_steps (harr _ (hg _ hl')) harr₂⟩
      | ret => exact ⟨_, a₁, w₁, hq, harr⟩
      | panic ch => exact ⟨_, a₁, w₁, hq, harr⟩
      | outgrown => exact ⟨_, a₁, w₁, hq, harr⟩
  obtain ⟨e, a₁, w₁, hq, harr⟩ := first b (.inScope c :: k) cs
  cases e with
  | normal => exact ⟨.normal, a₁, w₁, hq, .head step_scope (Steps.trans harr (.one step_inScope))⟩
  | exit id => exact ⟨.exit id, a₁, w₁, hq, fun k' hk => .head step_scope (harr k' (by simp [exitTo, hk]))⟩
  | goto l' =>
    obtain ⟨hl', hJ'⟩ := hq
    obtain ⟨e₂, a₂, w₂, hq₂, harr₂⟩ := key _ l' a₁ w₁ hl' rfl hJ'
    exact ⟨e₂, a₂, w₂, hq₂, .of_steps (.head step_scope (harr _ (hg _ hl'))) harr₂⟩
  | ret => exact ⟨_, a₁, w₁, hq, .of_steps (.one step_scope) harr⟩
  | panic ch => exact ⟨_, a₁, w₁, hq, .of_steps (.one step_scope) harr⟩
  | outgrown => exact ⟨_, a₁, w₁, hq, .of_steps (.one step_scope) harr⟩
theorem bits_First.scope3 {P : Program} {a : Act} {w : World} {Q : Exit → Act → World → Prop} {c r0 r1 r2 : Code} (J : Nat → Act → World → Prop) (μ : Nat → Act → World → Nat) (h0 : findLabel c 0 = some r0) (h1 : findLabel c 1 = some r1) (h2 : findLabel c 2 = some r2)
    (first : c.wp P (bits_First.jumps [0, 1, 2] J Q) a w)
    (p0 : ∀ a w, J 0 a w → r0.wp P (bits_First.jumps [0, 1, 2] (fun l' a' w' => J l' a' w' ∧ μ l' a' w' < μ 0 a w) Q) a w)
    (p1 : ∀ a w, J 1 a w → r1.wp P (bits_First.jumps [0, 1, 2] (fun l' a' w' => J l' a' w' ∧ μ l' a' w' < μ 1 a w) Q) a w)
    (p2 : ∀ a w, J 2 a w → r2.wp P (bits_First.jumps [0, 1, 2] (fun l' a' w' => J l' a' w' ∧ μ l' a' w' < μ 2 a w) Q) a w) : (Code.scope c).wp P Q a w := by
  refine bits_First.scope [0, 1, 2] (fun l => if l = 0 then r0 else if l = 1 then r1 else r2) J μ ?_ first ?_
  · intro l hl
    simp only [List.mem_cons, List.not_mem_nil, or_false] at hl
    rcases hl with rfl | rfl | rfl
    · exact h0
    · exact h1
    · exact h2
  · intro l hl a w hJ
    simp only [List.mem_cons, List.not_mem_nil, or_false] at hl
    rcases hl with rfl | rfl | rfl
    · exact p0 a w hJ
    · exact p1 a w hJ
    · exact p2 a w hJ
/-- Is bit i of the bytes 0? -/
def bits_First.off (l : List Int) (i : Int) : Bool := rd l (i / 8) / 2 ^ (i % 8).toNat % 2 == 0
/-- The first bit that is 0, of n bits from i on. -/
def bits_First.fz (l : List Int) : Nat → Int → Int × Int
  | 0, _ => (0, 11)
  | n + 1, i => if bits_First.off l i then (i, 0) else bits_First.fz l n (i + 1)
def bits_First.f (l0 : List Int) (a1 : Int) (a2 : Int) : Option (Int × Int) :=
  if ∀ x ∈ l0, 0 ≤ x ∧ x < 256 then (if l0.length ≤ 140737488351232 then some (if 0 ≤ a1 ∧ a1 ≤ a2 ∧ a2 ≤ 8 * (l0.length : Int) then bits_First.fz l0 (a2 - a1).toNat a1 else (0, 2)) else none) else none
theorem bits_First.and1 {x : Int} (h0 : 0 ≤ x) (h1 : x < 256) : Go.bits .and .u8 x 1 = x % 2 := bits_mask .u8 8 (by decide) wraps_u8 1 (by decide) x h0 h1
theorem bits_First.rd_byte {l : List Int} (h : ∀ x ∈ l, 0 ≤ x ∧ x < 256) (i : Int) : 0 ≤ rd l i ∧ rd l i < 256 := by
  unfold rd
  by_cases h1 : i.toNat < l.length
  · rw [List.getD_eq_getElem?_getD, List.getElem?_eq_getElem h1]
    exact h _ (List.getElem_mem h1)
  · rw [List.getD_eq_getElem?_getD, List.getElem?_eq_none (by omega)]
    simp
theorem bits_First.shr_byte {x : Int} (h0 : 0 ≤ x) (h1 : x < 256) (n : Nat) : 0 ≤ x / 2 ^ n ∧ x / 2 ^ n < 256 :=
  ⟨Int.ediv_nonneg h0 (Int.le_of_lt (Int.pow_pos (by decide))), Int.lt_of_le_of_lt (Int.ediv_le_self _ h0) h1⟩
theorem bits_First.fz_ones {l : List Int} {i : Int} (hi : 0 ≤ i) (hb : rd l (i / 8) = 255) (h8 : i % 8 = 0) : ∀ (m : Nat), m ≤ 8 → ∀ n, bits_First.fz l (n + m) (i + (8 - m : Nat)) = bits_First.fz l n (i + 8) := by
  intro m
  induction m with
  | zero => intro _ n; rfl
  | succ m ih =>
    intro hm n
    show (if bits_First.off l (i + ((8 - (m + 1) : Nat) : Int)) then (i + ((8 - (m + 1) : Nat) : Int), 0) else bits_First.fz l (n + m) (i + ((8 - (m + 1) : Nat) : Int) + 1)) = _
    have h1 : (i + ((8 - (m + 1) : Nat) : Int)) / 8 = i / 8 := by omega
    have h2 : ((i + ((8 - (m + 1) : Nat) : Int)) % 8).toNat = 8 - (m + 1) := by omega
    have : bits_First.off l (i + ((8 - (m + 1) : Nat) : Int)) = false := by
      unfold bits_First.off
      rw [h1, h2, hb]
      have : ∀ j : Fin 8, ((255 : Int) / 2 ^ j.val % 2 == 0) = false := by decide
      exact this ⟨8 - (m + 1), by omega⟩
    rw [this, if_neg (by simp), show i + ((8 - (m + 1) : Nat) : Int) + 1 = i + ((8 - m : Nat) : Int) by omega]
    exact ih (by omega) n
theorem bits_First.fz_short {l : List Int} {i : Int} (hi : 0 ≤ i) (hb : rd l (i / 8) = 255) (h8 : i % 8 = 0) : ∀ (n : Nat), n ≤ 8 → ∀ j : Nat, j + n ≤ 8 → bits_First.fz l n (i + j) = (0, 11) := by
  intro n
  induction n with
  | zero => intro _ _ _; rfl
  | succ n ih =>
    intro hn j hj
    show (if bits_First.off l (i + (j : Int)) then (i + (j : Int), 0) else bits_First.fz l n (i + (j : Int) + 1)) = _
    have h1 : (i + (j : Int)) / 8 = i / 8 := by omega
    have h2 : ((i + (j : Int)) % 8).toNat = j := by omega
    have : bits_First.off l (i + (j : Int)) = false := by
      unfold bits_First.off
      rw [h1, h2, hb]
      have : ∀ j : Fin 8, ((255 : Int) / 2 ^ j.val % 2 == 0) = false := by decide
      exact this ⟨j, by omega⟩
    rw [this, if_neg (by simp), show i + (j : Int) + 1 = i + ((j + 1 : Nat) : Int) by omega]
    exact ih (by omega) (j + 1) (by omega)
/-- A whole byte of ones is passed at once. -/
theorem bits_First.fz_byte {l : List Int} {i b : Int} (hi : 0 ≤ i) (hb : rd l (i / 8) = 255) (h8 : i % 8 = 0) : bits_First.fz l (b - i).toNat i = bits_First.fz l (b - (i + 8)).toNat (i + 8) := by
  by_cases h : i + 8 ≤ b
  · have := bits_First.fz_ones hi hb h8 8 (by omega) (b - (i + 8)).toNat
    rw [show (b - (i + 8)).toNat + 8 = (b - i).toNat by omega] at this
    simpa using this
  · have h1 := bits_First.fz_short hi hb h8 (b - i).toNat (by omega) 0 (by omega)
    rw [show (b - (i + 8)).toNat = 0 by omega]
    simpa [bits_First.fz] using h1
theorem bits_First.ret {a b c d : Int} (h : (a, b) = (c, d)) : Ending.returned (.tuple #[.int .i64 a, .int .i64 b]) = .returned (.tuple #[.int .i64 c, .int .i64 d]) := by
  obtain ⟨rfl, rfl⟩ := Prod.mk.inj h
  rfl
/-- What holds at every jump: slot 8 holds a place; from it on the answer is the same. -/
def bits_First.J (A0 : Option Addr) (c0 : Nat) (l0 : List Int) (a1 a2 : Int) (R : Int × Int) (w : World) (lab : Nat) (a : Act) (w' : World) : Prop :=
  (∃ m : Nat, w' = w.drewN m) ∧ ∃ (i : Int) (u3 u4 u5 u6 u7 u9 u10 u11 u12 u13 u14 u15 u16 u17 u18 u19 u20 u21 u22 u23 u24 u25 u26 u27 u28 u29 u30 u31 u32 u33 u34 u35 u36 u37 u38 u39 u40 u41 : Value), a = { tmps := #[.slice A0 l0.length c0, .int .i64 a1, .int .i64 a2, u3, u4, u5, u6, u7, .int .i64 i, u9, u10, u11, u12, u13, u14, u15, u16, u17, u18, u19, u20, u21, u22, u23, u24, u25, u26, u27, u28, u29, u30, u31, u32, u33, u34, u35, u36, u37, u38, u39, u40, u41], defers := [] } ∧ 0 ≤ i ∧ i ≤ a2 + 8 ∧ bits_First.fz l0 (a2 - i).toNat i = R ∧ (lab ≠ 0 → i < a2) ∧ (lab = 1 → i % 8 = 0)
def bits_First.num : Value → Int | .int _ q => q | _ => 0
/-- What every pass from a label lowers. -/
def bits_First.mu (a2 : Int) (lab : Nat) (a : Act) (_ : World) : Nat := 3 * (a2 + 8 - bits_First.num (a.tmps.getD 8 undef)).toNat + (if lab = 0 then 2 else if lab = 1 then 1 else 0)
set_option maxRecDepth 100000 in
set_option maxHeartbeats 4000000 in
theorem bits_First.calls (A0 : Option Addr) (c0 : Nat) (l0 : List Int) (a1 : Int) (a2 : Int) (r1 : Int) (r2 : Int) (w : World) (hr0 : Kd.C (Kd.int .u8) w A0 l0.length l0) (hc0 : l0.length ≤ c0) (h : bits_First.f l0 a1 a2 = some (r1, r2)) :
    Calls Try.prog 19 #[.slice A0 l0.length c0, .int .i64 a1, .int .i64 a2] w fun e w' => e = .returned (.tuple #[.int .i64 r1, .int .i64 r2]) ∧ Drawn0 w w' := by
  unfold bits_First.f at h
  by_cases hb : ∀ x ∈ l0, 0 ≤ x ∧ x < 256
  · by_cases hl : l0.length ≤ 140737488351232
    · rw [if_pos hb, if_pos hl] at h
      replace h := Option.some.inj h
      have hp : bits_part.f l0 a1 a2 = some (decide (0 ≤ a1 ∧ a1 ≤ a2 ∧ a2 ≤ 8 * (l0.length : Int))) := by
        unfold bits_part.f
        have hw : wrap64 (8 * (l0.length : Int)) = 8 * (l0.length : Int) := by unfold wrap64; omega
        rw [hw]
        by_cases h1 : a1 ≥ 0 <;> by_cases h2 : a1 ≤ a2 <;> by_cases h3 : a2 ≤ 8 * (l0.length : Int) <;> simp [h1, h2, h3]
        all_goals omega
      by_cases hin : 0 ≤ a1 ∧ a1 ≤ a2 ∧ a2 ≤ 8 * (l0.length : Int)
      · rw [if_pos hin] at h
        have hp' : bits_part.f l0 a1 a2 = some true := by rw [hp, decide_eq_true hin]
        clear hp
        obtain ⟨h1, h2, h3⟩ := hin
        have H := Aside0.mk h
        have HP := Aside0.mk hp'
        have HB := Aside0.mk hb
        have HR0 := Aside0.mk hr0
        have HC0 := Aside0.mk hc0
        clear h hp' hb hr0 hc0
        go_enter Try.func19, Try.ntmps19
        go_wp2
        refine bits_First.scope3 (bits_First.J A0 c0 l0 a1 a2 (r1, r2) w) (bits_First.mu a2) rfl rfl rfl ?_ ?_ ?_ ?_
        · go_wp2_with (go_at_call 27; (with_reducible refine (bits_part.calls _ _ l0 a1 a2 true _ HR0.out HC0.out HP.out).mono ?_); rintro e w' ⟨rfl, ⟨nd, rfl⟩⟩)
          go_step3
          have HT := H
          clear H
          obtain ⟨i, hi⟩ : ∃ i, i = a1 := ⟨_, rfl⟩
          subst hi
          by_cases c6 : i < a2
          · obtain ⟨j, hj⟩ : ∃ j : Int, i / 8 = j := ⟨_, rfl⟩
            have hj0 : 0 ≤ j := by omega
            have hj1 : j < (l0.length : Int) := by omega
            obtain ⟨m, hm⟩ : ∃ m : Int, i % 8 = m := ⟨_, rfl⟩
            have hm0 : 0 ≤ m := by omega
            have hm1 : m ≤ 7 := by omega
            by_cases c7 : m = 0
            · have c7b : (m == 0) = true := beq_iff_eq.mpr c7
              have C7 := Aside0.mk c7
              clear c7
              have hm8 := C7.out
              clear hm8
              go_wp2
              go_step3
              exact ⟨by simp, ⟨⟨_, rfl⟩, i, _, _, _, _, _, _, _, _, _, _, _, _, _, _, _, _, _, _, _, _, _, _, _, _, _, _, _, _, _, _, _, _, _, _, _, _, _, _, rfl, by omega, by omega, HT.out, fun _ => by omega, fun _ => by have := C7.out; omega⟩⟩
            · have c7b : (m == 0) = false := beq_eq_false_iff_ne.mpr c7
              clear c7
              obtain ⟨ad, e, hx⟩ := Kd.at_int HR0.out j (by omega) (by omega)
              cases e
              have hby := bits_First.rd_byte HB.out j
              obtain ⟨q, hq⟩ : ∃ q : Int, rd l0 j / 2 ^ m.toNat = q := ⟨_, rfl⟩
              have hqb := bits_First.shr_byte hby.1 hby.2 m.toNat
              rw [hq] at hqb
              obtain ⟨b, hbit⟩ : ∃ b : Int, Go.bits .and .u8 q 1 = b := ⟨_, rfl⟩
              have hb2 : b = q % 2 := by rw [← hbit]; exact bits_First.and1 hqb.1 hqb.2
              have hoff : bits_First.off l0 i = (q % 2 == 0) := by unfold bits_First.off; rw [hj, hm, hq]
              have ht := HT.out
              rw [show (a2 - i).toNat = (a2 - (i + 1)).toNat + 1 by omega] at ht
              simp only [bits_First.fz] at ht
              rw [hoff, ← hb2] at ht
              clear hoff hqb hby HT
              by_cases c9 : b = 0
              · have c9b : (b == 0) = true := beq_iff_eq.mpr c9
                rw [c9b, if_pos rfl] at ht
                obtain ⟨rfl, rfl⟩ := Prod.mk.inj ht
                clear ht hb2 c9
                go_wp2
                go_step3
                go_wp2
                try simp only [bits_First.jumps]
                go_ret2
                exact ⟨rfl, by repeat (first | exact Drawn0.refl _ | apply Drawn0.step)⟩
              · have c9b : (b == 0) = false := beq_eq_false_iff_ne.mpr c9
                rw [c9b, if_neg (by simp)] at ht
                have HT := Aside0.mk ht
                clear ht hb2 c9
                go_wp2
                go_step3
                go_wp2
                go_step3
                exact ⟨by simp, ⟨⟨_, rfl⟩, i + 1, _, _, _, _, _, _, _, _, _, _, _, _, _, _, _, _, _, _, _, _, _, _, _, _, _, _, _, _, _, _, _, _, _, _, _, _, _, _, rfl, by omega, by omega, HT.out, fun h => absurd rfl h, fun h => absurd h (by decide)⟩⟩
          · have ht := HT.out
            rw [show (a2 - i).toNat = 0 by omega] at ht
            simp only [bits_First.fz] at ht
            obtain ⟨rfl, rfl⟩ := Prod.mk.inj ht
            clear ht HT
            go_wp2
            try simp only [bits_First.jumps]
            go_ret2
            exact ⟨rfl, by repeat (first | exact Drawn0.refl _ | apply Drawn0.step)⟩
        · rintro a w' ⟨⟨nw, rfl⟩, i, u3, u4, u5, u6, u7, u9, u10, u11, u12, u13, u14, u15, u16, u17, u18, u19, u20, u21, u22, u23, u24, u25, u26, u27, u28, u29, u30, u31, u32, u33, u34, u35, u36, u37, u38, u39, u40, u41, rfl, hi0, hi1, hfz, hlt, h8⟩
          have HT := Aside0.mk hfz
          clear hfz H
          clear hlt h8
          by_cases c6 : i < a2
          · obtain ⟨j, hj⟩ : ∃ j : Int, i / 8 = j := ⟨_, rfl⟩
            have hj0 : 0 ≤ j := by omega
            have hj1 : j < (l0.length : Int) := by omega
            obtain ⟨m, hm⟩ : ∃ m : Int, i % 8 = m := ⟨_, rfl⟩
            have hm0 : 0 ≤ m := by omega
            have hm1 : m ≤ 7 := by omega
            by_cases c7 : m = 0
            · have c7b : (m == 0) = true := beq_iff_eq.mpr c7
              have C7 := Aside0.mk c7
              clear c7
              have hm8 := C7.out
              clear hm8
              go_wp2
              go_step3
              refine ⟨by simp, ⟨⟨_, rfl⟩, i, _, _, _, _, _, _, _, _, _, _, _, _, _, _, _, _, _, _, _, _, _, _, _, _, _, _, _, _, _, _, _, _, _, _, _, _, _, _, rfl, by omega, by omega, HT.out, fun _ => by omega, fun _ => by have := C7.out; omega⟩, ?_⟩
              simp only [bits_First.mu, bits_First.num]
              first | (simp; done) | (simp; omega)
            · have c7b : (m == 0) = false := beq_eq_false_iff_ne.mpr c7
              clear c7
              obtain ⟨ad, e, hx⟩ := Kd.at_int HR0.out j (by omega) (by omega)
              cases e
              have hby := bits_First.rd_byte HB.out j
              obtain ⟨q, hq⟩ : ∃ q : Int, rd l0 j / 2 ^ m.toNat = q := ⟨_, rfl⟩
              have hqb := bits_First.shr_byte hby.1 hby.2 m.toNat
              rw [hq] at hqb
              obtain ⟨b, hbit⟩ : ∃ b : Int, Go.bits .and .u8 q 1 = b := ⟨_, rfl⟩
              have hb2 : b = q % 2 := by rw [← hbit]; exact bits_First.and1 hqb.1 hqb.2
              have hoff : bits_First.off l0 i = (q % 2 == 0) := by unfold bits_First.off; rw [hj, hm, hq]
              have ht := HT.out
              rw [show (a2 - i).toNat = (a2 - (i + 1)).toNat + 1 by omega] at ht
              simp only [bits_First.fz] at ht
              rw [hoff, ← hb2] at ht
              clear hoff hqb hby HT
              by_cases c9 : b = 0
              · have c9b : (b == 0) = true := beq_iff_eq.mpr c9
                rw [c9b, if_pos rfl] at ht
                obtain ⟨rfl, rfl⟩ := Prod.mk.inj ht
                clear ht hb2 c9
                go_wp2
                go_step3
                go_wp2
                try simp only [bits_First.jumps]
                go_ret2
                exact ⟨rfl, by repeat (first | exact Drawn0.refl _ | apply Drawn0.step)⟩
              · have c9b : (b == 0) = false := beq_eq_false_iff_ne.mpr c9
                rw [c9b, if_neg (by simp)] at ht
                have HT := Aside0.mk ht
                clear ht hb2 c9
                go_wp2
                go_step3
                go_wp2
                go_step3
                refine ⟨by simp, ⟨⟨_, rfl⟩, i + 1, _, _, _, _, _, _, _, _, _, _, _, _, _, _, _, _, _, _, _, _, _, _, _, _, _, _, _, _, _, _, _, _, _, _, _, _, _, _, rfl, by omega, by omega, HT.out, fun h => absurd rfl h, fun h => absurd h (by decide)⟩, ?_⟩
                simp only [bits_First.mu, bits_First.num]
                first | (simp; done) | (simp; omega)
          · have ht := HT.out
            rw [show (a2 - i).toNat = 0 by omega] at ht
            simp only [bits_First.fz] at ht
            obtain ⟨rfl, rfl⟩ := Prod.mk.inj ht
            clear ht HT
            go_wp2
            try simp only [bits_First.jumps]
            go_ret2
            exact ⟨rfl, by repeat (first | exact Drawn0.refl _ | apply Drawn0.step)⟩
        · rintro a w' ⟨⟨nw, rfl⟩, i, u3, u4, u5, u6, u7, u9, u10, u11, u12, u13, u14, u15, u16, u17, u18, u19, u20, u21, u22, u23, u24, u25, u26, u27, u28, u29, u30, u31, u32, u33, u34, u35, u36, u37, u38, u39, u40, u41, rfl, hi0, hi1, hfz, hlt, h8⟩
          have HT := Aside0.mk hfz
          clear hfz H
          have c6 : i < a2 := hlt (by decide)
          have h80 : i % 8 = 0 := h8 rfl
          clear hlt h8
          obtain ⟨j, hj⟩ : ∃ j : Int, i / 8 = j := ⟨_, rfl⟩
          have hj0 : 0 ≤ j := by omega
          have hj1 : j < (l0.length : Int) := by omega
          obtain ⟨m, hm⟩ : ∃ m : Int, i % 8 = m := ⟨_, rfl⟩
          have hm0 : 0 ≤ m := by omega
          have hm1 : m ≤ 7 := by omega
          clear hm
          obtain ⟨ad, e, hx⟩ := Kd.at_int HR0.out j (by omega) (by omega)
          cases e
          have hby := bits_First.rd_byte HB.out j
          by_cases c9 : rd l0 j = 255
          · have c9b : (rd l0 j != 255) = false := bne_eq_false_iff_eq.mpr c9
            have HT2 : Aside0 (bits_First.fz l0 (a2 - (i + 8)).toNat (i + 8) = (r1, r2)) := ⟨by rw [← bits_First.fz_byte (by omega) (by rw [hj]; exact c9) (by omega)]; exact HT.out⟩
            clear c9 HT
            go_wp2
            go_step3
            refine ⟨by simp, ⟨⟨_, rfl⟩, i + 8, _, _, _, _, _, _, _, _, _, _, _, _, _, _, _, _, _, _, _, _, _, _, _, _, _, _, _, _, _, _, _, _, _, _, _, _, _, _, rfl, by omega, by omega, HT2.out, fun h => absurd rfl h, fun h => absurd h (by decide)⟩, ?_⟩
            simp only [bits_First.mu, bits_First.num]
            first | (simp; done) | (simp; omega)
          · have c9b : (rd l0 j != 255) = true := bne_iff_ne.mpr c9
            clear c9
            go_wp2
            go_step3
            refine ⟨by simp, ⟨⟨_, rfl⟩, i, _, _, _, _, _, _, _, _, _, _, _, _, _, _, _, _, _, _, _, _, _, _, _, _, _, _, _, _, _, _, _, _, _, _, _, _, _, _, rfl, by omega, by omega, HT.out, fun _ => by omega, fun h => absurd h (by decide)⟩, ?_⟩
            simp only [bits_First.mu, bits_First.num]
            first | (simp; done) | (simp; omega)
        · rintro a w' ⟨⟨nw, rfl⟩, i, u3, u4, u5, u6, u7, u9, u10, u11, u12, u13, u14, u15, u16, u17, u18, u19, u20, u21, u22, u23, u24, u25, u26, u27, u28, u29, u30, u31, u32, u33, u34, u35, u36, u37, u38, u39, u40, u41, rfl, hi0, hi1, hfz, hlt, h8⟩
          have HT := Aside0.mk hfz
          clear hfz H
          have c6 : i < a2 := hlt (by decide)
          clear hlt h8
          obtain ⟨j, hj⟩ : ∃ j : Int, i / 8 = j := ⟨_, rfl⟩
          have hj0 : 0 ≤ j := by omega
          have hj1 : j < (l0.length : Int) := by omega
          obtain ⟨m, hm⟩ : ∃ m : Int, i % 8 = m := ⟨_, rfl⟩
          have hm0 : 0 ≤ m := by omega
          have hm1 : m ≤ 7 := by omega
          obtain ⟨ad, e, hx⟩ := Kd.at_int HR0.out j (by omega) (by omega)
          cases e
          have hby := bits_First.rd_byte HB.out j
          obtain ⟨q, hq⟩ : ∃ q : Int, rd l0 j / 2 ^ m.toNat = q := ⟨_, rfl⟩
          have hqb := bits_First.shr_byte hby.1 hby.2 m.toNat
          rw [hq] at hqb
          obtain ⟨b, hbit⟩ : ∃ b : Int, Go.bits .and .u8 q 1 = b := ⟨_, rfl⟩
          have hb2 : b = q % 2 := by rw [← hbit]; exact bits_First.and1 hqb.1 hqb.2
          have hoff : bits_First.off l0 i = (q % 2 == 0) := by unfold bits_First.off; rw [hj, hm, hq]
          have ht := HT.out
          rw [show (a2 - i).toNat = (a2 - (i + 1)).toNat + 1 by omega] at ht
          simp only [bits_First.fz] at ht
          rw [hoff, ← hb2] at ht
          clear hoff hqb hby HT
          by_cases c9 : b = 0
          · have c9b : (b == 0) = true := beq_iff_eq.mpr c9
            rw [c9b, if_pos rfl] at ht
            obtain ⟨rfl, rfl⟩ := Prod.mk.inj ht
            clear ht hb2 c9
            go_wp2
            try simp only [bits_First.jumps]
            go_ret2
            exact ⟨rfl, by repeat (first | exact Drawn0.refl _ | apply Drawn0.step)⟩
          · have c9b : (b == 0) = false := beq_eq_false_iff_ne.mpr c9
            rw [c9b, if_neg (by simp)] at ht
            have HT := Aside0.mk ht
            clear ht hb2 c9
            go_wp2
            go_step3
            refine ⟨by simp, ⟨⟨_, rfl⟩, i + 1, _, _, _, _, _, _, _, _, _, _, _, _, _, _, _, _, _, _, _, _, _, _, _, _, _, _, _, _, _, _, _, _, _, _, _, _, _, _, rfl, by omega, by omega, HT.out, fun h => absurd rfl h, fun h => absurd h (by decide)⟩, ?_⟩
            simp only [bits_First.mu, bits_First.num]
            first | (simp; done) | (simp; omega)
      · rw [if_neg hin] at h
        have hp' : bits_part.f l0 a1 a2 = some false := by rw [hp, decide_eq_false hin]
        obtain ⟨rfl, rfl⟩ := Prod.mk.inj h
        have HP := Aside0.mk hp'
        have HR0 := Aside0.mk hr0
        have HC0 := Aside0.mk hc0
        clear h hp hp' hb hr0 hc0
        go_enter Try.func19, Try.ntmps19
        go_wp2
        go_step3
        go_wp2_with (go_at_call 27; (with_reducible refine (bits_part.calls _ _ l0 a1 a2 false _ HR0.out HC0.out HP.out).mono ?_); rintro e w' ⟨rfl, ⟨nd, rfl⟩⟩)
        try rw [Exit.noGoto_ret]
        go_ret2
        exact ⟨rfl, by repeat (first | exact Drawn0.refl _ | apply Drawn0.step)⟩
    · rw [if_pos hb, if_neg hl] at h
      exact absurd h (by simp)
  · rw [if_neg hb] at h
    exact absurd h (by simp)

/-! ### skerrylaw04_BitsTakes: function 7 -/
mutual
def skerrylaw04_BitsTakes.l0 : Nat → List Int → Int → Int → Int → List Int → Int → Option (Bool)
  | 0, _, _, _, _, _, _ => none
  | k + 1, x0, x1, x2, x11, x12, x13 => if x13 < (wrap64 (x2 - x1)) then ((bits_First.f x12 x1 x2).bind fun bt137 => (if bt137.2 = 0 then (if bt137.1 < x11 then (skerrylaw04_BitsTakes.j1 k x0 x1 x2 x12 x13 bt137.1 true) else (skerrylaw04_BitsTakes.j1 k x0 x1 x2 x12 x13 bt137.1 (decide (bt137.1 ≥ x2)))) else (skerrylaw04_BitsTakes.j1 k x0 x1 x2 x12 x13 bt137.1 true))) else ((bits_First.f x12 x1 x2).bind fun bt135 => (some (bt135.2 == 11)))
def skerrylaw04_BitsTakes.j1 : Nat → List Int → Int → Int → List Int → Int → Int → Bool → Option (Bool)
  | 0, _, _, _, _, _, _, _ => none
  | k + 1, x0, x1, x2, x12, x13, x14, x86 => if x86 = true then (some false) else ((bits_Get.f x0 x14).bind fun bt139 => ((bits_Set.f k x12 x14 true).bind fun bt141 => ((bits_Count.f bt141.1 x1 x2).bind fun bt145 => (if bt139.2 = 0 then (if bt139.1 = true then (some false) else (if bt141.2 = 0 then (if bt145.2 = 0 then (if bt145.1 = (wrap64 (x13 + 1)) then (skerrylaw04_BitsTakes.l0 k x0 x1 x2 (wrap64 (x14 + 1)) bt141.1 (wrap64 (x13 + 1))) else (some false)) else (some false)) else (some false))) else (some false)))))
end
def skerrylaw04_BitsTakes.f (k : Nat) (l0 : List Int) (a1 : Int) (a2 : Int) : Option (Bool) := (skerrylaw04_wakes.f k).bind fun t124 => (if t124 = true then (if (l0.length : Int) > 40 then (some true) else ((bits_Count.f l0 a1 a2).bind fun bt125 => (if bt125.2 = 0 then ((some (([] : List Int) : List Int)).bind fun y129 => (if y129.length + l0.length < 140737488355328 then (skerrylaw04_BitsTakes.l0 k l0 a1 a2 a1 (y129 ++ l0) bt125.1) else (none))) else ((bits_First.f l0 a1 a2).bind fun bt127 => (if bt125.2 = 2 then (if bt127.2 = bt125.2 then (some (bt125.1 == 0)) else (some false)) else (some false)))))) else (some false))
theorem skerrylaw04_BitsTakes.mono_l : ∀ k, (∀ y0 y1 y2 y3 y4 y5, LeO (skerrylaw04_BitsTakes.l0 k y0 y1 y2 y3 y4 y5) (skerrylaw04_BitsTakes.l0 (k + 1) y0 y1 y2 y3 y4 y5)) ∧ (∀ y0 y1 y2 y3 y4 y5 y6, LeO (skerrylaw04_BitsTakes.j1 k y0 y1 y2 y3 y4 y5 y6) (skerrylaw04_BitsTakes.j1 (k + 1) y0 y1 y2 y3 y4 y5 y6))
  | 0 => ⟨fun _ _ _ _ _ _ r h => by simp [skerrylaw04_BitsTakes.l0] at h, fun _ _ _ _ _ _ _ r h => by simp [skerrylaw04_BitsTakes.j1] at h⟩
  | k + 1 => by
    obtain ⟨ih0, ih1⟩ := skerrylaw04_BitsTakes.mono_l k
    refine ⟨?_, ?_⟩
    · intro y0 y1 y2 y3 y4 y5
      unfold skerrylaw04_BitsTakes.l0
      repeat' first
      | (with_reducible exact ih0 _ _ _ _ _ _)
      | (with_reducible exact ih1 _ _ _ _ _ _ _)
      | (with_reducible exact bits_Set.mono _ _ _ _)
      | (with_reducible exact skerrylaw04_wakes.mono _)
      | (with_reducible exact LeO.refl _)
      | (with_reducible exact LeO.none _)
      | (with_reducible refine LeO.ite ?_ ?_)
      | (with_reducible refine LeO.bind ?_ (fun _ => ?_))
      | exact ih0 _ _ _ _ _ _
      | exact ih1 _ _ _ _ _ _ _
      | exact bits_Set.mono _ _ _ _
      | exact skerrylaw04_wakes.mono _
      | exact LeO.none _
      | refine LeO.ite ?_ ?_
      | refine LeO.bind ?_ (fun _ => ?_)
    · intro y0 y1 y2 y3 y4 y5 y6
      unfold skerrylaw04_BitsTakes.j1
      repeat' first
      | (with_reducible exact ih0 _ _ _ _ _ _)
      | (with_reducible exact ih1 _ _ _ _ _ _ _)
      | (with_reducible exact bits_Set.mono _ _ _ _)
      | (with_reducible exact skerrylaw04_wakes.mono _)
      | (with_reducible exact LeO.refl _)
      | (with_reducible exact LeO.none _)
      | (with_reducible refine LeO.ite ?_ ?_)
      | (with_reducible refine LeO.bind ?_ (fun _ => ?_))
      | exact ih0 _ _ _ _ _ _
      | exact ih1 _ _ _ _ _ _ _
      | exact bits_Set.mono _ _ _ _
      | exact skerrylaw04_wakes.mono _
      | exact LeO.none _
      | refine LeO.ite ?_ ?_
      | refine LeO.bind ?_ (fun _ => ?_)
theorem skerrylaw04_BitsTakes.mono : ∀ a0 a1 a2 k, LeO (skerrylaw04_BitsTakes.f k a0 a1 a2) (skerrylaw04_BitsTakes.f (k + 1) a0 a1 a2) := by
  intro a0 a1 a2 k
  obtain ⟨ih0, ih1⟩ := skerrylaw04_BitsTakes.mono_l k
  unfold skerrylaw04_BitsTakes.f
  repeat' first
      | (with_reducible exact ih0 _ _ _ _ _ _)
      | (with_reducible exact ih1 _ _ _ _ _ _ _)
      | (with_reducible exact bits_Set.mono _ _ _ _)
      | (with_reducible exact skerrylaw04_wakes.mono _)
      | (with_reducible exact LeO.refl _)
      | (with_reducible exact LeO.none _)
      | (with_reducible refine LeO.ite ?_ ?_)
      | (with_reducible refine LeO.bind ?_ (fun _ => ?_))
      | exact ih0 _ _ _ _ _ _
      | exact ih1 _ _ _ _ _ _ _
      | exact bits_Set.mono _ _ _ _
      | exact skerrylaw04_wakes.mono _
      | exact LeO.none _
      | refine LeO.ite ?_ ?_
      | refine LeO.bind ?_ (fun _ => ?_)
set_option maxHeartbeats 8000000 in
set_option maxRecDepth 100000 in
theorem skerrylaw04_BitsTakes.calls (k : Nat) (A0 : Option Addr) (c0 : Nat) (l0 : List Int) (a1 : Int) (a2 : Int) (r : Bool) (w : World) (hr0 : Kd.C (Kd.int .u8) w A0 l0.length l0) (hc0 : l0.length ≤ c0) (h : skerrylaw04_BitsTakes.f k l0 a1 a2 = some r) :
    Calls Try.prog 7 #[.slice A0 l0.length c0, .int .i64 a1, .int .i64 a2] w fun e w' => e = .returned (.bool r) ∧ Below w.heap.size w w' := by
  have HR0 := Aside0.mk hr0
  have HC0 := Aside0.mk hc0
  clear hr0 hc0
  have HB := Aside0.mk (Below.refl w.heap.size w)
  have H : ((skerrylaw04_wakes.f k).bind fun t124 => (if t124 = true then (if (l0.length : Int) > 40 then (some true) else ((bits_Count.f l0 a1 a2).bind fun bt125 => (if bt125.2 = 0 then ((some (([] : List Int) : List Int)).bind fun y129 => (if y129.length + l0.length < 140737488355328 then (skerrylaw04_BitsTakes.l0 k l0 a1 a2 a1 (y129 ++ l0) bt125.1) else (none))) else ((bits_First.f l0 a1 a2).bind fun bt127 => (if bt125.2 = 2 then (if bt127.2 = bt125.2 then (some (bt125.1 == 0)) else (some false)) else (some false)))))) else (some false))) = some r := h
  clear h
  replace H := Option.bind_eq_some_iff.mp H
  obtain ⟨t124, A40, H⟩ := H
  replace H : (if t124 = true then (if (l0.length : Int) > 40 then (some true) else ((bits_Count.f l0 a1 a2).bind fun bt125 => (if bt125.2 = 0 then ((some (([] : List Int) : List Int)).bind fun y129 => (if y129.length + l0.length < 140737488355328 then (skerrylaw04_BitsTakes.l0 k l0 a1 a2 a1 (y129 ++ l0) bt125.1) else (none))) else ((bits_First.f l0 a1 a2).bind fun bt127 => (if bt125.2 = 2 then (if bt127.2 = bt125.2 then (some (bt125.1 == 0)) else (some false)) else (some false)))))) else (some false)) = some r := H
  have A4 := Aside0.mk A40
  clear A40
  by_cases c5 : t124 = true
  · subst c5
    have H1 : (if (l0.length : Int) > 40 then (some true) else ((bits_Count.f l0 a1 a2).bind fun bt125 => (if bt125.2 = 0 then ((some (([] : List Int) : List Int)).bind fun y129 => (if y129.length + l0.length < 140737488355328 then (skerrylaw04_BitsTakes.l0 k l0 a1 a2 a1 (y129 ++ l0) bt125.1) else (none))) else ((bits_First.f l0 a1 a2).bind fun bt127 => (if bt125.2 = 2 then (if bt127.2 = bt125.2 then (some (bt125.1 == 0)) else (some false)) else (some false)))))) = some r := by rw [if_pos rfl] at H; exact H
    clear H
    have H := H1
    clear H1
    by_cases c6 : (l0.length : Int) > 40
    · rw [if_pos c6] at H
      have c6b0 : decide (40 < (l0.length : Int)) = true := decide_eq_true c6
      have c6b1 : decide (40 < l0.length) = true := decide_eq_true (by omega)
      clear c6
      obtain rfl := Option.some.inj H
      go_enter Try.func7, Try.ntmps7
      go_wp2_with (first | ((with_reducible refine gate_callee (f := 9) rfl ?_); refine goesL_ (some 24) rfl rfl Try.func9 (by kernel_rfl) rfl #[] rfl (by (try simp only [List.map_toArray, List.map_cons, List.map_nil]); first | done | rfl | (simp only [List.length_drop, List.length_take]; rfl)) ?_; (with_reducible refine (skerrylaw04_wakes.calls k  true _ A4.out).mono ?_); rintro e w7 ⟨rfl, hb⟩; refine ⟨_, rfl, ?_⟩; have n0_ := Aside0.mk (below_step (by repeat (first | (with_reducible first | exact HB.out | apply below_alloc | apply pw_below_drewN | apply below_drew1) | exact HB.out)) hb); clear HB; have HB := n0_; clear n0_; (try clear hb); (try clear hb2); (try clear hk); (try clear hi)))
      go_ret
      exact ⟨by first | rfl | (simp [errW_none, errW_some] <;> rfl) | (simp [*, errW_none, errW_some] <;> rfl), by repeat (first | (with_reducible first | exact HB.out | apply below_alloc | apply pw_below_drewN | apply below_drew1) | exact HB.out)⟩
    · rw [if_neg c6] at H
      have c6b0 : decide (40 < (l0.length : Int)) = false := decide_eq_false c6
      have c6b1 : decide (40 < l0.length) = false := decide_eq_false (by omega)
      clear c6
      replace H := Option.bind_eq_some_iff.mp H
      obtain ⟨⟨t125, t126⟩, A80, H⟩ := H
      replace H : (if t126 = 0 then ((some (([] : List Int) : List Int)).bind fun y129 => (if y129.length + l0.length < 140737488355328 then (skerrylaw04_BitsTakes.l0 k l0 a1 a2 a1 (y129 ++ l0) t125) else (none))) else ((bits_First.f l0 a1 a2).bind fun bt127 => (if t126 = 2 then (if bt127.2 = t126 then (some (t125 == 0)) else (some false)) else (some false)))) = some r := H
      have A8 := Aside0.mk A80
      clear A80
      by_cases c9 : t126 = 0
      · rw [if_pos c9] at H
        have c9b0 : (t126 == 0) = true := beq_iff_eq.mpr c9
        have c9b1 : (t126 != 0) = false := bne_eq_false_iff_eq.mpr c9
        clear c9
        obtain ⟨y129, hy129⟩ : ∃ y_ : List Int, y_ = (([] : List Int)) := ⟨_, rfl⟩
        replace H : (if y129.length + l0.length < 140737488355328 then (skerrylaw04_BitsTakes.l0 k l0 a1 a2 a1 (y129 ++ l0) t125) else (none)) = some r := by first | (rw [hy129]; with_reducible exact H) | (have H2_ := (Option.bind_some _ _).symm.trans H; rw [hy129]; with_reducible exact H2_) | (have H2_ := (Option.bind_some _ _).symm.trans H; with_reducible exact H2_) | with_reducible exact H | (rw [hy129]; exact H) | exact H
        have Ny129 := Aside0.mk hy129
        clear hy129
        by_cases c10 : y129.length + l0.length < 140737488355328
        · rw [if_pos c10] at H
          have LMc10 := Aside0.mk c10
          clear c10
          obtain ⟨y132, hy132⟩ : ∃ y_ : List Int, y_ = (y129 ++ l0) := ⟨_, rfl⟩
          replace H : (skerrylaw04_BitsTakes.l0 k l0 a1 a2 a1 y132 t125) = some r := by first | (rw [hy132]; with_reducible exact H) | (have H2_ := (Option.bind_some _ _).symm.trans H; rw [hy132]; with_reducible exact H2_) | (have H2_ := (Option.bind_some _ _).symm.trans H; with_reducible exact H2_) | with_reducible exact H | (rw [hy132]; exact H) | exact H
          have Ny132 := Aside0.mk hy132
          clear hy132
          have H' := Aside0.mk H
          clear H
          go_enter Try.func7, Try.ntmps7
          go_wp2_with (first | ((with_reducible refine gate_callee (f := 9) rfl ?_); refine goesL_ (some 24) rfl rfl Try.func9 (by kernel_rfl) rfl #[] rfl (by (try simp only [List.map_toArray, List.map_cons, List.map_nil]); first | done | rfl | (simp only [List.length_drop, List.length_take]; rfl)) ?_; (with_reducible refine (skerrylaw04_wakes.calls k  true _ A4.out).mono ?_); rintro e w11 ⟨rfl, hb⟩; refine ⟨_, rfl, ?_⟩; have n0_ := Aside0.mk (below_step (by repeat (first | (with_reducible first | exact HB.out | apply below_alloc | apply pw_below_drewN | apply below_drew1) | exact HB.out)) hb); clear HB; have HB := n0_; clear n0_; (try clear hb); (try clear hb2); (try clear hk); (try clear hi)) | ((with_reducible refine gate_callee (f := 17) rfl ?_); refine goesL_ (some 33) rfl rfl Try.func17 (by kernel_rfl) rfl #[.slice A0 l0.length c0, .int .i64 a1, .int .i64 a2] rfl (by (try simp only [List.map_toArray, List.map_cons, List.map_nil]); first | done | rfl | (simp only [List.length_drop, List.length_take]; rfl)) ?_; (with_reducible refine (bits_Count.calls _ _ l0 a1 a2 t125 t126 _ ?side1 ?side2 A8.out).mono ?_); (case side1 => repeat (first | exact (Kd.C_below HR0.out HB.out) | (with_reducible refine Kd.C_alloc ?_ _) | (with_reducible refine Kd.C_drewN ?_ _) | (with_reducible refine Kd.C_drew ?_))); (case side2 => exact HC0.out); rintro e w' ⟨rfl, ⟨nd, rfl⟩⟩; refine ⟨_, rfl, ?_⟩) | ((with_reducible refine gate_dst (N := 57) rfl ?_); refine Kd.R_lit (Kd.int .u8) _ 5 ?hg (N := 57) ?hd (xs := ([] : List Int)) (inner := []) (ok := fun _ => True) (okp := fun _ => True) ?hr ?hp (fun _ hk => hk) trivial (Below.refl _ _) (Nat.le_refl _) (by simp) ?_; (case hd => rfl); (case hg => rfl); (case hr => first | (go_simp; done) | (go_simp; rfl)); (case hp => exact (Reps.none _ _)); intro v130 w12 ho13 hb hg_ hnew_; clear hg_ hnew_; (first | rw [← Ny129.out] at ho13 | (simp only [Int.reduceToNat] at ho13; rw [← Ny129.out] at ho13)); have n0_ := Aside0.mk (Kd.R_lower ho13 (below_size (by repeat (first | (with_reducible first | exact HB.out | apply below_alloc | apply pw_below_drewN | apply below_drew1) | exact HB.out)))); have n1_ := Aside0.mk (below_step (by repeat (first | (with_reducible first | exact HB.out | apply below_alloc | apply pw_below_drewN | apply below_drew1) | exact HB.out)) hb); clear HB; have HO131 := n0_; have HB := n1_; clear n0_ n1_; clear hb ho13) | ((with_reducible refine gate_builtin (b := .append) (xs := #[.tmp 57, .tmp 58]) rfl ?_); at_builtin; refine Kd.R_append_rows (Kd.int .u8) (w0 := w) w.heap.size rfl (.tmp 57) (.tmp 58) 24 5 (.int .u8 0) 1 rfl Try.underlying24 info5 rfl (by decide) (by omega) v130 y129 l0 _ _ _ (fun _ => True) (fun _ => False) rfl rfl ?aO ?aR (fun _ _ h => h) (fun _ h => h.elim) ?aF ?aB ?aS ?aL ?_; (case aR => repeat (first | exact (Kd.C_below HR0.out HB.out) | (with_reducible refine Kd.C_alloc ?_ _) | (with_reducible refine Kd.C_drewN ?_ _) | (with_reducible refine Kd.C_drew ?_))); (case aB => exact (by repeat (first | (with_reducible first | exact HB.out | apply below_alloc | apply pw_below_drewN | apply below_drew1) | exact HB.out))); (case aF => exact (fun _ _ => trivial)); (case aO => exact (by (with_reducible repeat (first | apply Kd.R_alloc | apply Kd.R_drewN | apply Kd.R_drew)); exact HO131.out)); (case aS => exact (below_size (by repeat (first | (with_reducible first | exact HB.out | apply below_alloc | apply pw_below_drewN | apply below_drew1) | exact HB.out)))); (case aL => have := LMc10.out; omega); intro v133 w14 ho hb hg hat; rw [← Ny132.out] at ho; have n0_ := Aside0.mk (hb); have n1_ := Aside0.mk (ho); clear HB; clear HO131; have HB := n0_; have HO134 := n1_; clear n0_ n1_; clear ho hb hg hat))
          go_loopg [11, 12, 13] k (fun kq v11 v12 v13 w' => ∃ (x11_1 : Int) (x12_1 : List Int) (x13_1 : Int), v11 = .int .i64 x11_1 ∧ v13 = .int .i64 x13_1 ∧ Aside0 (skerrylaw04_BitsTakes.l0 kq l0 a1 a2 x11_1 x12_1 x13_1 = some r) ∧ Aside0 (kq ≤ k) ∧ Aside0 (Kd.R (Kd.int .u8) 5 w' w.heap.size (fun _ => True) v12 x12_1) ∧ Aside0 (Below w.heap.size w w'))
          case atStart => exact ⟨(a1), (y132), (t125), (by first | rfl | (simp; done) | (simp [*]; done)), (by first | rfl | (simp; done) | (simp [*]; done)), H', ⟨Nat.le_refl _⟩, ⟨by (with_reducible repeat (first | apply Kd.R_alloc | apply Kd.R_drewN | apply Kd.R_drew)); exact HO134.out⟩, ⟨by repeat (first | (with_reducible first | exact HB.out | apply below_alloc | apply pw_below_drewN | apply below_drew1) | exact HB.out)⟩⟩
          case round =>
            clear H'
            try clear c1
            try clear p2
            try clear c5
            try clear c6
            try clear c6b0
            try clear c6b1
            try clear c7
            try clear c9
            try clear c9b0
            try clear c9b1
            try clear c10
            obtain ⟨x11_1, x12_1, x13_1, rfl, rfl, HA, HK1, HO_12, HB⟩ := hrel
            cases gk with
            | zero => exact absurd HA.out (by simp [skerrylaw04_BitsTakes.l0])
            | succ k1 =>
              have H := HA.out
              clear HA
              simp only [skerrylaw04_BitsTakes.l0] at H
              by_cases c15 : x13_1 < (wrap64 (a2 - a1))
              · rw [if_pos c15] at H
                have c15b0 : decide (x13_1 < (wrap64 (a2 - a1))) = true := decide_eq_true c15
                clear c15
                replace H := Option.bind_eq_some_iff.mp H
                obtain ⟨⟨t137, t138⟩, A160, H⟩ := H
                replace H : (if t138 = 0 then (if t137 < x11_1 then (skerrylaw04_BitsTakes.j1 k1 l0 a1 a2 x12_1 x13_1 t137 true) else (skerrylaw04_BitsTakes.j1 k1 l0 a1 a2 x12_1 x13_1 t137 (decide (t137 ≥ a2)))) else (skerrylaw04_BitsTakes.j1 k1 l0 a1 a2 x12_1 x13_1 t137 true)) = some r := H
                have A16 := Aside0.mk A160
                clear A160
                have HC17 := Aside0.mk H
                clear H
                obtain ⟨Ao18, co18, eo18⟩ := Kd.R_slice HO_12.out
                subst eo18
                go_upto_region 15 with (first | ((with_reducible refine gate_callee (f := 19) rfl ?_); refine goesL_ (some 72) rfl rfl Try.func19 (by kernel_rfl) rfl #[.slice Ao18 x12_1.length co18, .int .i64 a1, .int .i64 a2] rfl (by (try simp only [List.map_toArray, List.map_cons, List.map_nil]); first | done | rfl | (simp only [List.length_drop, List.length_take]; rfl)) ?_; (with_reducible refine (bits_First.calls _ _ x12_1 a1 a2 t137 t138 _ ?side1 ?side2 A16.out).mono ?_); (case side1 => repeat (first | exact (Kd.R_reads' HO_12.out).2.2 | (with_reducible refine Kd.C_alloc ?_ _) | (with_reducible refine Kd.C_drewN ?_ _) | (with_reducible refine Kd.C_drew ?_))); (case side2 => exact (Kd.R_reads' HO_12.out).2.1); rintro e w' ⟨rfl, ⟨nd, rfl⟩⟩; refine ⟨_, rfl, ?_⟩))
                (try simp only [Act.put, List.setIfInBounds_toArray, List.set_cons_zero, List.set_cons_succ])
                go_cut [86] (fun v86 wc => ∃ (kq : Nat) (x86_16 : Bool), v86 = .bool x86_16 ∧ Aside0 (skerrylaw04_BitsTakes.j1 kq l0 a1 a2 x12_1 x13_1 t137 x86_16 = some r) ∧ Aside0 (kq ≤ k1) ∧ Aside0 (Kd.R (Kd.int .u8) 5 wc w.heap.size (fun _ => True) (.slice Ao18 x12_1.length co18) x12_1) ∧ Aside0 (Below w.heap.size w wc))
                case first =>
                  have H := HC17.out
                  clear HC17
                  by_cases c19 : t138 = 0
                  · rw [if_pos c19] at H
                    have c19b0 : (t138 == 0) = true := beq_iff_eq.mpr c19
                    have c19b1 : (t138 != 0) = false := bne_eq_false_iff_eq.mpr c19
                    clear c19
                    (first | rw [c19b0] | (simp only [i64_w, i32_w]; rw [c19b0]) | skip)
                    by_cases c20 : t137 < x11_1
                    · rw [if_pos c20] at H
                      have c20b0 : decide (t137 < x11_1) = true := decide_eq_true c20
                      clear c20
                      have H' := Aside0.mk H
                      clear H
                      go_wp2
                      go_meet
                      case rel => exact ⟨_, (true), (by first | rfl | (simp; done) | (simp [*]; done)), H', ⟨by have := HK1.out; first | omega | exact Nat.le_refl _⟩, ⟨by (with_reducible repeat (first | apply Kd.R_alloc | apply Kd.R_drewN | apply Kd.R_drew)); exact HO_12.out⟩, ⟨by repeat (first | (with_reducible first | exact HB.out | apply below_alloc | apply pw_below_drewN | apply below_drew1) | exact HB.out)⟩⟩
                    · rw [if_neg c20] at H
                      have c20b0 : decide (t137 < x11_1) = false := decide_eq_false c20
                      clear c20
                      have H' := Aside0.mk H
                      clear H
                      go_wp2
                      go_meet
                      case rel => exact ⟨_, (decide (t137 ≥ a2)), (by first | rfl | (simp; done) | (simp [*]; done)), H', ⟨by have := HK1.out; first | omega | exact Nat.le_refl _⟩, ⟨by (with_reducible repeat (first | apply Kd.R_alloc | apply Kd.R_drewN | apply Kd.R_drew)); exact HO_12.out⟩, ⟨by repeat (first | (with_reducible first | exact HB.out | apply below_alloc | apply pw_below_drewN | apply below_drew1) | exact HB.out)⟩⟩
                  · rw [if_neg c19] at H
                    have c19b0 : (t138 == 0) = false := beq_eq_false_iff_ne.mpr c19
                    have c19b1 : (t138 != 0) = true := bne_iff_ne.mpr c19
                    (first | rw [c19b0] | (simp only [i64_w, i32_w]; rw [c19b0]) | skip)
                    have H' := Aside0.mk H
                    clear H
                    go_wp2
                    go_meet
                    case rel => exact ⟨_, (true), (by first | rfl | (simp; done) | (simp [*]; done)), H', ⟨by have := HK1.out; first | omega | exact Nat.le_refl _⟩, ⟨by (with_reducible repeat (first | apply Kd.R_alloc | apply Kd.R_drewN | apply Kd.R_drew)); exact HO_12.out⟩, ⟨by repeat (first | (with_reducible first | exact HB.out | apply below_alloc | apply pw_below_drewN | apply below_drew1) | exact HB.out)⟩⟩
                case rest =>
                  clear HC17
                  try clear c1
                  try clear c2
                  try clear p2
                  try clear c5
                  try clear c6
                  try clear c6b0
                  try clear c6b1
                  try clear p6
                  try clear c7
                  try clear c9
                  try clear c9b0
                  try clear c9b1
                  try clear c10
                  try clear c15
                  try clear c15b0
                  try clear c17
                  try clear c19
                  try clear c19b0
                  try clear c19b1
                  try clear c20
                  try clear c20b0
                  try clear p2
                  obtain ⟨kq, x86_16, rfl, HA, HJ16, HO_12, HB⟩ := hcut
                  cases kq with
                  | zero => exact absurd HA.out (by simp [skerrylaw04_BitsTakes.j1])
                  | succ kj16 =>
                    have H := HA.out
                    clear HA
                    simp only [skerrylaw04_BitsTakes.j1] at H
                    by_cases c21 : x86_16 = true
                    · subst c21
                      have H1 : (some false) = some r := by rw [if_pos rfl] at H; exact H
                      clear H
                      have H := H1
                      clear H1
                      obtain rfl := Option.some.inj H
                      go_wp2
                      go_ret
                      exact ⟨by first | rfl | (simp [errW_none, errW_some] <;> rfl) | (simp [*, errW_none, errW_some] <;> rfl), by repeat (first | (with_reducible first | exact HB.out | apply below_alloc | apply pw_below_drewN | apply below_drew1) | exact HB.out)⟩
                    · replace c21 := Bool.eq_false_iff.mpr c21
                      subst c21
                      have H1 : ((bits_Get.f l0 t137).bind fun bt139 => ((bits_Set.f kj16 x12_1 t137 true).bind fun bt141 => ((bits_Count.f bt141.1 a1 a2).bind fun bt145 => (if bt139.2 = 0 then (if bt139.1 = true then (some false) else (if bt141.2 = 0 then (if bt145.2 = 0 then (if bt145.1 = (wrap64 (x13_1 + 1)) then (skerrylaw04_BitsTakes.l0 kj16 l0 a1 a2 (wrap64 (t137 + 1)) bt141.1 (wrap64 (x13_1 + 1))) else (some false)) else (some false)) else (some false))) else (some false))))) = some r := by rw [if_neg (show ¬ (false = true) by decide)] at H; exact H
                      clear H
                      have H := H1
                      clear H1
                      replace H := Option.bind_eq_some_iff.mp H
                      obtain ⟨⟨t139, t140⟩, A220, H⟩ := H
                      replace H : ((bits_Set.f kj16 x12_1 t137 true).bind fun bt141 => ((bits_Count.f bt141.1 a1 a2).bind fun bt145 => (if t140 = 0 then (if t139 = true then (some false) else (if bt141.2 = 0 then (if bt145.2 = 0 then (if bt145.1 = (wrap64 (x13_1 + 1)) then (skerrylaw04_BitsTakes.l0 kj16 l0 a1 a2 (wrap64 (t137 + 1)) bt141.1 (wrap64 (x13_1 + 1))) else (some false)) else (some false)) else (some false))) else (some false)))) = some r := H
                      have A22 := Aside0.mk A220
                      clear A220
                      replace H := Option.bind_eq_some_iff.mp H
                      obtain ⟨⟨t141, t142⟩, A230, H⟩ := H
                      replace H : ((bits_Count.f t141 a1 a2).bind fun bt145 => (if t140 = 0 then (if t139 = true then (some false) else (if t142 = 0 then (if bt145.2 = 0 then (if bt145.1 = (wrap64 (x13_1 + 1)) then (skerrylaw04_BitsTakes.l0 kj16 l0 a1 a2 (wrap64 (t137 + 1)) t141 (wrap64 (x13_1 + 1))) else (some false)) else (some false)) else (some false))) else (some false))) = some r := H
                      have A23 := Aside0.mk A230
                      clear A230
                      replace H := Option.bind_eq_some_iff.mp H
                      obtain ⟨⟨t145, t146⟩, A240, H⟩ := H
                      replace H : (if t140 = 0 then (if t139 = true then (some false) else (if t142 = 0 then (if t146 = 0 then (if t145 = (wrap64 (x13_1 + 1)) then (skerrylaw04_BitsTakes.l0 kj16 l0 a1 a2 (wrap64 (t137 + 1)) t141 (wrap64 (x13_1 + 1))) else (some false)) else (some false)) else (some false))) else (some false)) = some r := H
                      have A24 := Aside0.mk A240
                      clear A240
                      by_cases c25 : t140 = 0
                      · rw [if_pos c25] at H
                        have c25b0 : (t140 == 0) = true := beq_iff_eq.mpr c25
                        have c25b1 : (t140 != 0) = false := bne_eq_false_iff_eq.mpr c25
                        clear c25
                        by_cases c26 : t139 = true
                        · subst c26
                          have H1 : (some false) = some r := by rw [if_pos rfl] at H; exact H
                          clear H
                          have H := H1
                          clear H1
                          obtain rfl := Option.some.inj H
                          go_wp2_with (first | ((with_reducible refine gate_callee (f := 13) rfl ?_); refine goesL_ (some 90) rfl rfl Try.func13 (by kernel_rfl) rfl #[.slice A0 l0.length c0, .int .i64 t137] rfl (by (try simp only [List.map_toArray, List.map_cons, List.map_nil]); first | done | rfl | (simp only [List.length_drop, List.length_take]; rfl)) ?_; (with_reducible refine (bits_Get.calls _ _ l0 t137 true t140 _ ?side1 ?side2 A22.out).mono ?_); (case side1 => repeat (first | exact (Kd.C_below HR0.out HB.out) | (with_reducible refine Kd.C_alloc ?_ _) | (with_reducible refine Kd.C_drewN ?_ _) | (with_reducible refine Kd.C_drew ?_))); (case side2 => exact HC0.out); rintro e w' ⟨rfl, ⟨nd, rfl⟩⟩; refine ⟨_, rfl, ?_⟩) | ((with_reducible refine gate_callee (f := 15) rfl ?_); refine goesL_ (some 96) rfl rfl Try.func15 (by kernel_rfl) rfl #[.slice Ao18 x12_1.length co18, .int .i64 t137, .bool true] rfl (by (try simp only [List.map_toArray, List.map_cons, List.map_nil]); first | done | rfl | (simp only [List.length_drop, List.length_take]; rfl)) ?_; (with_reducible refine (bits_Set.calls kj16 _ _ x12_1 t137 true t141 t142 _ ?side1 ?side2 A23.out).mono ?_); (case side1 => repeat (first | exact (Kd.R_reads' HO_12.out).2.2 | (with_reducible refine Kd.C_alloc ?_ _) | (with_reducible refine Kd.C_drewN ?_ _) | (with_reducible refine Kd.C_drew ?_))); (case side2 => exact (Kd.R_reads' HO_12.out).2.1); rintro e w27 ⟨v143, rfl, ho0, hb⟩; refine ⟨_, rfl, ?_⟩; have n0_ := Aside0.mk (Kd.R_elder' (by (with_reducible repeat (first | apply Kd.R_alloc | apply Kd.R_drewN | apply Kd.R_drew)); exact HO_12.out) (Kd.R_base ho0) hb); have n1_ := Aside0.mk (Kd.R_lower (Kd.R_new' ho0 (Kd.R_lt (by (with_reducible repeat (first | apply Kd.R_alloc | apply Kd.R_drewN | apply Kd.R_drew)); exact HO_12.out))) (below_size (by repeat (first | (with_reducible first | exact HB.out | apply below_alloc | apply pw_below_drewN | apply below_drew1) | exact HB.out)))); have n2_ := Aside0.mk (below_step (by repeat (first | (with_reducible first | exact HB.out | apply below_alloc | apply pw_below_drewN | apply below_drew1) | exact HB.out)) hb); clear HO_12; clear HB; have HO_12 := n0_; have HO144 := n1_; have HB := n2_; clear n0_ n1_ n2_; (try clear hb); (try clear hb2); (try clear hk); (try clear hi); (try clear ho0); obtain ⟨Ao28, co28, eo28⟩ := Kd.R_slice HO144.out; subst eo28) | ((with_reducible refine gate_callee (f := 17) rfl ?_); refine goesL_ (some 103) rfl rfl Try.func17 (by kernel_rfl) rfl #[.slice Ao28 t141.length co28, .int .i64 a1, .int .i64 a2] rfl (by (try simp only [List.map_toArray, List.map_cons, List.map_nil]); first | done | rfl | (simp only [List.length_drop, List.length_take]; rfl)) ?_; (with_reducible refine (bits_Count.calls _ _ t141 a1 a2 t145 t146 _ ?side1 ?side2 A24.out).mono ?_); (case side1 => repeat (first | exact (Kd.R_reads' HO144.out).2.2 | (with_reducible refine Kd.C_alloc ?_ _) | (with_reducible refine Kd.C_drewN ?_ _) | (with_reducible refine Kd.C_drew ?_))); (case side2 => exact (Kd.R_reads' HO144.out).2.1); rintro e w' ⟨rfl, ⟨nd, rfl⟩⟩; refine ⟨_, rfl, ?_⟩))
                          go_ret
                          exact ⟨by first | rfl | (simp [errW_none, errW_some] <;> rfl) | (simp [*, errW_none, errW_some] <;> rfl), by repeat (first | (with_reducible first | exact HB.out | apply below_alloc | apply pw_below_drewN | apply below_drew1) | exact HB.out)⟩
                        · replace c26 := Bool.eq_false_iff.mpr c26
                          subst c26
                          have H1 : (if t142 = 0 then (if t146 = 0 then (if t145 = (wrap64 (x13_1 + 1)) then (skerrylaw04_BitsTakes.l0 kj16 l0 a1 a2 (wrap64 (t137 + 1)) t141 (wrap64 (x13_1 + 1))) else (some false)) else (some false)) else (some false)) = some r := by rw [if_neg (show ¬ (false = true) by decide)] at H; exact H
                          clear H
                          have H := H1
                          clear H1
                          by_cases c29 : t142 = 0
                          · rw [if_pos c29] at H
                            have c29b0 : (t142 == 0) = true := beq_iff_eq.mpr c29
                            have c29b1 : (t142 != 0) = false := bne_eq_false_iff_eq.mpr c29
                            clear c29
                            by_cases c30 : t146 = 0
                            · rw [if_pos c30] at H
                              have c30b0 : (t146 == 0) = true := beq_iff_eq.mpr c30
                              have c30b1 : (t146 != 0) = false := bne_eq_false_iff_eq.mpr c30
                              clear c30
                              by_cases c31 : t145 = (wrap64 (x13_1 + 1))
                              · rw [if_pos c31] at H
                                have c31b0 : (t145 == (wrap64 (x13_1 + 1))) = true := beq_iff_eq.mpr c31
                                have c31b1 : (t145 != (wrap64 (x13_1 + 1))) = false := bne_eq_false_iff_eq.mpr c31
                                clear c31
                                have H' := Aside0.mk H
                                clear H
                                go_wp2_with (first | ((with_reducible refine gate_callee (f := 13) rfl ?_); refine goesL_ (some 90) rfl rfl Try.func13 (by kernel_rfl) rfl #[.slice A0 l0.length c0, .int .i64 t137] rfl (by (try simp only [List.map_toArray, List.map_cons, List.map_nil]); first | done | rfl | (simp only [List.length_drop, List.length_take]; rfl)) ?_; (with_reducible refine (bits_Get.calls _ _ l0 t137 false t140 _ ?side1 ?side2 A22.out).mono ?_); (case side1 => repeat (first | exact (Kd.C_below HR0.out HB.out) | (with_reducible refine Kd.C_alloc ?_ _) | (with_reducible refine Kd.C_drewN ?_ _) | (with_reducible refine Kd.C_drew ?_))); (case side2 => exact HC0.out); rintro e w' ⟨rfl, ⟨nd, rfl⟩⟩; refine ⟨_, rfl, ?_⟩) | ((with_reducible refine gate_callee (f := 15) rfl ?_); refine goesL_ (some 96) rfl rfl Try.func15 (by kernel_rfl) rfl #[.slice Ao18 x12_1.length co18, .int .i64 t137, .bool true] rfl (by (try simp only [List.map_toArray, List.map_cons, List.map_nil]); first | done | rfl | (simp only [List.length_drop, List.length_take]; rfl)) ?_; (with_reducible refine (bits_Set.calls kj16 _ _ x12_1 t137 true t141 t142 _ ?side1 ?side2 A23.out).mono ?_); (case side1 => repeat (first | exact (Kd.R_reads' HO_12.out).2.2 | (with_reducible refine Kd.C_alloc ?_ _) | (with_reducible refine Kd.C_drewN ?_ _) | (with_reducible refine Kd.C_drew ?_))); (case side2 => exact (Kd.R_reads' HO_12.out).2.1); rintro e w32 ⟨v143, rfl, ho0, hb⟩; refine ⟨_, rfl, ?_⟩; have n0_ := Aside0.mk (Kd.R_elder' (by (with_reducible repeat (first | apply Kd.R_alloc | apply Kd.R_drewN | apply Kd.R_drew)); exact HO_12.out) (Kd.R_base ho0) hb); have n1_ := Aside0.mk (Kd.R_lower (Kd.R_new' ho0 (Kd.R_lt (by (with_reducible repeat (first | apply Kd.R_alloc | apply Kd.R_drewN | apply Kd.R_drew)); exact HO_12.out))) (below_size (by repeat (first | (with_reducible first | exact HB.out | apply below_alloc | apply pw_below_drewN | apply below_drew1) | exact HB.out)))); have n2_ := Aside0.mk (below_step (by repeat (first | (with_reducible first | exact HB.out | apply below_alloc | apply pw_below_drewN | apply below_drew1) | exact HB.out)) hb); clear HO_12; clear HB; have HO_12 := n0_; have HO144 := n1_; have HB := n2_; clear n0_ n1_ n2_; (try clear hb); (try clear hb2); (try clear hk); (try clear hi); (try clear ho0); obtain ⟨Ao33, co33, eo33⟩ := Kd.R_slice HO144.out; subst eo33) | ((with_reducible refine gate_callee (f := 17) rfl ?_); refine goesL_ (some 103) rfl rfl Try.func17 (by kernel_rfl) rfl #[.slice Ao33 t141.length co33, .int .i64 a1, .int .i64 a2] rfl (by (try simp only [List.map_toArray, List.map_cons, List.map_nil]); first | done | rfl | (simp only [List.length_drop, List.length_take]; rfl)) ?_; (with_reducible refine (bits_Count.calls _ _ t141 a1 a2 t145 t146 _ ?side1 ?side2 A24.out).mono ?_); (case side1 => repeat (first | exact (Kd.R_reads' HO144.out).2.2 | (with_reducible refine Kd.C_alloc ?_ _) | (with_reducible refine Kd.C_drewN ?_ _) | (with_reducible refine Kd.C_drew ?_))); (case side2 => exact (Kd.R_reads' HO144.out).2.1); rintro e w' ⟨rfl, ⟨nd, rfl⟩⟩; refine ⟨_, rfl, ?_⟩))
                                go_roundg kj16
                                case measure => have := HK1.out; have := HJ16.out; omega
                                case rel => exact ⟨(wrap64 (t137 + 1)), (t141), (wrap64 (x13_1 + 1)), (by first | rfl | (simp; done) | (simp [*]; done)), (by first | rfl | (simp; done) | (simp [*]; done)), H', ⟨by have := HK1.out; have := HJ16.out; omega⟩, ⟨by (with_reducible repeat (first | apply Kd.R_alloc | apply Kd.R_drewN | apply Kd.R_drew)); exact Kd.R_mono HO144.out (fun _ hk => trivial)⟩, ⟨by repeat (first | (with_reducible first | exact HB.out | apply below_alloc | apply pw_below_drewN | apply below_drew1) | exact HB.out)⟩⟩
                              · rw [if_neg c31] at H
                                have c31b0 : (t145 == (wrap64 (x13_1 + 1))) = false := beq_eq_false_iff_ne.mpr c31
                                have c31b1 : (t145 != (wrap64 (x13_1 + 1))) = true := bne_iff_ne.mpr c31
                                obtain rfl := Option.some.inj H
                                go_wp2_with (first | ((with_reducible refine gate_callee (f := 13) rfl ?_); refine goesL_ (some 90) rfl rfl Try.func13 (by kernel_rfl) rfl #[.slice A0 l0.length c0, .int .i64 t137] rfl (by (try simp only [List.map_toArray, List.map_cons, List.map_nil]); first | done | rfl | (simp only [List.length_drop, List.length_take]; rfl)) ?_; (with_reducible refine (bits_Get.calls _ _ l0 t137 false t140 _ ?side1 ?side2 A22.out).mono ?_); (case side1 => repeat (first | exact (Kd.C_below HR0.out HB.out) | (with_reducible refine Kd.C_alloc ?_ _) | (with_reducible refine Kd.C_drewN ?_ _) | (with_reducible refine Kd.C_drew ?_))); (case side2 => exact HC0.out); rintro e w' ⟨rfl, ⟨nd, rfl⟩⟩; refine ⟨_, rfl, ?_⟩) | ((with_reducible refine gate_callee (f := 15) rfl ?_); refine goesL_ (some 96) rfl rfl Try.func15 (by kernel_rfl) rfl #[.slice Ao18 x12_1.length co18, .int .i64 t137, .bool true] rfl (by (try simp only [List.map_toArray, List.map_cons, List.map_nil]); first | done | rfl | (simp only [List.length_drop, List.length_take]; rfl)) ?_; (with_reducible refine (bits_Set.calls kj16 _ _ x12_1 t137 true t141 t142 _ ?side1 ?side2 A23.out).mono ?_); (case side1 => repeat (first | exact (Kd.R_reads' HO_12.out).2.2 | (with_reducible refine Kd.C_alloc ?_ _) | (with_reducible refine Kd.C_drewN ?_ _) | (with_reducible refine Kd.C_drew ?_))); (case side2 => exact (Kd.R_reads' HO_12.out).2.1); rintro e w34 ⟨v143, rfl, ho0, hb⟩; refine ⟨_, rfl, ?_⟩; have n0_ := Aside0.mk (Kd.R_elder' (by (with_reducible repeat (first | apply Kd.R_alloc | apply Kd.R_drewN | apply Kd.R_drew)); exact HO_12.out) (Kd.R_base ho0) hb); have n1_ := Aside0.mk (Kd.R_lower (Kd.R_new' ho0 (Kd.R_lt (by (with_reducible repeat (first | apply Kd.R_alloc | apply Kd.R_drewN | apply Kd.R_drew)); exact HO_12.out))) (below_size (by repeat (first | (with_reducible first | exact HB.out | apply below_alloc | apply pw_below_drewN | apply below_drew1) | exact HB.out)))); have n2_ := Aside0.mk (below_step (by repeat (first | (with_reducible first | exact HB.out | apply below_alloc | apply pw_below_drewN | apply below_drew1) | exact HB.out)) hb); clear HO_12; clear HB; have HO_12 := n0_; have HO144 := n1_; have HB := n2_; clear n0_ n1_ n2_; (try clear hb); (try clear hb2); (try clear hk); (try clear hi); (try clear ho0); obtain ⟨Ao35, co35, eo35⟩ := Kd.R_slice HO144.out; subst eo35) | ((with_reducible refine gate_callee (f := 17) rfl ?_); refine goesL_ (some 103) rfl rfl Try.func17 (by kernel_rfl) rfl #[.slice Ao35 t141.length co35, .int .i64 a1, .int .i64 a2] rfl (by (try simp only [List.map_toArray, List.map_cons, List.map_nil]); first | done | rfl | (simp only [List.length_drop, List.length_take]; rfl)) ?_; (with_reducible refine (bits_Count.calls _ _ t141 a1 a2 t145 t146 _ ?side1 ?side2 A24.out).mono ?_); (case side1 => repeat (first | exact (Kd.R_reads' HO144.out).2.2 | (with_reducible refine Kd.C_alloc ?_ _) | (with_reducible refine Kd.C_drewN ?_ _) | (with_reducible refine Kd.C_drew ?_))); (case side2 => exact (Kd.R_reads' HO144.out).2.1); rintro e w' ⟨rfl, ⟨nd, rfl⟩⟩; refine ⟨_, rfl, ?_⟩))
                                go_ret
                                exact ⟨by first | rfl | (simp [errW_none, errW_some] <;> rfl) | (simp [*, errW_none, errW_some] <;> rfl), by repeat (first | (with_reducible first | exact HB.out | apply below_alloc | apply pw_below_drewN | apply below_drew1) | exact HB.out)⟩
                            · rw [if_neg c30] at H
                              have c30b0 : (t146 == 0) = false := beq_eq_false_iff_ne.mpr c30
                              have c30b1 : (t146 != 0) = true := bne_iff_ne.mpr c30
                              obtain rfl := Option.some.inj H
                              go_wp2_with (first | ((with_reducible refine gate_callee (f := 13) rfl ?_); refine goesL_ (some 90) rfl rfl Try.func13 (by kernel_rfl) rfl #[.slice A0 l0.length c0, .int .i64 t137] rfl (by (try simp only [List.map_toArray, List.map_cons, List.map_nil]); first | done | rfl | (simp only [List.length_drop, List.length_take]; rfl)) ?_; (with_reducible refine (bits_Get.calls _ _ l0 t137 false t140 _ ?side1 ?side2 A22.out).mono ?_); (case side1 => repeat (first | exact (Kd.C_below HR0.out HB.out) | (with_reducible refine Kd.C_alloc ?_ _) | (with_reducible refine Kd.C_drewN ?_ _) | (with_reducible refine Kd.C_drew ?_))); (case side2 => exact HC0.out); rintro e w' ⟨rfl, ⟨nd, rfl⟩⟩; refine ⟨_, rfl, ?_⟩) | ((with_reducible refine gate_callee (f := 15) rfl ?_); refine goesL_ (some 96) rfl rfl Try.func15 (by kernel_rfl) rfl #[.slice Ao18 x12_1.length co18, .int .i64 t137, .bool true] rfl (by (try simp only [List.map_toArray, List.map_cons, List.map_nil]); first | done | rfl | (simp only [List.length_drop, List.length_take]; rfl)) ?_; (with_reducible refine (bits_Set.calls kj16 _ _ x12_1 t137 true t141 t142 _ ?side1 ?side2 A23.out).mono ?_); (case side1 => repeat (first | exact (Kd.R_reads' HO_12.out).2.2 | (with_reducible refine Kd.C_alloc ?_ _) | (with_reducible refine Kd.C_drewN ?_ _) | (with_reducible refine Kd.C_drew ?_))); (case side2 => exact (Kd.R_reads' HO_12.out).2.1); rintro e w36 ⟨v143, rfl, ho0, hb⟩; refine ⟨_, rfl, ?_⟩; have n0_ := Aside0.mk (Kd.R_elder' (by (with_reducible repeat (first | apply Kd.R_alloc | apply Kd.R_drewN | apply Kd.R_drew)); exact HO_12.out) (Kd.R_base ho0) hb); have n1_ := Aside0.mk (Kd.R_lower (Kd.R_new' ho0 (Kd.R_lt (by (with_reducible repeat (first | apply Kd.R_alloc | apply Kd.R_drewN | apply Kd.R_drew)); exact HO_12.out))) (below_size (by repeat (first | (with_reducible first | exact HB.out | apply below_alloc | apply pw_below_drewN | apply below_drew1) | exact HB.out)))); have n2_ := Aside0.mk (below_step (by repeat (first | (with_reducible first | exact HB.out | apply below_alloc | apply pw_below_drewN | apply below_drew1) | exact HB.out)) hb); clear HO_12; clear HB; have HO_12 := n0_; have HO144 := n1_; have HB := n2_; clear n0_ n1_ n2_; (try clear hb); (try clear hb2); (try clear hk); (try clear hi); (try clear ho0); obtain ⟨Ao37, co37, eo37⟩ := Kd.R_slice HO144.out; subst eo37) | ((with_reducible refine gate_callee (f := 17) rfl ?_); refine goesL_ (some 103) rfl rfl Try.func17 (by kernel_rfl) rfl #[.slice Ao37 t141.length co37, .int .i64 a1, .int .i64 a2] rfl (by (try simp only [List.map_toArray, List.map_cons, List.map_nil]); first | done | rfl | (simp only [List.length_drop, List.length_take]; rfl)) ?_; (with_reducible refine (bits_Count.calls _ _ t141 a1 a2 t145 t146 _ ?side1 ?side2 A24.out).mono ?_); (case side1 => repeat (first | exact (Kd.R_reads' HO144.out).2.2 | (with_reducible refine Kd.C_alloc ?_ _) | (with_reducible refine Kd.C_drewN ?_ _) | (with_reducible refine Kd.C_drew ?_))); (case side2 => exact (Kd.R_reads' HO144.out).2.1); rintro e w' ⟨rfl, ⟨nd, rfl⟩⟩; refine ⟨_, rfl, ?_⟩))
                              go_ret
                              exact ⟨by first | rfl | (simp [errW_none, errW_some] <;> rfl) | (simp [*, errW_none, errW_some] <;> rfl), by repeat (first | (with_reducible first | exact HB.out | apply below_alloc | apply pw_below_drewN | apply below_drew1) | exact HB.out)⟩
                          · rw [if_neg c29] at H
                            have c29b0 : (t142 == 0) = false := beq_eq_false_iff_ne.mpr c29
                            have c29b1 : (t142 != 0) = true := bne_iff_ne.mpr c29
                            obtain rfl := Option.some.inj H
                            go_wp2_with (first | ((with_reducible refine gate_callee (f := 13) rfl ?_); refine goesL_ (some 90) rfl rfl Try.func13 (by kernel_rfl) rfl #[.slice A0 l0.length c0, .int .i64 t137] rfl (by (try simp only [List.map_toArray, List.map_cons, List.map_nil]); first | done | rfl | (simp only [List.length_drop, List.length_take]; rfl)) ?_; (with_reducible refine (bits_Get.calls _ _ l0 t137 false t140 _ ?side1 ?side2 A22.out).mono ?_); (case side1 => repeat (first | exact (Kd.C_below HR0.out HB.out) | (with_reducible refine Kd.C_alloc ?_ _) | (with_reducible refine Kd.C_drewN ?_ _) | (with_reducible refine Kd.C_drew ?_))); (case side2 => exact HC0.out); rintro e w' ⟨rfl, ⟨nd, rfl⟩⟩; refine ⟨_, rfl, ?_⟩) | ((with_reducible refine gate_callee (f := 15) rfl ?_); refine goesL_ (some 96) rfl rfl Try.func15 (by kernel_rfl) rfl #[.slice Ao18 x12_1.length co18, .int .i64 t137, .bool true] rfl (by (try simp only [List.map_toArray, List.map_cons, List.map_nil]); first | done | rfl | (simp only [List.length_drop, List.length_take]; rfl)) ?_; (with_reducible refine (bits_Set.calls kj16 _ _ x12_1 t137 true t141 t142 _ ?side1 ?side2 A23.out).mono ?_); (case side1 => repeat (first | exact (Kd.R_reads' HO_12.out).2.2 | (with_reducible refine Kd.C_alloc ?_ _) | (with_reducible refine Kd.C_drewN ?_ _) | (with_reducible refine Kd.C_drew ?_))); (case side2 => exact (Kd.R_reads' HO_12.out).2.1); rintro e w38 ⟨v143, rfl, ho0, hb⟩; refine ⟨_, rfl, ?_⟩; have n0_ := Aside0.mk (Kd.R_elder' (by (with_reducible repeat (first | apply Kd.R_alloc | apply Kd.R_drewN | apply Kd.R_drew)); exact HO_12.out) (Kd.R_base ho0) hb); have n1_ := Aside0.mk (Kd.R_lower (Kd.R_new' ho0 (Kd.R_lt (by (with_reducible repeat (first | apply Kd.R_alloc | apply Kd.R_drewN | apply Kd.R_drew)); exact HO_12.out))) (below_size (by repeat (first | (with_reducible first | exact HB.out | apply below_alloc | apply pw_below_drewN | apply below_drew1) | exact HB.out)))); have n2_ := Aside0.mk (below_step (by repeat (first | (with_reducible first | exact HB.out | apply below_alloc | apply pw_below_drewN | apply below_drew1) | exact HB.out)) hb); clear HO_12; clear HB; have HO_12 := n0_; have HO144 := n1_; have HB := n2_; clear n0_ n1_ n2_; (try clear hb); (try clear hb2); (try clear hk); (try clear hi); (try clear ho0); obtain ⟨Ao39, co39, eo39⟩ := Kd.R_slice HO144.out; subst eo39) | ((with_reducible refine gate_callee (f := 17) rfl ?_); refine goesL_ (some 103) rfl rfl Try.func17 (by kernel_rfl) rfl #[.slice Ao39 t141.length co39, .int .i64 a1, .int .i64 a2] rfl (by (try simp only [List.map_toArray, List.map_cons, List.map_nil]); first | done | rfl | (simp only [List.length_drop, List.length_take]; rfl)) ?_; (with_reducible refine (bits_Count.calls _ _ t141 a1 a2 t145 t146 _ ?side1 ?side2 A24.out).mono ?_); (case side1 => repeat (first | exact (Kd.R_reads' HO144.out).2.2 | (with_reducible refine Kd.C_alloc ?_ _) | (with_reducible refine Kd.C_drewN ?_ _) | (with_reducible refine Kd.C_drew ?_))); (case side2 => exact (Kd.R_reads' HO144.out).2.1); rintro e w' ⟨rfl, ⟨nd, rfl⟩⟩; refine ⟨_, rfl, ?_⟩))
                            go_ret
                            exact ⟨by first | rfl | (simp [errW_none, errW_some] <;> rfl) | (simp [*, errW_none, errW_some] <;> rfl), by repeat (first | (with_reducible first | exact HB.out | apply below_alloc | apply pw_below_drewN | apply below_drew1) | exact HB.out)⟩
                      · rw [if_neg c25] at H
                        have c25b0 : (t140 == 0) = false := beq_eq_false_iff_ne.mpr c25
                        have c25b1 : (t140 != 0) = true := bne_iff_ne.mpr c25
                        obtain rfl := Option.some.inj H
                        go_wp2_with (first | ((with_reducible refine gate_callee (f := 13) rfl ?_); refine goesL_ (some 90) rfl rfl Try.func13 (by kernel_rfl) rfl #[.slice A0 l0.length c0, .int .i64 t137] rfl (by (try simp only [List.map_toArray, List.map_cons, List.map_nil]); first | done | rfl | (simp only [List.length_drop, List.length_take]; rfl)) ?_; (with_reducible refine (bits_Get.calls _ _ l0 t137 t139 t140 _ ?side1 ?side2 A22.out).mono ?_); (case side1 => repeat (first | exact (Kd.C_below HR0.out HB.out) | (with_reducible refine Kd.C_alloc ?_ _) | (with_reducible refine Kd.C_drewN ?_ _) | (with_reducible refine Kd.C_drew ?_))); (case side2 => exact HC0.out); rintro e w' ⟨rfl, ⟨nd, rfl⟩⟩; refine ⟨_, rfl, ?_⟩) | ((with_reducible refine gate_callee (f := 15) rfl ?_); refine goesL_ (some 96) rfl rfl Try.func15 (by kernel_rfl) rfl #[.slice Ao18 x12_1.length co18, .int .i64 t137, .bool true] rfl (by (try simp only [List.map_toArray, List.map_cons, List.map_nil]); first | done | rfl | (simp only [List.length_drop, List.length_take]; rfl)) ?_; (with_reducible refine (bits_Set.calls kj16 _ _ x12_1 t137 true t141 t142 _ ?side1 ?side2 A23.out).mono ?_); (case side1 => repeat (first | exact (Kd.R_reads' HO_12.out).2.2 | (with_reducible refine Kd.C_alloc ?_ _) | (with_reducible refine Kd.C_drewN ?_ _) | (with_reducible refine Kd.C_drew ?_))); (case side2 => exact (Kd.R_reads' HO_12.out).2.1); rintro e w40 ⟨v143, rfl, ho0, hb⟩; refine ⟨_, rfl, ?_⟩; have n0_ := Aside0.mk (Kd.R_elder' (by (with_reducible repeat (first | apply Kd.R_alloc | apply Kd.R_drewN | apply Kd.R_drew)); exact HO_12.out) (Kd.R_base ho0) hb); have n1_ := Aside0.mk (Kd.R_lower (Kd.R_new' ho0 (Kd.R_lt (by (with_reducible repeat (first | apply Kd.R_alloc | apply Kd.R_drewN | apply Kd.R_drew)); exact HO_12.out))) (below_size (by repeat (first | (with_reducible first | exact HB.out | apply below_alloc | apply pw_below_drewN | apply below_drew1) | exact HB.out)))); have n2_ := Aside0.mk (below_step (by repeat (first | (with_reducible first | exact HB.out | apply below_alloc | apply pw_below_drewN | apply below_drew1) | exact HB.out)) hb); clear HO_12; clear HB; have HO_12 := n0_; have HO144 := n1_; have HB := n2_; clear n0_ n1_ n2_; (try clear hb); (try clear hb2); (try clear hk); (try clear hi); (try clear ho0); obtain ⟨Ao41, co41, eo41⟩ := Kd.R_slice HO144.out; subst eo41) | ((with_reducible refine gate_callee (f := 17) rfl ?_); refine goesL_ (some 103) rfl rfl Try.func17 (by kernel_rfl) rfl #[.slice Ao41 t141.length co41, .int .i64 a1, .int .i64 a2] rfl (by (try simp only [List.map_toArray, List.map_cons, List.map_nil]); first | done | rfl | (simp only [List.length_drop, List.length_take]; rfl)) ?_; (with_reducible refine (bits_Count.calls _ _ t141 a1 a2 t145 t146 _ ?side1 ?side2 A24.out).mono ?_); (case side1 => repeat (first | exact (Kd.R_reads' HO144.out).2.2 | (with_reducible refine Kd.C_alloc ?_ _) | (with_reducible refine Kd.C_drewN ?_ _) | (with_reducible refine Kd.C_drew ?_))); (case side2 => exact (Kd.R_reads' HO144.out).2.1); rintro e w' ⟨rfl, ⟨nd, rfl⟩⟩; refine ⟨_, rfl, ?_⟩))
                        go_ret
                        exact ⟨by first | rfl | (simp [errW_none, errW_some] <;> rfl) | (simp [*, errW_none, errW_some] <;> rfl), by repeat (first | (with_reducible first | exact HB.out | apply below_alloc | apply pw_below_drewN | apply below_drew1) | exact HB.out)⟩
              · rw [if_neg c15] at H
                have c15b0 : decide (x13_1 < (wrap64 (a2 - a1))) = false := decide_eq_false c15
                clear c15
                replace H := Option.bind_eq_some_iff.mp H
                obtain ⟨⟨t135, t136⟩, A420, H⟩ := H
                replace H : (some (t136 == 11)) = some r := H
                have A42 := Aside0.mk A420
                clear A420
                obtain rfl := Option.some.inj H
                obtain ⟨Ao43, co43, eo43⟩ := Kd.R_slice HO_12.out
                subst eo43
                go_wp2_with (first | ((with_reducible refine gate_callee (f := 19) rfl ?_); refine goesL_ (some 132) rfl rfl Try.func19 (by kernel_rfl) rfl #[.slice Ao43 x12_1.length co43, .int .i64 a1, .int .i64 a2] rfl (by (try simp only [List.map_toArray, List.map_cons, List.map_nil]); first | done | rfl | (simp only [List.length_drop, List.length_take]; rfl)) ?_; (with_reducible refine (bits_First.calls _ _ x12_1 a1 a2 t135 t136 _ ?side1 ?side2 A42.out).mono ?_); (case side1 => repeat (first | exact (Kd.R_reads' HO_12.out).2.2 | (with_reducible refine Kd.C_alloc ?_ _) | (with_reducible refine Kd.C_drewN ?_ _) | (with_reducible refine Kd.C_drew ?_))); (case side2 => exact (Kd.R_reads' HO_12.out).2.1); rintro e w' ⟨rfl, ⟨nd, rfl⟩⟩; refine ⟨_, rfl, ?_⟩))
                go_ret
                exact ⟨by first | rfl | (simp [errW_none, errW_some] <;> rfl) | (simp [*, errW_none, errW_some] <;> rfl), by repeat (first | (with_reducible first | exact HB.out | apply below_alloc | apply pw_below_drewN | apply below_drew1) | exact HB.out)⟩
        · rw [if_neg c10] at H
          exact absurd H (by simp)
      · rw [if_neg c9] at H
        have c9b0 : (t126 == 0) = false := beq_eq_false_iff_ne.mpr c9
        have c9b1 : (t126 != 0) = true := bne_iff_ne.mpr c9
        replace H := Option.bind_eq_some_iff.mp H
        obtain ⟨⟨t127, t128⟩, A440, H⟩ := H
        replace H : (if t126 = 2 then (if t128 = t126 then (some (t125 == 0)) else (some false)) else (some false)) = some r := H
        have A44 := Aside0.mk A440
        clear A440
        by_cases c45 : t126 = 2
        · rw [if_pos c45] at H
          have c45b0 : (t126 == 2) = true := beq_iff_eq.mpr c45
          have c45b1 : (t126 != 2) = false := bne_eq_false_iff_eq.mpr c45
          clear c45
          by_cases c46 : t128 = t126
          · rw [if_pos c46] at H
            have c46b0 : (t128 == t126) = true := beq_iff_eq.mpr c46
            have c46b1 : (t128 != t126) = false := bne_eq_false_iff_eq.mpr c46
            clear c46
            obtain rfl := Option.some.inj H
            go_enter Try.func7, Try.ntmps7
            go_wp2_with (first | ((with_reducible refine gate_callee (f := 9) rfl ?_); refine goesL_ (some 24) rfl rfl Try.func9 (by kernel_rfl) rfl #[] rfl (by (try simp only [List.map_toArray, List.map_cons, List.map_nil]); first | done | rfl | (simp only [List.length_drop, List.length_take]; rfl)) ?_; (with_reducible refine (skerrylaw04_wakes.calls k  true _ A4.out).mono ?_); rintro e w47 ⟨rfl, hb⟩; refine ⟨_, rfl, ?_⟩; have n0_ := Aside0.mk (below_step (by repeat (first | (with_reducible first | exact HB.out | apply below_alloc | apply pw_below_drewN | apply below_drew1) | exact HB.out)) hb); clear HB; have HB := n0_; clear n0_; (try clear hb); (try clear hb2); (try clear hk); (try clear hi)) | ((with_reducible refine gate_callee (f := 17) rfl ?_); refine goesL_ (some 33) rfl rfl Try.func17 (by kernel_rfl) rfl #[.slice A0 l0.length c0, .int .i64 a1, .int .i64 a2] rfl (by (try simp only [List.map_toArray, List.map_cons, List.map_nil]); first | done | rfl | (simp only [List.length_drop, List.length_take]; rfl)) ?_; (with_reducible refine (bits_Count.calls _ _ l0 a1 a2 t125 t126 _ ?side1 ?side2 A8.out).mono ?_); (case side1 => repeat (first | exact (Kd.C_below HR0.out HB.out) | (with_reducible refine Kd.C_alloc ?_ _) | (with_reducible refine Kd.C_drewN ?_ _) | (with_reducible refine Kd.C_drew ?_))); (case side2 => exact HC0.out); rintro e w' ⟨rfl, ⟨nd, rfl⟩⟩; refine ⟨_, rfl, ?_⟩) | ((with_reducible refine gate_callee (f := 19) rfl ?_); refine goesL_ (some 42) rfl rfl Try.func19 (by kernel_rfl) rfl #[.slice A0 l0.length c0, .int .i64 a1, .int .i64 a2] rfl (by (try simp only [List.map_toArray, List.map_cons, List.map_nil]); first | done | rfl | (simp only [List.length_drop, List.length_take]; rfl)) ?_; (with_reducible refine (bits_First.calls _ _ l0 a1 a2 t127 t128 _ ?side1 ?side2 A44.out).mono ?_); (case side1 => repeat (first | exact (Kd.C_below HR0.out (by repeat (first | (with_reducible first | exact HB.out | apply below_alloc | apply pw_below_drewN | apply below_drew1) | exact HB.out))) | (with_reducible refine Kd.C_alloc ?_ _) | (with_reducible refine Kd.C_drewN ?_ _) | (with_reducible refine Kd.C_drew ?_))); (case side2 => exact HC0.out); rintro e w' ⟨rfl, ⟨nd, rfl⟩⟩; refine ⟨_, rfl, ?_⟩))
            go_ret
            exact ⟨by first | rfl | (simp [errW_none, errW_some] <;> rfl) | (simp [*, errW_none, errW_some] <;> rfl), by repeat (first | (with_reducible first | exact HB.out | apply below_alloc | apply pw_below_drewN | apply below_drew1) | exact HB.out)⟩
          · rw [if_neg c46] at H
            have c46b0 : (t128 == t126) = false := beq_eq_false_iff_ne.mpr c46
            have c46b1 : (t128 != t126) = true := bne_iff_ne.mpr c46
            obtain rfl := Option.some.inj H
            go_enter Try.func7, Try.ntmps7
            go_wp2_with (first | ((with_reducible refine gate_callee (f := 9) rfl ?_); refine goesL_ (some 24) rfl rfl Try.func9 (by kernel_rfl) rfl #[] rfl (by (try simp only [List.map_toArray, List.map_cons, List.map_nil]); first | done | rfl | (simp only [List.length_drop, List.length_take]; rfl)) ?_; (with_reducible refine (skerrylaw04_wakes.calls k  true _ A4.out).mono ?_); rintro e w48 ⟨rfl, hb⟩; refine ⟨_, rfl, ?_⟩; have n0_ := Aside0.mk (below_step (by repeat (first | (with_reducible first | exact HB.out | apply below_alloc | apply pw_below_drewN | apply below_drew1) | exact HB.out)) hb); clear HB; have HB := n0_; clear n0_; (try clear hb); (try clear hb2); (try clear hk); (try clear hi)) | ((with_reducible refine gate_callee (f := 17) rfl ?_); refine goesL_ (some 33) rfl rfl Try.func17 (by kernel_rfl) rfl #[.slice A0 l0.length c0, .int .i64 a1, .int .i64 a2] rfl (by (try simp only [List.map_toArray, List.map_cons, List.map_nil]); first | done | rfl | (simp only [List.length_drop, List.length_take]; rfl)) ?_; (with_reducible refine (bits_Count.calls _ _ l0 a1 a2 t125 t126 _ ?side1 ?side2 A8.out).mono ?_); (case side1 => repeat (first | exact (Kd.C_below HR0.out HB.out) | (with_reducible refine Kd.C_alloc ?_ _) | (with_reducible refine Kd.C_drewN ?_ _) | (with_reducible refine Kd.C_drew ?_))); (case side2 => exact HC0.out); rintro e w' ⟨rfl, ⟨nd, rfl⟩⟩; refine ⟨_, rfl, ?_⟩) | ((with_reducible refine gate_callee (f := 19) rfl ?_); refine goesL_ (some 42) rfl rfl Try.func19 (by kernel_rfl) rfl #[.slice A0 l0.length c0, .int .i64 a1, .int .i64 a2] rfl (by (try simp only [List.map_toArray, List.map_cons, List.map_nil]); first | done | rfl | (simp only [List.length_drop, List.length_take]; rfl)) ?_; (with_reducible refine (bits_First.calls _ _ l0 a1 a2 t127 t128 _ ?side1 ?side2 A44.out).mono ?_); (case side1 => repeat (first | exact (Kd.C_below HR0.out (by repeat (first | (with_reducible first | exact HB.out | apply below_alloc | apply pw_below_drewN | apply below_drew1) | exact HB.out))) | (with_reducible refine Kd.C_alloc ?_ _) | (with_reducible refine Kd.C_drewN ?_ _) | (with_reducible refine Kd.C_drew ?_))); (case side2 => exact HC0.out); rintro e w' ⟨rfl, ⟨nd, rfl⟩⟩; refine ⟨_, rfl, ?_⟩))
            go_ret
            exact ⟨by first | rfl | (simp [errW_none, errW_some] <;> rfl) | (simp [*, errW_none, errW_some] <;> rfl), by repeat (first | (with_reducible first | exact HB.out | apply below_alloc | apply pw_below_drewN | apply below_drew1) | exact HB.out)⟩
        · rw [if_neg c45] at H
          have c45b0 : (t126 == 2) = false := beq_eq_false_iff_ne.mpr c45
          have c45b1 : (t126 != 2) = true := bne_iff_ne.mpr c45
          obtain rfl := Option.some.inj H
          go_enter Try.func7, Try.ntmps7
          go_wp2_with (first | ((with_reducible refine gate_callee (f := 9) rfl ?_); refine goesL_ (some 24) rfl rfl Try.func9 (by kernel_rfl) rfl #[] rfl (by (try simp only [List.map_toArray, List.map_cons, List.map_nil]); first | done | rfl | (simp only [List.length_drop, List.length_take]; rfl)) ?_; (with_reducible refine (skerrylaw04_wakes.calls k  true _ A4.out).mono ?_); rintro e w49 ⟨rfl, hb⟩; refine ⟨_, rfl, ?_⟩; have n0_ := Aside0.mk (below_step (by repeat (first | (with_reducible first | exact HB.out | apply below_alloc | apply pw_below_drewN | apply below_drew1) | exact HB.out)) hb); clear HB; have HB := n0_; clear n0_; (try clear hb); (try clear hb2); (try clear hk); (try clear hi)) | ((with_reducible refine gate_callee (f := 17) rfl ?_); refine goesL_ (some 33) rfl rfl Try.func17 (by kernel_rfl) rfl #[.slice A0 l0.length c0, .int .i64 a1, .int .i64 a2] rfl (by (try simp only [List.map_toArray, List.map_cons, List.map_nil]); first | done | rfl | (simp only [List.length_drop, List.length_take]; rfl)) ?_; (with_reducible refine (bits_Count.calls _ _ l0 a1 a2 t125 t126 _ ?side1 ?side2 A8.out).mono ?_); (case side1 => repeat (first | exact (Kd.C_below HR0.out HB.out) | (with_reducible refine Kd.C_alloc ?_ _) | (with_reducible refine Kd.C_drewN ?_ _) | (with_reducible refine Kd.C_drew ?_))); (case side2 => exact HC0.out); rintro e w' ⟨rfl, ⟨nd, rfl⟩⟩; refine ⟨_, rfl, ?_⟩) | ((with_reducible refine gate_callee (f := 19) rfl ?_); refine goesL_ (some 42) rfl rfl Try.func19 (by kernel_rfl) rfl #[.slice A0 l0.length c0, .int .i64 a1, .int .i64 a2] rfl (by (try simp only [List.map_toArray, List.map_cons, List.map_nil]); first | done | rfl | (simp only [List.length_drop, List.length_take]; rfl)) ?_; (with_reducible refine (bits_First.calls _ _ l0 a1 a2 t127 t128 _ ?side1 ?side2 A44.out).mono ?_); (case side1 => repeat (first | exact (Kd.C_below HR0.out (by repeat (first | (with_reducible first | exact HB.out | apply below_alloc | apply pw_below_drewN | apply below_drew1) | exact HB.out))) | (with_reducible refine Kd.C_alloc ?_ _) | (with_reducible refine Kd.C_drewN ?_ _) | (with_reducible refine Kd.C_drew ?_))); (case side2 => exact HC0.out); rintro e w' ⟨rfl, ⟨nd, rfl⟩⟩; refine ⟨_, rfl, ?_⟩))
          go_ret
          exact ⟨by first | rfl | (simp [errW_none, errW_some] <;> rfl) | (simp [*, errW_none, errW_some] <;> rfl), by repeat (first | (with_reducible first | exact HB.out | apply below_alloc | apply pw_below_drewN | apply below_drew1) | exact HB.out)⟩
  · replace c5 := Bool.eq_false_iff.mpr c5
    subst c5
    have H1 : (some false) = some r := by rw [if_neg (show ¬ (false = true) by decide)] at H; exact H
    clear H
    have H := H1
    clear H1
    obtain rfl := Option.some.inj H
    go_enter Try.func7, Try.ntmps7
    go_wp2_with (first | ((with_reducible refine gate_callee (f := 9) rfl ?_); refine goesL_ (some 24) rfl rfl Try.func9 (by kernel_rfl) rfl #[] rfl (by (try simp only [List.map_toArray, List.map_cons, List.map_nil]); first | done | rfl | (simp only [List.length_drop, List.length_take]; rfl)) ?_; (with_reducible refine (skerrylaw04_wakes.calls k  false _ A4.out).mono ?_); rintro e w50 ⟨rfl, hb⟩; refine ⟨_, rfl, ?_⟩; have n0_ := Aside0.mk (below_step (by repeat (first | (with_reducible first | exact HB.out | apply below_alloc | apply pw_below_drewN | apply below_drew1) | exact HB.out)) hb); clear HB; have HB := n0_; clear n0_; (try clear hb); (try clear hb2); (try clear hk); (try clear hi)))
    go_ret
    exact ⟨by first | rfl | (simp [errW_none, errW_some] <;> rfl) | (simp [*, errW_none, errW_some] <;> rfl), by repeat (first | (with_reducible first | exact HB.out | apply below_alloc | apply pw_below_drewN | apply below_drew1) | exact HB.out)⟩

/-- THE ONE PURE STATEMENT of skerrylaw04_BitsTakes: yours. -/
def skerrylaw04_BitsTakes.Pure : Prop := ∀ (l0 : List Int) (a1 : Int) (a2 : Int), l0.length ≤ maxLen → l0.length * 1 ≤ 140737488351232 → (∀ x ∈ l0, (Lit.int .u8 x).wf = true) → (Lit.int .i64 a1).wf = true → (Lit.int .i64 a2).wf = true → ∃ k, skerrylaw04_BitsTakes.f k l0 a1 a2 = some true
theorem skerrylaw04_BitsTakes.walk (P : skerrylaw04_BitsTakes.Pure) (a0 : Option Addr) (len0 cap0 : Nat) (z0 : List Int) (a1 : Int) (a2 : Int) (w : World) (w0 : (a0 = none ∧ len0 = 0 ∧ cap0 = 0 ∧ z0 = []) ∨ ∃ x, a0 = some x ∧ len0 ≤ cap0 ∧ cap0 ≤ maxLen ∧ z0.length = cap0 ∧ (∀ i, i < z0.length → w.cell? (x.add i) = some (.int .u8 (z0.getD i 0))) ∧ ∀ n ∈ z0, (Lit.int .u8 n).wf = true) (y0 : len0 * 1 ≤ 140737488351232) (w1 : (Lit.int .i64 a1).wf = true) (w2 : (Lit.int .i64 a2).wf = true) :
    Calls Try.prog 7 #[.slice a0 len0 cap0, .int .i64 a1, .int .i64 a2] w fun e w' => e = .returned (.bool true) ∧ Below w.heap.size w w' := by
  obtain ⟨l0, rfl, hr0, hm0, hw0, hc0⟩ := ReadsInt.ofRowC w0
  obtain ⟨k, h⟩ := P l0 a1 a2 hm0 y0 hw0 w1 w2
  refine (skerrylaw04_BitsTakes.calls k _ _ l0 a1 a2 true w (Kd.C_of_reads (d := (0 : Int)) (h1 := fun _ => rfl) hr0) hc0 h).mono ?_
  rintro e w' ⟨rfl, hd⟩
  exact ⟨rfl, hd⟩

end Go.Proofs.Ytmjgmompcaanlab.PBitsTakes
