-- Written by this session's own tool (prn.py) over the kit's printer; its templates are the session's own. Lean checks it.
import Derived.Test.YtmjgmompcaanlabPBitsKeepsx0
import Derived.Test.YtmjgmompcaanlabPBitsKeepsx2
namespace Go.Proofs.Ytmjgmompcaanlab.PBitsKeeps
open Go.RowKit Go.Proofs.YtmjgmompcaanlabW.PrintWords Go.Proofs.YtmjgmompcaanlabW.PrintLast Go.Proofs.YtmjgmompcaanlabW.PrintMore
attribute [local go_sem] max2_int min2_int max_two min_two max_three min_three max_four min_four   -- for this text's walks alone
set_option linter.unusedVariables false
set_option linter.unusedSimpArgs false

/-! ### bits_First: function 19 -/
/-- What holds at a jump to label l, for some labels; any other goto: no way out. -/
def bits_First.jumps (L : List Nat) (J : Nat → Act → World → Prop) (Q : Exit → Act → World → Prop) : Exit → Act → World → Prop
  | .goto l, a, w => l ∈ L ∧ J l a w
  | e, a, w => Q e a w
/-- A scope in which the run jumps to several labels: what holds at every jump, and a measure that every pass from a label lowers. -/
theorem bits_First.scope {P : Program} {a : Act} {w : World} {Q : Exit → Act → World → Prop} {c : Code} (L : List Nat) (rest : Nat → Code) (J : Nat → Act → World → Prop) (μ : Nat → Act → World → Nat) (hf : ∀ l ∈ L, findLabel c l = some (rest l))
    (first : c.wp P (bits_First.jumps L J Q) a w)
    (pass : ∀ l ∈ L, ∀ a w, J l a w → (rest l).wp P (bits_First.jumps L (fun l' a' w' => J l' a' w' ∧ μ l' a' w' < μ l a w) Q) a w) : (Code.scope c).wp P Q a w := by
  intro b k cs
  have hg : ∀ l ∈ L, gotoIn l (.inScope c :: k) = some (.code (rest l) :: .inScope c :: k) := fun l hl => by simp [gotoIn, hf l hl]
  have key : ∀ n l a w, l ∈ L → μ l a w = n → J l a w → ∃ e a' w', Q e a' w' ∧ Arrives P (lone (b.at a (.code (rest l) :: .inScope c :: k)) cs w) b k cs e a' w' := by
    intro n
    induction n using Nat.strongRecOn with
    | _ n ih =>
      intro l a w hl hn hJ
      obtain ⟨e, a₁, w₁, hq, harr⟩ := pass l hl a w hJ b (.inScope c :: k) cs
      cases e with
      | normal => exact ⟨.normal, a₁, w₁, hq, Steps.trans harr (.one step_inScope)⟩
      | exit id => exact ⟨.exit id, a₁, w₁, hq, fun k' hk => harr k' (by simp [exitTo, hk])⟩
      | goto l' =>
        obtain ⟨hl', hJ', hlt⟩ := hq
        obtain ⟨e₂, a₂, w₂, hq₂, harr₂⟩ := ih _ (by omega) l' a₁ w₁ hl' rfl hJ'
        exact ⟨e₂, a₂, w₂, hq₂, .of_steps (harr _ (hg _ hl')) harr₂⟩
      | ret => exact ⟨_, a₁, w₁, hq, harr⟩
      | panic ch => exact ⟨_, a₁, w₁, hq, harr⟩
      | outgrown => exact ⟨_, a₁, w₁, hq, harr⟩
  obtain ⟨e, a₁, w₁, hq, harr⟩ := first b (.inScope c :: k) cs
  cases e with
  | normal => exact ⟨.normal, a₁, w₁, hq, .head step_scope (Steps.trans harr (.one step_inScope))⟩
  | exit id => exact ⟨.exit id, a₁, w₁, hq, fun k' hk => .head step_scope (harr k' (by simp [exitTo, hk]))⟩
  | goto l' =>
    obtain ⟨hl', hJ'⟩ := hq
    obtain ⟨e₂, a₂, w₂, hq₂, harr₂⟩ := key _ l' a₁ w₁ hl' rfl hJ'
    exact ⟨e₂, a₂, w₂, hq₂, .of_steps (.head step_scope (harr _ (hg _ hl'))) harr₂⟩
  | ret => exact ⟨_, a₁, w₁, hq, .of_steps (.one step_scope) harr⟩
  | panic ch => exact ⟨_, a₁, w₁, hq, .of_steps (.one step_scope) harr⟩
  | outgrown => exact ⟨_, a₁, w₁, hq, .of_steps (.one step_scope) harr⟩
theorem bits_First.scope3 {P : Program} {a : Act} {w : World} {Q : Exit → Act → World → Prop} {c r0 r1 r2 : Code} (J : Nat → Act → World → Prop) (μ : Nat → Act → World → Nat) (h0 : findLabel c 0 = some r0) (h1 : findLabel c 1 = some r1) (h2 : findLabel c 2 = some r2)
    (first : c.wp P (bits_First.jumps [0, 1, 2] J Q) a w)
    (p0 : ∀ a w, J 0 a w → r0.wp P (bits_First.jumps [0, 1, 2] (fun l' a' w' => J l' a' w' ∧ μ l' a' w' < μ 0 a w) Q) a w)
    (p1 : ∀ a w, J 1 a w → r1.wp P (bits_First.jumps [0, 1, 2] (fun l' a' w' => J l' a' w' ∧ μ l' a' w' < μ 1 a w) Q) a w)
    (p2 : ∀ a w, J 2 a w → r2.wp P (bits_First.jumps [0, 1, 2] (fun l' a' w' => J l' a' w' ∧ μ l' a' w' < μ 2 a w) Q) a w) : (Code.scope c).wp P Q a w := by
  refine bits_First.scope [0, 1, 2] (fun l => if l = 0 then r0 else if l = 1 then r1 else r2) J μ ?_ first ?_
  · intro l hl
    simp only [List.mem_cons, List.not_mem_nil, or_false] at hl
    rcases hl with rfl | rfl | rfl
    · exact h0
    · exact h1
    · exact h2
  · intro l hl a w hJ
    simp only [List.mem_cons, List.not_mem_nil, or_false] at hl
    rcases hl with rfl | rfl | rfl
    · exact p0 a w hJ
    · exact p1 a w hJ
    · exact p2 a w hJ
/-- Is bit i of the bytes 0? -/
def bits_First.off (l : List Int) (i : Int) : Bool := rd l (i / 8) / 2 ^ (i % 8).toNat % 2 == 0
/-- The first bit that is 0, of n bits from i on. -/
def bits_First.fz (l : List Int) : Nat → Int → Int × Int
  | 0, _ => (0, 11)
  | n + 1, i => if bits_First.off l i then (i, 0) else bits_First.fz l n (i + 1)
def bits_First.f (l0 : List Int) (a1 : Int) (a2 : Int) : Option (Int × Int) :=
  if ∀ x ∈ l0, 0 ≤ x ∧ x < 256 then (if l0.length ≤ 140737488351232 then some (if 0 ≤ a1 ∧ a1 ≤ a2 ∧ a2 ≤ 8 * (l0.length : Int) then bits_First.fz l0 (a2 - a1).toNat a1 else (0, 2)) else none) else none
theorem bits_First.and1 {x : Int} (h0 : 0 ≤ x) (h1 : x < 256) : Go.bits .and .u8 x 1 = x % 2 := bits_mask .u8 8 (by decide) wraps_u8 1 (by decide) x h0 h1
theorem bits_First.rd_byte {l : List Int} (h : ∀ x ∈ l, 0 ≤ x ∧ x < 256) (i : Int) : 0 ≤ rd l i ∧ rd l i < 256 := by
  unfold rd
  by_cases h1 : i.toNat < l.length
  · rw [List.getD_eq_getElem?_getD, List.getElem?_eq_getElem h1]
    exact h _ (List.getElem_mem h1)
  · rw [List.getD_eq_getElem?_getD, List.getElem?_eq_none (by omega)]
    simp
theorem bits_First.shr_byte {x : Int} (h0 : 0 ≤ x) (h1 : x < 256) (n : Nat) : 0 ≤ x / 2 ^ n ∧ x / 2 ^ n < 256 :=
  ⟨Int.ediv_nonneg h0 (Int.le_of_lt (Int.pow_pos (by decide))), Int.lt_of_le_of_lt (Int.ediv_le_self _ h0) h1⟩
theorem bits_First.fz_ones {l : List Int} {i : Int} (hi : 0 ≤ i) (hb : rd l (i / 8) = 255) (h8 : i % 8 = 0) : ∀ (m : Nat), m ≤ 8 → ∀ n, bits_First.fz l (n + m) (i + (8 - m : Nat)) = bits_First.fz l n (i + 8) := by
  intro m
  induction m with
  | zero => intro _ n; rfl
  | succ m ih =>
    intro hm n
    show (if bits_First.off l (i + ((8 - (m + 1) : Nat) : Int)) then (i + ((8 - (m + 1) : Nat) : Int), 0) else bits_First.fz l (n + m) (i + ((8 - (m + 1) : Nat) : Int) + 1)) = _
    have h1 : (i + ((8 - (m + 1) : Nat) : Int)) / 8 = i / 8 := by omega
    have h2 : ((i + ((8 - (m + 1) : Nat) : Int)) % 8).toNat = 8 - (m + 1) := by omega
    have : bits_First.off l (i + ((8 - (m + 1) : Nat) : Int)) = false := by
      unfold bits_First.off
      rw [h1, h2, hb]
      have : ∀ j : Fin 8, ((255 : Int) / 2 ^ j.val % 2 == 0) = false := by decide
      exact this ⟨8 - (m + 1), by omega⟩
    rw [this, if_neg (by simp), show i + ((8 - (m + 1) : Nat) : Int) + 1 = i + ((8 - m : Nat) : Int) by omega]
    exact ih (by omega) n
theorem bits_First.fz_short {l : List Int} {i : Int} (hi : 0 ≤ i) (hb : rd l (i / 8) = 255) (h8 : i % 8 = 0) : ∀ (n : Nat), n ≤ 8 → ∀ j : Nat, j + n ≤ 8 → bits_First.fz l n (i + j) = (0, 11) := by
  intro n
  induction n with
  | zero => intro _ _ _; rfl
  | succ n ih =>
    intro hn j hj
    show (if bits_First.off l (i + (j : Int)) then (i + (j : Int), 0) else bits_First.fz l n (i + (j : Int) + 1)) = _
    have h1 : (i + (j : Int)) / 8 = i / 8 := by omega
    have h2 : ((i + (j : Int)) % 8).toNat = j := by omega
    have : bits_First.off l (i + (j : Int)) = false := by
      unfold bits_First.off
      rw [h1, h2, hb]
      have : ∀ j : Fin 8, ((255 : Int) / 2 ^ j.val % 2 == 0) = false := by decide
      exact this ⟨j, by omega⟩
    rw [this, if_neg (by simp), show i + (j : Int) + 1 = i + ((j + 1 : Nat) : Int) by omega]
    exact ih (by omega) (j + 1) (by omega)
/-- A whole byte of ones is passed at once. -/
theorem bits_First.fz_byte {l : List Int} {i b : Int} (hi : 0 ≤ i) (hb : rd l (i / 8) = 255) (h8 : i % 8 = 0) : bits_First.fz l (b - i).toNat i = bits_First.fz l (b - (i + 8)).toNat (i + 8) := by
  by_cases h : i + 8 ≤ b
  · have := bits_First.fz_ones hi hb h8 8 (by omega) (b - (i + 8)).toNat
    rw [show (b - (i + 8)).toNat + 8 = (b - i).toNat by omega] at this
    simpa using this
  · have h1 := bits_First.fz_short hi hb h8 (b - i).toNat (by omega) 0 (by omega)
    rw [show (b - (i + 8)).toNat = 0 by omega]
    simpa [bits_First.fz] using h1
theorem bits_First.ret {a b c d : Int} (h : (a, b) = (c, d)) : Ending.returned (.tuple #[.int .i64 a, .int .i64 b]) = .returned (.tuple #[.int .i64 c, .int .i64 d]) := by
  obtain ⟨rfl, rfl⟩ := Prod.mk.inj h
  rfl
/-- What holds at every jump: slot 8 holds a place; from it on the answer is the same. -/
def bits_First.J (A0 : Option Addr) (c0 : Nat) (l0 : List Int) (a1 a2 : Int) (R : Int × Int) (w : World) (lab : Nat) (a : Act) (w' : World) : Prop :=
  (∃ m : Nat, w' = w.drewN m) ∧ ∃ (i : Int) (u3 u4 u5 u6 u7 u9 u10 u11 u12 u13 u14 u15 u16 u17 u18 u19 u20 u21 u22 u23 u24 u25 u26 u27 u28 u29 u30 u31 u32 u33 u34 u35 u36 u37 u38 u39 u40 u41 : Value), a = { tmps := #[.slice A0 l0.length c0, .int .i64 a1, .int .i64 a2, u3, u4, u5, u6, u7, .int .i64 i, u9, u10, u11, u12, u13, u14, u15, u16, u17, u18, u19, u20, u21, u22, u23, u24, u25, u26, u27, u28, u29, u30, u31, u32, u33, u34, u35, u36, u37, u38, u39, u40, u41], defers := [] } ∧ 0 ≤ i ∧ i ≤ a2 + 8 ∧ bits_First.fz l0 (a2 - i).toNat i = R ∧ (lab ≠ 0 → i < a2) ∧ (lab = 1 → i % 8 = 0)
def bits_First.num : Value → Int | .int _ q => q | _ => 0
/-- What every pass from a label lowers. -/
def bits_First.mu (a2 : Int) (lab : Nat) (a : Act) (_ : World) : Nat := 3 * (a2 + 8 - bits_First.num (a.tmps.getD 8 undef)).toNat + (if lab = 0 then 2 else if lab = 1 then 1 else 0)
set_option maxRecDepth 100000 in
set_option maxHeartbeats 4000000 in
theorem bits_First.calls (A0 : Option Addr) (c0 : Nat) (l0 : List Int) (a1 : Int) (a2 : Int) (r1 : Int) (r2 : Int) (w : World) (hr0 : Kd.C (Kd.int .u8) w A0 l0.length l0) (hc0 : l0.length ≤ c0) (h : bits_First.f l0 a1 a2 = some (r1, r2)) :
    Calls Try.prog 19 #[.slice A0 l0.length c0, .int .i64 a1, .int .i64 a2] w fun e w' => e = .returned (.tuple #[.int .i64 r1, .int .i64 r2]) ∧ Drawn0 w w' := by
  unfold bits_First.f at h
  by_cases hb : ∀ x ∈ l0, 0 ≤ x ∧ x < 256
  · by_cases hl : l0.length ≤ 140737488351232
    · rw [if_pos hb, if_pos hl] at h
      replace h := Option.some.inj h
      have hp : bits_part.f l0 a1 a2 = some (decide (0 ≤ a1 ∧ a1 ≤ a2 ∧ a2 ≤ 8 * (l0.length : Int))) := by
        unfold bits_part.f
        have hw : wrap64 (8 * (l0.length : Int)) = 8 * (l0.length : Int) := by unfold wrap64; omega
        rw [hw]
        by_cases h1 : a1 ≥ 0 <;> by_cases h2 : a1 ≤ a2 <;> by_cases h3 : a2 ≤ 8 * (l0.length : Int) <;> simp [h1, h2, h3]
        all_goals omega
      by_cases hin : 0 ≤ a1 ∧ a1 ≤ a2 ∧ a2 ≤ 8 * (l0.length : Int)
      · rw [if_pos hin] at h
        have hp' : bits_part.f l0 a1 a2 = some true := by rw [hp, decide_eq_true hin]
        clear hp
        obtain ⟨h1, h2, h3⟩ := hin
        have H := Aside0.mk h
        have HP := Aside0.mk hp'
        have HB := Aside0.mk hb
        have HR0 := Aside0.mk hr0
        have HC0 := Aside0.mk hc0
        clear h hp' hb hr0 hc0
        go_enter Try.func19, Try.ntmps19
        go_wp2
        refine bits_First.scope3 (bits_First.J A0 c0 l0 a1 a2 (r1, r2) w) (bits_First.mu a2) rfl rfl rfl ?_ ?_ ?_ ?_
        · go_wp2_with (go_at_call 27; (with_reducible refine (bits_part.calls _ _ l0 a1 a2 true _ HR0.out HC0.out HP.out).mono ?_); rintro e w' ⟨rfl, ⟨nd, rfl⟩⟩)
          go_step3
          have HT := H
          clear H
          obtain ⟨i, hi⟩ : ∃ i, i = a1 := ⟨_, rfl⟩
          subst hi
          by_cases c6 : i < a2
          · obtain ⟨j, hj⟩ : ∃ j : Int, i / 8 = j := ⟨_, rfl⟩
            have hj0 : 0 ≤ j := by omega
            have hj1 : j < (l0.length : Int) := by omega
            obtain ⟨m, hm⟩ : ∃ m : Int, i % 8 = m := ⟨_, rfl⟩
            have hm0 : 0 ≤ m := by omega
            have hm1 : m ≤ 7 := by omega
            by_cases c7 : m = 0
            · have c7b : (m == 0) = true := beq_iff_eq.mpr c7
              have C7 := Aside0.mk c7
              clear c7
              have hm8 := C7.out
              clear hm8
              go_wp2
              go_step3
              exact ⟨by simp, ⟨⟨_, rfl⟩, i, _, _, _, _, _, _, _, _, _, _, _, _, _, _, _, _, _, _, _, _, _, _, _, _, _, _, _, _, _, _, _, _, _, _, _, _, _, _, rfl, by omega, by omega, HT.out, fun _ => by omega, fun _ => by have := C7.out; omega⟩⟩
            · have c7b : (m == 0) = false := beq_eq_false_iff_ne.mpr c7
              clear c7
              obtain ⟨ad, e, hx⟩ := Kd.at_int HR0.out j (by omega) (by omega)
              cases e
              have hby := bits_First.rd_byte HB.out j
              obtain ⟨q, hq⟩ : ∃ q : Int, rd l0 j / 2 ^ m.toNat = q := ⟨_, rfl⟩
              have hqb := bits_First.shr_byte hby.1 hby.2 m.toNat
              rw [hq] at hqb
              obtain ⟨b, hbit⟩ : ∃ b : Int, Go.bits .and .u8 q 1 = b := ⟨_, rfl⟩
              have hb2 : b = q % 2 := by rw [← hbit]; exact bits_First.and1 hqb.1 hqb.2
              have hoff : bits_First.off l0 i = (q % 2 == 0) := by unfold bits_First.off; rw [hj, hm, hq]
              have ht := HT.out
              rw [show (a2 - i).toNat = (a2 - (i + 1)).toNat + 1 by omega] at ht
              simp only [bits_First.fz] at ht
              rw [hoff, ← hb2] at ht
              clear hoff hqb hby HT
              by_cases c9 : b = 0
              · have c9b : (b == 0) = true := beq_iff_eq.mpr c9
                rw [c9b, if_pos rfl] at ht
                obtain ⟨rfl, rfl⟩ := Prod.mk.inj ht
                clear ht hb2 c9
                go_wp2
                go_step3
                go_wp2
                try simp only [bits_First.jumps]
                go_ret2
                exact ⟨rfl, by repeat (first | exact Drawn0.refl _ | apply Drawn0.step)⟩
              · have c9b : (b == 0) = false := beq_eq_false_iff_ne.mpr c9
                rw [c9b, if_neg (by simp)] at ht
                have HT := Aside0.mk ht
                clear ht hb2 c9
                go_wp2
                go_step3
                go_wp2
                go_step3
                exact ⟨by simp, ⟨⟨_, rfl⟩, i + 1, _, _, _, _, _, _, _, _, _, _, _, _, _, _, _, _, _, _, _, _, _, _, _, _, _, _, _, _, _, _, _, _, _, _, _, _, _, _, rfl, by omega, by omega, HT.out, fun h => absurd rfl h, fun h => absurd h (by decide)⟩⟩
          · have ht := HT.out
            rw [show (a2 - i).toNat = 0 by omega] at ht
            simp only [bits_First.fz] at ht
            obtain ⟨rfl, rfl⟩ := Prod.mk.inj ht
            clear ht HT
            go_wp2
            try simp only [bits_First.jumps]
            go_ret2
            exact ⟨rfl, by repeat (first | exact Drawn0.refl _ | apply Drawn0.step)⟩
        · rintro a w' ⟨⟨nw, rfl⟩, i, u3, u4, u5, u6, u7, u9, u10, u11, u12, u13, u14, u15, u16, u17, u18, u19, u20, u21, u22, u23, u24, u25, u26, u27, u28, u29, u30, u31, u32, u33, u34, u35, u36, u37, u38, u39, u40, u41, rfl, hi0, hi1, hfz, hlt, h8⟩
          have HT := Aside0.mk hfz
          clear hfz H
          clear hlt h8
          by_cases c6 : i < a2
          · obtain ⟨j, hj⟩ : ∃ j : Int, i / 8 = j := ⟨_, rfl⟩
            have hj0 : 0 ≤ j := by omega
            have hj1 : j < (l0.length : Int) := by omega
            obtain ⟨m, hm⟩ : ∃ m : Int, i % 8 = m := ⟨_, rfl⟩
            have hm0 : 0 ≤ m := by omega
            have hm1 : m ≤ 7 := by omega
            by_cases c7 : m = 0
            · have c7b : (m == 0) = true := beq_iff_eq.mpr c7
              have C7 := Aside0.mk c7
              clear c7
              have hm8 := C7.out
              clear hm8
              go_wp2
              go_step3
              refine ⟨by simp, ⟨⟨_, rfl⟩, i, _, _, _, _, _, _, _, _, _, _, _, _, _, _, _, _, _, _, _, _, _, _, _, _, _, _, _, _, _, _, _, _, _, _, _, _, _, _, rfl, by omega, by omega, HT.out, fun _ => by omega, fun _ => by have := C7.out; omega⟩, ?_⟩
              simp only [bits_First.mu, bits_First.num]
              first | (simp; done) | (simp; omega)
            · have c7b : (m == 0) = false := beq_eq_false_iff_ne.mpr c7
              clear c7
              obtain ⟨ad, e, hx⟩ := Kd.at_int HR0.out j (by omega) (by omega)
              cases e
              have hby := bits_First.rd_byte HB.out j
              obtain ⟨q, hq⟩ : ∃ q : Int, rd l0 j / 2 ^ m.toNat = q := ⟨_, rfl⟩
              have hqb := bits_First.shr_byte hby.1 hby.2 m.toNat
              rw [hq] at hqb
              obtain ⟨b, hbit⟩ : ∃ b : Int, Go.bits .and .u8 q 1 = b := ⟨_, rfl⟩
              have hb2 : b = q % 2 := by rw [← hbit]; exact bits_First.and1 hqb.1 hqb.2
              have hoff : bits_First.off l0 i = (q % 2 == 0) := by unfold bits_First.off; rw [hj, hm, hq]
              have ht := HT.out
              rw [show (a2 - i).toNat = (a2 - (i + 1)).toNat + 1 by omega] at ht
              simp only [bits_First.fz] at ht
              rw [hoff, ← hb2] at ht
              clear hoff hqb hby HT
              by_cases c9 : b = 0
              · have c9b : (b == 0) = true := beq_iff_eq.mpr c9
                rw [c9b, if_pos rfl] at ht
                obtain ⟨rfl, rfl⟩ := Prod.mk.inj ht
                clear ht hb2 c9
                go_wp2
                go_step3
                go_wp2
                try simp only [bits_First.jumps]
                go_ret2
                exact ⟨rfl, by repeat (first | exact Drawn0.refl _ | apply Drawn0.step)⟩
              · have c9b : (b == 0) = false := beq_eq_false_iff_ne.mpr c9
                rw [c9b, if_neg (by simp)] at ht
                have HT := Aside0.mk ht
                clear ht hb2 c9
                go_wp2
                go_step3
                go_wp2
                go_step3
                refine ⟨by simp, ⟨⟨_, rfl⟩, i + 1, _, _, _, _, _, _, _, _, _, _, _, _, _, _, _, _, _, _, _, _, _, _, _, _, _, _, _, _, _, _, _, _, _, _, _, _, _, _, rfl, by omega, by omega, HT.out, fun h => absurd rfl h, fun h => absurd h (by decide)⟩, ?_⟩
                simp only [bits_First.mu, bits_First.num]
                first | (simp; done) | (simp; omega)
          · have ht := HT.out
            rw [show (a2 - i).toNat = 0 by omega] at ht
            simp only [bits_First.fz] at ht
            obtain ⟨rfl, rfl⟩ := Prod.mk.inj ht
            clear ht HT
            go_wp2
            try simp only [bits_First.jumps]
            go_ret2
            exact ⟨rfl, by repeat (first | exact Drawn0.refl _ | apply Drawn0.step)⟩
        · rintro a w' ⟨⟨nw, rfl⟩, i, u3, u4, u5, u6, u7, u9, u10, u11, u12, u13, u14, u15, u16, u17, u18, u19, u20, u21, u22, u23, u24, u25, u26, u27, u28, u29, u30, u31, u32, u33, u34, u35, u36, u37, u38, u39, u40, u41, rfl, hi0, hi1, hfz, hlt, h8⟩
          have HT := Aside0.mk hfz
          clear hfz H
          have c6 : i < a2 := hlt (by decide)
          have h80 : i % 8 = 0 := h8 rfl
          clear hlt h8
          obtain ⟨j, hj⟩ : ∃ j : Int, i / 8 = j := ⟨_, rfl⟩
          have hj0 : 0 ≤ j := by omega
          have hj1 : j < (l0.length : Int) := by omega
          obtain ⟨m, hm⟩ : ∃ m : Int, i % 8 = m := ⟨_, rfl⟩
          have hm0 : 0 ≤ m := by omega
          have hm1 : m ≤ 7 := by omega
          clear hm
          obtain ⟨ad, e, hx⟩ := Kd.at_int HR0.out j (by omega) (by omega)
          cases e
          have hby := bits_First.rd_byte HB.out j
          by_cases c9 : rd l0 j = 255
          · have c9b : (rd l0 j != 255) = false := bne_eq_false_iff_eq.mpr c9
            have HT2 : Aside0 (bits_First.fz l0 (a2 - (i + 8)).toNat (i + 8) = (r1, r2)) := ⟨by rw [← bits_First.fz_byte (by omega) (by rw [hj]; exact c9) (by omega)]; exact HT.out⟩
            clear c9 HT
            go_wp2
            go_step3
            refine ⟨by simp, ⟨⟨_, rfl⟩, i + 8, _, _, _, _, _, _, _, _, _, _, _, _, _, _, _, _, _, _, _, _, _, _, _, _, _, _, _, _, _, _, _, _, _, _, _, _, _, _, rfl, by omega, by omega, HT2.out, fun h => absurd rfl h, fun h => absurd h (by decide)⟩, ?_⟩
            simp only [bits_First.mu, bits_First.num]
            first | (simp; done) | (simp; omega)
          · have c9b : (rd l0 j != 255) = true := bne_iff_ne.mpr c9
            clear c9
            go_wp2
            go_step3
            refine ⟨by simp, ⟨⟨_, rfl⟩, i, _, _, _, _, _, _, _, _, _, _, _, _, _, _, _, _, _, _, _, _, _, _, _, _, _, _, _, _, _, _, _, _, _, _, _, _, _, _, rfl, by omega, by omega, HT.out, fun _ => by omega, fun h => absurd h (by decide)⟩, ?_⟩
            simp only [bits_First.mu, bits_First.num]
            first | (simp; done) | (simp; omega)
        · rintro a w' ⟨⟨nw, rfl⟩, i, u3, u4, u5, u6, u7, u9, u10, u11, u12, u13, u14, u15, u16, u17, u18, u19, u20, u21, u22, u23, u24, u25, u26, u27, u28, u29, u30, u31, u32, u33, u34, u35, u36, u37, u38, u39, u40, u41, rfl, hi0, hi1, hfz, hlt, h8⟩
          have HT := Aside0.mk hfz
          clear hfz H
          have c6 : i < a2 := hlt (by decide)
          clear hlt h8
          obtain ⟨j, hj⟩ : ∃ j : Int, i / 8 = j := ⟨_, rfl⟩
          have hj0 : 0 ≤ j := by omega
          have hj1 : j < (l0.length : Int) := by omega
          obtain ⟨m, hm⟩ : ∃ m : Int, i % 8 = m := ⟨_, rfl⟩
          have hm0 : 0 ≤ m := by omega
          have hm1 : m ≤ 7 := by omega
          obtain ⟨ad, e, hx⟩ := Kd.at_int HR0.out j (by omega) (by omega)
          cases e
          have hby := bits_First.rd_byte HB.out j
          obtain ⟨q, hq⟩ : ∃ q : Int, rd l0 j / 2 ^ m.toNat = q := ⟨_, rfl⟩
          have hqb := bits_First.shr_byte hby.1 hby.2 m.toNat
          rw [hq] at hqb
          obtain ⟨b, hbit⟩ : ∃ b : Int, Go.bits .and .u8 q 1 = b := ⟨_, rfl⟩
          have hb2 : b = q % 2 := by rw [← hbit]; exact bits_First.and1 hqb.1 hqb.2
          have hoff : bits_First.off l0 i = (q % 2 == 0) := by unfold bits_First.off; rw [hj, hm, hq]
          have ht := HT.out
          rw [show (a2 - i).toNat = (a2 - (i + 1)).toNat + 1 by omega] at ht
          simp only [bits_First.fz] at ht
          rw [hoff, ← hb2] at ht
          clear hoff hqb hby HT
          by_cases c9 : b = 0
          · have c9b : (b == 0) = true := beq_iff_eq.mpr c9
            rw [c9b, if_pos rfl] at ht
            obtain ⟨rfl, rfl⟩ := Prod.mk.inj ht
            clear ht hb2 c9
            go_wp2
            try simp only [bits_First.jumps]
            go_ret2
            exact ⟨rfl, by repeat (first | exact Drawn0.refl _ | apply Drawn0.step)⟩
          · have c9b : (b == 0) = false := beq_eq_false_iff_ne.mpr c9
            rw [c9b, if_neg (by simp)] at ht
            have HT := Aside0.mk ht
            clear ht hb2 c9
            go_wp2
            go_step3
            refine ⟨by simp, ⟨⟨_, rfl⟩, i + 1, _, _, _, _, _, _, _, _, _, _, _, _, _, _, _, _, _, _, _, _, _, _, _, _, _, _, _, _, _, _, _, _, _, _, _, _, _, _, rfl, by omega, by omega, HT.out, fun h => absurd rfl h, fun h => absurd h (by decide)⟩, ?_⟩
            simp only [bits_First.mu, bits_First.num]
            first | (simp; done) | (simp; omega)
      · rw [if_neg hin] at h
        have hp' : bits_part.f l0 a1 a2 = some false := by rw [hp, decide_eq_false hin]
        obtain ⟨rfl, rfl⟩ := Prod.mk.inj h
        have HP := Aside0.mk hp'
        have HR0 := Aside0.mk hr0
        have HC0 := Aside0.mk hc0
        clear h hp hp' hb hr0 hc0
        go_enter Try.func19, Try.ntmps19
        go_wp2
        go_step3
        go_wp2_with (go_at_call 27; (with_reducible refine (bits_part.calls _ _ l0 a1 a2 false _ HR0.out HC0.out HP.out).mono ?_); rintro e w' ⟨rfl, ⟨nd, rfl⟩⟩)
        try rw [Exit.noGoto_ret]
        go_ret2
        exact ⟨rfl, by repeat (first | exact Drawn0.refl _ | apply Drawn0.step)⟩
    · rw [if_pos hb, if_neg hl] at h
      exact absurd h (by simp)
  · rw [if_neg hb] at h
    exact absurd h (by simp)

-- NOT PRINTED: function 21 (skerryref01_Roomy)

/-! ### skerryref01_SameInts: function 23 -/
def skerryref01_SameInts.l0 : Nat → List Int → List Int → Int → Option (Bool)
  | 0, _, _, _ => none
  | k + 1, x0, x1, x5 => if x5 < (x0.length : Int) then (if 0 ≤ x5 then (if x5 < (x1.length : Int) then (if (rd x0 x5) = (rd x1 x5) then (skerryref01_SameInts.l0 k x0 x1 (wrap64 (x5 + 1))) else (some false)) else (none)) else (none)) else (some true)
def skerryref01_SameInts.f (k : Nat) (l0 : List Int) (l1 : List Int) : Option (Bool) := if (l0.length : Int) = (l1.length : Int) then (skerryref01_SameInts.l0 k l0 l1 0) else (some false)
theorem skerryref01_SameInts.mono_l : ∀ k, (∀ y0 y1 y2, LeO (skerryref01_SameInts.l0 k y0 y1 y2) (skerryref01_SameInts.l0 (k + 1) y0 y1 y2))
  | 0 => fun _ _ _ r h => by simp [skerryref01_SameInts.l0] at h
  | k + 1 => by
    have ih0 := skerryref01_SameInts.mono_l k
    · intro y0 y1 y2
      unfold skerryref01_SameInts.l0
      repeat' first
      | (with_reducible exact ih0 _ _ _)
      | (with_reducible exact LeO.refl _)
      | (with_reducible exact LeO.none _)
      | (with_reducible refine LeO.ite ?_ ?_)
      | (with_reducible refine LeO.bind ?_ (fun _ => ?_))
      | exact ih0 _ _ _
      | exact LeO.none _
      | refine LeO.ite ?_ ?_
      | refine LeO.bind ?_ (fun _ => ?_)
theorem skerryref01_SameInts.mono : ∀ a0 a1 k, LeO (skerryref01_SameInts.f k a0 a1) (skerryref01_SameInts.f (k + 1) a0 a1) := by
  intro a0 a1 k
  have ih0 := skerryref01_SameInts.mono_l k
  unfold skerryref01_SameInts.f
  repeat' first
      | (with_reducible exact ih0 _ _ _)
      | (with_reducible exact LeO.refl _)
      | (with_reducible exact LeO.none _)
      | (with_reducible refine LeO.ite ?_ ?_)
      | (with_reducible refine LeO.bind ?_ (fun _ => ?_))
      | exact ih0 _ _ _
      | exact LeO.none _
      | refine LeO.ite ?_ ?_
      | refine LeO.bind ?_ (fun _ => ?_)
set_option maxHeartbeats 8000000 in
set_option maxRecDepth 100000 in
theorem skerryref01_SameInts.calls (k : Nat) (A0 : Option Addr) (c0 : Nat) (l0 : List Int) (A1 : Option Addr) (c1 : Nat) (l1 : List Int) (r : Bool) (w : World) (hr0 : Kd.C (Kd.int .i64) w A0 l0.length l0) (hc0 : l0.length ≤ c0) (hr1 : Kd.C (Kd.int .i64) w A1 l1.length l1) (hc1 : l1.length ≤ c1) (h : skerryref01_SameInts.f k l0 l1 = some r) :
    Calls Try.prog 23 #[.slice A0 l0.length c0, .slice A1 l1.length c1] w fun e w' => e = .returned (.bool r) ∧ Drawn0 w w' := by
  have HR0 := Aside0.mk hr0
  have HC0 := Aside0.mk hc0
  clear hr0 hc0
  have HR1 := Aside0.mk hr1
  have HC1 := Aside0.mk hc1
  clear hr1 hc1
  have H : (if (l0.length : Int) = (l1.length : Int) then (skerryref01_SameInts.l0 k l0 l1 0) else (some false)) = some r := h
  clear h
  by_cases c3 : (l0.length : Int) = (l1.length : Int)
  · rw [if_pos c3] at H
    have c3b0 : ((l0.length : Int) == (l1.length : Int)) = true := beq_iff_eq.mpr c3
    have c3b1 : ((l0.length : Int) != (l1.length : Int)) = false := bne_eq_false_iff_eq.mpr c3
    have c3b2 : (l0.length == l1.length) = true := by first | simpa using c3 | (simp at c3 ⊢; omega)
    clear c3
    have H' := Aside0.mk H
    clear H
    go_enter Try.func23, Try.ntmps23
    go_wp2
    repeat (go_quiet (fail); try go_wp2)
    go_loopg [5] k (fun kq v5 w' => ∃ (x5_1 : Int), v5 = .int .i64 x5_1 ∧ Aside0 (skerryref01_SameInts.l0 kq l0 l1 x5_1 = some r) ∧ Aside0 (kq ≤ k) ∧ Drawn0 w w')
    case atStart => exact ⟨(0), (by first | rfl | (simp; done) | (simp [*]; done)), H', ⟨Nat.le_refl _⟩, by repeat (first | exact Drawn0.refl _ | apply Drawn0.step)⟩
    case round =>
      clear H'
      try clear c1
      try clear c2
      try clear p2
      try clear c3
      try clear c3b0
      try clear c3b1
      try clear c3b2
      obtain ⟨x5_1, rfl, HA, HK1, ⟨m1, rfl⟩⟩ := hrel
      cases gk with
      | zero => exact absurd HA.out (by simp [skerryref01_SameInts.l0])
      | succ k1 =>
        have H := HA.out
        clear HA
        simp only [skerryref01_SameInts.l0] at H
        by_cases c4 : x5_1 < (l0.length : Int)
        · rw [if_pos c4] at H
          have c4b0 : decide (x5_1 < (l0.length : Int)) = true := decide_eq_true c4
          clear c4
          by_cases c5 : 0 ≤ x5_1
          · rw [if_pos c5] at H
            have c5b0 : decide (0 ≤ x5_1) = true := decide_eq_true c5
            clear c5
            by_cases c6 : x5_1 < (l1.length : Int)
            · rw [if_pos c6] at H
              have c6b0 : decide (x5_1 < (l1.length : Int)) = true := decide_eq_true c6
              clear c6
              by_cases c7 : (rd l0 x5_1) = (rd l1 x5_1)
              · rw [if_pos c7] at H
                have c7b0 : ((rd l0 x5_1) == (rd l1 x5_1)) = true := beq_iff_eq.mpr c7
                have c7b1 : ((rd l0 x5_1) != (rd l1 x5_1)) = false := bne_eq_false_iff_eq.mpr c7
                clear c7
                have H' := Aside0.mk H
                clear H
                have p127 : 0 ≤ (x5_1 : Int) := of_decide_eq_true (by first | (with_reducible assumption) | assumption)
                have q127 : x5_1 < (l0.length : Int) := of_decide_eq_true (by first | (with_reducible assumption) | assumption)
                obtain ⟨ad127, e127, hx127_0⟩ := Kd.at_int HR0.out x5_1 p127 q127
                cases e127
                replace p127 := eq_true p127
                replace q127 := eq_true q127
                have p128 : 0 ≤ (x5_1 : Int) := of_decide_eq_true (by first | (with_reducible assumption) | assumption)
                have q128 : x5_1 < (l1.length : Int) := of_decide_eq_true (by first | (with_reducible assumption) | assumption)
                obtain ⟨ad128, e128, hx128_0⟩ := Kd.at_int HR1.out x5_1 p128 q128
                cases e128
                replace p128 := eq_true p128
                replace q128 := eq_true q128
                go_wp2
                repeat (go_quiet (fail); try go_wp2)
                go_roundg k1
                case measure => have := HK1.out; omega
                case rel => exact ⟨(wrap64 (x5_1 + 1)), (by first | rfl | (simp; done) | (simp [*]; done)), H', ⟨by have := HK1.out; omega⟩, by repeat (first | exact Drawn0.refl _ | apply Drawn0.step)⟩
              · rw [if_neg c7] at H
                have c7b0 : ((rd l0 x5_1) == (rd l1 x5_1)) = false := beq_eq_false_iff_ne.mpr c7
                have c7b1 : ((rd l0 x5_1) != (rd l1 x5_1)) = true := bne_iff_ne.mpr c7
                obtain rfl := Option.some.inj H
                have p127 : 0 ≤ (x5_1 : Int) := of_decide_eq_true (by first | (with_reducible assumption) | assumption)
                have q127 : x5_1 < (l0.length : Int) := of_decide_eq_true (by first | (with_reducible assumption) | assumption)
                obtain ⟨ad127, e127, hx127_0⟩ := Kd.at_int HR0.out x5_1 p127 q127
                cases e127
                replace p127 := eq_true p127
                replace q127 := eq_true q127
                have p128 : 0 ≤ (x5_1 : Int) := of_decide_eq_true (by first | (with_reducible assumption) | assumption)
                have q128 : x5_1 < (l1.length : Int) := of_decide_eq_true (by first | (with_reducible assumption) | assumption)
                obtain ⟨ad128, e128, hx128_0⟩ := Kd.at_int HR1.out x5_1 p128 q128
                cases e128
                replace p128 := eq_true p128
                replace q128 := eq_true q128
                go_wp2
                repeat (go_quiet (fail); try go_wp2)
                go_ret
                exact ⟨by first | rfl | (simp; done) | (simp [*]; done), by repeat (first | exact Drawn0.refl _ | apply Drawn0.step)⟩
            · rw [if_neg c6] at H
              exact absurd H (by simp)
          · rw [if_neg c5] at H
            exact absurd H (by simp)
        · rw [if_neg c4] at H
          have c4b0 : decide (x5_1 < (l0.length : Int)) = false := decide_eq_false c4
          clear c4
          obtain rfl := Option.some.inj H
          go_wp2
          repeat (go_quiet (fail); try go_wp2)
          go_ret
          exact ⟨by first | rfl | (simp; done) | (simp [*]; done), by repeat (first | exact Drawn0.refl _ | apply Drawn0.step)⟩
  · rw [if_neg c3] at H
    have c3b0 : ((l0.length : Int) == (l1.length : Int)) = false := beq_eq_false_iff_ne.mpr c3
    have c3b1 : ((l0.length : Int) != (l1.length : Int)) = true := bne_iff_ne.mpr c3
    have c3b2 : (l0.length == l1.length) = false := by first | simpa using c3 | (simp at c3 ⊢; omega)
    obtain rfl := Option.some.inj H
    go_enter Try.func23, Try.ntmps23
    go_wp2
    repeat (go_quiet (fail); try go_wp2)
    go_ret
    exact ⟨by first | rfl | (simp; done) | (simp [*]; done), by repeat (first | exact Drawn0.refl _ | apply Drawn0.step)⟩

/-! ### skerryref01_mark: function 30 -/
def skerryref01_mark.f (a0 : Int) : Option (Int) := some ((wrap64 ((wrap64 ((wrap64 (a0 * 7)) + (wrap64 (Int.tdiv a0 36)))) + 3)) % 256)
set_option maxHeartbeats 8000000 in
set_option maxRecDepth 100000 in
theorem skerryref01_mark.calls (a0 : Int) (r : Int) (w : World) (h : skerryref01_mark.f a0 = some r) :
    Calls Try.prog 30 #[.int .i64 a0] w fun e w' => e = .returned (.int .u8 r) ∧ Drawn0 w w' := by
  have H : (some ((wrap64 ((wrap64 ((wrap64 (a0 * 7)) + (wrap64 (Int.tdiv a0 36)))) + 3)) % 256)) = some r := h
  clear h
  obtain rfl := Option.some.inj H
  go_enter Try.func30, Try.ntmps30
  go_wp2
  go_ret
  exact ⟨by first | rfl | (simp; done) | (simp [*]; done), by repeat (first | exact Drawn0.refl _ | apply Drawn0.step)⟩

-- NOT PRINTED: function 24 (skerryref01_BytesApart)

-- NOT PRINTED: function 8 (skerrylaw04_BitsKeeps)

end Go.Proofs.Ytmjgmompcaanlab.PBitsKeeps
