/- What the order of paths is: plain words for the law WalkSorts. -/
import Derived.Test.YtdihhdmndjjknaaDoorKWUniq
namespace Go.Proofs.YtdihhdmndjjknaaDoor.Walk
open Go.RowKit Go.Proofs.YtdihhdmndjjknaaDoor.Plain Go.Proofs.YtdihhdmndjjknaaDoor.Codec
set_option linter.unusedVariables false
set_option linter.unusedSimpArgs false
/-- The paths of names. -/
def pathsOf (N : List (List ByteArray)) : List ByteArray := N.map fun x => (joinOut x).1
/-- Does one path stand above another one? (WAbove has the same word, aboveOut, by its own definition.) -/
def aboveOfP (a b : ByteArray) : Bool × Int :=
  if (splitOut a).2 ≠ 0 ∨ (splitOut b).2 ≠ 0 then (false, 16) else (decide ((splitOut a).1.length ≤ (splitOut b).1.length ∧ (splitOut a).1 = (splitOut b).1.take (splitOut a).1.length), 0)
theorem order_join {paths : List ByteArray} {N : List (List ByteArray)} (h : OrderOf paths N) (ha : AllSplit paths) {x : List ByteArray} (hx : x ∈ N) : ∃ y ∈ paths, splitOut y = (x, 0) ∧ (joinOut x).1 = y := by
  obtain ⟨y, hy, e⟩ := List.mem_map.1 ((h.mem x).1 hx)
  have h0 := ha y hy
  have hj := split_join y h0
  have e : (splitOut y).1 = x := e
  rw [e] at hj
  refine ⟨y, hy, ?_, by rw [hj]⟩
  rw [← e, ← h0]
theorem order_split {paths : List ByteArray} {N : List (List ByteArray)} (h : OrderOf paths N) (ha : AllSplit paths) {x : List ByteArray} (hx : x ∈ N) : splitOut (joinOut x).1 = (x, 0) := by
  obtain ⟨y, _, h1, h2⟩ := order_join h ha hx
  rw [h2, h1]
theorem order_all {paths : List ByteArray} {N : List (List ByteArray)} (h : OrderOf paths N) (ha : AllSplit paths) : AllSplit (pathsOf N) := by
  intro p hp
  obtain ⟨x, hx, e⟩ := List.mem_map.1 hp
  have e : (joinOut x).1 = p := e
  rw [← e, order_split h ha hx]
/-- In order again it is itself. -/
theorem order_again {paths : List ByteArray} {N : List (List ByteArray)} (h : OrderOf paths N) (ha : AllSplit paths) : OrderOf (pathsOf N) N := by
  refine ⟨h.strict, fun x => ?_, by unfold pathsOf; rw [List.length_map]; exact Nat.le_refl _⟩
  unfold pathsOf
  rw [List.map_map, List.mem_map]
  constructor
  · intro hx
    exact ⟨x, hx, by show (splitOut (joinOut x).1).1 = x; rw [order_split h ha hx]⟩
  · rintro ⟨z, hz, e⟩
    have e : (splitOut (joinOut z).1).1 = x := e
    rw [order_split h ha hz] at e
    rw [← e]
    exact hz
theorem order_back {paths : List ByteArray} {N M : List (List ByteArray)} (h : OrderOf paths N) (k : OrderOf paths.reverse M) : M = N :=
  strict_uniq M N k.strict h.strict fun x => by rw [k.mem x, h.mem x, List.map_reverse, List.mem_reverse]
theorem all_back {paths : List ByteArray} (h : AllSplit paths) : AllSplit paths.reverse := fun p hp => h p (List.mem_reverse.1 hp)
/-- How often a text stands in a list. -/
def cntP (p : ByteArray) : List ByteArray → Nat
  | [] => 0
  | q :: l => (if q = p then 1 else 0) + cntP p l
theorem cnt_none {p : ByteArray} : ∀ {l : List ByteArray}, p ∉ l → cntP p l = 0
  | [], _ => rfl
  | q :: l, h => by
    show (if q = p then 1 else 0) + cntP p l = 0
    rw [if_neg (fun e => h (by rw [e]; exact List.mem_cons_self)), cnt_none fun e => h (List.mem_cons_of_mem _ e)]
theorem cnt_one {p : ByteArray} : ∀ {l : List ByteArray}, l.Nodup → p ∈ l → cntP p l = 1
  | [], _, h => by cases h
  | q :: l, hn, h => by
    obtain ⟨h1, h2⟩ := List.nodup_cons.1 hn
    show (if q = p then 1 else 0) + cntP p l = 1
    by_cases e : q = p
    · subst e
      rw [if_pos rfl, cnt_none h1]
    · rw [if_neg e]
      rcases List.mem_cons.1 h with e2 | e2
      · exact absurd e2.symm e
      · rw [cnt_one h2 e2]
/-- Each path stands there once. -/
theorem order_once {paths : List ByteArray} {N : List (List ByteArray)} (h : OrderOf paths N) (ha : AllSplit paths) {p : ByteArray} (hp : p ∈ paths) : cntP p (pathsOf N) = 1 := by
  have hx : (splitOut p).1 ∈ N := (h.mem _).2 (List.mem_map.2 ⟨p, hp, rfl⟩)
  have hjp : (joinOut (splitOut p).1).1 = p := by rw [split_join p (ha p hp)]
  have hnd : (pathsOf N).Nodup := by
    unfold pathsOf
    rw [List.Nodup, List.pairwise_map]
    refine List.Pairwise.imp_of_mem (fun {a b} h1 h2 hab => ?_) h.strict
    intro e
    have e1 := order_split h ha h1
    rw [e, order_split h ha h2] at e1
    have : b = a := (Prod.mk.inj e1).1
    rw [this] at hab
    exact nl_irrefl _ hab
  have hm : p ∈ pathsOf N := List.mem_map.2 ⟨_, hx, hjp⟩
  exact cnt_one hnd hm
theorem prefix_le (x y : List ByteArray) (h : x = y.take x.length) : ¬ nl y < nl x := by
  have e : nl y = nl x ++ nl (y.drop x.length) := by
    conv => lhs; rw [← List.take_append_drop x.length y, ← h]
    unfold nl
    rw [List.map_append]
  rw [e]
  intro q
  have key : ∀ a b : List (List UInt8), ¬ (a ++ b) < a := by
    intro a b
    induction a with
    | nil => intro q; cases q
    | cons z a ih =>
      intro q
      rw [List.cons_append, List.cons_lt_cons_iff] at q
      rcases q with q | ⟨_, q⟩
      · exact List.lt_irrefl _ q
      · exact ih q
  exact key _ _ q
/-- What stands behind stands never above what stands ahead. -/
theorem order_above {paths : List ByteArray} {N : List (List ByteArray)} (h : OrderOf paths N) (ha : AllSplit paths) {i k : Nat} {x y : List ByteArray} (hi : N[i]? = some x) (hk : N[k]? = some y) (hik : i < k) : aboveOfP (joinOut y).1 (joinOut x).1 = (false, 0) := by
  have e1 := order_split h ha (List.mem_of_getElem? hi)
  have e2 := order_split h ha (List.mem_of_getElem? hk)
  unfold aboveOfP
  rw [e1, e2]
  simp only
  rw [if_neg (by simp)]
  congr 1
  refine decide_eq_false fun q => ?_
  have hlt : nl x < nl y := by
    have hp := List.pairwise_iff_getElem.1 h.strict i k (List.getElem?_eq_some_iff.1 hi).1 (List.getElem?_eq_some_iff.1 hk).1 hik
    rw [(List.getElem?_eq_some_iff.1 hi).2, (List.getElem?_eq_some_iff.1 hk).2] at hp
    exact hp
  exact prefix_le y x q.2 hlt
end Go.Proofs.YtdihhdmndjjknaaDoor.Walk
