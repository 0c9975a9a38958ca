/- A path is split, names are joined: contracts. -/
import Derived.Test.YtdihhdmndjjknaaDoorKWSound
import Derived.Test.YtdihhdmndjjknaaDoorJoin
import Derived.Test.YtdihhdmndjjknaaDoorPWalkOrdersx1
namespace Go.Proofs.YtdihhdmndjjknaaDoor.Walk
open Go.RowKit Go.Proofs.YtdihhdmndjjknaaDoor.PWalkOrders Go.Proofs.YtdihhdmndjjknaaDoor.Plain Go.Proofs.YtdihhdmndjjknaaDoor.Codec Go.Proofs.YtdihhdmndjjknaaDoorW.PrintWords Go.Proofs.YtdihhdmndjjknaaDoorW.PrintLast Go.Proofs.YtdihhdmndjjknaaDoorW.PrintMore
set_option linter.unusedVariables false
set_option linter.unusedSimpArgs false
theorem one_size : ((⟨#[47]⟩ : ByteArray).size : Int) = 1 := rfl
theorem head_bytes (s : ByteArray) (h : 1 ≤ s.size) : (s.extract 0 1).toList = [s.data.toList.headD 0] := by
  rw [take_list, ByteArray.toList_eq, bs_list]
  cases hl : s.data.toList with
  | nil => rw [← list_len, hl] at h; simp at h
  | cons b t => rfl
theorem cp_yes (s : ByteArray) (h : s.data.toList.head? = some 47) : strings_CutPrefix.f s ⟨#[47]⟩ = some (s.extract 1 s.size, true) := by
  have h1 : 1 ≤ s.size := by
    rw [← list_len]
    cases hl : s.data.toList with
    | nil => rw [hl] at h; cases h
    | cons b t => simp
  have h2 : s.data.toList.headD 0 = 47 := by rw [List.headD_eq_head?_getD, h]; rfl
  have hp : stringslite_HasPrefix.f s ⟨#[47]⟩ = some true := by
    unfold stringslite_HasPrefix.f
    rw [one_size, if_pos (by omega), if_pos (by omega), if_pos (by omega)]
    show some ((s.extract 0 1).toList == _) = _
    rw [head_bytes s h1, h2, ByteArray.toList_eq]
    rfl
  unfold strings_CutPrefix.f stringslite_CutPrefix.f
  rw [hp, one_size]
  simp only [Option.bind_some]
  rw [if_pos trivial, if_pos (by omega), if_pos (by omega)]
  rfl
theorem cp_no (s : ByteArray) (h : s.data.toList.head? ≠ some 47) : strings_CutPrefix.f s ⟨#[47]⟩ = some (s, false) := by
  have hp : stringslite_HasPrefix.f s ⟨#[47]⟩ = some false := by
    unfold stringslite_HasPrefix.f
    rw [one_size]
    by_cases h1 : 1 ≤ s.size
    · rw [if_pos (by omega), if_pos (by omega), if_pos (by omega)]
      show some ((s.extract 0 1).toList == _) = _
      rw [head_bytes s h1, ByteArray.toList_eq]
      have h2 : s.data.toList.headD 0 ≠ 47 := by
        intro q
        apply h
        cases hl : s.data.toList with
        | nil => rw [← list_len, hl] at h1; simp at h1
        | cons b t => rw [hl] at q; simp at q; rw [q]; rfl
      congr 1
      rw [beq_eq_false_iff_ne]
      intro q
      exact h2 (List.cons.inj q).1
    · rw [if_neg (by omega)]
  unfold strings_CutPrefix.f stringslite_CutPrefix.f
  rw [hp]
  rfl
theorem rest_list (s : ByteArray) : (s.extract 1 s.size).data.toList = s.data.toList.tail := by rw [drop_list, List.drop_one]
theorem rest_size (s : ByteArray) : (s.extract 1 s.size).size = s.size - 1 := by rw [← list_len, rest_list, List.length_tail, list_len]
theorem texts_nil (w : World) (base : Nat) : Kd.R Kd.string 9 w base (fun _ => True) (.slice none 0 0) [] := Kd.R_of_own (enc := Value.string) (h1 := fun _ => rfl) (World.ownsRow_nil _ _ _ _) (fun _ _ => trivial)
theorem texts_own {base : Nat} {ok : Nat → Prop} {w : World} {v : Value} {xs : List ByteArray} (h : Kd.R Kd.string 9 w base ok v xs) : w.ownsRow base 9 1 v xs.length (encs Value.string xs) := Kd.own_of_R (enc := Value.string) (h1 := fun _ => rfl) h
theorem texts_below {b base : Nat} {w W : World} {v : Value} {xs : List ByteArray} (h : Kd.R Kd.string 9 w b (fun _ => True) v xs) (hb : Below w.heap.size w W) (hle : base ≤ b) : Kd.R Kd.string 9 W base (fun _ => True) v xs := by
  have h2 := texts_own h
  refine Kd.R_of_own (enc := Value.string) (h1 := fun _ => rfl) ⟨h2.1, ?_⟩ (fun _ _ => trivial)
  rcases h2.2 with hn | ⟨g, cap, cur, rfl, hg, hgg, rest⟩
  · exact .inl hn
  · exact .inr ⟨g, cap, cur, rfl, Nat.le_trans hle hg, (hb.block g (blk_lt hgg)).trans hgg, rest⟩
set_option maxHeartbeats 4000000 in
set_option maxRecDepth 100000 in
theorem strsplit_calls (s : ByteArray) (hs : s.size ≤ 200) (w : World) : Calls Tryd.prog 21 #[.string s, .string ⟨#[47]⟩] w fun e w' => ∃ v, e = .returned v ∧ Kd.R Kd.string 9 w' w.heap.size (fun _ => True) v (parts s.data.toList) ∧ Below w.heap.size w w' := by
  have HC := Aside0.mk (gsplit_calls s hs w)
  clear hs
  go_enter Tryd.func21, Tryd.ntmps21
  go_wp2_with fail
  ((refine HC.out.mono ?_); rintro e w2 ⟨v, rfl, hr, hb⟩)
  have HR := Aside0.mk hr
  have HB := Aside0.mk hb
  clear hb hr HC
  go_wp2
  go_ret
  exact ⟨_, rfl, HR.out, HB.out⟩
/-- A path's names as they are answered. -/
def SplitEnds (s : ByteArray) (w : World) (e : Ending) (w' : World) : Prop := ∃ v, e = .returned (.tuple #[v, .int .i64 (splitOut s).2]) ∧ Kd.R Kd.string 9 w' w.heap.size (fun _ => True) v (splitOut s).1 ∧ Below w.heap.size w w'
set_option maxHeartbeats 4000000 in
set_option maxRecDepth 100000 in
theorem split_calls (s : ByteArray) (hs : s.size ≤ 9223372036854775807) (w : World) : Calls Tryd.prog 9 #[.string s] w (SplitEnds s w) := by
  unfold SplitEnds
  by_cases hh : s.data.toList.head? = some 47
  rotate_left
  · have e : splitOut s = ([], 16) := by unfold splitOut; rw [if_pos (.inr (.inr hh))]
    rw [e]
    have HC := Aside0.mk (strings_CutPrefix.calls s ⟨#[47]⟩ s false w (cp_no s hh))
    clear e hh
    go_enter Tryd.func9, Tryd.ntmps9
    go_wp2_with fail
    ((refine HC.out.mono ?_); rintro e w2 ⟨rfl, hd⟩)
    have HB := Aside0.mk hd.below
    clear hd HC
    go_wp2
    go_ret2
    exact ⟨_, rfl, texts_nil _ _, HB.out⟩
  have HC := Aside0.mk (strings_CutPrefix.calls s ⟨#[47]⟩ _ true w (cp_yes s hh))
  have h1 : 1 ≤ s.size := by
    rw [← list_len]
    cases hl : s.data.toList with
    | nil => rw [hl] at hh; cases hh
    | cons b t => simp
  by_cases h2 : s.size ≤ 200
  rotate_left
  · have e : splitOut s = ([], 16) := by unfold splitOut; rw [if_pos (.inr (.inl (by omega)))]
    rw [e]
    have d0 : decide ((200 : Int) < (s.size : Int)) = true := decide_eq_true (by omega)
    have d0n : decide (200 < s.size) = true := decide_eq_true (by omega)
    clear e hh h1 h2
    go_enter Tryd.func9, Tryd.ntmps9
    go_wp2_with fail
    ((refine HC.out.mono ?_); rintro e w2 ⟨rfl, hd⟩)
    have HB := Aside0.mk hd.below
    clear hd HC
    go_wp2
    go_ret2
    exact ⟨_, rfl, texts_nil _ _, HB.out⟩
  have hnb : ¬ BadPath s := by
    unfold BadPath
    rintro (h | h | h)
    · omega
    · omega
    · exact h hh
  have d0 : decide ((200 : Int) < (s.size : Int)) = false := decide_eq_false (by omega)
  have d0n : decide (200 < s.size) = false := decide_eq_false (by omega)
  obtain ⟨r, hr⟩ : ∃ r, s.extract 1 s.size = r := ⟨_, rfl⟩
  have hrl := rest_list s
  have hrs := rest_size s
  rw [hr] at hrl hrs HC
  by_cases h3 : s.size = 1
  · have e : splitOut s = ([], 0) := by unfold splitOut; rw [if_neg hnb, if_pos h3]
    rw [e]
    have b1 : r.toList.isEmpty = true := by
      rw [ByteArray.toList_eq, List.isEmpty_iff]
      refine List.eq_nil_of_length_eq_zero ?_
      rw [list_len]; omega
    clear e hh h1 h2 h3 hnb hrl hrs hr
    go_enter Tryd.func9, Tryd.ntmps9
    go_wp2_with fail
    ((refine HC.out.mono ?_); rintro e w2 ⟨rfl, hd⟩)
    have HB := Aside0.mk hd.below
    clear hd HC
    go_wp2
    go_ret2
    exact ⟨_, rfl, texts_nil _ _, HB.out⟩
  have b1 : r.toList.isEmpty = false := by
    rw [ByteArray.toList_eq]
    cases hl : r.data.toList with
    | nil => have := list_len r; rw [hl] at this; simp at this; omega
    | cons b t => rfl
  have hsp : splitOut s = if Sound (parts r.data.toList) then (parts r.data.toList, 0) else ([], 16) := by unfold splitOut; rw [if_neg hnb, if_neg h3, hrl]
  have HS := Aside0.mk (fun W => strsplit_calls r (by omega) W)
  have hpl := parts_length r.data.toList
  have hcl := count_le r.data.toList
  rw [list_len] at hcl
  have HLP : Aside0 ((parts r.data.toList).length ≤ 1048576) := ⟨by omega⟩
  rw [hsp]
  obtain ⟨P, hP⟩ : ∃ P, parts r.data.toList = P := ⟨_, rfl⟩
  rw [hP] at HS HLP ⊢
  clear hh h1 h2 h3 hnb hrl hrs hr hsp hpl hcl hP
  by_cases hq : Sound P
  · rw [if_pos hq]
    have hd1 := decide_eq_true hq
    have HD := Aside0.mk hd1
    clear hq hd1
    go_enter Tryd.func9, Tryd.ntmps9
    go_wp2_with fail
    ((refine HC.out.mono ?_); rintro e w2 ⟨rfl, hd⟩)
    have HB := Aside0.mk hd.below
    clear hd HC
    go_wp2_with fail
    ((refine (HS.out _).mono ?_); rintro e w3 ⟨v, rfl, hr, hb⟩)
    have HR := Aside0.mk hr
    have HB3 := Aside0.mk (below_then HB.out HB.out.size hb)
    obtain ⟨A, k, rfl, hk, hv⟩ := Kd.R_reads hr
    have HSD := Aside0.mk (sound_calls A k P w3 hv HLP.out)
    rw [HD.out] at HSD
    clear hr hb hk hv HS
    go_wp2_with fail
    ((refine HSD.out.mono ?_); rintro e w4 ⟨rfl, hb⟩)
    have HR4 := Aside0.mk (texts_below HR.out hb HB.out.size)
    have HB4 := Aside0.mk (below_then HB3.out HB3.out.size hb)
    clear hb HSD
    go_wp2
    go_ret2
    exact ⟨_, rfl, HR4.out, HB4.out⟩
  · rw [if_neg hq]
    have hd1 := decide_eq_false hq
    have HD := Aside0.mk hd1
    clear hq hd1
    go_enter Tryd.func9, Tryd.ntmps9
    go_wp2_with fail
    ((refine HC.out.mono ?_); rintro e w2 ⟨rfl, hd⟩)
    have HB := Aside0.mk hd.below
    clear hd HC
    go_wp2_with fail
    ((refine (HS.out _).mono ?_); rintro e w3 ⟨v, rfl, hr, hb⟩)
    have HB3 := Aside0.mk (below_then HB.out HB.out.size hb)
    obtain ⟨A, k, rfl, hk, hv⟩ := Kd.R_reads hr
    have HSD := Aside0.mk (sound_calls A k P w3 hv HLP.out)
    rw [HD.out] at HSD
    clear hr hb hk hv HS
    go_wp2_with fail
    ((refine HSD.out.mono ?_); rintro e w4 ⟨rfl, hb⟩)
    have HB4 := Aside0.mk (below_then HB3.out HB3.out.size hb)
    clear hb HSD
    go_wp2
    go_ret2
    exact ⟨_, rfl, texts_nil _ _, HB4.out⟩
end Go.Proofs.YtdihhdmndjjknaaDoor.Walk
