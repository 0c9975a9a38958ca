/- A sum goes on: that of bytes in two parts is that of the whole: the plain law over lists and numbers. No conditions. -/
import Derived.Test.YtmjgmompcaanlacPCrcJoinsx2
import Derived.Test.YtmjgmompcaanlacPlain
import Derived.Test.YtmjgmompcaanlacPlainCrc
namespace Go.Proofs.Ytmjgmompcaanlac.Pure
open Go.RowKit Go.Proofs.Ytmjgmompcaanlac.PCrcJoins Go.Proofs.Ytmjgmompcaanlac.Plain Go.Proofs.YtmjgmompcaanlacW.PrintWords Go.Proofs.YtmjgmompcaanlacW.PrintLast Go.Proofs.YtmjgmompcaanlacW.PrintMore

theorem roll_is {s : Int} {l : List Int} (h0 : 0 ≤ s) (h1 : s < 4294967296) (hl : Bytes l) : crc_roll.f s l = some (crc s l) := by
  unfold crc_roll.f
  rw [if_pos ⟨h0, h1⟩, if_pos hl]
theorem sum_is {l : List Int} (hl : Bytes l) : crc_Sum.f l = some (crc 0 l) := by
  have h := crc_range (s := 0) (by omega) (by omega) hl
  unfold crc_Sum.f
  rw [roll_is (by omega) (by omega) hl]
  simp only [Option.bind_some]
  rw [w64 (by omega) (by omega)]
theorem add_is {s : Int} {l : List Int} (hl : Bytes l) (h0 : 0 ≤ s) (h1 : s < 4294967296) : crc_Add.f s l = some (crc s l, 0) := by
  have h := crc_range h0 h1 hl
  have g1 : ¬ s < 0 := by omega
  have g2 : s / 4294967296 = 0 := by omega
  have g3 : s % 4294967296 = s := by omega
  unfold crc_Add.f
  rw [if_neg g1, if_pos g2, g3, roll_is h0 h1 hl]
  simp only [Option.bind_some]
  rw [w64 (by omega) (by omega)]
theorem cut {l : List Int} (hl : Bytes l) (n : Nat) : ∃ s, crc_Sum.f (l.take n) = some s ∧ crc_Add.f s (l.drop n) = some (crc 0 l, 0) := by
  have h := crc_range (s := 0) (by omega) (by omega) (hl.take n)
  refine ⟨crc 0 (l.take n), sum_is (hl.take n), ?_⟩
  rw [add_is (hl.drop n) h.1 h.2, ← crc_append, List.take_append_drop]
theorem CrcJoins : skerrylaw02_CrcJoins.Pure := by
  intro l c hm hlen hwf hc
  have hl := bytes_wf hwf
  refine ⟨1, ?_⟩
  unfold skerrylaw02_CrcJoins.f
  simp only [skerrylaw02_wakes.f, Option.bind_some, if_true]
  have hall : skerrylaw02_CrcJoins.j0 1 l c true = some true := by
    obtain ⟨s, e1, e2⟩ := cut hl ((l.length : Int) : Int).toNat
    simp only [skerrylaw02_CrcJoins.j0, if_true]
    rw [if_pos (by omega), if_pos (by omega), e1]
    simp only [Option.bind_some]
    rw [e2, sum_is hl]
    simp
  by_cases c1 : c < 0
  · rw [if_pos c1]
    exact hall
  · rw [if_neg c1]
    by_cases c2 : c > (l.length : Int)
    · rw [decide_eq_true c2]
      exact hall
    · rw [decide_eq_false c2]
      obtain ⟨s, e1, e2⟩ := cut hl c.toNat
      simp only [skerrylaw02_CrcJoins.j0, Bool.false_eq_true, if_false]
      rw [if_pos (by omega), if_pos (by omega), e1]
      simp only [Option.bind_some]
      rw [e2, sum_is hl]
      simp

end Go.Proofs.Ytmjgmompcaanlac.Pure
