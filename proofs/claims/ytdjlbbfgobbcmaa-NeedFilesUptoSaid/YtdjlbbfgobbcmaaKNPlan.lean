/- Plans that are sound, and what a file and a directory need on them: contracts. -/
import Derived.Test.YtdjlbbfgobbcmaaKNFile
import Derived.Test.YtdjlbbfgobbcmaaKNSum
namespace Go.Proofs.Ytdjlbbfgobbcmaa.Need
open Go.RowKit Go.Proofs.Ytdjlbbfgobbcmaa.PNeedFiles Go.Proofs.Ytdjlbbfgobbcmaa.PlainFloat Go.Proofs.Ytdjlbbfgobbcmaa.Turn Go.Proofs.YtdjlbbfgobbcmaaW.PrintWords Go.Proofs.YtdjlbbfgobbcmaaW.PrintLast Go.Proofs.YtdjlbbfgobbcmaaW.PrintMore
set_option linter.unusedVariables false
set_option linter.unusedSimpArgs false
/-- A plan as one is made; s: the greatest file's size. -/
structure Fine (p0 p1 p2 p3 p4 p5 p6 p7 p8 p9 p10 p11 s : Int) : Prop where
  chk : plan_Check.f p0 p1 p2 p3 p4 p5 p6 p7 p8 p9 p10 p11 = some 0
  max : plan_MaxSize.f p0 p1 p2 p3 p4 p5 p6 p7 p8 p9 p10 p11 = some (s, 0)
  size : s = Pure.most p0
  low : 68096 ≤ s
  high : s ≤ 524288
  two : p0 = 64 ∨ p0 = 128 ∨ p0 = 256 ∨ p0 = 512 ∨ p0 = 1024 ∨ p0 = 2048 ∨ p0 = 4096
  whole : ∀ n, plan_Whole.f p0 p1 p2 p3 p4 p5 p6 p7 p8 p9 p10 p11 n = some (if 0 ≤ n ∧ n ≤ s then (plan_Make.sh n p0, Pure.ptrs p0 (plan_Make.sh n p0), 0) else (0, 0, 2))
structure Foul (p0 p1 p2 p3 p4 p5 p6 p7 p8 p9 p10 p11 : Int) : Prop where
  chk : plan_Check.f p0 p1 p2 p3 p4 p5 p6 p7 p8 p9 p10 p11 = some 4
  max : plan_MaxSize.f p0 p1 p2 p3 p4 p5 p6 p7 p8 p9 p10 p11 = some (0, 4)
  whole : ∀ n, plan_Whole.f p0 p1 p2 p3 p4 p5 p6 p7 p8 p9 p10 p11 n = some (0, 0, 4)
theorem plan_cases (p0 p1 p2 p3 p4 p5 p6 p7 p8 p9 p10 p11 : Int) : Foul p0 p1 p2 p3 p4 p5 p6 p7 p8 p9 p10 p11 ∨ ∃ s, Fine p0 p1 p2 p3 p4 p5 p6 p7 p8 p9 p10 p11 s := by
  rcases Pure.check_is p0 p1 p2 p3 p4 p5 p6 p7 p8 p9 p10 p11 with ⟨hc, s⟩ | ⟨hc, _⟩
  · obtain ⟨f0, _⟩ := s.facts
    have mr := Pure.most_range f0
    exact .inr ⟨Pure.most p0, hc, Pure.max_is s hc, rfl, mr.1, mr.2, f0, fun n => Pure.whole_is s hc n⟩
  · have m1 : plan_MaxSize.f p0 p1 p2 p3 p4 p5 p6 p7 p8 p9 p10 p11 = some (0, 4) := by
      unfold plan_MaxSize.f
      rw [hc, Option.bind_some, if_neg (by decide)]
    refine .inl ⟨hc, m1, fun n => ?_⟩
    unfold plan_Whole.f
    rw [m1]
    rfl
/-- What is answered for a file: an amount, or ErrRange. -/
def FileOut (p0 s n : Int) (x y : Nat) (r : Int) : Prop := ((0 ≤ n ∧ n ≤ s) ∧ r = 0 ∧ x = floatOfInt .f64 (Pure.blocks p0 n) ∧ y = 4607182418800017408) ∨ (¬ (0 ≤ n ∧ n ≤ s) ∧ r = 2 ∧ x = 0 ∧ y = 0)
def Ends (q : Nat → Nat → Int → Prop) (w : World) (e : Ending) (w' : World) : Prop := ∃ x y r, e = .returned (.tuple #[.complex .f64 x y, .int .i64 r]) ∧ q x y r ∧ Below w.heap.size w w'
section
variable {p0 p1 p2 p3 p4 p5 p6 p7 p8 p9 p10 p11 s : Int}
theorem file_fine (F : Fine p0 p1 p2 p3 p4 p5 p6 p7 p8 p9 p10 p11 s) (n : Int) (w : World) :
    Calls Try.prog 7 #[.agg #[.int .i64 p0, .int .i64 p1, .int .i64 p2, .int .i64 p3, .int .i64 p4, .int .i64 p5, .int .i64 p6, .int .i64 p7, .int .i64 p8, .int .i64 p9, .int .i64 p10, .int .i64 p11], .int .i64 n] w (Ends (FileOut p0 s n) w) := by
  have hw := F.whole n
  by_cases c : 0 ≤ n ∧ n ≤ s
  · rw [if_pos c] at hw
    have hp := Pure.blocks_part F.two c.1 (Int.le_trans c.2 F.high)
    refine (file_ok p0 p1 p2 p3 p4 p5 p6 p7 p8 p9 p10 p11 n _ _ hw hp _).mono ?_
    rintro e w' ⟨rfl, hb⟩
    exact ⟨_, _, _, rfl, .inl ⟨c, rfl, rfl, rfl⟩, hb⟩
  · rw [if_neg c] at hw
    refine (file_no p0 p1 p2 p3 p4 p5 p6 p7 p8 p9 p10 p11 n _ _ 2 hw (by decide) _).mono ?_
    rintro e w' ⟨rfl, hb⟩
    exact ⟨_, _, _, rfl, .inr ⟨c, rfl, rfl, rfl⟩, hb⟩
theorem file_foul (F : Foul p0 p1 p2 p3 p4 p5 p6 p7 p8 p9 p10 p11) (n : Int) (w : World) :
    Calls Try.prog 7 #[.agg #[.int .i64 p0, .int .i64 p1, .int .i64 p2, .int .i64 p3, .int .i64 p4, .int .i64 p5, .int .i64 p6, .int .i64 p7, .int .i64 p8, .int .i64 p9, .int .i64 p10, .int .i64 p11], .int .i64 n] w fun e w' => e = .returned (.tuple #[.complex .f64 0 0, .int .i64 4]) ∧ Below w.heap.size w w' :=
  file_no p0 p1 p2 p3 p4 p5 p6 p7 p8 p9 p10 p11 n _ _ 4 (F.whole n) (by decide) _
end
/-- How many bytes a directory has. -/
def dsize (p0 n : Int) : Int := (n + p0 / 16 - 1) / (p0 / 16) * p0
theorem dsize_ok {p0 s n : Int} (hs : s = Pure.most p0) (two : p0 = 64 ∨ p0 = 128 ∨ p0 = 256 ∨ p0 = 512 ∨ p0 = 1024 ∨ p0 = 2048 ∨ p0 = 4096) (h0 : 0 ≤ n) (h1 : n ≤ s / 16) : 0 ≤ dsize p0 n ∧ dsize p0 n ≤ s := by
  subst hs
  unfold dsize Pure.most at *
  rcases two with rfl | rfl | rfl | rfl | rfl | rfl | rfl
  · rw [if_pos rfl] at *; omega
  all_goals (rw [if_neg (by decide)] at *; omega)
end Go.Proofs.Ytdjlbbfgobbcmaa.Need
