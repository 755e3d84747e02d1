/- The plain law of FoldRight. -/
import Derived.Test.YtaoefdbhfhcplaaFoldLaws
import Derived.Test.YtaoefdbhfhcplaaRightFn
namespace Go.Proofs.Ytaoefdbhfhcplaa.Q
open Go.RowKit Go.Proofs.YtaoefdbhfhcplaaW.PrintWords Go.Proofs.YtaoefdbhfhcplaaW.PrintLast Go.Proofs.YtaoefdbhfhcplaaW.PrintMore Go.Proofs.Ytaoefdbhfhcplaa.IM
set_option linter.unusedVariables false
set_option linter.unusedSimpArgs false

theorem ref_right_f {code : List S39} {l : List S80} (h : l.length ≤ 16) : selvageref10_Right.f code l = some (rightB code l) := by
 unfold selvageref10_Right.f; rw [if_pos h]
/-- What the fuel is, does not matter. -/
theorem FoldRight_true (code : List S39) (l : List S80) : ∃ k, selvagelaw12_FoldRight.f k code l = some true := by
 obtain ⟨k1, h1⟩ := awake_true
 have up1 := fun m => leo_up (f := fun k => selvagelaw12_awake.f k) selvagelaw12_awake.mono h1 m
 have j0t : ∀ m, selvagelaw12_FoldRight.j0 (m + 1) code l true = some true := fun m => by rw [selvagelaw12_FoldRight.j0, if_pos rfl]
 refine ⟨k1 + 1, ?_⟩
 rw [selvagelaw12_FoldRight.f, up1 _ (by omega), Option.bind_some, if_pos rfl]
 by_cases c1 : (code.length : Int) > 410
 ·
  rw [if_pos c1]; exact j0t _
 ·
  rw [if_neg c1]
  by_cases c2 : (l.length : Int) > 16
  ·
   rw [decide_eq_true c2]; exact j0t _
  ·
   rw [decide_eq_false c2, selvagelaw12_FoldRight.j0, if_neg (by simp)]
   cases hg : rightB code l with
   | false => rw [fold_bad hg, Option.bind_some]; simp
   | true =>
    have hgood := (rightB_iff code l).1 hg
    obtain ⟨g1, g2, g3⟩ := fold_right hgood
    rw [fold_good hgood, Option.bind_some, if_pos rfl, ref_right_f (by omega), Option.bind_some, (rightB_iff _ l).2 g1, if_pos rfl]
    rw [decide_eq_true (show (((foldOut code, (0 : Int)).1.length : Nat) : Int) ≤ (code.length : Int) from by show ((foldOut code).length : Int) ≤ _; omega)]
end Go.Proofs.Ytaoefdbhfhcplaa.Q
