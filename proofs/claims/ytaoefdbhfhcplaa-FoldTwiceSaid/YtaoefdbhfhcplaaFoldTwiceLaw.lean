/- The plain law of FoldTwice. -/
import Derived.Test.YtaoefdbhfhcplaaFoldLaws
namespace Go.Proofs.Ytaoefdbhfhcplaa.Q
open Go.RowKit Go.Proofs.YtaoefdbhfhcplaaW.PrintWords Go.Proofs.YtaoefdbhfhcplaaW.PrintLast Go.Proofs.YtaoefdbhfhcplaaW.PrintMore Go.Proofs.Ytaoefdbhfhcplaa.IM
set_option linter.unusedVariables false
set_option linter.unusedSimpArgs false

theorem FoldTwice_true (code : List S39) (l : List S80) (ans : List Int) : ∃ k, selvagelaw12_FoldTwice.f k code l ans = some true := by
  obtain ⟨k1, h1⟩ := awake_true
  have up1 := fun m => leo_up (f := fun k => selvagelaw12_awake.f k) selvagelaw12_awake.mono h1 m
  have j0t : ∀ m, selvagelaw12_FoldTwice.j0 (m + 1) code l ans true = some true := fun m => by rw [selvagelaw12_FoldTwice.j0, if_pos rfl]
  refine ⟨k1 + 1000 + 1, ?_⟩
  rw [selvagelaw12_FoldTwice.f, up1 _ (by omega), Option.bind_some, if_pos rfl]
  by_cases c1 : (code.length : Int) > 410
  · rw [if_pos c1]; exact j0t _
  · rw [if_neg c1]
    by_cases c2 : (l.length : Int) > 16
    · rw [if_pos c2]; exact j0t _
    · rw [if_neg c2]
      by_cases c3 : (ans.length : Int) > 400
      · rw [decide_eq_true c3]; exact j0t _
      · rw [decide_eq_false c3, selvagelaw12_FoldTwice.j0, if_neg (by simp)]
        cases hg : rightB code l with
        | false =>
          have hb : rightB ([] : List S39) l = false := by unfold rightB; simp
          rw [fold_bad hg, Option.bind_some, fold_bad hb, Option.bind_some]; simp
        | true =>
          have hgood := (rightB_iff code l).1 hg
          obtain ⟨g1, g2, g3⟩ := fold_right hgood
          obtain ⟨f1, f2, f3⟩ := fold_right g1
          rw [fold_good hgood, Option.bind_some, fold_good g1, Option.bind_some, if_pos rfl, if_pos rfl, if_pos (show (((foldOut (foldOut code), (0 : Int)).1.length : Nat) : Int) ≤ (((foldOut code, (0 : Int)).1.length : Nat) : Int) from by show ((foldOut (foldOut code)).length : Int) ≤ ((foldOut code).length : Int); omega), run_good g1, Option.bind_some, run_good f1, Option.bind_some, f3 ans]
          have hl := run0_acts (foldOut code) ans g1.len2
          have e2 := leo_up (f := fun k => selvageref08_SameTrace.f k (runC (foldOut code) (foldOut code).length 0 (runSt0 ans)).1 (runC (foldOut code) (foldOut code).length 0 (runSt0 ans)).2 (runC (foldOut code) (foldOut code).length 0 (runSt0 ans)).1 (runC (foldOut code) (foldOut code).length 0 (runSt0 ans)).2) (fun k => selvageref08_SameTrace.mono _ _ _ _ k) (same_trace _ _ (by omega)) (k1 + 1000) (by omega)
          rw [e2]; rfl
end Go.Proofs.Ytaoefdbhfhcplaa.Q
