/- Written for this claim by a program: functions, their contracts and rows. -/
import Derived.Test.YtaoefdbhfhcplaaQ0
import Derived.Test.YtaoefdbhfhcplaaQ7
import Derived.Test.YtaoefdbhfhcplaaAwakeFn
import Derived.Test.YtaoefdbhfhcplaaFoldModel
import Derived.Test.YtaoefdbhfhcplaaRunModel
namespace Go.Proofs.Ytaoefdbhfhcplaa.Q
open Go.RowKit Go.Proofs.YtaoefdbhfhcplaaW.PrintWords Go.Proofs.YtaoefdbhfhcplaaW.PrintLast Go.Proofs.YtaoefdbhfhcplaaW.PrintMore
attribute [local go_sem] max2_int min2_int max_two min_two max_three min_three max_four min_four   -- for this text's walks alone
set_option linter.unusedVariables false
set_option linter.unusedSimpArgs false

/-! ### selvagelaw12_FoldTwice: function 6 -/
def selvagelaw12_FoldTwice.j0 : Nat → List (S39) → List (S80) → List Int → Bool → Option (Bool)
  | 0, _, _, _, _ => none
  | k + 1, x0, x1, x2, x25 => if x25 = true then (some true) else ((fold_Fold.f x0 x1).bind fun bt242 => ((fold_Fold.f bt242.1 x1).bind fun bt246 => (if bt242.2 = 0 then (if bt246.2 = 0 then (if (bt246.1.length : Int) ≤ (bt242.1.length : Int) then ((tree_Run.f bt242.1 x1 x2).bind fun bt250 => ((tree_Run.f bt246.1 x1 x2).bind fun bt254 => ((selvageref08_SameTrace.f k bt250.1 bt250.2 bt254.1 bt254.2).bind fun t258 => (some t258)))) else (some false)) else (some false)) else (if (bt242.1.length : Int) = 0 then (some (bt246.2 == 3)) else (some false)))))
def selvagelaw12_FoldTwice.f (k : Nat) (l0 : List (S39)) (l1 : List (S80)) (l2 : List Int) : Option (Bool) := (selvagelaw12_awake.f k).bind fun t241 => (if t241 = true then (if (l0.length : Int) > 410 then (selvagelaw12_FoldTwice.j0 k l0 l1 l2 true) else (if (l1.length : Int) > 16 then (selvagelaw12_FoldTwice.j0 k l0 l1 l2 true) else (selvagelaw12_FoldTwice.j0 k l0 l1 l2 (decide ((l2.length : Int) > 400))))) else (some false))
theorem selvagelaw12_FoldTwice.mono_l : ∀ k, (∀ y0 y1 y2 y3, LeO (selvagelaw12_FoldTwice.j0 k y0 y1 y2 y3) (selvagelaw12_FoldTwice.j0 (k + 1) y0 y1 y2 y3))
  | 0 => fun _ _ _ _ r h => by simp [selvagelaw12_FoldTwice.j0] at h
  | k + 1 => by
    have ih0 := selvagelaw12_FoldTwice.mono_l k
    · intro y0 y1 y2 y3
      unfold selvagelaw12_FoldTwice.j0
      repeat' first
      | (with_reducible exact ih0 _ _ _ _)
      | (with_reducible exact selvagelaw12_awake.mono _)
      | (with_reducible exact selvageref08_SameTrace.mono _ _ _ _ _)
      | (with_reducible exact LeO.refl _)
      | (with_reducible exact LeO.none _)
      | (with_reducible refine LeO.ite ?_ ?_)
      | (with_reducible refine LeO.bind ?_ (fun _ => ?_))
      | exact ih0 _ _ _ _
      | exact selvagelaw12_awake.mono _
      | exact selvageref08_SameTrace.mono _ _ _ _ _
      | exact LeO.none _
      | refine LeO.ite ?_ ?_
      | refine LeO.bind ?_ (fun _ => ?_)
theorem selvagelaw12_FoldTwice.mono : ∀ a0 a1 a2 k, LeO (selvagelaw12_FoldTwice.f k a0 a1 a2) (selvagelaw12_FoldTwice.f (k + 1) a0 a1 a2) := by
  intro a0 a1 a2 k
  have ih0 := selvagelaw12_FoldTwice.mono_l k
  unfold selvagelaw12_FoldTwice.f
  repeat' first
      | (with_reducible exact ih0 _ _ _ _)
      | (with_reducible exact selvagelaw12_awake.mono _)
      | (with_reducible exact selvageref08_SameTrace.mono _ _ _ _ _)
      | (with_reducible exact LeO.refl _)
      | (with_reducible exact LeO.none _)
      | (with_reducible refine LeO.ite ?_ ?_)
      | (with_reducible refine LeO.bind ?_ (fun _ => ?_))
      | exact ih0 _ _ _ _
      | exact selvagelaw12_awake.mono _
      | exact selvageref08_SameTrace.mono _ _ _ _ _
      | exact LeO.none _
      | refine LeO.ite ?_ ?_
      | refine LeO.bind ?_ (fun _ => ?_)
end Go.Proofs.Ytaoefdbhfhcplaa.Q
