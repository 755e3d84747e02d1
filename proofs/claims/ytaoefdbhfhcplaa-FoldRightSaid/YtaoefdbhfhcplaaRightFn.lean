/- Written for this claim by a program: functions, their contracts and rows. -/
import Derived.Test.YtaoefdbhfhcplaaQ0
import Derived.Test.YtaoefdbhfhcplaaAwakeFn
import Derived.Test.YtaoefdbhfhcplaaFoldModel
import Derived.Test.YtaoefdbhfhcplaaRefRightAll
namespace Go.Proofs.Ytaoefdbhfhcplaa.Q
open Go.RowKit Go.Proofs.YtaoefdbhfhcplaaW.PrintWords Go.Proofs.YtaoefdbhfhcplaaW.PrintLast Go.Proofs.YtaoefdbhfhcplaaW.PrintMore
attribute [local go_sem] max2_int min2_int max_two min_two max_three min_three max_four min_four   -- for this text's walks alone
set_option linter.unusedVariables false
set_option linter.unusedSimpArgs false

/-! ### selvagelaw12_FoldRight: function 4 -/
def selvagelaw12_FoldRight.j0 : Nat → List (S39) → List (S80) → Bool → Option (Bool)
  | 0, _, _, _ => none
  | k + 1, x0, x1, x16 => if x16 = true then (some true) else ((fold_Fold.f x0 x1).bind fun bt221 => (if bt221.2 = 0 then ((selvageref10_Right.f bt221.1 x1).bind fun t225 => (if t225 = true then (some (decide ((bt221.1.length : Int) ≤ (x0.length : Int)))) else (some false))) else (some true)))
def selvagelaw12_FoldRight.f (k : Nat) (l0 : List (S39)) (l1 : List (S80)) : Option (Bool) := (selvagelaw12_awake.f k).bind fun t220 => (if t220 = true then (if (l0.length : Int) > 410 then (selvagelaw12_FoldRight.j0 k l0 l1 true) else (selvagelaw12_FoldRight.j0 k l0 l1 (decide ((l1.length : Int) > 16)))) else (some false))
theorem selvagelaw12_FoldRight.mono_l : ∀ k, (∀ y0 y1 y2, LeO (selvagelaw12_FoldRight.j0 k y0 y1 y2) (selvagelaw12_FoldRight.j0 (k + 1) y0 y1 y2))
  | 0 => fun _ _ _ r h => by simp [selvagelaw12_FoldRight.j0] at h
  | k + 1 => by
    have ih0 := selvagelaw12_FoldRight.mono_l k
    · intro y0 y1 y2
      unfold selvagelaw12_FoldRight.j0
      repeat' first
      | (with_reducible exact ih0 _ _ _)
      | (with_reducible exact selvagelaw12_awake.mono _)
      | (with_reducible exact LeO.refl _)
      | (with_reducible exact LeO.none _)
      | (with_reducible refine LeO.ite ?_ ?_)
      | (with_reducible refine LeO.bind ?_ (fun _ => ?_))
      | exact ih0 _ _ _
      | exact selvagelaw12_awake.mono _
      | exact LeO.none _
      | refine LeO.ite ?_ ?_
      | refine LeO.bind ?_ (fun _ => ?_)
theorem selvagelaw12_FoldRight.mono : ∀ a0 a1 k, LeO (selvagelaw12_FoldRight.f k a0 a1) (selvagelaw12_FoldRight.f (k + 1) a0 a1) := by
  intro a0 a1 k
  have ih0 := selvagelaw12_FoldRight.mono_l k
  unfold selvagelaw12_FoldRight.f
  repeat' first
      | (with_reducible exact ih0 _ _ _)
      | (with_reducible exact selvagelaw12_awake.mono _)
      | (with_reducible exact LeO.refl _)
      | (with_reducible exact LeO.none _)
      | (with_reducible refine LeO.ite ?_ ?_)
      | (with_reducible refine LeO.bind ?_ (fun _ => ?_))
      | exact ih0 _ _ _
      | exact selvagelaw12_awake.mono _
      | exact LeO.none _
      | refine LeO.ite ?_ ?_
      | refine LeO.bind ?_ (fun _ => ?_)
end Go.Proofs.Ytaoefdbhfhcplaa.Q
