/- Written for this claim by a program: functions, their contracts and rows. -/
import Derived.Test.YtaoefdbhfhcplaaQ0
import Derived.Test.YtaoefdbhfhcplaaQ7
import Derived.Test.YtaoefdbhfhcplaaFoldModel
import Derived.Test.YtaoefdbhfhcplaaRunModel
namespace Go.Proofs.Ytaoefdbhfhcplaa.Q
open Go.RowKit Go.Proofs.YtaoefdbhfhcplaaW.PrintWords Go.Proofs.YtaoefdbhfhcplaaW.PrintLast Go.Proofs.YtaoefdbhfhcplaaW.PrintMore
attribute [local go_sem] max2_int min2_int max_two min_two max_three min_three max_four min_four   -- for this text's walks alone
set_option linter.unusedVariables false
set_option linter.unusedSimpArgs false

/-! ### selvagelaw12_awake: function 7 -/
def selvagelaw12_awake.f (k : Nat)  : Option (Bool) := (fold_Fold.f (([(⟨1, 0, 0, 0, 0, 0, 2, 0⟩ : S39), (⟨1, 1, 0, 0, 0, 0, 3, 0⟩ : S39), (⟨2, 2, 0, 1, 0, 0, 0, 0⟩ : S39), (⟨15, 0, 2, 0, 0, 0, 0, 0⟩ : S39), (⟨18, 0, 0, 0, 0, 0, 0, 0⟩ : S39)] : List (S39))) ([] : List (S80))).bind fun bt189 => (if bt189.2 = 0 then (if (bt189.1.length : Int) = 3 then ((tree_Run.f bt189.1 ([] : List (S80)) ([] : List Int)).bind fun bt193 => ((selvageref08_SameTrace.f k bt193.1 bt193.2 (([(⟨6, 0, 0, 5⟩ : S44)] : List (S44))) 1).bind fun t200 => (some t200))) else (some false)) else (some false))
theorem selvagelaw12_awake.mono : ∀ k, LeO (selvagelaw12_awake.f k ) (selvagelaw12_awake.f (k + 1) ) := by
  intro  k
  unfold selvagelaw12_awake.f
  repeat' first
      | (with_reducible exact selvageref08_SameTrace.mono _ _ _ _ _)
      | (with_reducible exact LeO.refl _)
      | (with_reducible exact LeO.none _)
      | (with_reducible refine LeO.ite ?_ ?_)
      | (with_reducible refine LeO.bind ?_ (fun _ => ?_))
      | exact selvageref08_SameTrace.mono _ _ _ _ _
      | exact LeO.none _
      | refine LeO.ite ?_ ?_
      | refine LeO.bind ?_ (fun _ => ?_)
end Go.Proofs.Ytaoefdbhfhcplaa.Q
