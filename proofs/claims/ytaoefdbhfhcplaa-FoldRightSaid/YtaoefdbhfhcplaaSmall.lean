/- Small lemmas on rounds and numbers. -/
import Derived.Test.YtaoefdbhfhcplaaRightModel
namespace Go.Proofs.Ytaoefdbhfhcplaa.Q
open Go.RowKit Go.Proofs.YtaoefdbhfhcplaaW.PrintWords Go.Proofs.YtaoefdbhfhcplaaW.PrintLast Go.Proofs.YtaoefdbhfhcplaaW.PrintMore Go.Proofs.Ytaoefdbhfhcplaa.IM
set_option linter.unusedVariables false
set_option linter.unusedSimpArgs false

theorem leo_add {α : Type} {f : Nat → Option α} (h : ∀ k, LeO (f k) (f (k + 1))) (k j : Nat) : LeO (f k) (f (k + j)) := by
  induction j with
  | zero => exact LeO.refl _
  | succ j ih => exact LeO.trans ih (h (k + j))
theorem w_one {n : Nat} (h : n ≤ 100000) : wrap64 ((n : Int) + 1) = ((n + 1 : Nat) : Int) := by unfold wrap64; omega
end Go.Proofs.Ytaoefdbhfhcplaa.Q
