/- Small lemmas on rounds and numbers. -/
import Derived.Test.YtgljbgmphelhbaaRightModel
namespace Go.Proofs.Ytgljbgmphelhbaa.Q
open Go.RowKit Go.Proofs.YtgljbgmphelhbaaW.PrintWords Go.Proofs.YtgljbgmphelhbaaW.PrintLast Go.Proofs.YtgljbgmphelhbaaW.PrintMore Go.Proofs.Ytgljbgmphelhbaa.IM
set_option linter.unusedVariables false
set_option linter.unusedSimpArgs false

theorem leo_add {α : Type} {f : Nat → Option α} (h : ∀ k, LeO (f k) (f (k + 1))) (k j : Nat) : LeO (f k) (f (k + j)) := by
  induction j with
  | zero => exact LeO.refl _
  | succ j ih => exact LeO.trans ih (h (k + j))
theorem w_one {n : Nat} (h : n ≤ 100000) : wrap64 ((n : Int) + 1) = ((n + 1 : Nat) : Int) := by unfold wrap64; omega
end Go.Proofs.Ytgljbgmphelhbaa.Q
