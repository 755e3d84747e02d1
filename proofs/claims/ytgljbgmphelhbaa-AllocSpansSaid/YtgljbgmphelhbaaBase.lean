/- What the laws of this seat share: the fixed answer, a temp's span, rounds. -/
import Derived.Test.YtgljbgmphelhbaaHomesLaw
import Derived.Test.YtgljbgmphelhbaaSmall
import Derived.Test.YtgljbgmphelhbaaQ8
namespace Go.Proofs.Ytgljbgmphelhbaa.Q
open Go.RowKit Go.Proofs.YtgljbgmphelhbaaW.PrintWords Go.Proofs.YtgljbgmphelhbaaW.PrintLast Go.Proofs.YtgljbgmphelhbaaW.PrintMore Go.Proofs.Ytgljbgmphelhbaa.IM
set_option linter.unusedVariables false
set_option linter.unusedSimpArgs false

theorem awake_true : ∃ k, selvagelaw14_awake.f k = some true := ⟨8, by decide +kernel⟩
theorem Span_live (code : List S40) (t : Nat) : ∃ a b : Int, ∃ ok : Bool, alloc_Span.f code t = some (a, b, ok) ∧ (ok = decide (0 ≤ mk code t)) ∧ (ok = true → a = (spanV_ code t).f1 ∧ b = (spanV_ code t).f2) := by
  unfold alloc_Span.f
  by_cases h : 0 ≤ mk code t
  · obtain ⟨s0, s1, s2, s3⟩ := span_of h
    rw [s3]
    exact ⟨_, _, _, rfl, by simp [h], fun _ => ⟨rfl, rfl⟩⟩
  · rw [span_not h]
    exact ⟨_, _, _, rfl, by simp [h], fun hc => by simp at hc⟩
end Go.Proofs.Ytgljbgmphelhbaa.Q
