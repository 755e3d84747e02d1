/- The contract of alloc.Homes, for any code, any locations and any number of registers. -/
import Derived.Test.YtgljbgmphelhbaaHomes
namespace Go.Proofs.Ytgljbgmphelhbaa.Q
open Go.RowKit Go.Proofs.YtgljbgmphelhbaaW.PrintWords Go.Proofs.YtgljbgmphelhbaaW.PrintLast Go.Proofs.YtgljbgmphelhbaaW.PrintMore
set_option linter.unusedVariables false
set_option linter.unusedSimpArgs false

set_option maxRecDepth 100000 in
set_option maxHeartbeats 1000000 in
theorem alloc_Homes.calls (A0 : Option Addr) (c0 : Nat) (l0 : List S40) (A1 : Option Addr) (c1 : Nat) (l1 : List S83) (a2 : Int) (r1 : List S36) (r2 : Int) (w : World) (hr0 : Kd.C k40 w A0 l0.length l0) (hc0 : l0.length ≤ c0) (hr1 : Kd.C k83 w A1 l1.length l1) (hc1 : l1.length ≤ c1) (h : alloc_Homes.f l0 l1 a2 = some (r1, r2)) :
    Calls Try.prog 10 #[.slice A0 l0.length c0, .slice A1 l1.length c1, .int .i64 a2] w fun e w' => ∃ v0_ : Value, e = .returned (.tuple #[v0_, .int .i64 r2]) ∧ Kd.R k36 36 w' w.heap.size (fun _ => True) v0_ r1 ∧ Below w.heap.size w w' := by
  have HR0 := Aside0.mk hr0
  have HR1 := Aside0.mk hr1
  unfold alloc_Homes.f at h
  cases hR : rightB l0 l1 with
  | false =>
    rw [if_pos hR] at h
    injection h with h
    injection h with h1 h2
    subst h1; subst h2
    have HRT := Aside0.mk hR
    clear hr0 hr1 hR
    go_enter Try.func10, Try.ntmps10
    go_wp2_with (go_at_call 17; refine (tree_Right.calls A0 c0 l0 A1 c1 l1 false _ HR0.out hc0 HR1.out hc1 (by unfold tree_Right.f; rw [HRT.out])).mono ?_; rintro e w1 ⟨rfl, hB1⟩; have HB1 := Aside0.mk hB1; clear hB1)
    go_ret2
    exact ⟨_, rfl, Kd.R_nil _ _ _ _ _, HB1.out⟩
  | true =>
    rw [if_neg (by rw [hR]; decide)] at h
    by_cases hg : a2 < 1 ∨ 8 < a2
    · rw [if_pos hg] at h
      injection h with h
      injection h with h1 h2
      subst h1; subst h2
      have HRT := Aside0.mk hR
      clear hr0 hr1 hR
      by_cases hg1 : a2 < 1
      · have d1 : decide (a2 < 1) = true := decide_eq_true hg1
        clear hg hg1
        go_enter Try.func10, Try.ntmps10
        go_wp2_with (go_at_call 17; refine (tree_Right.calls A0 c0 l0 A1 c1 l1 true _ HR0.out hc0 HR1.out hc1 (by unfold tree_Right.f; rw [HRT.out])).mono ?_; rintro e w1 ⟨rfl, hB1⟩; have HB1 := Aside0.mk hB1; clear hB1)
        go_ret2
        exact ⟨_, rfl, Kd.R_nil _ _ _ _ _, HB1.out⟩
      · have d1 : decide (a2 < 1) = false := decide_eq_false hg1
        have d2 : decide (8 < a2) = true := decide_eq_true (by omega)
        clear hg hg1
        go_enter Try.func10, Try.ntmps10
        go_wp2_with (go_at_call 17; refine (tree_Right.calls A0 c0 l0 A1 c1 l1 true _ HR0.out hc0 HR1.out hc1 (by unfold tree_Right.f; rw [HRT.out])).mono ?_; rintro e w1 ⟨rfl, hB1⟩; have HB1 := Aside0.mk hB1; clear hB1)
        go_ret2
        exact ⟨_, rfl, Kd.R_nil _ _ _ _ _, HB1.out⟩
    · rw [if_neg hg] at h
      injection h with h
      injection h with h1 h2
      subst h1; subst h2
      exact homes_body A0 c0 l0 A1 c1 l1 a2 w hr0 hc0 hr1 hc1 hR (by omega) (by omega)
end Go.Proofs.Ytgljbgmphelhbaa.Q
