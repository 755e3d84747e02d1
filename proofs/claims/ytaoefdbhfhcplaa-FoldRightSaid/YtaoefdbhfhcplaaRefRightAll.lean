/- The reference's Right answers rightB, for any code and at most 16 locations. -/
import Derived.Test.YtaoefdbhfhcplaaRefRightW
namespace Go.Proofs.Ytaoefdbhfhcplaa.Q
open Go.RowKit Go.Proofs.YtaoefdbhfhcplaaW.PrintWords Go.Proofs.YtaoefdbhfhcplaaW.PrintLast Go.Proofs.YtaoefdbhfhcplaaW.PrintMore Go.Proofs.Ytaoefdbhfhcplaa.IM
set_option linter.unusedVariables false
set_option linter.unusedSimpArgs false

def selvageref10_Right.f (code : List S39) (l : List S80) : Option Bool := if l.length ≤ 16 then some (rightB code l) else none
set_option maxRecDepth 100000 in
set_option maxHeartbeats 1000000 in
theorem selvageref10_Right.calls (A0 : Option Addr) (c0 : Nat) (l0 : List S39) (A1 : Option Addr) (c1 : Nat) (l1 : List S80) (r : Bool) (w : World) (hr0 : Kd.C k39 w A0 l0.length l0) (hc0 : l0.length ≤ c0) (hr1 : Kd.C k80 w A1 l1.length l1) (hc1 : l1.length ≤ c1) (h : selvageref10_Right.f l0 l1 = some r) :
    Calls Try.prog 10 #[.slice A0 l0.length c0, .slice A1 l1.length c1] w fun e w' => e = .returned (.bool r) ∧ Below w.heap.size w w' := by
  have hl16 : l1.length ≤ 16 := by
    unfold selvageref10_Right.f at h
    split at h
    · assumption
    · cases h
  have hr : rightB l0 l1 = r := by
    unfold selvageref10_Right.f at h
    rw [if_pos hl16] at h
    exact Option.some.inj h
  subst hr
  clear h
  by_cases e1 : l0.length < 1
  · have HF : Aside0 (rightB l0 l1 = false) := ⟨by
      have : decide (1 ≤ l0.length) = false := decide_eq_false (by omega)
      simp only [rightB]; rw [this]; rfl⟩
    have d1 : decide ((l0.length : Int) < 1) = true := decide_eq_true (by omega)
    clear hr0 hr1
    go_enter Try.func10, Try.ntmps10
    go_wp2
    go_ret
    exact ⟨by rw [HF.out]; rfl, Below.refl _ _⟩
  · have d1 : decide ((l0.length : Int) < 1) = false := decide_eq_false (by omega)
    by_cases e2 : 400 < l0.length
    · have HF : Aside0 (rightB l0 l1 = false) := ⟨by
        have : decide (l0.length ≤ 400) = false := decide_eq_false (by omega)
        simp only [rightB]; rw [this]; simp⟩
      have d2 : decide (400 < (l0.length : Int)) = true := decide_eq_true (by omega)
      clear hr0 hr1
      go_enter Try.func10, Try.ntmps10
      go_wp2
      go_ret
      exact ⟨by rw [HF.out]; rfl, Below.refl _ _⟩
    · have d2 : decide (400 < (l0.length : Int)) = false := decide_eq_false (by omega)
      have b1 : decide (1 ≤ l0.length) = true := decide_eq_true (by omega)
      have b2 : decide (l0.length ≤ 400) = true := decide_eq_true (by omega)
      by_cases c3 : (rd_T39 l0 ((l0.length : Int) - 1)).f0 = 18
      · have HR : Aside0 (rightB l0 l1 = (upTo (q1 l0 l1) l0.length && upTo (q2 l0) l0.length)) := ⟨by
          have : ((rd_T39 l0 ((l0.length : Int) - 1)).f0 == 18) = true := by simpa using c3
          rw [← refB_eq]
          simp only [refB]; rw [b1, b2, this]; rfl⟩
        rw [HR.out]
        exact refRight_w A0 c0 l0 A1 c1 l1 w hr0 hc0 hr1 hc1 hl16 (by omega) (by omega) c3
      · have HF : Aside0 (rightB l0 l1 = false) := ⟨by
          have : ((rd_T39 l0 ((l0.length : Int) - 1)).f0 == 18) = false := by simpa using c3
          simp only [rightB]; rw [this]; simp⟩
        have c3b : ((rd_T39 l0 ((l0.length : Int) - 1)).f0 != 18) = true := bne_iff_ne.mpr c3
        obtain ⟨adl, hadl, hl0, -⟩ := at_T39 hr0 ((l0.length : Int) - 1) (by omega) (by omega)
        subst hadl
        rw [show ((l0.length : Int) - 1).toNat = l0.length - 1 from by omega] at hl0
        clear c3 hr0 hr1
        go_enter Try.func10, Try.ntmps10
        go_wp2
        go_ret
        exact ⟨by rw [HF.out]; rfl, Below.refl _ _⟩
end Go.Proofs.Ytaoefdbhfhcplaa.Q
