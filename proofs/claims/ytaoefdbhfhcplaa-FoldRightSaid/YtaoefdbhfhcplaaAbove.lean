/- The contract of tree.above: it climbs from a piece to the one that makes a temp. -/
import Derived.Test.YtaoefdbhfhcplaaQ0
import Derived.Test.YtaoefdbhfhcplaaIMap
namespace Go.Proofs.Ytaoefdbhfhcplaa.Q
open Go.RowKit Go.Proofs.YtaoefdbhfhcplaaW.PrintWords Go.Proofs.YtaoefdbhfhcplaaW.PrintLast Go.Proofs.YtaoefdbhfhcplaaW.PrintMore Go.Proofs.Ytaoefdbhfhcplaa.IM
set_option linter.unusedVariables false
set_option linter.unusedSimpArgs false

def climb (fr : List Int) (at_ : Int) : Nat → Int → Bool
  | 0, _ => false
  | k + 1, i => if at_ < i then (if rd fr i = at_ then true else climb fr at_ k (rd fr i)) else false
theorem climb_more (fr : List Int) (at_ : Int) (h0 : 0 ≤ at_) (hfr : ∀ j : Int, 1 ≤ j → j < fr.length → 0 ≤ rd fr j ∧ rd fr j < j) : ∀ (k m : Nat) (i : Int), i < fr.length → i.toNat ≤ k → i.toNat ≤ m → climb fr at_ k i = climb fr at_ m i := by
  intro k
  induction k with
  | zero =>
    intro m i hi hk hm
    cases m with
    | zero => rfl
    | succ m => simp only [climb]; rw [if_neg (by omega)]
  | succ k ih =>
    intro m i hi hk hm
    cases m with
    | zero => simp only [climb]; rw [if_neg (by omega)]
    | succ m =>
      simp only [climb]
      by_cases h : at_ < i
      · rw [if_pos h, if_pos h]
        have := hfr i (by omega) hi
        rw [ih m (rd fr i) (by omega) (by omega) (by omega)]
      · rw [if_neg h, if_neg h]
def aboveB (M : Int → Option Int) (fr : List Int) (t i : Int) : Bool :=
  match M t with
  | none => false
  | some at_ => climb fr at_ i.toNat i

theorem zero_int (w : World) : (zeroValue 3).run Try.prog w = .ok (.int .i64 0) w := by kernel_rfl

set_option maxHeartbeats 1000000 in
theorem above_calls (b n : Nat) (M : Int → Option Int) (A : Option Addr) (c : Nat) (fr : List Int) (t i : Int) (w : World)
    (hM : IMap Try.prog 3 3 w b n M) (hr : Kd.C (Kd.int .i64) w A fr.length fr) (ht : (Lit.int .i64 t).wf = true)
    (hfr : ∀ j : Int, 1 ≤ j → j < fr.length → 0 ≤ rd fr j ∧ rd fr j < j) (hi0 : 0 ≤ i) (hi1 : i < fr.length) (hn : fr.length ≤ 100000) (hat : ∀ v, M t = some v → 0 ≤ v) :
    Calls Try.prog 30 #[.map (some b), .slice A fr.length c, .int .i64 t, .int .i64 i] w fun e w' => e = .returned (.bool (aboveB M fr t i)) ∧ w = w' := by
  obtain ⟨hl1, hl2, hcell⟩ := Kd.reads_of_C (d := (0 : Int)) hr
  obtain ⟨ad, rfl, hc⟩ := hcell (by omega)
  have hc' : ∀ j : Int, 0 ≤ j → j < fr.length → w.cell? (ad.add j.toNat) = some (.int .i64 (rd fr j)) := fun j h0 h1 => by
    have := hc j.toNat (by omega); simpa [rd] using this
  have HC := Aside0.mk hc'
  have HFR := Aside0.mk hfr
  clear hc hcell hr hc' hfr
  cases hm : M t with
  | none =>
    have HM := Aside0.mk hm
    clear hm
    go_enter Try.func30, Try.ntmps30
    go_wp2_with (at_lookup; refine IMap.lookup_ok rfl _ _ 48 rfl 3 3 Try.underlying3 Try.underlying48 Try.underlying3 (zero_int _) b n M rfl hM t rfl ht ?_; rw [HM.out])
    go_ret
    exact ⟨by simp [aboveB, HM.out], rfl⟩
  | some at_ =>
    have h0 := hat at_ hm
    have HM := Aside0.mk hm
    clear hm hat
    have HR : Aside0 (aboveB M fr t i = climb fr at_ i.toNat i) := ⟨by simp [aboveB, HM.out]⟩
    go_enter Try.func30, Try.ntmps30
    go_wp2_with (at_lookup; refine IMap.lookup_ok rfl _ _ 48 rfl 3 3 Try.underlying3 Try.underlying48 Try.underlying3 (zero_int _) b n M rfl hM t rfl ht ?_; rw [HM.out])
    go_loop [3] (fun v => ∃ j : Int, v = .int .i64 j ∧ 0 ≤ j ∧ j < fr.length ∧ Aside0 (climb fr at_ j.toNat j = climb fr at_ i.toNat i)) (fun v => (intOf v).toNat)
    case atStart => exact ⟨i, rfl, hi0, hi1, ⟨rfl⟩⟩
    case round =>
      obtain ⟨j, rfl, hj0, hj1, HJ⟩ := hrel
      by_cases hlt : at_ < j
      · have hcj := HC.out j hj0 hj1
        obtain ⟨hb0, hb1⟩ := HFR.out j (by omega) hj1
        have hstep : climb fr at_ j.toNat j = if rd fr j = at_ then true else climb fr at_ (j.toNat - 1) (rd fr j) := by
          obtain ⟨m, hm⟩ : ∃ m, j.toNat = m + 1 := ⟨j.toNat - 1, by omega⟩
          rw [hm]; simp only [climb]; rw [if_pos hlt]; rfl
        have hmore : climb fr at_ (j.toNat - 1) (rd fr j) = climb fr at_ (rd fr j).toNat (rd fr j) := climb_more fr at_ h0 HFR.out _ _ _ (by omega) (by omega) (by omega)
        have HS : Aside0 (climb fr at_ i.toNat i = if rd fr j = at_ then true else climb fr at_ (rd fr j).toNat (rd fr j)) := ⟨by rw [← HJ.out, hstep, hmore]⟩
        clear hstep hmore HJ
        by_cases he : rd fr j = at_
        · have hb : (rd fr j == at_) = true := beq_iff_eq.mpr he
          have HE := Aside0.mk he
          clear he
          go_wp2
          go_ret
          exact ⟨by rw [HR.out, HS.out, if_pos HE.out]; rfl, rfl⟩
        · have hb : (rd fr j == at_) = false := beq_eq_false_iff_ne.mpr he
          have HE := Aside0.mk he
          clear he
          go_wp2
          go_round
          case rel => exact ⟨rd fr j, rfl, hb0, by omega, ⟨by rw [HS.out, if_neg HE.out]⟩⟩
          case measure => simp [intOf]; omega
      · have hz : climb fr at_ j.toNat j = false := by
          cases j.toNat with
          | zero => rfl
          | succ m => simp only [climb]; rw [if_neg hlt]
        have HZ : Aside0 (climb fr at_ i.toNat i = false) := ⟨by rw [← HJ.out, hz]⟩
        clear hz HJ
        go_wp2
        go_ret
        exact ⟨by rw [HR.out, HZ.out]; rfl, rfl⟩
end Go.Proofs.Ytaoefdbhfhcplaa.Q
