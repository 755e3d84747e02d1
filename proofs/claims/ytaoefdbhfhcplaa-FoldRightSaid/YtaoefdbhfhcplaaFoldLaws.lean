/- What the plain laws of Fold share. -/
import Derived.Test.YtaoefdbhfhcplaaFoldLay
import Derived.Test.YtaoefdbhfhcplaaAwakeFn
import Derived.Test.YtaoefdbhfhcplaaRefHas
namespace Go.Proofs.Ytaoefdbhfhcplaa.Q
open Go.RowKit Go.Proofs.YtaoefdbhfhcplaaW.PrintWords Go.Proofs.YtaoefdbhfhcplaaW.PrintLast Go.Proofs.YtaoefdbhfhcplaaW.PrintMore Go.Proofs.Ytaoefdbhfhcplaa.IM
set_option linter.unusedVariables false
set_option linter.unusedSimpArgs false

theorem awake_true : ∃ k, selvagelaw12_awake.f k = some true := ⟨8, by decide +kernel⟩
theorem same_acts (xs : List S44) (hn : xs.length ≤ 100000) : ∀ (d i k : Nat), i + d = xs.length → d < k → selvageref08_Same.l0 k xs xs i = some true := by
  intro d
  induction d with
  | zero =>
    intro i k hi hk
    obtain ⟨k, rfl⟩ : ∃ q, k = q + 1 := ⟨k - 1, by omega⟩
    rw [selvageref08_Same.l0, if_neg (by omega)]
  | succ d ih =>
    intro i k hi hk
    obtain ⟨k, rfl⟩ : ∃ q, k = q + 1 := ⟨k - 1, by omega⟩
    rw [selvageref08_Same.l0, if_pos (by omega), if_pos (by omega), if_pos (by omega), w_one (by omega), ih (i + 1) k (by omega) (by omega)]
    simp
theorem same_trace (xs : List S44) (s : Int) (hn : xs.length ≤ 100000) : selvageref08_SameTrace.f (xs.length + 1) xs s xs s = some true := by
  unfold selvageref08_SameTrace.f selvageref08_Same.f
  rw [if_pos rfl, if_pos rfl]
  have := same_acts xs hn xs.length 0 (xs.length + 1) (by omega) (by omega)
  rw [show (0 : Int) = ((0 : Nat) : Int) from rfl, this]; rfl
theorem same_code (xs : List S39) (hn : xs.length ≤ 100000) : ∀ (d i k : Nat), i + d = xs.length → d < k → selvageref10_Same.l0 k xs xs i = some true := by
  intro d
  induction d with
  | zero =>
    intro i k hi hk
    obtain ⟨k, rfl⟩ : ∃ q, k = q + 1 := ⟨k - 1, by omega⟩
    rw [selvageref10_Same.l0, if_neg (by omega)]
  | succ d ih =>
    intro i k hi hk
    obtain ⟨k, rfl⟩ : ∃ q, k = q + 1 := ⟨k - 1, by omega⟩
    rw [selvageref10_Same.l0, if_pos (by omega), if_pos (by omega), if_pos (by omega), w_one (by omega), ih (i + 1) k (by omega) (by omega)]
    simp
theorem same_code_f (xs : List S39) (hn : xs.length ≤ 100000) : selvageref10_Same.f (xs.length + 1) xs xs = some true := by
  unfold selvageref10_Same.f
  rw [if_pos rfl]
  exact same_code xs hn xs.length 0 (xs.length + 1) (by omega) (by omega)
def StepR.len : StepR → Nat
  | .done a _ => a.length
  | .next s => s.acts.length
  | .jump s => s.acts.length
theorem len_ite {c : Prop} [Decidable c] {a b : StepR} {n : Nat} (h1 : a.len ≤ n) (h2 : b.len ≤ n) : (if c then a else b).len ≤ n := by
  by_cases h : c
  · rw [if_pos h]; exact h1
  · rw [if_neg h]; exact h2
theorem step_len (x : S39) (s : RunSt) : (stepP x s).len ≤ s.acts.length + 1 := by
  obtain ⟨tm, an, ac⟩ := s
  cases an <;> (unfold stepP askR; dsimp only; repeat' apply len_ite) <;> simp [StepR.len, RunSt.put, RunSt.tell]
theorem run_acts (code : List S39) : ∀ (k : Nat) (i : Int) (s : RunSt), (runC code k i s).1.length ≤ s.acts.length + k := by
  intro k
  induction k with
  | zero => intro i s; simp [runC]
  | succ k ih =>
    intro i s
    have h := step_len (rd_T39 code i) s
    simp only [runC]
    cases hs : stepP (rd_T39 code i) s with
    | done a st => rw [hs] at h; have h : a.length ≤ s.acts.length + 1 := h; show a.length ≤ _; omega
    | next s' => rw [hs] at h; have h : s'.acts.length ≤ s.acts.length + 1 := h; have h2 := ih (i + 1) s'; show (runC code k (i + 1) s').1.length ≤ _; omega
    | jump s' => rw [hs] at h; have h : s'.acts.length ≤ s.acts.length + 1 := h; have h2 := ih (rd_T39 code i).f7 s'; show (runC code k (rd_T39 code i).f7 s').1.length ≤ _; omega
theorem run0_acts (code : List S39) (ts_ : List Int) (h : code.length ≤ 400) : (runC code code.length 0 (runSt0 ts_)).1.length ≤ 400 := by
  have := run_acts code code.length 0 (runSt0 ts_)
  have h0 : (runSt0 ts_).acts.length = 0 := rfl
  omega
theorem run_good {code : List S39} {l : List S80} (h : Good code l) (ts_ : List Int) : tree_Run.f code l ts_ = some (runC code code.length 0 (runSt0 ts_)) := by
  unfold tree_Run.f; rw [if_pos ((rightB_iff code l).2 h)]
theorem fold_good {code : List S39} {l : List S80} (h : Good code l) : fold_Fold.f code l = some (foldOut code, 0) := by
  unfold fold_Fold.f; rw [if_pos ((rightB_iff code l).2 h)]
theorem fold_bad {code : List S39} {l : List S80} (h : rightB code l = false) : fold_Fold.f code l = some ([], 3) := by
  unfold fold_Fold.f; rw [if_neg (by rw [h]; simp)]
theorem leo_to2 {α : Type} {f : Nat → Option α} (h : ∀ k, LeO (f k) (f (k + 1))) {k : Nat} {r : α} (hr : f k = some r) (m : Nat) (hm : k ≤ m) : f m = some r := by
  have := leo_add h k (m - k) r hr
  rwa [show k + (m - k) = m from by omega] at this
theorem leo_up {α : Type} {f : Nat → Option α} (h : ∀ k, LeO (f k) (f (k + 1))) {k : Nat} {r : α} (hr : f k = some r) (m : Nat) (hm : k ≤ m) : f m = some r := leo_to2 h hr m hm

end Go.Proofs.Ytaoefdbhfhcplaa.Q
