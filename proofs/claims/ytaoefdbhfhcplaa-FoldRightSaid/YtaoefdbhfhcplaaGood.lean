/- What Right asks, told by the ways to each piece; tree.Right's reckoning says just that. -/
import Derived.Test.YtaoefdbhfhcplaaRightModel
namespace Go.Proofs.Ytaoefdbhfhcplaa.Q
open Go.RowKit Go.Proofs.YtaoefdbhfhcplaaW.PrintWords Go.Proofs.YtaoefdbhfhcplaaW.PrintLast Go.Proofs.YtaoefdbhfhcplaaW.PrintMore Go.Proofs.Ytaoefdbhfhcplaa.IM
set_option linter.unusedVariables false
set_option linter.unusedSimpArgs false

/-- Does one come from piece k to piece j? -/
def isPred (code : List S39) (k j : Nat) : Bool := (k + 1 == j && (rd_T39 code k).f0 != 18) || (hasTo (rd_T39 code k).f0 && (rd_T39 code k).f7 == (j : Int))
/-- Piece y lies on a way to piece i. -/
inductive Anc (code : List S39) (y : Nat) : Nat → Prop
  | one {i : Nat} : y < code.length → isPred code y i = true → Anc code y i
  | more {k i : Nat} : k < code.length → isPred code k i = true → Anc code y k → Anc code y i
def AncD (code : List S39) (i : Nat) (t : Int) : Prop := ∃ y : Nat, Anc code y i ∧ y < code.length ∧ hasD (rd_T39 code y).f0 = true ∧ (rd_T39 code y).f1 = t
structure Good (code : List S39) (l : List S80) : Prop where
  len1 : 1 ≤ code.length
  len2 : code.length ≤ 400
  last : (rd_T39 code ((code.length : Int) - 1)).f0 = 18
  piece : ∀ i : Nat, i < code.length → pieceA l (rd_T39 code i) = true
  to_ : ∀ i : Nat, i < code.length → pieceTo code.length i (rd_T39 code i) = true
  uniq : ∀ i j : Nat, i < code.length → j < code.length → hasD (rd_T39 code i).f0 = true → hasD (rd_T39 code j).f0 = true → (rd_T39 code i).f1 = (rd_T39 code j).f1 → i = j
  way : ∀ j : Nat, 0 < j → j < code.length → ∃ p : Nat, p < code.length ∧ isPred code p j = true ∧ ∀ k : Nat, k < code.length → isPred code k j = true → k = p
  use : ∀ i : Nat, i < code.length → (hasA (rd_T39 code i).f0 = true → AncD code i (rd_T39 code i).f2) ∧ (hasB (rd_T39 code i).f0 = true → AncD code i (rd_T39 code i).f3)

theorem pred_lt {code : List S39} {k j : Nat} (ht : pieceTo code.length k (rd_T39 code k) = true) (h : isPred code k j = true) : k < j := by
  unfold isPred at h
  simp only [Bool.or_eq_true, Bool.and_eq_true, beq_iff_eq] at h
  rcases h with ⟨h, _⟩ | ⟨h1, h2⟩
  · omega
  · unfold pieceTo at ht
    rw [h1, if_pos rfl] at ht
    simp only [Bool.and_eq_true, decide_eq_true_eq] at ht
    omega

/-! ### the rows that tree.Right keeps -/
def nWays (code : List S39) (j : Nat) : Nat → Nat
  | 0 => 0
  | i + 1 => nWays code j i + (if isPred code i j then 1 else 0)
def lastPred (code : List S39) (j : Nat) : Nat → Nat
  | 0 => 0
  | i + 1 => if isPred code i j then i else lastPred code j i
def lastMk (code : List S39) (t : Int) : Nat → Option Int
  | 0 => none
  | i + 1 => if hasD (rd_T39 code i).f0 = true ∧ (rd_T39 code i).f1 = t then some (i : Int) else lastMk code t i
theorem lens_at (code : List S39) : ∀ i : Nat, (rAt code i).ways.length = code.length ∧ (rAt code i).frm.length = code.length := by
  intro i
  induction i with
  | zero => simp [rAt, rst0]
  | succ i ih =>
    simp only [rAt, rStep, rMade, rNext, rTo]
    (repeat' split) <;> simp [ih]
theorem rows_at (code : List S39) : ∀ i : Nat, i ≤ code.length → (∀ k : Nat, k < i → pieceTo code.length k (rd_T39 code k) = true) → ∀ j : Nat, j < code.length →
    rd (rAt code i).ways j = (nWays code j i : Int) ∧ rd (rAt code i).frm j = (lastPred code j i : Int) := by
  intro i
  induction i with
  | zero => intro _ _ j hj; simp [rAt, rst0, rd_replicate, nWays, lastPred]
  | succ i ih =>
    intro hi ht j hj
    obtain ⟨w, f⟩ := ih (by omega) (fun k hk => ht k (by omega)) j hj
    obtain ⟨lw, lf⟩ := lens_at code i
    have hti := ht i (by omega)
    -- behind the To
    have a : rd (rTo i (rd_T39 code i) (rAt code i)).ways j = (nWays code j i : Int) + (if (hasTo (rd_T39 code i).f0 && (rd_T39 code i).f7 == (j : Int)) = true then 1 else 0) ∧
        rd (rTo i (rd_T39 code i) (rAt code i)).frm j = (if (hasTo (rd_T39 code i).f0 && (rd_T39 code i).f7 == (j : Int)) = true then (i : Int) else (lastPred code j i : Int)) := by
      unfold rTo
      by_cases h : hasTo (rd_T39 code i).f0 = true
      · unfold pieceTo at hti
        rw [h, if_pos rfl] at hti
        simp only [Bool.and_eq_true, decide_eq_true_eq] at hti
        rw [if_pos h, h]
        simp only [Bool.true_and, beq_iff_eq]
        rw [rd_set _ _ _ _ (by omega), rd_set _ _ _ _ (by omega)]
        by_cases e : (rd_T39 code i).f7 = (j : Int)
        · rw [if_pos e, if_pos e, if_pos (by rw [lw]; omega), if_pos (by rw [lf]; omega), e, w]; exact ⟨rfl, rfl⟩
        · rw [if_neg e, if_neg e, if_neg (by omega), if_neg (by omega), w, f]; exact ⟨by omega, rfl⟩
      · rw [if_neg h]
        simp only [h, Bool.false_and, Bool.false_eq_true, if_false]
        exact ⟨by rw [w]; omega, f⟩
    have lw2 : (rTo i (rd_T39 code i) (rAt code i)).ways.length = code.length := by unfold rTo; split <;> simp [lw]
    have lf2 : (rTo i (rd_T39 code i) (rAt code i)).frm.length = code.length := by unfold rTo; split <;> simp [lf]
    have b : rd (rNext i (rd_T39 code i) (rTo i (rd_T39 code i) (rAt code i))).ways j = (nWays code j (i + 1) : Int) ∧
        rd (rNext i (rd_T39 code i) (rTo i (rd_T39 code i) (rAt code i))).frm j = (lastPred code j (i + 1) : Int) := by
      obtain ⟨a1, a2⟩ := a
      have hxor : i + 1 = j → (hasTo (rd_T39 code i).f0 && (rd_T39 code i).f7 == (j : Int)) = false := by
        intro e
        unfold pieceTo at hti
        cases h : hasTo (rd_T39 code i).f0 with
        | false => rfl
        | true =>
          rw [h, if_pos rfl] at hti
          simp only [Bool.and_eq_true, decide_eq_true_eq] at hti
          simp; omega
      have np : isPred code i j = ((i + 1 == j && (rd_T39 code i).f0 != 18) || (hasTo (rd_T39 code i).f0 && (rd_T39 code i).f7 == (j : Int))) := rfl
      simp only [nWays, lastPred]
      unfold rNext
      by_cases e18 : (rd_T39 code i).f0 = 18
      · rw [if_pos e18]
        have : isPred code i j = (hasTo (rd_T39 code i).f0 && (rd_T39 code i).f7 == (j : Int)) := by rw [np]; simp [e18]
        rw [this, a1, a2]
        split <;> simp
      · rw [if_neg e18]
        have e18b : ((rd_T39 code i).f0 != 18) = true := bne_iff_ne.mpr e18
        show rd (List.set _ _ _) j = _ ∧ rd (List.set _ _ _) j = _
        rw [rd_set _ _ _ _ (by omega), rd_set _ _ _ _ (by omega)]
        by_cases e : i + 1 = j
        · have hx := hxor e
          have : isPred code i j = true := by rw [np]; simp [e, e18b]
          rw [this, if_pos rfl, if_pos rfl, if_pos (by rw [lw2]; omega), if_pos (by rw [lf2]; omega)]
          rw [hx] at a1
          rw [show ((i : Int) + 1) = ((j : Nat) : Int) from by omega, a1]
          simp
        · have c1 : ¬ (i + 1 = ((j : Nat) : Int).toNat ∧ i + 1 < (rTo i (rd_T39 code i) (rAt code i)).ways.length) := by omega
          have c2 : ¬ (i + 1 = ((j : Nat) : Int).toNat ∧ i + 1 < (rTo i (rd_T39 code i) (rAt code i)).frm.length) := by omega
          rw [if_neg c1, if_neg c2]
          have : isPred code i j = (hasTo (rd_T39 code i).f0 && (rd_T39 code i).f7 == (j : Int)) := by
            rw [np, show (i + 1 == j) = false from by simpa using e]; rfl
          rw [this, a1, a2]
          split <;> simp
    have c : (rAt code (i + 1)).ways = (rNext i (rd_T39 code i) (rTo i (rd_T39 code i) (rAt code i))).ways ∧ (rAt code (i + 1)).frm = (rNext i (rd_T39 code i) (rTo i (rd_T39 code i) (rAt code i))).frm := by
      simp only [rAt, rStep, rMade]
      split <;> exact ⟨rfl, rfl⟩
    rw [c.1, c.2]
    exact b
theorem made_at (code : List S39) (t : Int) : ∀ i : Nat, (rAt code i).made t = lastMk code t i := by
  intro i
  induction i with
  | zero => rfl
  | succ i ih =>
    have h1 : (rNext i (rd_T39 code i) (rTo i (rd_T39 code i) (rAt code i))).made = (rAt code i).made := by unfold rNext rTo; split <;> split <;> rfl
    simp only [rAt, rStep, rMade, lastMk]
    by_cases h : hasD (rd_T39 code i).f0 = true
    · rw [if_pos h]
      show upd _ _ _ t = _
      unfold upd
      rw [h1, ih]
      by_cases e : t = (rd_T39 code i).f1
      · rw [if_pos e, if_pos ⟨h, e.symm⟩]
      · rw [if_neg e, if_neg (fun hh => e hh.2.symm)]
    · rw [if_neg h, if_neg (fun hh => h hh.1), h1, ih]
theorem lastMk_none {code : List S39} {t : Int} : ∀ i : Nat, (lastMk code t i = none ↔ ∀ y : Nat, y < i → hasD (rd_T39 code y).f0 = true → (rd_T39 code y).f1 ≠ t) := by
  intro i
  induction i with
  | zero => simp [lastMk]
  | succ i ih =>
    simp only [lastMk]
    by_cases h : hasD (rd_T39 code i).f0 = true ∧ (rd_T39 code i).f1 = t
    · rw [if_pos h]
      constructor
      · intro h2; cases h2
      · intro h2; exact absurd h.2 (h2 i (by omega) h.1)
    · rw [if_neg h, ih]
      constructor
      · intro h2 y hy hd
        by_cases e : y = i
        · subst e; exact fun e2 => h ⟨hd, e2⟩
        · exact h2 y (by omega) hd
      · intro h2 y hy hd; exact h2 y (by omega) hd
theorem lastMk_some {code : List S39} {t v : Int} : ∀ i : Nat, lastMk code t i = some v → ∃ y : Nat, v = y ∧ y < i ∧ hasD (rd_T39 code y).f0 = true ∧ (rd_T39 code y).f1 = t := by
  intro i
  induction i with
  | zero => intro h; cases h
  | succ i ih =>
    intro h
    simp only [lastMk] at h
    split at h
    · rename_i hc
      injection h with h
      exact ⟨i, h.symm, by omega, hc.1, hc.2⟩
    · obtain ⟨y, h1, h2, h3⟩ := ih h
      exact ⟨y, h1, by omega, h3⟩
theorem nWays_zero {code : List S39} {j : Nat} : ∀ i : Nat, (nWays code j i = 0 ↔ ∀ k : Nat, k < i → isPred code k j = false) := by
  intro i
  induction i with
  | zero => simp [nWays]
  | succ i ih =>
    simp only [nWays]
    by_cases h : isPred code i j = true
    · rw [if_pos h]
      constructor
      · intro h2; omega
      · intro h2; have := h2 i (by omega); rw [h] at this; cases this
    · rw [if_neg h, Nat.add_zero, ih]
      constructor
      · intro h2 k hk
        by_cases e : k = i
        · subst e; exact Bool.eq_false_iff.mpr h
        · exact h2 k (by omega)
      · intro h2 k hk; exact h2 k (by omega)
theorem nWays_one {code : List S39} {j : Nat} : ∀ i : Nat, (nWays code j i = 1 ↔ ∃ p : Nat, p < i ∧ isPred code p j = true ∧ ∀ k : Nat, k < i → isPred code k j = true → k = p) := by
  intro i
  induction i with
  | zero => simp [nWays]
  | succ i ih =>
    simp only [nWays]
    by_cases h : isPred code i j = true
    · rw [if_pos h]
      constructor
      · intro h2
        have h0 := (nWays_zero i).1 (show nWays code j i = 0 by omega)
        refine ⟨i, by omega, h, fun k hk hp => ?_⟩
        by_cases e : k = i
        · exact e
        · have := h0 k (by omega); rw [hp] at this; cases this
      · intro ⟨p, hp, hpp, hall⟩
        have e := hall i (by omega) h
        have : nWays code j i = 0 := (nWays_zero i).2 fun k hk => by
          cases hk2 : isPred code k j with
          | false => rfl
          | true => have := hall k (by omega) hk2; omega
        omega
    · rw [if_neg h, Nat.add_zero, ih]
      constructor
      · intro ⟨p, hp, hpp, hall⟩
        refine ⟨p, by omega, hpp, fun k hk hp2 => ?_⟩
        by_cases e : k = i
        · subst e; exact absurd hp2 h
        · exact hall k (by omega) hp2
      · intro ⟨p, hp, hpp, hall⟩
        have : p ≠ i := fun e => h (by rw [← e]; exact hpp)
        exact ⟨p, by omega, hpp, fun k hk => hall k (by omega)⟩
theorem lastPred_of {code : List S39} {j p : Nat} : ∀ i : Nat, p < i → isPred code p j = true → (∀ k : Nat, k < i → isPred code k j = true → k = p) → lastPred code j i = p := by
  intro i
  induction i with
  | zero => intro h; omega
  | succ i ih =>
    intro hp hpp hall
    simp only [lastPred]
    by_cases h : isPred code i j = true
    · rw [if_pos h]; exact hall i (by omega) h
    · rw [if_neg h]
      have : p ≠ i := fun e => h (by rw [← e]; exact hpp)
      exact ih (by omega) hpp fun k hk => hall k (by omega)

/-! ### climbing -/
theorem anc_lt {code : List S39} (ht : ∀ i : Nat, i < code.length → pieceTo code.length i (rd_T39 code i) = true) {y i : Nat} (h : Anc code y i) : y < i := by
  induction h with
  | one hy hp => exact pred_lt (ht _ hy) hp
  | more hk hp _ ih => have := pred_lt (ht _ hk) hp; omega
theorem climb_iff {code : List S39} (fr : List Int) (ht : ∀ i : Nat, i < code.length → pieceTo code.length i (rd_T39 code i) = true)
    (hf : ∀ j : Nat, 0 < j → j < code.length → ∃ p : Nat, rd fr j = p ∧ p < code.length ∧ isPred code p j = true ∧ ∀ k : Nat, k < code.length → isPred code k j = true → k = p) (y : Nat) :
    ∀ (k i : Nat), i ≤ k → i < code.length → (climb fr y k i = true ↔ Anc code y i) := by
  intro k
  induction k with
  | zero =>
    intro i hi hl
    simp only [climb]
    constructor
    · intro h; cases h
    · intro h; have := anc_lt ht h; omega
  | succ k ih =>
    intro i hi hl
    simp only [climb]
    by_cases h0 : (y : Int) < i
    · rw [if_pos h0]
      obtain ⟨p, hp, hpl, hpp, hall⟩ := hf i (by omega) hl
      have hlt := pred_lt (ht p hpl) hpp
      rw [hp]
      by_cases e : (p : Int) = y
      · rw [if_pos e]
        have e' : p = y := by omega
        subst e'
        exact ⟨fun _ => .one hpl hpp, fun _ => rfl⟩
      · rw [if_neg e, ih p (by omega) hpl]
        constructor
        · intro h; exact .more hpl hpp h
        · intro h
          cases h with
          | one hy hy2 => exact absurd (by rw [hall y hy hy2]) e
          | more hk hk2 h3 =>
            have := hall _ hk hk2
            subst this
            exact h3
    · rw [if_neg h0]
      constructor
      · intro h; cases h
      · intro h; have := anc_lt ht h; omega
theorem above_iff {code : List S39} (ht : ∀ i : Nat, i < code.length → pieceTo code.length i (rd_T39 code i) = true)
    (hw : ∀ j : Nat, 0 < j → j < code.length → ∃ p : Nat, p < code.length ∧ isPred code p j = true ∧ ∀ k : Nat, k < code.length → isPred code k j = true → k = p)
    (hu : ∀ i j : Nat, i < code.length → j < code.length → hasD (rd_T39 code i).f0 = true → hasD (rd_T39 code j).f0 = true → (rd_T39 code i).f1 = (rd_T39 code j).f1 → i = j) (t : Int) (i : Nat) (hi : i < code.length) :
    aboveB (rAt code code.length).made (rAt code code.length).frm t i = true ↔ AncD code i t := by
  have hf : ∀ j : Nat, 0 < j → j < code.length → ∃ p : Nat, rd (rAt code code.length).frm j = p ∧ p < code.length ∧ isPred code p j = true ∧ ∀ k : Nat, k < code.length → isPred code k j = true → k = p := by
    intro j h0 hj
    obtain ⟨p, h1, h2, h3⟩ := hw j h0 hj
    refine ⟨p, ?_, h1, h2, h3⟩
    rw [(rows_at code code.length (Nat.le_refl _) ht j hj).2, lastPred_of code.length h1 h2 h3]
  unfold aboveB
  rw [made_at]
  cases hm : lastMk code t code.length with
  | none =>
    have h0 := (lastMk_none code.length).1 hm
    constructor
    · intro h; cases h
    · intro ⟨y, _, hy, hd, he⟩; exact absurd he (h0 y hy hd)
  | some v =>
    obtain ⟨y, rfl, hy, hd, he⟩ := lastMk_some code.length hm
    show climb _ _ _ _ = true ↔ _
    rw [Int.toNat_natCast, climb_iff _ ht hf y i i (Nat.le_refl _) hi]
    constructor
    · intro h; exact ⟨y, h, hy, hd, he⟩
    · intro ⟨z, h1, h2, h3, h4⟩
      rw [hu y z hy h2 hd h3 (by rw [he, h4])]; exact h1
theorem rightB_iff (code : List S39) (l : List S80) : rightB code l = true ↔ Good code l := by
  unfold rightB
  simp only [Bool.and_eq_true, decide_eq_true_eq, beq_iff_eq]
  constructor
  · intro ⟨⟨⟨⟨h1, h2⟩, h3⟩, h4⟩, h5⟩
    have h4' := (upTo_iff _ _).1 h4
    have h5' := (upTo_iff _ _).1 h5
    have hto : ∀ i : Nat, i < code.length → pieceTo code.length i (rd_T39 code i) = true := fun i hi => by
      have := h4' i hi
      simp only [ok1, Bool.and_eq_true] at this
      exact this.1.2
    have hpc : ∀ i : Nat, i < code.length → pieceA l (rd_T39 code i) = true := fun i hi => by
      have := h4' i hi
      simp only [ok1, Bool.and_eq_true] at this
      exact this.1.1
    have hun1 : ∀ i : Nat, i < code.length → hasD (rd_T39 code i).f0 = true → ∀ y : Nat, y < i → hasD (rd_T39 code y).f0 = true → (rd_T39 code y).f1 ≠ (rd_T39 code i).f1 := fun i hi hd => by
      have := h4' i hi
      simp only [ok1, Bool.and_eq_true] at this
      have h := this.2
      rw [hd, made_at] at h
      simp only [Bool.not_true, Bool.false_or, Option.isNone_iff_eq_none] at h
      exact (lastMk_none i).1 h
    have hun : ∀ i j : Nat, i < code.length → j < code.length → hasD (rd_T39 code i).f0 = true → hasD (rd_T39 code j).f0 = true → (rd_T39 code i).f1 = (rd_T39 code j).f1 → i = j := by
      intro i j hi hj hd1 hd2 he
      rcases Nat.lt_trichotomy i j with h | h | h
      · exact absurd he (hun1 j hj hd2 i h hd1)
      · exact h
      · exact absurd he.symm (hun1 i hi hd1 j h hd2)
    have hway : ∀ j : Nat, 0 < j → j < code.length → ∃ p : Nat, p < code.length ∧ isPred code p j = true ∧ ∀ k : Nat, k < code.length → isPred code k j = true → k = p := by
      intro j h0 hj
      have := h5' j hj
      simp only [ok2, Bool.and_eq_true, Bool.or_eq_true, beq_iff_eq] at this
      have h := this.1.1
      rcases h with h | h
      · omega
      · rw [(rows_at code code.length (Nat.le_refl _) hto j hj).1] at h
        exact (nWays_one code.length).1 (by omega)
    refine ⟨h1, h2, h3, hpc, hto, hun, hway, fun i hi => ?_⟩
    have := h5' i hi
    simp only [ok2, Bool.and_eq_true] at this
    constructor
    · intro ha
      have h := this.1.2
      rw [ha] at h
      simp only [Bool.not_true, Bool.false_or] at h
      exact (above_iff hto hway hun _ i hi).1 h
    · intro ha
      have h := this.2
      rw [ha] at h
      simp only [Bool.not_true, Bool.false_or] at h
      exact (above_iff hto hway hun _ i hi).1 h
  · intro ⟨h1, h2, h3, hpc, hto, hun, hway, huse⟩
    refine ⟨⟨⟨⟨h1, h2⟩, h3⟩, (upTo_iff _ _).2 fun i hi => ?_⟩, (upTo_iff _ _).2 fun i hi => ?_⟩
    · simp only [ok1, Bool.and_eq_true]
      refine ⟨⟨hpc i hi, hto i hi⟩, ?_⟩
      cases hd : hasD (rd_T39 code i).f0 with
      | false => rfl
      | true =>
        rw [made_at]
        have : lastMk code (rd_T39 code i).f1 i = none := (lastMk_none i).2 fun y hy hd2 he => by
          have := hun y i (by omega) hi hd2 hd he
          omega
        rw [this]; rfl
    · simp only [ok2, Bool.and_eq_true]
      refine ⟨⟨?_, ?_⟩, ?_⟩
      · by_cases h0 : i = 0
        · simp [h0]
        · have := (nWays_one (code := code) (j := i) code.length).2 (hway i (by omega) hi)
          rw [(rows_at code code.length (Nat.le_refl _) hto i hi).1, this]; simp
      · cases ha : hasA (rd_T39 code i).f0 with
        | false => rfl
        | true => rw [(above_iff hto hway hun _ i hi).2 ((huse i hi).1 ha)]; rfl
      · cases ha : hasB (rd_T39 code i).f0 with
        | false => rfl
        | true => rw [(above_iff hto hway hun _ i hi).2 ((huse i hi).2 ha)]; rfl
end Go.Proofs.Ytaoefdbhfhcplaa.Q
