/- What a piece of code uses, told plainly; what tree.shape, tree.temp and tree.places answer. -/
import Derived.Test.YtaoefdbhfhcplaaQ0
import Derived.Test.YtaoefdbhfhcplaaQ3
import Derived.Test.YtaoefdbhfhcplaaQ4
namespace Go.Proofs.Ytaoefdbhfhcplaa.Q
open Go.RowKit Go.Proofs.YtaoefdbhfhcplaaW.PrintWords Go.Proofs.YtaoefdbhfhcplaaW.PrintLast Go.Proofs.YtaoefdbhfhcplaaW.PrintMore
set_option linter.unusedVariables false
set_option linter.unusedSimpArgs false

def hasD (op : Int) : Bool := [1, 2, 3, 4, 5, 6, 8, 10, 11, 13].contains op
def hasA (op : Int) : Bool := [2, 3, 4, 5, 7, 9, 10, 11, 12, 13, 14, 15, 16, 17].contains op
def hasB (op : Int) : Bool := [2, 3, 4, 5, 12, 14, 16, 17].contains op
def hasK (op : Int) : Bool := op == 1
def hasTo (op : Int) : Bool := [12, 16, 17].contains op
def hasPlace (op : Int) : Bool := [6, 7, 8, 9, 10, 11, 12, 13, 14].contains op
def hasRow (op : Int) : Bool := [13, 14].contains op
def hasAtomic (op : Int) : Bool := [8, 9, 10, 11, 12].contains op
def isKind (op : Int) : Bool := decide (1 ≤ op) && decide (op ≤ 18)
def tempB (u : Bool) (n : Int) : Bool := if u then decide (0 ≤ n) && decide (n < 400) else n == 0
def rowB (pl row at_ : Bool) (loc len : Int) (l : List S80) : Bool :=
  if pl then (row || len == 0) && decide (1 ≤ (if row then len else 1)) && decide ((if row then len else 1) ≤ (l.length : Int)) && decide (0 ≤ loc) && decide (loc + (if row then len else 1) ≤ (l.length : Int)) &&
    ((l.take (loc + (if row then len else 1)).toNat).drop loc.toNat).all (fun y => y.f0 == at_)
  else loc == 0 && len == 0
def placesB (op loc len : Int) (l : List S80) : Bool := rowB (hasPlace op) (hasRow op) (hasAtomic op) loc len l
def pieceA (l : List S80) (x : S39) : Bool :=
  isKind x.f0 && tempB (hasD x.f0) x.f1 && tempB (hasA x.f0) x.f2 && tempB (hasB x.f0) x.f3 && (hasK x.f0 || x.f6 == 0) && placesB x.f0 x.f4 x.f5 l
def pieceTo (n i : Nat) (x : S39) : Bool := if hasTo x.f0 then decide ((i : Int) + 1 < x.f7) && decide (x.f7 < n) else x.f7 == 0

theorem kind_cases {op : Int} (h : isKind op = true) : op = 1 ∨ op = 2 ∨ op = 3 ∨ op = 4 ∨ op = 5 ∨ op = 6 ∨ op = 7 ∨ op = 8 ∨ op = 9 ∨ op = 10 ∨ op = 11 ∨ op = 12 ∨ op = 13 ∨ op = 14 ∨ op = 15 ∨ op = 16 ∨ op = 17 ∨ op = 18 := by
  simp [isKind] at h; omega
theorem shape_of (op : Int) : ∃ k, tree_shape.f k op = some (hasD op, hasA op, hasB op, hasK op, hasTo op, hasPlace op, hasRow op, hasAtomic op, isKind op) := by
  by_cases h : isKind op = true
  · refine ⟨5, ?_⟩
    rcases kind_cases h with rfl | rfl | rfl | rfl | rfl | rfl | rfl | rfl | rfl | rfl | rfl | rfl | rfl | rfl | rfl | rfl | rfl | rfl <;> rfl
  · refine ⟨5, ?_⟩
    have h1 : ∀ c : Int, 1 ≤ c → c ≤ 18 → op ≠ c := by intro c h1 h2 he; subst he; exact h (by simp [isKind]; omega)
    have h2 : ∀ c : Int, 1 ≤ c → c ≤ 18 → (op == c) = false := fun c a b => beq_eq_false_iff_ne.mpr (h1 c a b)
    simp only [tree_shape.f, tree_shape.j0, tree_shape.j1, tree_shape.j2, h1 1 (by omega) (by omega), h1 2 (by omega) (by omega), h1 3 (by omega) (by omega), h1 4 (by omega) (by omega), h2 5 (by omega) (by omega), h1 6 (by omega) (by omega), h1 7 (by omega) (by omega), h1 8 (by omega) (by omega), h1 9 (by omega) (by omega), h1 10 (by omega) (by omega), h2 11 (by omega) (by omega), h1 12 (by omega) (by omega), h1 13 (by omega) (by omega), h1 14 (by omega) (by omega), h1 15 (by omega) (by omega), h1 16 (by omega) (by omega), h2 17 (by omega) (by omega), h1 18 (by omega) (by omega), if_false, Bool.false_eq_true]
    have h3 : ∀ s : List Int, (∀ c ∈ s, 1 ≤ c ∧ c ≤ 18) → s.contains op = false := by
      intro s hs
      rw [Bool.eq_false_iff]
      intro hc
      have := List.contains_iff_mem.mp hc
      obtain ⟨a, b⟩ := hs _ this
      exact h1 op a b rfl
    have hk : isKind op = false := Bool.eq_false_iff.mpr h
    rw [hk, show hasD op = false from h3 _ (by decide), show hasA op = false from h3 _ (by decide), show hasB op = false from h3 _ (by decide), show hasK op = false from h2 1 (by omega) (by omega), show hasTo op = false from h3 _ (by decide), show hasPlace op = false from h3 _ (by decide), show hasRow op = false from h3 _ (by decide), show hasAtomic op = false from h3 _ (by decide)]
theorem temp_of (u : Bool) (n : Int) : tree_temp.f u n = some (tempB u n) := by
  unfold tree_temp.f tempB
  cases u
  · simp
  · simp only [if_true]
    by_cases h : n ≥ 0
    · rw [if_pos h]
      by_cases h2 : n < 400
      · rw [if_pos h2]; simp [h2]; omega
      · rw [if_neg h2]; simp [h2]
    · rw [if_neg h]; simp; omega

theorem places_loop (y : List S80) (b0 b1 b2 b3 b4 b5 b6 at_ : Bool) (hy : y.length ≤ 9223372036854775807) : ∀ (m k : Nat) (i : Nat), i ≤ y.length → y.length - i = m → m < k → tree_places.l0 k y (y.length : Int) (i : Int) b0 b1 b2 b3 b4 b5 b6 at_ = some ((y.drop i).all (fun z => z.f0 == at_)) := by
  intro m
  induction m with
  | zero =>
    intro k i hi hm hk
    obtain ⟨k, rfl⟩ : ∃ j, k = j + 1 := ⟨k - 1, by omega⟩
    simp only [tree_places.l0]
    rw [if_neg (by omega), List.drop_of_length_le (by omega)]; rfl
  | succ m ih =>
    intro k i hi hm hk
    obtain ⟨k, rfl⟩ : ∃ j, k = j + 1 := ⟨k - 1, by omega⟩
    simp only [tree_places.l0]
    rw [if_pos (by omega), if_pos (by omega), if_pos (by omega), List.drop_eq_getElem_cons (by omega), List.all_cons]
    have hr : rd_T80 y (i : Int) = y[i]'(by omega) := by simp [rd_T80, List.getD_eq_getElem?_getD, List.getElem?_eq_getElem (show i < y.length by omega)]
    rw [hr, show wrap64 ((i : Int) + 1) = ((i + 1 : Nat) : Int) from by unfold wrap64; omega]
    by_cases h : ((y[i]'(by omega)).f0 != at_) = true
    · rw [if_pos h]
      have : ((y[i]'(by omega)).f0 == at_) = false := by simpa using h
      rw [this]; rfl
    · rw [if_neg h, ih k (i + 1) (by omega) (by omega) (by omega)]
      have : ((y[i]'(by omega)).f0 == at_) = true := by simpa using h
      rw [this]; rfl
theorem places_of (b0 b1 b2 b3 b4 pl row at_ : Bool) (x : S39) (l : List S80) (hl : l.length ≤ 9223372036854775807) : ∃ k, tree_places.f k b0 b1 b2 b3 b4 pl row at_ x.f0 x.f1 x.f2 x.f3 x.f4 x.f5 x.f6 x.f7 l = some (rowB pl row at_ x.f4 x.f5 l) := by
  have main : ∀ n : Int, ∃ k, tree_places.j0 k l n b0 b1 b2 b3 b4 true row at_ x.f0 x.f1 x.f2 x.f3 x.f4 x.f5 x.f6 x.f7 =
      some (decide (1 ≤ n) && decide (n ≤ (l.length : Int)) && decide (0 ≤ x.f4) && decide (x.f4 + n ≤ (l.length : Int)) && ((l.take (x.f4 + n).toNat).drop x.f4.toNat).all (fun y => y.f0 == at_)) := by
    intro n
    refine ⟨l.length + 5, ?_⟩
    simp only [tree_places.j0, tree_places.j1]
    by_cases h1 : n < 1
    · rw [if_pos h1]; simp; intro h; omega
    · rw [if_neg h1]
      by_cases h2 : n > (l.length : Int)
      · rw [if_pos h2]; simp; intro _ h; omega
      · rw [if_neg h2]
        by_cases h3 : x.f4 < 0
        · rw [if_pos h3]; simp; intro _ _ h; omega
        · rw [if_neg h3]
          have hw : wrap64 ((l.length : Int) - n) = (l.length : Int) - n := by unfold wrap64; omega
          rw [hw]
          by_cases h4 : x.f4 > (l.length : Int) - n
          · simp only [h4, decide_true, if_true]; simp; intro _ _ _ h; omega
          · have hw2 : wrap64 (x.f4 + n) = x.f4 + n := by unfold wrap64; omega
            simp only [h4, decide_false, Bool.false_eq_true, if_false]
            rw [hw2, if_pos (by omega), if_pos (by omega), if_pos (by omega)]
            simp only [Option.bind_some]
            have := places_loop ((l.take (x.f4 + n).toNat).drop x.f4.toNat) b0 b1 b2 b3 b4 true row at_ (by simp; omega) _ (l.length + 3) 0 (by omega) rfl (by simp; omega)
            simp only [Int.natCast_zero, List.drop_zero] at this
            rw [this]
            have e1 : decide (1 ≤ n) = true := by simp; omega
            have e2 : decide (n ≤ (l.length : Int)) = true := by simp; omega
            have e3 : decide (0 ≤ x.f4) = true := by simp; omega
            have e4 : decide (x.f4 + n ≤ (l.length : Int)) = true := by simp; omega
            rw [e1, e2, e3, e4]; rfl
  unfold tree_places.f rowB
  cases pl
  · refine ⟨0, ?_⟩
    simp only [Bool.false_eq_true, if_false]
    by_cases h : x.f4 = 0
    · rw [if_pos h, h]; rfl
    · rw [if_neg h]; simp [h]
  · simp only [if_true]
    cases row
    · simp only [Bool.false_eq_true, if_false, Bool.false_or]
      by_cases h : x.f5 = 0
      · obtain ⟨k, hk⟩ := main 1
        refine ⟨k, ?_⟩
        rw [if_pos h, hk, h]; simp
      · refine ⟨0, ?_⟩
        rw [if_neg h]; simp [h]
    · simp only [if_true, Bool.true_or, Bool.true_and]
      exact main x.f5
end Go.Proofs.Ytaoefdbhfhcplaa.Q
