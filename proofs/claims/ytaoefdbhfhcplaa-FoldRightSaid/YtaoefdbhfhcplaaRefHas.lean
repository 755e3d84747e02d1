/- What the reference's table of kinds says: which fields a kind uses. -/
import Derived.Test.YtaoefdbhfhcplaaSmall
import Derived.Test.YtaoefdbhfhcplaaCode
import Derived.Test.YtaoefdbhfhcplaaQ5
namespace Go.Proofs.Ytaoefdbhfhcplaa.Q
open Go.RowKit Go.Proofs.YtaoefdbhfhcplaaW.PrintWords Go.Proofs.YtaoefdbhfhcplaaW.PrintLast Go.Proofs.YtaoefdbhfhcplaaW.PrintMore Go.Proofs.Ytaoefdbhfhcplaa.IM
set_option linter.unusedVariables false
set_option linter.unusedSimpArgs false

theorem kinds18 {op : Int} (h : 1 ≤ op ∧ op ≤ 18) : op = 1 ∨ op = 2 ∨ op = 3 ∨ op = 4 ∨ op = 5 ∨ op = 6 ∨ op = 7 ∨ op = 8 ∨ op = 9 ∨ op = 10 ∨ op = 11 ∨ op = 12 ∨ op = 13 ∨ op = 14 ∨ op = 15 ∨ op = 16 ∨ op = 17 ∨ op = 18 := by omega
theorem no_letters {op : Int} (h : ¬ (1 ≤ op ∧ op ≤ 18)) : selvageref10_letters.f 4 op = some (⟨#[]⟩ : ByteArray) := by
  have e : ∀ n : Int, 1 ≤ n → n ≤ 18 → (op == n) = false := fun n h1 h2 => by
    rw [beq_eq_false_iff_ne]; intro e; omega
  unfold selvageref10_letters.f
  rw [if_neg (by omega), if_neg (by omega), if_neg (by omega), if_neg (by omega), e 5 (by omega) (by omega)]
  rw [selvageref10_letters.j0, if_neg (by simp), if_neg (by omega), if_neg (by omega), if_neg (by omega), if_neg (by omega), if_neg (by omega), e 11 (by omega) (by omega)]
  rw [selvageref10_letters.j1, if_neg (by simp), if_neg (by omega), if_neg (by omega), if_neg (by omega), if_neg (by omega), if_neg (by omega), e 17 (by omega) (by omega)]
  rw [selvageref10_letters.j2, if_neg (by simp), if_neg (by omega)]
theorem no_has {op : Int} (h : ¬ (1 ≤ op ∧ op ≤ 18)) (c : Int) : selvageref10_Has.f 4 op c = some false := by
  unfold selvageref10_Has.f
  rw [no_letters h]
  rfl
theorem not_in {op : Int} (h : ¬ (1 ≤ op ∧ op ≤ 18)) (l : List Int) (hl : ∀ x ∈ l, 1 ≤ x ∧ x ≤ 18) : l.contains op = false := by
  rw [Bool.eq_false_iff]
  intro hc
  rw [List.contains_iff_mem] at hc
  exact h (hl op hc)
theorem has_d (op : Int) : selvageref10_Has.f 12 op 100 = some (hasD op) := by
  by_cases h : 1 ≤ op ∧ op ≤ 18
  · rcases kinds18 h with rfl | rfl | rfl | rfl | rfl | rfl | rfl | rfl | rfl | rfl | rfl | rfl | rfl | rfl | rfl | rfl | rfl | rfl <;> decide +kernel
  · rw [show hasD op = false from not_in h _ (by decide)]
    exact leo_add (f := fun k => selvageref10_Has.f k op 100) (fun k => selvageref10_Has.mono _ _ k) 4 8 _ (no_has h 100)
theorem has_a (op : Int) : selvageref10_Has.f 12 op 97 = some (hasA op) := by
  by_cases h : 1 ≤ op ∧ op ≤ 18
  · rcases kinds18 h with rfl | rfl | rfl | rfl | rfl | rfl | rfl | rfl | rfl | rfl | rfl | rfl | rfl | rfl | rfl | rfl | rfl | rfl <;> decide +kernel
  · rw [show hasA op = false from not_in h _ (by decide)]
    exact leo_add (f := fun k => selvageref10_Has.f k op 97) (fun k => selvageref10_Has.mono _ _ k) 4 8 _ (no_has h 97)
theorem has_b (op : Int) : selvageref10_Has.f 12 op 98 = some (hasB op) := by
  by_cases h : 1 ≤ op ∧ op ≤ 18
  · rcases kinds18 h with rfl | rfl | rfl | rfl | rfl | rfl | rfl | rfl | rfl | rfl | rfl | rfl | rfl | rfl | rfl | rfl | rfl | rfl <;> decide +kernel
  · rw [show hasB op = false from not_in h _ (by decide)]
    exact leo_add (f := fun k => selvageref10_Has.f k op 98) (fun k => selvageref10_Has.mono _ _ k) 4 8 _ (no_has h 98)
theorem has_t (op : Int) : selvageref10_Has.f 12 op 116 = some (hasTo op) := by
  by_cases h : 1 ≤ op ∧ op ≤ 18
  · rcases kinds18 h with rfl | rfl | rfl | rfl | rfl | rfl | rfl | rfl | rfl | rfl | rfl | rfl | rfl | rfl | rfl | rfl | rfl | rfl <;> decide +kernel
  · rw [show hasTo op = false from not_in h _ (by decide)]
    exact leo_add (f := fun k => selvageref10_Has.f k op 116) (fun k => selvageref10_Has.mono _ _ k) 4 8 _ (no_has h 116)
theorem has_more {op c : Int} {b : Bool} (h : selvageref10_Has.f 12 op c = some b) (k : Nat) (hk : 12 ≤ k) : selvageref10_Has.f k op c = some b := by
  have := leo_add (f := fun k => selvageref10_Has.f k op c) (fun k => selvageref10_Has.mono _ _ k) 12 (k - 12) _ h
  rwa [show 12 + (k - 12) = k from by omega] at this
/-- Whatever the fuel: if it says something, it says this. -/
theorem has_only {op c : Int} {b r : Bool} (h : selvageref10_Has.f 12 op c = some b) {k : Nat} (hr : selvageref10_Has.f k op c = some r) : r = b := by
  have h1 := leo_add (f := fun k => selvageref10_Has.f k op c) (fun k => selvageref10_Has.mono _ _ k) k 12 _ hr
  have h2 := has_more h (k + 12) (by omega)
  rw [h2] at h1
  exact (Option.some.inj h1).symm
end Go.Proofs.Ytaoefdbhfhcplaa.Q
