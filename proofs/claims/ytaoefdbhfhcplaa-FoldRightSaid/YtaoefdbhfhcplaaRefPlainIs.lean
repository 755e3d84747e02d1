/- The reference's plain says what tree.Right asks of a piece by itself. -/
import Derived.Test.YtaoefdbhfhcplaaRefGood
namespace Go.Proofs.Ytaoefdbhfhcplaa.Q
open Go.RowKit Go.Proofs.YtaoefdbhfhcplaaW.PrintWords Go.Proofs.YtaoefdbhfhcplaaW.PrintLast Go.Proofs.YtaoefdbhfhcplaaW.PrintMore Go.Proofs.Ytaoefdbhfhcplaa.IM
set_option linter.unusedVariables false
set_option linter.unusedSimpArgs false

def hasOne (op : Int) : Bool := [6, 7].contains op
theorem has_k (op : Int) : selvageref10_Has.f 12 op 107 = some (hasK op) := by
  by_cases h : 1 ≤ op ∧ op ≤ 18
  · rcases kinds18 h with rfl | rfl | rfl | rfl | rfl | rfl | rfl | rfl | rfl | rfl | rfl | rfl | rfl | rfl | rfl | rfl | rfl | rfl <;> decide +kernel
  · have e : hasK op = false := by unfold hasK; rw [beq_eq_false_iff_ne]; omega
    rw [e]
    exact leo_add (f := fun k => selvageref10_Has.f k op 107) (fun k => selvageref10_Has.mono _ _ k) 4 8 _ (no_has h 107)
theorem has_l (op : Int) : selvageref10_Has.f 12 op 108 = some (hasOne op) := by
  by_cases h : 1 ≤ op ∧ op ≤ 18
  · rcases kinds18 h with rfl | rfl | rfl | rfl | rfl | rfl | rfl | rfl | rfl | rfl | rfl | rfl | rfl | rfl | rfl | rfl | rfl | rfl <;> decide +kernel
  · rw [show hasOne op = false from not_in h _ (by decide)]
    exact leo_add (f := fun k => selvageref10_Has.f k op 108) (fun k => selvageref10_Has.mono _ _ k) 4 8 _ (no_has h 108)
theorem has_m (op : Int) : selvageref10_Has.f 12 op 109 = some (hasAtomic op) := by
  by_cases h : 1 ≤ op ∧ op ≤ 18
  · rcases kinds18 h with rfl | rfl | rfl | rfl | rfl | rfl | rfl | rfl | rfl | rfl | rfl | rfl | rfl | rfl | rfl | rfl | rfl | rfl <;> decide +kernel
  · rw [show hasAtomic op = false from not_in h _ (by decide)]
    exact leo_add (f := fun k => selvageref10_Has.f k op 109) (fun k => selvageref10_Has.mono _ _ k) 4 8 _ (no_has h 109)
theorem has_r (op : Int) : selvageref10_Has.f 12 op 114 = some (hasRow op) := by
  by_cases h : 1 ≤ op ∧ op ≤ 18
  · rcases kinds18 h with rfl | rfl | rfl | rfl | rfl | rfl | rfl | rfl | rfl | rfl | rfl | rfl | rfl | rfl | rfl | rfl | rfl | rfl <;> decide +kernel
  · rw [show hasRow op = false from not_in h _ (by decide)]
    exact leo_add (f := fun k => selvageref10_Has.f k op 114) (fun k => selvageref10_Has.mono _ _ k) 4 8 _ (no_has h 114)
theorem letters_is (op : Int) : ∃ s : ByteArray, selvageref10_letters.f 12 op = some s ∧ (s.toList = ([] : List UInt8) ↔ isKind op = false) := by
  by_cases h : 1 ≤ op ∧ op ≤ 18
  · rcases kinds18 h with rfl | rfl | rfl | rfl | rfl | rfl | rfl | rfl | rfl | rfl | rfl | rfl | rfl | rfl | rfl | rfl | rfl | rfl <;> exact ⟨_, rfl, by decide +kernel⟩
  · have e : isKind op = false := by unfold isKind; simp; omega
    exact ⟨_, leo_add (f := fun k => selvageref10_letters.f k op) (fun k => selvageref10_letters.mono _ k) 4 8 _ (no_letters h), by rw [e]; exact ⟨fun _ => rfl, fun _ => by decide +kernel⟩⟩
theorem place_kinds (op : Int) : (hasPlace op = false ∧ hasOne op = false ∧ hasAtomic op = false ∧ hasRow op = false) ∨ (hasPlace op = true ∧ hasOne op = true ∧ hasAtomic op = false ∧ hasRow op = false) ∨
    (hasPlace op = true ∧ hasOne op = false ∧ hasAtomic op = true ∧ hasRow op = false) ∨ (hasPlace op = true ∧ hasOne op = false ∧ hasAtomic op = false ∧ hasRow op = true) := by
  by_cases h : 1 ≤ op ∧ op ≤ 18
  · rcases kinds18 h with rfl | rfl | rfl | rfl | rfl | rfl | rfl | rfl | rfl | rfl | rfl | rfl | rfl | rfl | rfl | rfl | rfl | rfl <;> decide +kernel
  · exact .inl ⟨not_in h _ (by decide), not_in h _ (by decide), not_in h _ (by decide), not_in h _ (by decide)⟩
theorem field_is (b : Bool) (n : Int) : selvageref10_field.f b n = some (tempB b n) := by
  unfold selvageref10_field.f tempB
  cases b
  · simp
  · simp only [if_true]
    by_cases h : n ≥ 0
    · rw [if_pos h]; simp [h]; constructor <;> intro h <;> omega
    · rw [if_neg h]; simp; intro h2; omega

section
variable (l : List S80) (hl : l.length ≤ 16)
include hl
theorem pl_l0 (b : Bool) (to_ : Int) (hto : to_ ≤ 40) : ∀ (d i m : Nat), (to_ + 1 - i).toNat = d → d < m →
    selvageref10_plainK.l0 m l b to_ i = some (if to_ < i then true else decide (to_ < l.length) && ((l.take (to_ + 1).toNat).drop i).all (fun y => y.f0 == b)) := by
  intro d
  induction d with
  | zero =>
    intro i m hd hm
    obtain ⟨m, rfl⟩ : ∃ q, m = q + 1 := ⟨m - 1, by omega⟩
    rw [selvageref10_plainK.l0, if_neg (by omega), if_pos (by omega)]
  | succ d ih =>
    intro i m hd hm
    obtain ⟨m, rfl⟩ : ∃ q, m = q + 1 := ⟨m - 1, by omega⟩
    rw [selvageref10_plainK.l0, if_pos (show (i : Int) ≤ to_ by omega), if_neg (show ¬ to_ < (i : Int) by omega)]
    by_cases h1 : (i : Int) ≥ (l.length : Int)
    · rw [if_pos h1, show decide (to_ < (l.length : Int)) = false from decide_eq_false (by omega)]; rfl
    · rw [if_neg h1, if_pos (by omega), if_pos (by omega), w_one (by omega), ih (i + 1) m (by omega) (by omega)]
      by_cases h2 : to_ < (l.length : Int)
      · have hlen : i < (l.take (to_ + 1).toNat).length := by simp; omega
        rw [decide_eq_true h2, Bool.true_and, List.drop_eq_getElem_cons hlen, List.all_cons]
        have hr : rd_T80 l (i : Int) = (l.take (to_ + 1).toNat)[i]'hlen := by
          simp [rd_T80, List.getD_eq_getElem?_getD, List.getElem?_eq_getElem (show i < l.length by omega)]
        rw [hr]
        generalize (l.take (to_ + 1).toNat)[i]'hlen = y
        by_cases e : y.f0 = b
        · rw [if_neg (by simp [e])]
          by_cases h3 : to_ < ((i + 1 : Nat) : Int)
          · rw [if_pos h3, List.drop_of_length_le (by simp; omega)]; simp [e]
          · rw [if_neg h3]; simp [e]
        · rw [if_pos (by simpa using e)]; simp [e]
      · rw [decide_eq_false h2]
        split
        · rfl
        · rw [if_neg (by omega)]; rfl
theorem pl_j1 (f0 f1 f2 f3 f4 f5 f6 f7 : Int) (m : Nat) (hm : 50 ≤ m) : selvageref10_plainK.j1 m l f0 f1 f2 f3 f4 f5 f6 f7 = some (placesB f0 f4 f5 l) := by
  obtain ⟨m, rfl⟩ : ∃ q, m = q + 6 := ⟨m - 6, by omega⟩
  rw [selvageref10_plainK.j1, has_more (has_l f0) (m + 5) (by omega), has_more (has_m f0) (m + 5) (by omega), has_more (has_r f0) (m + 5) (by omega)]
  simp only [Option.bind_some]
  unfold placesB rowB
  -- one place, of a kind
  have one : ∀ b : Bool, selvageref10_plainK.j3 (m + 4) l b false false f0 f1 f2 f3 f4 f5 f6 f7 =
      some (decide ((1 : Int) ≤ 1) && decide ((1 : Int) ≤ (l.length : Int)) && decide (0 ≤ f4) && decide (f4 + 1 ≤ (l.length : Int)) && ((l.take (f4 + 1).toNat).drop f4.toNat).all (fun y => y.f0 == b)) := by
    intro b
    rw [selvageref10_plainK.j3, if_neg (by simp)]
    by_cases h0 : f4 < 0
    · rw [if_pos h0, selvageref10_plainK.j4, if_pos rfl, show decide (0 ≤ f4) = false from decide_eq_false (by omega)]; simp
    · rw [if_neg h0, selvageref10_plainK.j4]
      by_cases h1 : f4 ≥ (l.length : Int)
      · rw [if_pos (by simpa using h1), show decide (f4 + 1 ≤ (l.length : Int)) = false from decide_eq_false (by omega)]; simp
      · rw [if_neg (by simpa using h1), if_neg (by simp), selvageref10_plainK.j5]
        obtain ⟨i, hi⟩ : ∃ i : Nat, f4 = i := ⟨f4.toNat, by omega⟩
        subst hi
        rw [pl_l0 l hl b i (by omega) 1 i (m + 1) (by omega) (by omega), if_neg (by omega), decide_eq_true (show (i : Int) < (l.length : Int) by omega), decide_eq_true (show (1 : Int) ≤ (l.length : Int) by omega), decide_eq_true (show (0 : Int) ≤ (i : Int) by omega), decide_eq_true (show (i : Int) + 1 ≤ (l.length : Int) by omega), Int.toNat_natCast]
        simp
  rcases place_kinds f0 with ⟨p, o, a, r⟩ | ⟨p, o, a, r⟩ | ⟨p, o, a, r⟩ | ⟨p, o, a, r⟩ <;> rw [p, o, a, r]
  · -- none
    simp only [Bool.false_eq_true, if_false]
    by_cases h : f5 = 0
    · rw [if_pos h, selvageref10_plainK.j2, if_neg (by simp), if_neg (by simp), if_neg (by simp), selvageref10_plainK.j3, if_pos (by simp), h]; simp
    · rw [if_neg h, selvageref10_plainK.j2, if_pos rfl]; simp [h]
  · simp only [Bool.false_eq_true, if_false, if_true, Bool.false_or]
    by_cases h : f5 = 0
    · rw [if_pos h, selvageref10_plainK.j2, if_neg (by simp), if_pos rfl, one false, h]; simp
    · rw [if_neg h, selvageref10_plainK.j2, if_pos rfl]; simp [h]
  · simp only [Bool.false_eq_true, if_false, if_true, Bool.false_or]
    by_cases h : f5 = 0
    · rw [if_pos h, selvageref10_plainK.j2, if_neg (by simp), if_neg (by simp), if_pos rfl, one true, h]; simp
    · rw [if_neg h, selvageref10_plainK.j2, if_pos rfl]; simp [h]
  · simp only [if_true, Bool.true_or, Bool.true_and]
    by_cases h1 : f5 < 1
    · rw [if_pos h1, selvageref10_plainK.j2, if_pos rfl, show decide (1 ≤ f5) = false from decide_eq_false (by omega)]; simp
    · rw [if_neg h1, selvageref10_plainK.j2]
      by_cases h2 : f5 > 16
      · rw [if_pos (by simpa using h2), show decide (f5 ≤ (l.length : Int)) = false from decide_eq_false (by omega)]; simp
      · rw [if_neg (by simpa using h2), if_neg (by simp), if_neg (by simp), selvageref10_plainK.j3, if_neg (by simp)]
        by_cases h3 : f4 < 0
        · rw [if_pos h3, selvageref10_plainK.j4, if_pos rfl, show decide (0 ≤ f4) = false from decide_eq_false (by omega)]; simp
        · rw [if_neg h3, selvageref10_plainK.j4]
          by_cases h4 : f4 ≥ (l.length : Int)
          · rw [if_pos (by simpa using h4), show decide (f4 + f5 ≤ (l.length : Int)) = false from decide_eq_false (by omega)]; simp
          · rw [if_neg (by simpa using h4), if_pos rfl, selvageref10_plainK.j5]
            obtain ⟨i, hi⟩ : ∃ i : Nat, f4 = i := ⟨f4.toNat, by omega⟩
            subst hi
            have e1 : wrap64 (wrap64 ((i : Int) + f5) - 1) = (i : Int) + f5 - 1 := by unfold wrap64; omega
            rw [e1, pl_l0 l hl false ((i : Int) + f5 - 1) (by omega) f5.toNat i (m + 1) (by omega) (by omega), if_neg (by omega), decide_eq_true (show 1 ≤ f5 by omega), decide_eq_true (show (0 : Int) ≤ (i : Int) by omega), Int.toNat_natCast, show (i : Int) + f5 - 1 + 1 = (i : Int) + f5 from by omega]
            by_cases h5 : (i : Int) + f5 ≤ (l.length : Int)
            · rw [decide_eq_true (show (i : Int) + f5 - 1 < (l.length : Int) by omega), decide_eq_true (show f5 ≤ (l.length : Int) by omega), decide_eq_true h5]; simp
            · rw [decide_eq_false (show ¬ (i : Int) + f5 - 1 < (l.length : Int) by omega), decide_eq_false h5]; simp
theorem plain_is (x : S39) (i n : Nat) (hi : i ≤ 100000) (hn : 1 ≤ n ∧ n ≤ 100000) : selvageref10_plain.f x.f0 x.f1 x.f2 x.f3 x.f4 x.f5 x.f6 x.f7 i n l = some (plainB l n i x) := by
  obtain ⟨f0, f1, f2, f3, f4, f5, f6, f7⟩ := x
  unfold selvageref10_plain.f selvageref10_plainK.f plainB pieceA pieceTo
  dsimp only
  have bad : selvageref10_plainK.j0 60 i n l true f0 f1 f2 f3 f4 f5 f6 f7 = some false := by rw [selvageref10_plainK.j0, if_pos rfl]
  have good : selvageref10_plainK.j0 60 i n l false f0 f1 f2 f3 f4 f5 f6 f7 = some (placesB f0 f4 f5 l && (if hasTo f0 then decide ((i : Int) + 1 < f7) && decide (f7 < n) else f7 == 0)) := by
    rw [selvageref10_plainK.j0, if_neg (by simp), has_more (has_t f0) 59 (by omega), Option.bind_some]
    have e1 : wrap64 ((i : Int) + 1) = (i : Int) + 1 := by unfold wrap64; omega
    have e2 : wrap64 ((n : Int) - 1) = (n : Int) - 1 := by unfold wrap64; omega
    rw [e1, e2, pl_j1 l hl f0 f1 f2 f3 f4 f5 f6 f7 59 (by omega)]
    cases hasTo f0 with
    | true =>
      simp only [if_true]
      by_cases c1 : f7 ≤ (i : Int) + 1
      · rw [if_pos c1, decide_eq_false (show ¬ (i : Int) + 1 < f7 by omega)]; simp
      · rw [if_neg c1]
        by_cases c2 : f7 > (n : Int) - 1
        · rw [if_pos c2, decide_eq_false (show ¬ f7 < (n : Int) by omega)]; simp
        · rw [if_neg c2, decide_eq_true (show (i : Int) + 1 < f7 by omega), decide_eq_true (show f7 < (n : Int) by omega)]; simp
    | false =>
      simp only [Bool.false_eq_true, if_false]
      by_cases c : f7 = 0
      · rw [if_pos c, c]; simp
      · rw [if_neg c]; simp [c]
  obtain ⟨s, hs, hsk⟩ := letters_is f0
  have hs' := leo_to (f := fun k => selvageref10_letters.f k f0) (fun k => selvageref10_letters.mono _ k) hs 60 (by omega)
  have hs2 : selvageref10_letters.f 60 f0 = some s := hs'
  rw [hs2, Option.bind_some, has_more (has_d f0) 60 (by omega), has_more (has_a f0) 60 (by omega), has_more (has_b f0) 60 (by omega), has_more (has_k f0) 60 (by omega)]
  simp only [Option.bind_some, field_is]
  rw [bad, good]
  cases hk : isKind f0 with
  | false => rw [if_pos (hsk.2 hk)]; simp
  | true =>
    rw [if_neg (fun h => by rw [hsk.1 h] at hk; cases hk)]
    cases tempB (hasD f0) f1 with
    | false => simp
    | true =>
      cases tempB (hasA f0) f2 with
      | false => simp
      | true =>
        cases tempB (hasB f0) f3 with
        | false => simp
        | true =>
          simp only [if_true, Bool.true_and]
          by_cases c : f6 = 0
          · rw [if_pos c, c]; simp
          · rw [if_neg c]
            cases hasK f0 with
            | true => simp [good]
            | false => simp [bad, c]
end
end Go.Proofs.Ytaoefdbhfhcplaa.Q
