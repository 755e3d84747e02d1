/- What the reference's Right asks of code, told by its own steps; it is what tree.Right asks. -/
import Derived.Test.YtaoefdbhfhcplaaRefHas
import Derived.Test.YtaoefdbhfhcplaaRefPlainDef
import Derived.Test.YtaoefdbhfhcplaaGood
import Derived.Test.YtaoefdbhfhcplaaQ6
namespace Go.Proofs.Ytaoefdbhfhcplaa.Q
open Go.RowKit Go.Proofs.YtaoefdbhfhcplaaW.PrintWords Go.Proofs.YtaoefdbhfhcplaaW.PrintLast Go.Proofs.YtaoefdbhfhcplaaW.PrintMore Go.Proofs.Ytaoefdbhfhcplaa.IM
set_option linter.unusedVariables false
set_option linter.unusedSimpArgs false

/-! ### Before -/
def beforeL (code : List S39) (i : Nat) : List Int := ((List.range code.length).filter (fun k => decide (k < i) && isPred code k i)).map (fun k : Nat => (k : Int))
theorem leo_to {α : Type} {f : Nat → Option α} (h : ∀ k, LeO (f k) (f (k + 1))) {k : Nat} {r : α} (hr : f k = some r) (m : Nat) (hm : k ≤ m) : f m = some r := by
  have := leo_add h k (m - k) r hr
  rwa [show k + (m - k) = m from by omega] at this
theorem before_from (code : List S39) (i : Nat) (hi : i ≤ 400) (hn : code.length ≤ 400) : ∀ d j : Nat, j + d = code.length → ∀ L : List Int, L.length ≤ j →
    ∃ K, selvageref10_Before.l0 K code i L j = some (L ++ ((List.range' j d).filter (fun k => decide (k < i) && isPred code k i)).map (fun k : Nat => (k : Int))) := by
  intro d
  induction d with
  | zero =>
    intro j hj L hL
    exact ⟨2, by rw [selvageref10_Before.l0, if_neg (by omega), selvageref10_Before.j1, if_neg (by simp)]; simp⟩
  | succ d ih =>
    intro j hj L hL
    rw [List.range'_succ, List.filter_cons]
    by_cases hji : (j : Int) < i
    · have hjn : j < i := by omega
      obtain ⟨k1, h1⟩ := ih (j + 1) (by omega) L (by omega)
      obtain ⟨k2, h2⟩ := ih (j + 1) (by omega) (L ++ [(j : Int)]) (by simp; omega)
      have a1 := leo_to (f := fun k => selvageref10_Before.l0 k code i L ((j + 1 : Nat) : Int)) (fun k => (selvageref10_Before.mono_l k).1 _ _ _ _) h1 (k1 + k2 + 12) (by omega)
      have a2 := leo_to (f := fun k => selvageref10_Before.l0 k code i (L ++ [(j : Int)]) ((j + 1 : Nat) : Int)) (fun k => (selvageref10_Before.mono_l k).1 _ _ _ _) h2 (k1 + k2 + 12) (by omega)
      have a3 := has_more (has_t (rd_T39 code j).f0) (k1 + k2 + 12) (by omega)
      have e1 : wrap64 ((i : Int) - 1) = (i : Int) - 1 := by unfold wrap64; omega
      refine ⟨k1 + k2 + 12 + 1 + 1, ?_⟩
      rw [selvageref10_Before.l0, if_pos (by omega), selvageref10_Before.j1, if_pos (by simpa using hji), w_one (by omega), a3, a1, a2, e1]
      simp only [Option.bind_some, if_pos (show (0 : Int) ≤ (j : Int) by omega), if_pos (show (j : Int) < (code.length : Int) by omega), if_pos (show L.length < 17592186044416 by omega), hjn, decide_true, Bool.true_and]
      have q : isPred code j i = (decide ((j : Int) = (i : Int) - 1) && (rd_T39 code j).f0 != 18 || hasTo (rd_T39 code j).f0 && (rd_T39 code j).f7 == (i : Int)) := by
        unfold isPred
        have : (j + 1 == i) = decide ((j : Int) = (i : Int) - 1) := by rw [Bool.eq_iff_iff]; simp; omega
        rw [this]
      rw [q]
      by_cases c1 : (j : Int) = (i : Int) - 1
      · have dd : decide ((j : Int) = (i : Int) - 1) = true := decide_eq_true c1
        rw [if_pos c1, dd]
        clear c1 dd
        by_cases c2 : (rd_T39 code j).f0 = 18
        · cases c3 : hasTo (rd_T39 code j).f0 with
          | true => exact absurd (by rw [← c3, c2]; decide) (show ¬ (true = false) by decide)
          | false => simp [c2, c3]
        · simp [c2]
      · have dd : decide ((j : Int) = (i : Int) - 1) = false := decide_eq_false c1
        rw [if_neg c1, dd]
        clear c1 dd
        cases c3 : hasTo (rd_T39 code j).f0 with
        | false => simp [c3]
        | true =>
          by_cases c4 : (rd_T39 code j).f7 = (i : Int)
          · simp [c3, c4]
          · simp [c3, c4]
    · obtain ⟨k1, h1⟩ := ih (j + 1) (by omega) L (by omega)
      refine ⟨2, ?_⟩
      rw [selvageref10_Before.l0, if_pos (by omega), selvageref10_Before.j1, if_neg (by simpa using hji)]
      have none_ : ∀ (d' j' : Nat), i ≤ j' → (List.range' j' d').filter (fun k => decide (k < i) && isPred code k i) = [] := by
        intro d' j' hj'
        rw [List.filter_eq_nil_iff]
        intro k hk
        have := List.mem_range'_1.1 hk
        simp; omega
      rw [none_ d (j + 1) (by omega), show (decide (j < i) && isPred code j i) = false from by simp; omega]
      simp
theorem before_is (code : List S39) (i : Nat) (hi : i ≤ 400) (hn : code.length ≤ 400) : ∃ K, selvageref10_Before.f K code i = some (beforeL code i) := by
  obtain ⟨K, h⟩ := before_from code i hi hn code.length 0 (by omega) [] (by simp)
  refine ⟨K, ?_⟩
  unfold selvageref10_Before.f beforeL
  rw [List.range_eq_range']
  simpa using h

/-! ### the reference's steps -/
def plainB (l : List S80) (n i : Nat) (x : S39) : Bool := pieceA l x && pieceTo n i x
def uB (code : List S39) (i y : Nat) : Bool := !(hasD (rd_T39 code i).f0 && hasD (rd_T39 code y).f0 && (rd_T39 code i).f1 == (rd_T39 code y).f1)
def q1 (code : List S39) (l : List S80) (i : Nat) : Bool := plainB l code.length i (rd_T39 code i) && upTo (uB code i) i
def prd (code : List S39) (x : Nat) : Nat := (rd (beforeL code x) 0).toNat
def clF (code : List S39) (i : Nat) : Nat → Bool → Bool → Nat → Bool × Bool
  | 0, a, b, _ => (a, b)
  | k + 1, a, b, x =>
    if x = 0 then (a, b)
    else if hasD (rd_T39 code (prd code x)).f0 then clF code i k (a || (rd_T39 code (prd code x)).f1 == (rd_T39 code i).f2) (b || (rd_T39 code (prd code x)).f1 == (rd_T39 code i).f3) (prd code x)
    else clF code i k a b (prd code x)
def okWay (code : List S39) (i : Nat) : Bool := i == 0 || (beforeL code i).length == 1
def okUse (code : List S39) (i : Nat) : Bool := (clF code i i (!hasA (rd_T39 code i).f0) (!hasB (rd_T39 code i).f0) i).1 && (clF code i i (!hasA (rd_T39 code i).f0) (!hasB (rd_T39 code i).f0) i).2
def q2 (code : List S39) (i : Nat) : Bool := okWay code i && okUse code i
def refB (code : List S39) (l : List S80) : Bool :=
  decide (1 ≤ code.length) && decide (code.length ≤ 400) && (rd_T39 code ((code.length : Int) - 1)).f0 == 18 && upTo (q1 code l) code.length && upTo (q2 code) code.length

theorem prd_of {code : List S39} {x : Nat} (h : (beforeL code x).length = 1) : rd (beforeL code x) 0 = (prd code x : Int) ∧ prd code x < x ∧ prd code x < code.length ∧ isPred code (prd code x) x = true := by
  unfold prd
  have hm : rd (beforeL code x) 0 ∈ beforeL code x := by
    cases hb : beforeL code x with
    | nil => rw [hb] at h; simp at h
    | cons y ys => simp [rd]
  obtain ⟨k, hk, he⟩ := List.mem_map.1 hm
  obtain ⟨hk1, hk2⟩ := List.mem_filter.1 hk
  rw [← he]
  simp only [Bool.and_eq_true, decide_eq_true_eq] at hk2
  rw [Int.toNat_natCast]
  exact ⟨rfl, hk2.1, List.mem_range.1 hk1, hk2.2⟩
theorem before_len {code : List S39} {j : Nat} (ht : ∀ i : Nat, i < code.length → pieceTo code.length i (rd_T39 code i) = true) : (beforeL code j).length = nWays code j code.length := by
  unfold beforeL
  rw [List.length_map]
  have : ∀ n : Nat, n ≤ code.length → ((List.range n).filter (fun k => decide (k < j) && isPred code k j)).length = nWays code j n := by
    intro n
    induction n with
    | zero => intro _; rfl
    | succ n ih =>
      intro hn
      rw [List.range_succ, List.filter_append, List.length_append, ih (by omega)]
      simp only [nWays]
      by_cases h : isPred code n j = true
      · have := pred_lt (ht n (by omega)) h
        simp [h, this]
      · simp [h]
  exact this code.length (Nat.le_refl _)
theorem one_pred {code : List S39} (ht : ∀ i : Nat, i < code.length → pieceTo code.length i (rd_T39 code i) = true) {x : Nat} (h : (beforeL code x).length = 1) {k : Nat} (hk : k < code.length) (hp : isPred code k x = true) : k = prd code x := by
  obtain ⟨_, _, p3, p4⟩ := prd_of h
  rw [before_len ht] at h
  obtain ⟨p, _, _, hall⟩ := (nWays_one code.length).1 h
  rw [hall k hk hp, hall _ p3 p4]
theorem ancD_prd {code : List S39} (ht : ∀ i : Nat, i < code.length → pieceTo code.length i (rd_T39 code i) = true) {x : Nat} (h : (beforeL code x).length = 1) (t : Int) :
    AncD code x t ↔ (hasD (rd_T39 code (prd code x)).f0 = true ∧ (rd_T39 code (prd code x)).f1 = t) ∨ AncD code (prd code x) t := by
  obtain ⟨p1, p2, p3, p4⟩ := prd_of h
  constructor
  · intro ⟨y, h1, h2, h3, h4⟩
    cases h1 with
    | one hy hp => have := one_pred ht h hy hp; subst this; exact .inl ⟨h3, h4⟩
    | more hk hp h5 => have := one_pred ht h hk hp; rw [this] at h5; exact .inr ⟨y, h5, h2, h3, h4⟩
  · intro h
    rcases h with ⟨h1, h2⟩ | ⟨y, h1, h2, h3, h4⟩
    · exact ⟨prd code x, .one p3 p4, p3, h1, h2⟩
    · exact ⟨y, .more p3 p4 h1, h2, h3, h4⟩
theorem ancD_zero {code : List S39} (ht : ∀ i : Nat, i < code.length → pieceTo code.length i (rd_T39 code i) = true) (t : Int) : ¬ AncD code 0 t := by
  intro ⟨y, h1, _⟩
  have := anc_lt ht h1; omega
theorem clF_iff {code : List S39} (ht : ∀ i : Nat, i < code.length → pieceTo code.length i (rd_T39 code i) = true) {i : Nat} (hw : ∀ x : Nat, 0 < x → x ≤ i → (beforeL code x).length = 1) :
    ∀ (k x : Nat) (a b : Bool), x ≤ i → x ≤ k → ((clF code i k a b x).1 = true ↔ a = true ∨ AncD code x (rd_T39 code i).f2) ∧ ((clF code i k a b x).2 = true ↔ b = true ∨ AncD code x (rd_T39 code i).f3) := by
  have z : ∀ (a : Bool) (t : Int), a = true ↔ a = true ∨ AncD code 0 t := fun a t => ⟨.inl, fun h => h.elim id (fun h => absurd h (ancD_zero ht t))⟩
  intro k
  induction k with
  | zero =>
    intro x a b hx hk
    have : x = 0 := by omega
    subst this
    exact ⟨z a _, z b _⟩
  | succ k ih =>
    intro x a b hx hk
    simp only [clF]
    by_cases h0 : x = 0
    · subst h0
      rw [if_pos rfl]
      exact ⟨z a _, z b _⟩
    · rw [if_neg h0]
      have hl := hw x (by omega) hx
      obtain ⟨p1, p2, p3, p4⟩ := prd_of hl
      rw [ancD_prd ht hl, ancD_prd ht hl]
      cases hd : hasD (rd_T39 code (prd code x)).f0 with
      | true =>
        rw [if_pos rfl]
        obtain ⟨i1, i2⟩ := ih (prd code x) (a || (rd_T39 code (prd code x)).f1 == (rd_T39 code i).f2) (b || (rd_T39 code (prd code x)).f1 == (rd_T39 code i).f3) (by omega) (by omega)
        rw [i1, i2]
        simp only [Bool.or_eq_true, beq_iff_eq, true_and, or_assoc, and_self]
      | false =>
        rw [if_neg (by simp)]
        obtain ⟨i1, i2⟩ := ih (prd code x) a b (by omega) (by omega)
        rw [i1, i2]
        constructor <;> constructor <;> intro h
        · exact h.imp id .inr
        · exact h.imp id (fun h => h.elim (fun h => absurd h.1 (by simp)) id)
        · exact h.imp id .inr
        · exact h.imp id (fun h => h.elim (fun h => absurd h.1 (by simp)) id)
theorem refB_iff (code : List S39) (l : List S80) : refB code l = true ↔ Good code l := by
  unfold refB
  simp only [Bool.and_eq_true, decide_eq_true_eq, beq_iff_eq]
  have use_iff : (∀ i : Nat, i < code.length → pieceTo code.length i (rd_T39 code i) = true) → ∀ i : Nat, i < code.length → (∀ x : Nat, 0 < x → x ≤ i → (beforeL code x).length = 1) →
      (okUse code i = true ↔ (hasA (rd_T39 code i).f0 = true → AncD code i (rd_T39 code i).f2) ∧ (hasB (rd_T39 code i).f0 = true → AncD code i (rd_T39 code i).f3)) := by
    intro ht i hi hw
    unfold okUse
    obtain ⟨c1, c2⟩ := clF_iff ht hw i i (!hasA (rd_T39 code i).f0) (!hasB (rd_T39 code i).f0) (Nat.le_refl _) (Nat.le_refl _)
    rw [Bool.and_eq_true, c1, c2]
    cases hasA (rd_T39 code i).f0 <;> cases hasB (rd_T39 code i).f0 <;> simp
  constructor
  · intro ⟨⟨⟨⟨h1, h2⟩, h3⟩, h4⟩, h5⟩
    have h4' := (upTo_iff _ _).1 h4
    have h5' := (upTo_iff _ _).1 h5
    have hp : ∀ i : Nat, i < code.length → pieceA l (rd_T39 code i) = true ∧ pieceTo code.length i (rd_T39 code i) = true := fun i hi => by
      have := h4' i hi
      simp only [q1, plainB, Bool.and_eq_true] at this
      exact this.1
    have hto := fun i hi => (hp i hi).2
    have hun1 : ∀ i : Nat, i < code.length → ∀ y : Nat, y < i → hasD (rd_T39 code i).f0 = true → hasD (rd_T39 code y).f0 = true → (rd_T39 code i).f1 ≠ (rd_T39 code y).f1 := fun i hi y hy d1 d2 he => by
      have := h4' i hi
      simp only [q1, Bool.and_eq_true] at this
      have := (upTo_iff _ _).1 this.2 y hy
      simp [uB, d1, d2, he] at this
    have hlen : ∀ x : Nat, 0 < x → x < code.length → (beforeL code x).length = 1 := fun x h0 hx => by
      have := h5' x hx
      simp only [q2, okWay, Bool.and_eq_true, Bool.or_eq_true, beq_iff_eq] at this
      rcases this.1 with h | h
      · omega
      · exact h
    refine ⟨h1, h2, h3, fun i hi => (hp i hi).1, hto, ?_, fun j h0 hj => ?_, fun i hi => ?_⟩
    · intro i j hi hj d1 d2 he
      rcases Nat.lt_trichotomy i j with h | h | h
      · exact absurd he.symm (hun1 j hj i h d2 d1)
      · exact h
      · exact absurd he (hun1 i hi j h d1 d2)
    · have := hlen j h0 hj
      rw [before_len hto] at this
      exact (nWays_one code.length).1 this
    · have := h5' i hi
      simp only [q2, Bool.and_eq_true] at this
      exact (use_iff hto i hi (fun x a b => hlen x a (by omega))).1 this.2
  · intro hg
    have hlen : ∀ x : Nat, 0 < x → x < code.length → (beforeL code x).length = 1 := fun x h0 hx => by
      rw [before_len hg.to_]
      exact (nWays_one code.length).2 (hg.way x h0 hx)
    refine ⟨⟨⟨⟨hg.len1, hg.len2⟩, hg.last⟩, (upTo_iff _ _).2 fun i hi => ?_⟩, (upTo_iff _ _).2 fun i hi => ?_⟩
    · simp only [q1, plainB, Bool.and_eq_true]
      refine ⟨⟨hg.piece i hi, hg.to_ i hi⟩, (upTo_iff _ _).2 fun y hy => ?_⟩
      unfold uB
      cases d1 : hasD (rd_T39 code i).f0 with
      | false => rfl
      | true =>
        cases d2 : hasD (rd_T39 code y).f0 with
        | false => rfl
        | true =>
          have : (rd_T39 code i).f1 ≠ (rd_T39 code y).f1 := fun he => by have := hg.uniq i y hi (by omega) d1 d2 he; omega
          simp [this]
    · simp only [q2, Bool.and_eq_true]
      refine ⟨?_, (use_iff hg.to_ i hi (fun x a b => hlen x a (by omega))).2 (hg.use i hi)⟩
      unfold okWay
      by_cases h0 : i = 0
      · simp [h0]
      · rw [hlen i (by omega) hi]; simp
theorem refB_eq (code : List S39) (l : List S80) : refB code l = rightB code l := by
  rw [Bool.eq_iff_iff, refB_iff, rightB_iff]
end Go.Proofs.Ytaoefdbhfhcplaa.Q
