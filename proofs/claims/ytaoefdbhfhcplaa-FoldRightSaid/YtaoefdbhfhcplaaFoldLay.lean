/- A right tree laid out is right code, and runs as the tree. -/
import Derived.Test.YtaoefdbhfhcplaaFoldTrim2
namespace Go.Proofs.Ytaoefdbhfhcplaa.Q
open Go.RowKit Go.Proofs.YtaoefdbhfhcplaaW.PrintWords Go.Proofs.YtaoefdbhfhcplaaW.PrintLast Go.Proofs.YtaoefdbhfhcplaaW.PrintMore Go.Proofs.Ytaoefdbhfhcplaa.IM
set_option linter.unusedVariables false
set_option linter.unusedSimpArgs false

/-- A piece that goes to j. -/
def goTo (x : S39) (j : Int) : S39 := ⟨x.f0, x.f1, x.f2, x.f3, x.f4, x.f5, x.f6, j⟩
/-- A tree lies in code from place i to place e. -/
def Laid (c : List S39) : FT → Nat → Nat → Prop
  | .leaf, i, e => i = e
  | .node x n s, i, e => ∃ j : Nat, i < e ∧ e ≤ c.length ∧ rd_T39 c i = (if s.isLeaf then x else goTo x j) ∧ Laid c n (i + 1) j ∧ Laid c s j e
theorem laid_le {c : List S39} : ∀ {t : FT} {i e : Nat}, Laid c t i e → e = i + t.size := by
  intro t
  induction t with
  | leaf => intro i e h; have h : i = e := h; simp [FT.size, h]
  | node x n s ihn ihs =>
    intro i e ⟨j, h1, h2, h3, h4, h5⟩
    have := ihn h4; have := ihs h5
    simp only [FT.size]; omega
theorem laid_congr {c c' : List S39} (hl : c.length ≤ c'.length) : ∀ {t : FT} {i e : Nat}, Laid c t i e → (∀ p : Nat, i ≤ p → p < e → rd_T39 c' p = rd_T39 c p) → Laid c' t i e := by
  intro t
  induction t with
  | leaf => intro i e h _; exact h
  | node x n s ihn ihs =>
    intro i e ⟨j, h1, h2, h3, h4, h5⟩ hp
    have l1 := laid_le h4
    have l2 := laid_le h5
    exact ⟨j, h1, by omega, by rw [hp i (Nat.le_refl _) h1]; exact h3, ihn h4 (fun p a b => hp p (by omega) (by omega)), ihs h5 (fun p a b => hp p (by omega) (by omega))⟩
theorem RD_app_left {a b : List S39} {p : Nat} (h : p < a.length) : rd_T39 (a ++ b) p = rd_T39 a p := by
  simp [rd_T39, List.getD_eq_getElem?_getD, List.getElem?_append_left h]
theorem RD_snoc {a : List S39} {x : S39} : rd_T39 (a ++ [x]) a.length = x := by
  simp [rd_T39, List.getD_eq_getElem?_getD]
theorem RD_set {a : List S39} {x : S39} {q p : Nat} : rd_T39 (a.set q x) p = if q = p ∧ q < a.length then x else rd_T39 a p := by
  simp only [rd_T39, List.getD_eq_getElem?_getD, List.getElem?_set, Int.toNat_natCast]
  by_cases h1 : q = p
  · subst h1
    by_cases h2 : q < a.length <;> simp [h2]
  · simp [h1]
theorem lay_laid : ∀ (t : FT) (out : List S39), t.isLeaf = false → (layT t out).length = out.length + t.size ∧ (∀ p : Nat, p < out.length → rd_T39 (layT t out) p = rd_T39 out p) ∧ Laid (layT t out) t out.length (layT t out).length := by
  intro t
  induction t with
  | leaf => intro out h; cases h
  | node x n s ihn ihs =>
    intro out _
    -- what stands behind the next
    have hnx : ∃ o2 : List S39, o2 = (if n.isLeaf then out ++ [x] else layT n (out ++ [x])) ∧ o2.length = out.length + 1 + n.size ∧ (∀ p : Nat, p < out.length → rd_T39 o2 p = rd_T39 out p) ∧ rd_T39 o2 out.length = x ∧ Laid o2 n (out.length + 1) o2.length := by
      refine ⟨_, rfl, ?_⟩
      cases hn : n.isLeaf with
      | true =>
        have : n = .leaf := by cases n with
          | leaf => rfl
          | node => cases hn
        subst this
        exact ⟨by simp [FT.size], fun p hp => by rw [if_pos rfl]; exact RD_app_left hp, by rw [if_pos rfl]; exact RD_snoc, by show _ = _; simp⟩
      | false =>
        obtain ⟨a, b, c⟩ := ihn (out ++ [x]) hn
        simp only [Bool.false_eq_true, if_false]
        have hl : (out ++ [x]).length = out.length + 1 := by simp
        rw [hl] at a c
        exact ⟨a, fun p hp => by rw [b p (by omega)]; exact RD_app_left hp, by rw [b _ (by omega)]; exact RD_snoc, c⟩
    obtain ⟨o2, ho2, l2, p2, x2, d2⟩ := hnx
    simp only [layT]
    rw [← ho2]
    cases hs : s.isLeaf with
    | true =>
      have : s = .leaf := by cases s with
        | leaf => rfl
        | node => cases hs
      subst this
      rw [if_pos rfl]
      refine ⟨by simp only [FT.size]; omega, p2, o2.length, by omega, Nat.le_refl _, ?_, d2, rfl⟩
      rw [x2]; rfl
    | false =>
      simp only [Bool.false_eq_true, if_false]
      obtain ⟨o3, ho3⟩ : ∃ o3, o3 = o2.set out.length (goTo (rd_T39 o2 out.length) o2.length) := ⟨_, rfl⟩
      have e3 : o2.set out.length ⟨(rd_T39 o2 out.length).f0, (rd_T39 o2 out.length).f1, (rd_T39 o2 out.length).f2, (rd_T39 o2 out.length).f3, (rd_T39 o2 out.length).f4, (rd_T39 o2 out.length).f5, (rd_T39 o2 out.length).f6, o2.length⟩ = o3 := by rw [ho3]; rfl
      rw [e3]
      have l3 : o3.length = o2.length := by rw [ho3]; simp
      obtain ⟨a, b, c⟩ := ihs o3 hs
      have r3 : ∀ p : Nat, rd_T39 o3 p = if out.length = p then goTo x o2.length else rd_T39 o2 p := by
        intro p
        rw [ho3, RD_set, x2]
        by_cases e : out.length = p
        · rw [if_pos ⟨e, by omega⟩, if_pos e]
        · rw [if_neg (fun h => e h.1), if_neg e]
      rw [l3] at a b c
      refine ⟨by simp only [FT.size]; omega, fun p hp => ?_, o2.length, by omega, Nat.le_refl _, ?_, ?_, c⟩
      · rw [b p (by omega), r3, if_neg (by omega)]; exact p2 p hp
      · rw [b _ (by omega), r3, if_pos rfl, hs]; rfl
      · refine laid_congr (c := o2) (by omega) d2 fun p h1 h2 => ?_
        rw [b p (by omega), r3, if_neg (by omega)]

/-! ### how it runs -/
theorem step_goTo (x : S39) (j : Int) (s : RunSt) : stepP (goTo x j) s = stepP x s := rfl
theorem step_jump_side {l : List S80} {x : S39} {n s : FT} (h : Shape l (.node x n s)) {st st' : RunSt} (hj : stepP x st = .jump st') : s.isLeaf = false := by
  obtain ⟨_, h2, _⟩ := step_jump (op_of_piece h.1) hj
  cases hs : s.isLeaf with
  | false => rfl
  | true => rw [h.2.2.1.1 hs] at h2; cases h2
theorem laid_run {l : List S80} {c : List S39} : ∀ (t : FT) (i e : Nat) (s : RunSt) (k : Nat), t.isLeaf = false → Shape l t → Laid c t i e → t.size ≤ k → runT t s = runC c k i s := by
  intro t
  induction t with
  | leaf => intro i e s k h; cases h
  | node x n sd ihn ihs =>
    intro i e s k _ hsh hl hk
    obtain ⟨j, h1, h2, h3, h4, h5⟩ := hl
    have l1 := laid_le h4
    have l2 := laid_le h5
    simp only [FT.size] at hk
    obtain ⟨k, rfl⟩ : ∃ q, k = q + 1 := ⟨k - 1, by omega⟩
    simp only [runT, runC]
    have es : stepP (rd_T39 c i) s = stepP x s := by
      rw [h3]; split
      · rfl
      · exact step_goTo _ _ _
    rw [es]
    cases hst : stepP x s with
    | done a st => rfl
    | next s' =>
      obtain ⟨_, h18⟩ := step_next (op_of_piece hsh.1) hst
      have hn : n.isLeaf = false := by
        cases hh : n.isLeaf with
        | false => rfl
        | true => exact absurd (hsh.2.1.1 hh) h18
      dsimp only
      rw [ihn (i + 1) j s' k hn hsh.2.2.2.2.1 h4 (by omega), show ((i + 1 : Nat) : Int) = (i : Int) + 1 from by omega]
    | jump s' =>
      have hs := step_jump_side hsh hst
      dsimp only
      have e7 : (rd_T39 c i).f7 = (j : Int) := by rw [h3, hs]; rfl
      rw [e7]
      exact ihs j e s' k hs hsh.2.2.2.2.2 h5 (by omega)

/-! ### it is right -/
theorem laid_at {c : List S39} : ∀ {t : FT} {i e : Nat}, Laid c t i e → ∀ q : Nat, q < t.size → ∃ y j, t.pre[q]? = some y ∧ (rd_T39 c ((i + q : Nat) : Int) = y ∨ rd_T39 c ((i + q : Nat) : Int) = goTo y j) := by
  intro t
  induction t with
  | leaf => intro i e h q hq; simp [FT.size] at hq
  | node x n s ihn ihs =>
    intro i e ⟨j, h1, h2, h3, h4, h5⟩ q hq
    have l1 := laid_le h4
    simp only [FT.size] at hq
    cases q with
    | zero =>
      refine ⟨x, j, rfl, ?_⟩
      rw [Nat.add_zero, h3]
      split
      · exact .inl rfl
      · exact .inr rfl
    | succ q =>
      simp only [FT.pre, List.getElem?_cons_succ]
      by_cases hlt : q < n.size
      · obtain ⟨y, j', a, b⟩ := ihn h4 q hlt
        refine ⟨y, j', by rw [List.getElem?_append_left (by rw [pre_length]; exact hlt)]; exact a, ?_⟩
        rw [show i + (q + 1) = i + 1 + q from by omega]; exact b
      · obtain ⟨y, j', a, b⟩ := ihs h5 (q - n.size) (by omega)
        refine ⟨y, j', by rw [List.getElem?_append_right (by rw [pre_length]; omega), pre_length]; exact a, ?_⟩
        rw [show i + (q + 1) = j + (q - n.size) from by omega]; exact b
theorem goTo_piece {l : List S80} (x : S39) (j : Int) : pieceA l (goTo x j) = pieceA l x := rfl
/-- What holds of the places in which a tree lies. -/
theorem laid_places {l : List S80} {c : List S39} : ∀ (t : FT) (i e : Nat) (P : Int → Prop), t.isLeaf = false → Shape l t → UsesOK t P → Laid c t i e →
    (∀ p : Nat, i ≤ p → p < e → pieceA l (rd_T39 c p) = true) ∧
    (rd_T39 c ((e : Int) - 1)).f0 = 18 ∧
    (∀ p : Nat, i ≤ p → p < e → ((rd_T39 c p).f0 ≠ 18 → p + 1 < e) ∧ (hasTo (rd_T39 c p).f0 = true → (p : Int) + 1 < (rd_T39 c p).f7 ∧ (rd_T39 c p).f7 < e) ∧ (hasTo (rd_T39 c p).f0 = false → (rd_T39 c p).f7 = 0)) ∧
    (∀ p q : Nat, i ≤ p → p < e → isPred c p q = true → i < q ∧ q < e) ∧
    (∀ q : Nat, i < q → q < e → ∃ p : Nat, i ≤ p ∧ p < e ∧ isPred c p q = true ∧ ∀ k : Nat, i ≤ k → k < e → isPred c k q = true → k = p) ∧
    (∀ p : Nat, i ≤ p → p < e → p ≠ i → Anc c i p) ∧
    (∀ p : Nat, i ≤ p → p < e → (hasA (rd_T39 c p).f0 = true → P (rd_T39 c p).f2 ∨ AncD c p (rd_T39 c p).f2) ∧ (hasB (rd_T39 c p).f0 = true → P (rd_T39 c p).f3 ∨ AncD c p (rd_T39 c p).f3)) := by
  intro t
  induction t with
  | leaf => intro i e P h; cases h
  | node x n s ihn ihs =>
    intro i e P _ hsh hus hl
    obtain ⟨j, h1, h2, h3, h4, h5⟩ := hl
    obtain ⟨s1, s2, s3, s4, s5, s6⟩ := hsh
    obtain ⟨u1, u2, u3, u4⟩ := hus
    have l1 := laid_le h4
    have l2 := laid_le h5
    have hil : i < c.length := by omega
    -- the head's fields
    obtain ⟨y, hy⟩ : ∃ y, y = rd_T39 c i := ⟨_, rfl⟩
    have ye : y.f0 = x.f0 ∧ y.f1 = x.f1 ∧ y.f2 = x.f2 ∧ y.f3 = x.f3 ∧ pieceA l y = true := by
      rw [hy, h3]
      split
      · exact ⟨rfl, rfl, rfl, rfl, s1⟩
      · exact ⟨rfl, rfl, rfl, rfl, s1⟩
    obtain ⟨y0, y1, y2, y3, y4⟩ := ye
    have y7 : (s.isLeaf = true → y.f7 = 0) ∧ (s.isLeaf = false → y.f7 = j) := by
      rw [hy, h3]
      constructor
      · intro h; rw [if_pos h]; exact s4 (s3.1 h)
      · intro h; rw [h]; rfl
    rw [← hy] at h3
    -- who comes out of the head
    have hpi : ∀ q : Nat, isPred c i q = true ↔ (q = i + 1 ∧ x.f0 ≠ 18) ∨ (s.isLeaf = false ∧ q = j) := by
      intro q
      unfold isPred
      rw [← hy, y0]
      simp only [Bool.or_eq_true, Bool.and_eq_true, beq_iff_eq, bne_iff_ne]
      constructor
      · intro h
        rcases h with ⟨a, b⟩ | ⟨a, b⟩
        · exact .inl ⟨a.symm, b⟩
        · right
          have hs : s.isLeaf = false := by
            cases hh : s.isLeaf with
            | false => rfl
            | true => rw [s3.1 hh] at a; cases a
          rw [y7.2 hs] at b
          exact ⟨hs, by omega⟩
      · intro h
        rcases h with ⟨a, b⟩ | ⟨a, b⟩
        · exact .inl ⟨a.symm, b⟩
        · right
          refine ⟨?_, by rw [y7.2 a, b]⟩
          cases hh : hasTo x.f0 with
          | true => rfl
          | false => rw [s3.2 hh] at a; cases a
    have n18 : n.isLeaf = false ↔ x.f0 ≠ 18 := by
      constructor
      · intro h e; rw [s2.2 e] at h; cases h
      · intro h
        cases hh : n.isLeaf with
        | false => rfl
        | true => exact absurd (s2.1 hh) h
    have nleaf : n.isLeaf = true → j = i + 1 := by
      intro h
      cases n with
      | leaf => exact (show i + 1 = j from h4).symm
      | node => cases h
    have sleaf : s.isLeaf = true → j = e := by
      intro h
      cases s with
      | leaf => exact h5
      | node => cases h
    have stop_side : x.f0 = 18 → s.isLeaf = true := by
      intro h; apply s3.2; rw [h]; decide
    have nsz : n.isLeaf = false → i + 1 < j := by
      intro h
      cases n with
      | leaf => cases h
      | node => simp only [FT.size] at l1; omega
    have ssz : s.isLeaf = false → j < e := by
      intro h
      cases s with
      | leaf => cases h
      | node => simp only [FT.size] at l2; omega
    -- the two parts
    have N : n.isLeaf = false → _ := fun h => ihn (i + 1) j _ h s5 u3 h4
    have S : s.isLeaf = false → _ := fun h => ihs j e _ h s6 u4 h5
    have parts : ∀ p : Nat, i ≤ p → p < e → p = i ∨ (n.isLeaf = false ∧ i + 1 ≤ p ∧ p < j) ∨ (s.isLeaf = false ∧ j ≤ p ∧ p < e) := by
      intro p hp1 hp2
      by_cases e1 : p = i
      · exact .inl e1
      · by_cases e2 : p < j
        · right; left
          refine ⟨?_, by omega, e2⟩
          cases hh : n.isLeaf with
          | false => rfl
          | true => have := nleaf hh; omega
        · right; right
          refine ⟨?_, by omega, hp2⟩
          cases hh : s.isLeaf with
          | false => rfl
          | true => have := sleaf hh; omega
    have ancI : ∀ p : Nat, i ≤ p → p < e → p ≠ i → Anc c i p := by
      intro p hp1 hp2 hne
      rcases parts p hp1 hp2 with e1 | ⟨hn, a, b⟩ | ⟨hs, a, b⟩
      · exact absurd e1 hne
      · have h0 : Anc c i (i + 1) := .one hil ((hpi _).2 (.inl ⟨rfl, n18.1 hn⟩))
        by_cases e2 : p = i + 1
        · subst e2; exact h0
        · exact anc_trans h0 ((N hn).2.2.2.2.2.1 p a b e2)
      · have h0 : Anc c i j := .one hil ((hpi _).2 (.inr ⟨hs, rfl⟩))
        by_cases e2 : p = j
        · subst e2; exact h0
        · exact anc_trans h0 ((S hs).2.2.2.2.2.1 p a b e2)
    refine ⟨?_, ?_, ?_, ?_, ?_, ancI, ?_⟩
    · intro p hp1 hp2
      rcases parts p hp1 hp2 with e1 | ⟨hn, a, b⟩ | ⟨hs, a, b⟩
      · subst e1; rw [← hy]; exact y4
      · exact (N hn).1 p a b
      · exact (S hs).1 p a b
    · cases hs : s.isLeaf with
      | false => exact (S hs).2.1
      | true =>
        have ej := sleaf hs
        cases hn : n.isLeaf with
        | false => rw [← ej]; exact (N hn).2.1
        | true =>
          have := nleaf hn
          rw [show (e : Int) - 1 = (i : Int) from by omega, ← hy, y0]
          exact s2.1 hn
    · intro p hp1 hp2
      rcases parts p hp1 hp2 with e1 | ⟨hn, a, b⟩ | ⟨hs, a, b⟩
      · subst e1
        rw [← hy, y0]
        refine ⟨fun h => by have := nsz (n18.2 h); omega, fun h => ?_, fun h => y7.1 (s3.2 h)⟩
        have hs : s.isLeaf = false := by
          cases hh : s.isLeaf with
          | false => rfl
          | true => rw [s3.1 hh] at h; cases h
        have hn : n.isLeaf = false := n18.2 (fun e18 => by rw [stop_side e18] at hs; cases hs)
        have a1 := nsz hn
        have a2 := ssz hs
        rw [y7.2 hs]; omega
      · obtain ⟨q1, q2, q3⟩ := (N hn).2.2.1 p a b
        exact ⟨fun h => by have := q1 h; omega, fun h => by have := q2 h; omega, q3⟩
      · exact (S hs).2.2.1 p a b
    · intro p q hp1 hp2 hpq
      rcases parts p hp1 hp2 with e1 | ⟨hn, a, b⟩ | ⟨hs, a, b⟩
      · subst e1
        rcases (hpi q).1 hpq with ⟨a, b⟩ | ⟨a, b⟩
        · have := nsz (n18.2 b); omega
        · have := ssz a; omega
      · have := (N hn).2.2.2.1 p q a b hpq; omega
      · have := (S hs).2.2.2.1 p q a b hpq; omega
    · intro q hq1 hq2
      have out_n : n.isLeaf = false → ∀ k : Nat, i + 1 ≤ k → k < j → isPred c k q = true → i + 1 < q ∧ q < j := fun hn k a b h => (N hn).2.2.2.1 k q a b h
      have out_s : s.isLeaf = false → ∀ k : Nat, j ≤ k → k < e → isPred c k q = true → j < q ∧ q < e := fun hs k a b h => (S hs).2.2.2.1 k q a b h
      rcases parts q (by omega) hq2 with e1 | ⟨hn, a, b⟩ | ⟨hs, a, b⟩
      · omega
      · by_cases e2 : q = i + 1
        · refine ⟨i, Nat.le_refl _, h1, (hpi q).2 (.inl ⟨e2, n18.1 hn⟩), fun k hk1 hk2 hkq => ?_⟩
          rcases parts k hk1 hk2 with e3 | ⟨_, a3, b3⟩ | ⟨hs3, a3, b3⟩
          · exact e3
          · have := out_n hn k a3 b3 hkq; omega
          · have := out_s hs3 k a3 b3 hkq; omega
        · obtain ⟨p, p1, p2, p3, p4⟩ := (N hn).2.2.2.2.1 q (by omega) b
          refine ⟨p, by omega, by omega, p3, fun k hk1 hk2 hkq => ?_⟩
          rcases parts k hk1 hk2 with e3 | ⟨_, a3, b3⟩ | ⟨hs3, a3, b3⟩
          · subst e3
            rcases (hpi q).1 hkq with ⟨a4, _⟩ | ⟨_, a4⟩ <;> omega
          · exact p4 k a3 b3 hkq
          · have := out_s hs3 k a3 b3 hkq; omega
      · by_cases e2 : q = j
        · refine ⟨i, Nat.le_refl _, h1, (hpi q).2 (.inr ⟨hs, e2⟩), fun k hk1 hk2 hkq => ?_⟩
          rcases parts k hk1 hk2 with e3 | ⟨hn3, a3, b3⟩ | ⟨_, a3, b3⟩
          · exact e3
          · have := out_n hn3 k a3 b3 hkq; omega
          · have := out_s hs k a3 b3 hkq; omega
        · obtain ⟨p, p1, p2, p3, p4⟩ := (S hs).2.2.2.2.1 q (by omega) b
          refine ⟨p, by omega, by omega, p3, fun k hk1 hk2 hkq => ?_⟩
          rcases parts k hk1 hk2 with e3 | ⟨hn3, a3, b3⟩ | ⟨_, a3, b3⟩
          · subst e3
            rcases (hpi q).1 hkq with ⟨a4, b4⟩ | ⟨_, a4⟩
            · have := nsz (n18.2 b4); omega
            · omega
          · have := out_n hn3 k a3 b3 hkq; omega
          · exact p4 k a3 b3 hkq
    · intro p hp1 hp2
      have lift : ∀ t : Int, p ≠ i → ((P t ∨ hasD x.f0 = true ∧ x.f1 = t) ∨ AncD c p t) → P t ∨ AncD c p t := by
        intro t hne h
        rcases h with (h | ⟨h, e5⟩) | h
        · exact .inl h
        · exact .inr ⟨i, ancI p hp1 hp2 hne, hil, by rw [← hy, y0]; exact h, by rw [← hy, y1]; exact e5⟩
        · exact .inr h
      rcases parts p hp1 hp2 with e1 | ⟨hn, a, b⟩ | ⟨hs, a, b⟩
      · subst e1
        rw [← hy, y0, y2, y3]
        exact ⟨fun h => .inl (u1 h), fun h => .inl (u2 h)⟩
      · obtain ⟨q1, q2⟩ := (N hn).2.2.2.2.2.2 p a b
        exact ⟨fun h => lift _ (by omega) (q1 h), fun h => lift _ (by omega) (q2 h)⟩
      · obtain ⟨q1, q2⟩ := (S hs).2.2.2.2.2.2 p a b
        have : p ≠ i := by omega
        exact ⟨fun h => lift _ this (q1 h), fun h => lift _ this (q2 h)⟩
theorem lay_good {l : List S80} {t : FT} (h : RightT l t) : Good (layT t []) l ∧ (layT t []).length = t.size := by
  obtain ⟨a, _, c⟩ := lay_laid t [] h.some_
  simp only [List.length_nil, Nat.zero_add] at a c
  obtain ⟨q1, q2, q3, q4, q5, q6, q7⟩ := laid_places t 0 _ _ h.some_ h.shape h.uses c
  have hpos : 1 ≤ t.size := by
    cases ht : t with
    | leaf => have := h.some_; rw [ht] at this; cases this
    | node x n s => simp only [FT.size]; omega
  have hpre : ∀ p : Nat, p < (layT t []).length → ∃ y, t.pre[p]? = some y ∧ (rd_T39 (layT t []) p).f0 = y.f0 ∧ (rd_T39 (layT t []) p).f1 = y.f1 := by
    intro p hp
    obtain ⟨y, j, y1, y2⟩ := laid_at c p (by omega)
    rw [Nat.zero_add] at y2
    refine ⟨y, y1, ?_⟩
    rcases y2 with y2 | y2 <;> rw [y2] <;> exact ⟨rfl, rfl⟩
  refine ⟨⟨by omega, by have := h.size; omega, q2, fun i hi => q1 i (Nat.zero_le _) hi, fun i hi => ?_, ?_, ?_, fun i hi => ?_⟩, a⟩
  · obtain ⟨r1, r2, r3⟩ := q3 i (Nat.zero_le _) hi
    unfold pieceTo
    cases ht : hasTo (rd_T39 (layT t []) i).f0 with
    | true => have := r2 ht; simp only [if_true, Bool.and_eq_true, decide_eq_true_eq]; exact this
    | false => have := r3 ht; simp [this]
  · intro i j hi hj hd1 hd2 he
    obtain ⟨y, y1, y2, y3⟩ := hpre i hi
    obtain ⟨z, z1, z2, z3⟩ := hpre j hj
    obtain ⟨hi2, ey⟩ := List.getElem?_eq_some_iff.1 y1
    obtain ⟨hj2, ez⟩ := List.getElem?_eq_some_iff.1 z1
    have hp := List.pairwise_iff_getElem.1 h.once
    rcases Nat.lt_trichotomy i j with h1 | h1 | h1
    · exact absurd (by rw [ey, ez, ← y3, ← z3, he]) (hp i j hi2 hj2 h1 (by rw [ey, ← y2]; exact hd1) (by rw [ez, ← z2]; exact hd2))
    · exact h1
    · exact absurd (by rw [ey, ez, ← y3, ← z3, he]) (hp j i hj2 hi2 h1 (by rw [ez, ← z2]; exact hd2) (by rw [ey, ← y2]; exact hd1))
  · intro j h0 hj
    obtain ⟨p, p1, p2, p3, p4⟩ := q5 j h0 hj
    exact ⟨p, p2, p3, fun k hk hkj => p4 k (Nat.zero_le _) hk hkj⟩
  · obtain ⟨r1, r2⟩ := q7 i (Nat.zero_le _) hi
    refine ⟨fun hh => ?_, fun hh => ?_⟩
    · rcases r1 hh with f | f
      · exact f.elim
      · exact f
    · rcases r2 hh with f | f
      · exact f.elim
      · exact f
theorem lay_run {l : List S80} {t : FT} (h : RightT l t) (s : RunSt) : runT t s = runC (layT t []) (layT t []).length 0 s := by
  obtain ⟨a, _, c⟩ := lay_laid t [] h.some_
  simp only [List.length_nil, Nat.zero_add] at a c
  exact laid_run t 0 _ s _ h.some_ h.shape c (by omega)
/-- Folded code is right, has no more pieces, and runs alike. -/
theorem fold_right {code : List S39} {l : List S80} (hg : Good code l) : Good (foldOut code) l ∧ (foldOut code).length ≤ code.length ∧ ∀ ts_, runC (foldOut code) (foldOut code).length 0 (runSt0 ts_) = runC code code.length 0 (runSt0 ts_) := by
  obtain ⟨r1, r2⟩ := grow_right hg
  obtain ⟨t1, t2, t3, t4⟩ := trimAll_right (code.length + 1) _ r1 (by omega)
  obtain ⟨g1, g2⟩ := lay_good t1
  refine ⟨g1, ?_, fun ts_ => ?_⟩
  · have := t3.length_le
    rw [pre_length, pre_length] at this
    unfold foldOut
    omega
  · rw [← fold_grow_run hg ts_, t4 ts_, lay_run t1]; rfl
end Go.Proofs.Ytaoefdbhfhcplaa.Q
