/- The plain law of AllocSpans: what it reckons is true. -/
import Derived.Test.YtgljbgmphelhbaaRefRightAll
import Derived.Test.YtgljbgmphelhbaaBase
import Derived.Test.YtgljbgmphelhbaaQ11
namespace Go.Proofs.Ytgljbgmphelhbaa.Q
open Go.RowKit Go.Proofs.YtgljbgmphelhbaaW.PrintWords Go.Proofs.YtgljbgmphelhbaaW.PrintLast Go.Proofs.YtgljbgmphelhbaaW.PrintMore Go.Proofs.Ytgljbgmphelhbaa.IM
set_option linter.unusedVariables false
set_option linter.unusedSimpArgs false

/-- A temp that is made before place x10. -/
def madeBefore (code : List S40) (x10 : Int) (t : Int) : Prop := ∃ y : Nat, (y : Int) < x10 ∧ y < code.length ∧ hasD (rd_T40 code y).f0 = true ∧ (rd_T40 code y).f1 = t
def useOK (code : List S40) (j : Nat) : Prop :=
  (hasA (rd_T40 code j).f0 = true → madeBefore code j (rd_T40 code j).f2) ∧ (hasB (rd_T40 code j).f0 = true → madeBefore code j (rd_T40 code j).f3)
def uniq (code : List S40) (j : Nat) : Prop := ∀ y : Nat, y < j → hasD (rd_T40 code j).f0 = true → hasD (rd_T40 code y).f0 = true → (rd_T40 code j).f1 ≠ (rd_T40 code y).f1
theorem good_facts {code : List S40} {l : List S83} (h : Good code l) : ∀ j : Nat, j < code.length → uniq code j ∧ useOK code j := by
  have mb : ∀ (j : Nat) (t : Int), AncD code j t → madeBefore code j t := fun j t ⟨y, h1, h2, h3, h4⟩ => ⟨y, by have := anc_lt h.to_ h1; omega, h2, h3, h4⟩
  intro j hj
  refine ⟨fun y hy d1 d2 he => ?_, fun ha => mb j _ ((h.use j hj).1 ha), fun hb => mb j _ ((h.use j hj).2 hb)⟩
  have := h.uniq j y hj (by omega) d1 d2 he
  omega
theorem use_le (t : Int) : ∀ (xs : List S40) (i : Nat) (to_ u : Int) (j : Nat) (hj : j < xs.length), usesT xs[j] t = true → ((i + j : Nat) : Int) ≤ (useLoop t xs i to_ u).1 := by
  intro xs
  induction xs with
  | nil => intro i to_ u j hj; simp at hj
  | cons x xs ih =>
    intro i to_ u j hj h
    simp only [useLoop]
    cases j with
    | zero =>
      have hx : usesT x t = true := h
      rw [if_pos hx]
      have := (useLoop_bound t xs (i + 1) (if to_ < i then (i : Int) else to_) (u + 1)).1
      have h2 : (i : Int) ≤ (if to_ < i then (i : Int) else to_) := by split <;> omega
      omega
    | succ j =>
      have hj' : j < xs.length := by simpa using hj
      have hx : usesT xs[j] t = true := h
      split
      · have := ih (i + 1) (if to_ < i then (i : Int) else to_) (u + 1) j hj' hx
        rw [show i + 1 + j = i + (j + 1) from by omega] at this
        exact this
      · have := ih (i + 1) to_ u j hj' hx
        rw [show i + 1 + j = i + (j + 1) from by omega] at this
        exact this
theorem mk_le {code : List S40} {y : Nat} {t : Int} (hy : y < code.length) (hd : hasD (rd_T40 code y).f0 = true) (ht : (rd_T40 code y).f1 = t) : 0 ≤ mk code t ∧ mk code t ≤ y := by
  unfold mk
  have hm : makesT code[y] t = true := by rw [get_rd hy]; simp [makesT, hd, ht]
  rcases idxFrom_spec (fun x => makesT x t) code 0 with ⟨he, hall⟩ | ⟨k, hk, he, htake, hp⟩
  · have := hall code[y] (List.getElem_mem hy)
    rw [hm] at this; cases this
  · rw [he]
    by_cases h4 : y < k
    · have := htake code[y] (by
        rw [List.mem_take_iff_getElem]
        exact ⟨y, by omega, rfl⟩)
      rw [hm] at this; cases this
    · omega
theorem span_in {code : List S40} (h : ∀ j : Nat, j < code.length → uniq code j ∧ useOK code j) {i : Nat} (hi : i < code.length) (t : Int)
    (hu : usesT (rd_T40 code i) t = true ∨ (hasD (rd_T40 code i).f0 = true ∧ (rd_T40 code i).f1 = t)) : 0 ≤ mk code t ∧ (spanV_ code t).f1 ≤ i ∧ (i : Int) ≤ (spanV_ code t).f2 := by
  obtain ⟨hq, ho⟩ := h i hi
  rcases hu with hu | ⟨hd, ht⟩
  · have hb : madeBefore code i t := by
      simp only [usesT, Bool.or_eq_true, Bool.and_eq_true, beq_iff_eq] at hu
      rcases hu with ⟨h1, h2⟩ | ⟨h1, h2⟩
      · rw [← h2]; exact ho.1 h1
      · rw [← h2]; exact ho.2 h1
    obtain ⟨y, y1, y2, y3, y4⟩ := hb
    obtain ⟨m1, m2⟩ := mk_le y2 y3 y4
    obtain ⟨s0, s1, s2, s3⟩ := span_of m1
    refine ⟨m1, by omega, ?_⟩
    have h' : ¬ idxFrom (fun x => makesT x t) code 0 < 0 := by unfold mk at m1; omega
    have e : (spanV_ code t).f2 = (useLoop t code 0 (idxFrom (fun x => makesT x t) code 0) 0).1 := by
      unfold spanV_ alloc_spanOf.f; rw [if_neg h']
    rw [e]
    have := use_le t code 0 (idxFrom (fun x => makesT x t) code 0) 0 i hi (by rw [get_rd hi]; exact hu)
    rwa [Nat.zero_add] at this
  · obtain ⟨m1, m2⟩ := mk_le hi hd ht
    obtain ⟨s0, s1, s2, s3⟩ := span_of m1
    refine ⟨m1, by omega, ?_⟩
    obtain ⟨j, j1, j2, j3, j4⟩ := mk_made m1
    by_cases e : j = i
    · omega
    · exact absurd (by rw [ht, j4]) (hq j (by omega) hd j3)
theorem uses_any (x : S40) (t : Int) (k : Nat) (hk : 12 ≤ k) : selvageref14_Uses.f k x.f0 x.f1 x.f2 x.f3 x.f4 x.f5 x.f6 x.f7 t = some (usesT x t) := by
  unfold selvageref14_Uses.f
  rw [has_more (has_a x.f0) k hk, has_more (has_b x.f0) k hk]
  simp only [Option.bind_some, usesT]
  cases hasA x.f0 <;> cases hasB x.f0 <;> by_cases h : x.f2 = t <;> simp [h]
theorem spans_l1 (code : List S40) (hn : code.length ≤ 400) (h : ∀ j : Nat, j < code.length → uniq code j ∧ useOK code j) (i : Nat) (hi : i < code.length) (K : Nat) (hK : selvagelaw14_AllocSpans.l0 K code ((i + 1 : Nat) : Int) = some true) :
    ∀ d t : Nat, t + d = 400 → selvagelaw14_AllocSpans.l1 (K + 12 + 2 * d + 1) code i t (rd_T40 code i).f0 (rd_T40 code i).f1 (rd_T40 code i).f2 (rd_T40 code i).f3 (rd_T40 code i).f4 (rd_T40 code i).f5 (rd_T40 code i).f6 (rd_T40 code i).f7 = some true := by
  intro d
  induction d with
  | zero =>
    intro t ht
    rw [selvagelaw14_AllocSpans.l1, if_neg (by omega), w_one (by omega)]
    exact leo_to (f := fun k => selvagelaw14_AllocSpans.l0 k code ((i + 1 : Nat) : Int)) (fun k => (selvagelaw14_AllocSpans.mono_l k).2.1 _ _) hK _ (by omega)
  | succ d ih =>
    intro t ht
    have hih := ih (t + 1) (by omega)
    have skip : selvagelaw14_AllocSpans.j3 (K + 12 + 2 * (d + 1)) code i t true (rd_T40 code i).f0 (rd_T40 code i).f1 (rd_T40 code i).f2 (rd_T40 code i).f3 (rd_T40 code i).f4 (rd_T40 code i).f5 (rd_T40 code i).f6 (rd_T40 code i).f7 = some true := by
      rw [show K + 12 + 2 * (d + 1) = (K + 12 + 2 * d + 1) + 1 from by omega, selvagelaw14_AllocSpans.j3, if_pos rfl, w_one (by omega)]
      exact hih
    have look : (usesT (rd_T40 code i) t = true ∨ (hasD (rd_T40 code i).f0 = true ∧ (rd_T40 code i).f1 = t)) → selvagelaw14_AllocSpans.j3 (K + 12 + 2 * (d + 1)) code i t false (rd_T40 code i).f0 (rd_T40 code i).f1 (rd_T40 code i).f2 (rd_T40 code i).f3 (rd_T40 code i).f4 (rd_T40 code i).f5 (rd_T40 code i).f6 (rd_T40 code i).f7 = some true := by
      intro hu
      obtain ⟨m1, m2, m3⟩ := span_in h hi t hu
      obtain ⟨a, b, ok, he, ho, hl⟩ := Span_live code t
      rw [decide_eq_true m1] at ho
      obtain ⟨ea, eb⟩ := hl ho
      rw [show K + 12 + 2 * (d + 1) = (K + 12 + 2 * d + 1) + 1 from by omega, selvagelaw14_AllocSpans.j3, if_neg (by simp), he, Option.bind_some, if_pos ho, if_neg (show ¬ (i : Int) < a from by omega), if_neg (show ¬ (i : Int) > b from by omega), w_one (by omega)]
      exact hih
    rw [selvagelaw14_AllocSpans.l1, if_pos (by omega), uses_any _ _ _ (by omega), Option.bind_some]
    by_cases c1 : usesT (rd_T40 code i) t = true
    · rw [if_pos c1]; exact look (.inl c1)
    · rw [if_neg c1, has_more (has_d _) _ (by omega), Option.bind_some]
      by_cases c2 : hasD (rd_T40 code i).f0 = true
      · rw [if_pos c2]
        by_cases c3 : (rd_T40 code i).f1 = (t : Int)
        · rw [show ((rd_T40 code i).f1 != (t : Int)) = false from by rw [c3]; simp]
          exact look (.inr ⟨c2, c3⟩)
        · rw [show ((rd_T40 code i).f1 != (t : Int)) = true from by simpa using c3]
          exact skip
      · rw [if_neg c2]; exact skip
theorem spans_l0 (code : List S40) (hn : code.length ≤ 400) (h : ∀ j : Nat, j < code.length → uniq code j ∧ useOK code j) : ∀ d i : Nat, i + d = code.length → ∃ K, selvagelaw14_AllocSpans.l0 K code i = some true := by
  intro d
  induction d with
  | zero => intro i hi; exact ⟨1, by rw [selvagelaw14_AllocSpans.l0, if_neg (by omega)]⟩
  | succ d ih =>
    intro i hi
    obtain ⟨K, hK⟩ := ih (i + 1) (by omega)
    refine ⟨K + 12 + 2 * 400 + 1 + 1, ?_⟩
    rw [selvagelaw14_AllocSpans.l0, if_pos (by omega), if_pos (by omega)]
    exact spans_l1 code hn h i (by omega) K hK 400 0 (by omega)
theorem AllocSpans_true (code : List S40) (l : List S83) : ∃ k, selvagelaw14_AllocSpans.f k code l = some true := by
  obtain ⟨k1, h1⟩ := awake_true
  have j0t : selvagelaw14_AllocSpans.j0 1 code true = some true := by rw [selvagelaw14_AllocSpans.j0, if_pos rfl]
  have up1 := fun m => leo_to (f := fun k => selvagelaw14_awake.f k) selvagelaw14_awake.mono h1 m
  have upj := fun {b : Bool} {k : Nat} (hk : selvagelaw14_AllocSpans.j0 k code b = some true) m => leo_to (f := fun k => selvagelaw14_AllocSpans.j0 k code b) (fun k => (selvagelaw14_AllocSpans.mono_l k).1 _ _) hk m
  by_cases c1 : (code.length : Int) > 200
  · exact ⟨k1 + 1, by rw [selvagelaw14_AllocSpans.f, up1 _ (by omega), Option.bind_some, if_pos rfl, if_pos c1]; exact upj j0t _ (by omega)⟩
  · by_cases c2 : (l.length : Int) > 16
    · exact ⟨k1 + 1, by rw [selvagelaw14_AllocSpans.f, up1 _ (by omega), Option.bind_some, if_pos rfl, if_neg c1, if_pos c2]; exact upj j0t _ (by omega)⟩
    · have hR : selvageref10_Right.f code l = some (rightB code l) := by unfold selvageref10_Right.f; rw [if_pos (by omega)]
      have fin : ∃ K, selvagelaw14_AllocSpans.j0 K code (!rightB code l) = some true := by
        cases r : rightB code l with
        | false => exact ⟨1, j0t⟩
        | true =>
          have hg := (rightB_iff code l).1 r
          obtain ⟨K, hK⟩ := spans_l0 code hg.len2 (good_facts hg) code.length 0 (by omega)
          exact ⟨K + 1, by rw [selvagelaw14_AllocSpans.j0, if_neg (by simp)]; exact hK⟩
      obtain ⟨K, hK⟩ := fin
      exact ⟨k1 + K, by rw [selvagelaw14_AllocSpans.f, up1 _ (by omega), Option.bind_some, if_pos rfl, if_neg c1, if_neg c2, hR, Option.bind_some]; exact upj hK _ (by omega)⟩
end Go.Proofs.Ytgljbgmphelhbaa.Q
