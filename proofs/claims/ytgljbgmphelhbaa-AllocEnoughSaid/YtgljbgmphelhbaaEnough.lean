/- The plain law of AllocEnough: what it reckons is true. -/
import Derived.Test.YtgljbgmphelhbaaHomesLaw
import Derived.Test.YtgljbgmphelhbaaQ13
namespace Go.Proofs.Ytgljbgmphelhbaa.Q
open Go.RowKit Go.Proofs.YtgljbgmphelhbaaW.PrintWords Go.Proofs.YtgljbgmphelhbaaW.PrintLast Go.Proofs.YtgljbgmphelhbaaW.PrintMore Go.Proofs.Ytgljbgmphelhbaa.IM
set_option linter.unusedVariables false
set_option linter.unusedSimpArgs false

theorem leo_add {α : Type} {f : Nat → Option α} (h : ∀ k, LeO (f k) (f (k + 1))) (k j : Nat) : LeO (f k) (f (k + j)) := by
  induction j with
  | zero => exact LeO.refl _
  | succ j ih => exact LeO.trans ih (h (k + j))
theorem awake_true : ∃ k, selvagelaw14_awake.f k = some true := ⟨8, by decide +kernel⟩
theorem Span_live (code : List S40) (t : Nat) : ∃ a b : Int, ∃ ok : Bool, alloc_Span.f code t = some (a, b, ok) ∧ (ok = decide (0 ≤ mk code t)) ∧ (ok = true → a = (spanV_ code t).f1 ∧ b = (spanV_ code t).f2) := by
  unfold alloc_Span.f
  by_cases h : 0 ≤ mk code t
  · obtain ⟨s0, s1, s2, s3⟩ := span_of h
    rw [s3]
    exact ⟨_, _, _, rfl, by simp [h], fun _ => ⟨rfl, rfl⟩⟩
  · rw [span_not h]
    exact ⟨_, _, _, rfl, by simp [h], fun hc => by simp at hc⟩
theorem cnt_le (code : List S40) (i : Int) : ∀ m : Nat, cnt code i m ≤ m := by
  intro m
  induction m with
  | zero => exact Nat.le_refl _
  | succ m ih => simp only [cnt]; split <;> omega
theorem w_one {n : Nat} (h : n ≤ 100000) : wrap64 ((n : Int) + 1) = ((n + 1 : Nat) : Int) := by unfold wrap64; omega

theorem enough_l2 (code : List S40) (H : List S36) (hH : H.length ≤ 100000) (hr : ∀ t : Int, 0 ≤ t → 0 ≤ mk code t → 0 ≤ (rd_T36 H t).f0) :
    ∀ d j : Nat, j + d = H.length → selvagelaw14_AllocEnough.l2 (d + 1) code H j = some true := by
  intro d
  induction d with
  | zero =>
    intro j hj
    rw [selvagelaw14_AllocEnough.l2, if_neg (by omega)]
  | succ d ih =>
    intro j hj
    rw [selvagelaw14_AllocEnough.l2, if_pos (by omega), w_one (by omega)]
    obtain ⟨a, b, ok, he, ho, hl⟩ := Span_live code j
    rw [he]
    show (if ok = true then _ else _) = _
    by_cases hok : ok = true
    · rw [if_pos hok, if_pos (by omega)]
      have := hr j (by omega) (by rw [hok] at ho; simpa using ho.symm)
      rw [if_neg (by omega)]
      exact ih (j + 1) (by omega)
    · rw [if_neg hok]
      exact ih (j + 1) (by omega)
theorem enough_l1 (code : List S40) (regs : Int) (H : List S36) (hH : H.length ≤ 100000) (i : Nat) (hi : i ≤ 100000) (K : Nat) (hK : (cnt code i H.length : Int) ≤ regs → selvagelaw14_AllocEnough.l0 K code regs H ((i + 1 : Nat) : Int) = some true) :
    ∀ d j : Nat, j + d = H.length → selvagelaw14_AllocEnough.l1 (K + d + 1) code regs H i (cnt code i j : Nat) j = some true := by
  intro d
  induction d with
  | zero =>
    intro j hj
    rw [selvagelaw14_AllocEnough.l1, if_neg (by omega)]
    have e : j = H.length := by omega
    rw [e]
    by_cases hc : (cnt code i H.length : Int) > regs
    · rw [if_pos hc]
    · rw [if_neg hc, w_one (by omega)]
      exact hK (by omega)
  | succ d ih =>
    intro j hj
    have hc := cnt_le code i j
    have hih := ih (j + 1) (by omega)
    rw [show K + (d + 1) + 1 = (K + d + 1) + 1 from by omega, selvagelaw14_AllocEnough.l1, if_pos (by omega), w_one (n := j) (by omega)]
    obtain ⟨a, b, ok, he, ho, hl⟩ := Span_live code j
    rw [he]
    show (if ok = true then (if a ≤ (i : Int) then (if (i : Int) ≤ b then _ else _) else _) else _) = _
    have hcs : cnt code i (j + 1) = cnt code i j + if liveB code i j = true then 1 else 0 := rfl
    by_cases hok : ok = true
    · obtain ⟨ea, eb⟩ := hl hok
      have hm : 0 ≤ mk code j := by rw [hok] at ho; simpa using ho.symm
      rw [if_pos hok]
      by_cases h1 : a ≤ (i : Int)
      · rw [if_pos h1]
        by_cases h2 : (i : Int) ≤ b
        · rw [if_pos h2]
          have hL : liveB code i j = true := by
            simp only [liveB, Bool.and_eq_true, decide_eq_true_eq]
            exact ⟨⟨hm, by omega⟩, by omega⟩
          rw [if_pos hL] at hcs
          rw [hcs] at hih
          rw [w_one (by omega)]
          exact hih
        · rw [if_neg h2]
          have hL : ¬ liveB code i j = true := by
            simp only [liveB, Bool.and_eq_true, decide_eq_true_eq]
            intro hc; omega
          rw [if_neg hL] at hcs
          rw [hcs] at hih
          exact hih
      · rw [if_neg h1]
        have hL : ¬ liveB code i j = true := by
          simp only [liveB, Bool.and_eq_true, decide_eq_true_eq]
          intro hc; omega
        rw [if_neg hL] at hcs
        rw [hcs] at hih
        exact hih
    · have hm : ¬ 0 ≤ mk code j := by
        intro hc
        rw [decide_eq_true hc] at ho
        exact hok ho
      rw [if_neg hok]
      have hL : ¬ liveB code i j = true := by
        simp only [liveB, Bool.and_eq_true, decide_eq_true_eq]
        intro hc; exact hm hc.1.1
      rw [if_neg hL] at hcs
      rw [hcs] at hih
      exact hih
theorem enough_l0 (code : List S40) (l : List S83) (regs : Int) (h : rightB code l = true) (hH : (hAt code regs code.length).out.length ≤ 100000) :
    ∀ d i : Nat, i + d = code.length → (∀ i' : Nat, i' < i → (cnt code i' (hAt code regs code.length).out.length : Int) ≤ regs) → ∃ K, selvagelaw14_AllocEnough.l0 K code regs (hAt code regs code.length).out i = some true := by
  have hlen := right_len h
  intro d
  induction d with
  | zero =>
    intro i hi hen
    have e : i = code.length := by omega
    refine ⟨(hAt code regs code.length).out.length + 1 + 1, ?_⟩
    rw [selvagelaw14_AllocEnough.l0, if_neg (by omega)]
    subst e
    have ei := einv_at (regs := regs) h hen code.length (Nat.le_refl _)
    refine enough_l2 code _ hH (fun t h0 h1 => ?_) _ 0 (by omega)
    obtain ⟨j, j1, j2, _⟩ := mk_made h1
    exact (ei.reg t h0 h1 (by omega)).2
  | succ d ih =>
    intro i hi hen
    by_cases hc : (cnt code i (hAt code regs code.length).out.length : Int) ≤ regs
    · obtain ⟨K, hK⟩ := ih (i + 1) (by omega) (fun i' hi' => by
        by_cases e : i' = i
        · rw [e]; exact hc
        · exact hen i' (by omega))
      refine ⟨K + (hAt code regs code.length).out.length + 1 + 1, ?_⟩
      rw [selvagelaw14_AllocEnough.l0, if_pos (by omega)]
      exact enough_l1 code regs _ hH i (by omega) K (fun _ => hK) (hAt code regs code.length).out.length 0 (by omega)
    · refine ⟨0 + (hAt code regs code.length).out.length + 1 + 1, ?_⟩
      rw [selvagelaw14_AllocEnough.l0, if_pos (by omega)]
      exact enough_l1 code regs _ hH i (by omega) 0 (fun hh => absurd hh hc) (hAt code regs code.length).out.length 0 (by omega)
theorem enough_j0 (code : List S40) (l : List S83) (regs : Int) (b : Bool) : ∃ k, selvagelaw14_AllocEnough.j0 k code l regs b = some true := by
  by_cases hb : b = true
  · exact ⟨1, by rw [selvagelaw14_AllocEnough.j0, if_pos hb]⟩
  · by_cases h : rightB code l = true
    · by_cases hr : regs < 1 ∨ 8 < regs
      · refine ⟨1, ?_⟩
        rw [selvagelaw14_AllocEnough.j0, if_neg hb, alloc_Homes.f, if_neg (by rw [h]; simp), if_pos hr]
        rfl
      · have hH := (hinv_at (regs := regs) h code.length (Nat.le_refl _)).ol
        obtain ⟨K, hK⟩ := enough_l0 code l regs h (by omega) code.length 0 (by omega) (fun i' hi' => by omega)
        refine ⟨K + 1, ?_⟩
        rw [selvagelaw14_AllocEnough.j0, if_neg hb, alloc_Homes.f, if_neg (by rw [h]; simp), if_neg hr]
        exact hK
    · refine ⟨1, ?_⟩
      rw [selvagelaw14_AllocEnough.j0, if_neg hb, alloc_Homes.f, if_pos (by simpa using h)]
      rfl
theorem AllocEnough_true (code : List S40) (l : List S83) (regs : Int) : ∃ k, selvagelaw14_AllocEnough.f k code l regs = some true := by
  obtain ⟨k1, h1⟩ := awake_true
  have key : ∀ b : Bool, ∃ k, (selvagelaw14_awake.f k = some true) ∧ selvagelaw14_AllocEnough.j0 k code l regs b = some true := by
    intro b
    obtain ⟨k2, h2⟩ := enough_j0 code l regs b
    refine ⟨k1 + k2, leo_add selvagelaw14_awake.mono k1 k2 _ h1, ?_⟩
    rw [Nat.add_comm]
    exact leo_add (f := fun k => selvagelaw14_AllocEnough.j0 k code l regs b) (fun k => (selvagelaw14_AllocEnough.mono_l k).1 _ _ _ _) k2 k1 _ h2
  by_cases c1 : (code.length : Int) > 120
  · obtain ⟨k, a, b⟩ := key true
    exact ⟨k, by rw [selvagelaw14_AllocEnough.f, a, Option.bind_some, if_pos rfl, if_pos c1]; exact b⟩
  · by_cases c2 : (l.length : Int) > 16
    · obtain ⟨k, a, b⟩ := key true
      exact ⟨k, by rw [selvagelaw14_AllocEnough.f, a, Option.bind_some, if_pos rfl, if_neg c1, if_pos c2]; exact b⟩
    · by_cases c3 : regs < 1
      · obtain ⟨k, a, b⟩ := key true
        exact ⟨k, by rw [selvagelaw14_AllocEnough.f, a, Option.bind_some, if_pos rfl, if_neg c1, if_neg c2, if_pos c3]; exact b⟩
      · obtain ⟨k, a, b⟩ := key (decide (regs > 8))
        exact ⟨k, by rw [selvagelaw14_AllocEnough.f, a, Option.bind_some, if_pos rfl, if_neg c1, if_neg c2, if_neg c3]; exact b⟩
end Go.Proofs.Ytgljbgmphelhbaa.Q
