/- The plain law of FoldLeast. -/
import Derived.Test.YtaoefdbhfhcplaaFoldLaws
import Derived.Test.YtaoefdbhfhcplaaLeastFn
import Derived.Test.YtaoefdbhfhcplaaFoldLeast
namespace Go.Proofs.Ytaoefdbhfhcplaa.Q
open Go.RowKit Go.Proofs.YtaoefdbhfhcplaaW.PrintWords Go.Proofs.YtaoefdbhfhcplaaW.PrintLast Go.Proofs.YtaoefdbhfhcplaaW.PrintMore Go.Proofs.Ytaoefdbhfhcplaa.IM
set_option linter.unusedVariables false
set_option linter.unusedSimpArgs false

theorem maker_l0 (out : List S39) (hn : out.length ≤ 400) (t : Int) : ∀ (d i : Nat), i + d = out.length → ∃ r, (∀ k : Nat, d + 13 ≤ k → selvagelaw12_maker.l0 k out t i = some r) ∧
    (r.2.2.2.2.2.2.2.2 = true → ∃ j : Nat, j < out.length ∧ hasD (rd_T39 out j).f0 = true ∧ (rd_T39 out j).f1 = t ∧ r.1 = (rd_T39 out j).f0 ∧ r.2.2.2.2.2.2.1 = (rd_T39 out j).f6) := by
  intro d
  induction d with
  | zero =>
    intro i hi
    refine ⟨((0:Int),0,0,0,0,0,0,0,false), fun k hk => ?_, fun h => by cases h⟩
    obtain ⟨k, rfl⟩ : ∃ q, k = q + 1 := ⟨k - 1, by omega⟩
    rw [selvagelaw12_maker.l0, if_neg (by omega)]
  | succ d ih =>
    intro i hi
    obtain ⟨r, h1, h2⟩ := ih (i + 1) (by omega)
    cases hd : hasD (rd_T39 out i).f0 with
    | true =>
      by_cases ht : (rd_T39 out i).f1 = t
      · refine ⟨((rd_T39 out i).f0, (rd_T39 out i).f1, (rd_T39 out i).f2, (rd_T39 out i).f3, (rd_T39 out i).f4, (rd_T39 out i).f5, (rd_T39 out i).f6, (rd_T39 out i).f7, true), fun k hk => ?_, fun _ => ⟨i, by omega, hd, ht, rfl, rfl⟩⟩
        obtain ⟨k, rfl⟩ : ∃ q, k = q + 1 := ⟨k - 1, by omega⟩
        rw [selvagelaw12_maker.l0, if_pos (by omega), if_pos (by omega), has_more (has_d _) k (by omega), Option.bind_some, hd, if_pos rfl, if_pos ht]
      · refine ⟨r, fun k hk => ?_, h2⟩
        obtain ⟨k, rfl⟩ : ∃ q, k = q + 1 := ⟨k - 1, by omega⟩
        rw [selvagelaw12_maker.l0, if_pos (by omega), if_pos (by omega), has_more (has_d _) k (by omega), Option.bind_some, hd, if_pos rfl, if_neg ht, w_one (by omega)]
        exact h1 k (by omega)
    | false =>
      refine ⟨r, fun k hk => ?_, h2⟩
      obtain ⟨k, rfl⟩ : ∃ q, k = q + 1 := ⟨k - 1, by omega⟩
      rw [selvagelaw12_maker.l0, if_pos (by omega), if_pos (by omega), has_more (has_d _) k (by omega), Option.bind_some, hd, if_neg (by simp), w_one (by omega)]
      exact h1 k (by omega)
theorem known_f (out : List S39) (hn : out.length ≤ 400) (t : Int) : ∃ (v : Int) (b : Bool), (∀ k : Nat, out.length + 13 ≤ k → selvagelaw12_known.f k out t = some (v, b)) ∧ (b = true → ∃ j : Nat, j < out.length ∧ (rd_T39 out j).f0 = 1 ∧ (rd_T39 out j).f1 = t ∧ v = (rd_T39 out j).f6) := by
  obtain ⟨r, h1, h2⟩ := maker_l0 out hn t out.length 0 (by omega)
  have h1' : ∀ k : Nat, out.length + 13 ≤ k → selvagelaw12_maker.f k out t = some r := fun k hk => h1 k hk
  cases hr : r.2.2.2.2.2.2.2.2 with
  | true =>
    obtain ⟨j, j1, j2, j3, j4, j5⟩ := h2 hr
    refine ⟨r.2.2.2.2.2.2.1, (r.1 == 1), fun k hk => ?_, fun hb => ⟨j, j1, by rw [← j4]; simpa using hb, j3, j5⟩⟩
    unfold selvagelaw12_known.f
    rw [h1' k hk, Option.bind_some, if_pos hr]
  | false =>
    refine ⟨r.2.2.2.2.2.2.1, false, fun k hk => ?_, fun hb => by cases hb⟩
    unfold selvagelaw12_known.f
    rw [h1' k hk, Option.bind_some, if_neg (by rw [hr]; simp)]
theorem hasB_A (op : Int) (h : hasB op = true) : hasA op = true := by
  have hm := List.contains_iff_mem.1 h
  simp only [List.mem_cons, List.not_mem_nil, or_false] at hm
  rcases hm with e | e | e | e | e | e | e | e <;> rw [e] <;> decide
theorem used_l0 (out : List S39) (hn : out.length ≤ 400) (t : Int) : ∀ (d i : Nat), i + d = out.length → (∃ j : Nat, i ≤ j ∧ j < out.length ∧ t ∈ tempsOf (rd_T39 out j)) → ∀ k : Nat, d + 13 ≤ k → selvagelaw12_used.l0 k out t i = some true := by
  intro d
  induction d with
  | zero => intro i hi ⟨j, h1, h2, _⟩; omega
  | succ d ih =>
    intro i hi ⟨j, h1, h2, h3⟩ k hk
    obtain ⟨k, rfl⟩ : ∃ q, k = q + 1 := ⟨k - 1, by omega⟩
    rw [selvagelaw12_used.l0, if_pos (by omega), if_pos (by omega), has_more (has_a _) k (by omega), has_more (has_b _) k (by omega), w_one (by omega)]
    simp only [Option.bind_some]
    have next : j ≠ i → selvagelaw12_used.l0 k out t ((i + 1 : Nat) : Int) = some true := fun e => ih (i + 1) (by omega) ⟨j, by omega, h2, h3⟩ k (by omega)
    by_cases e : j = i
    · subst e
      unfold tempsOf at h3
      cases hb : hasB (rd_T39 out j).f0 with
      | true =>
        have ha := hasB_A _ hb
        rw [hb] at h3
        simp only [if_true, List.mem_cons, List.not_mem_nil, or_false] at h3
        rw [ha, if_pos rfl]
        rcases h3 with h3 | h3
        · rw [if_pos h3.symm]
        · by_cases e2 : (rd_T39 out j).f2 = t
          · rw [if_pos e2]
          · rw [if_neg e2, if_pos rfl, if_pos h3.symm]
      | false =>
        rw [hb] at h3
        simp only [Bool.false_eq_true, if_false] at h3
        cases ha : hasA (rd_T39 out j).f0 with
        | true =>
          rw [ha] at h3
          simp only [if_true, List.mem_singleton] at h3
          rw [if_pos rfl, if_pos h3.symm]
        | false => rw [ha] at h3; simp at h3
    · rw [next e]
      (repeat' split) <;> rfl
theorem least_l0 {l : List S80} {T : FT} (hT : RightT l T) (hni : NoIdle T) (hle : ∀ x ∈ T.pre, LeastAt T.pre x) : ∀ (d i : Nat), i + d = (layT T []).length → selvagelaw12_FoldLeast.l0 ((layT T []).length + 20 + 3 * d) (layT T []) i = some true := by
  obtain ⟨hg, hlen⟩ := lay_good hT
  obtain ⟨a, _, c⟩ := lay_laid T [] hT.some_
  simp only [List.length_nil, Nat.zero_add] at a c
  have hn := hg.len2
  -- the pieces are those of the tree
  have piece : ∀ p : Nat, p < (layT T []).length → ∃ y ∈ T.pre, (rd_T39 (layT T []) p).f0 = y.f0 ∧ (rd_T39 (layT T []) p).f1 = y.f1 ∧ (rd_T39 (layT T []) p).f2 = y.f2 ∧ (rd_T39 (layT T []) p).f3 = y.f3 ∧ (rd_T39 (layT T []) p).f6 = y.f6 := by
    intro p hp
    obtain ⟨y, j, y1, y2⟩ := laid_at c p (by omega)
    rw [Nat.zero_add] at y2
    refine ⟨y, List.mem_of_getElem? y1, ?_⟩
    rcases y2 with y2 | y2 <;> rw [y2] <;> exact ⟨rfl, rfl, rfl, rfl, rfl⟩
  have place : ∀ y ∈ T.pre, ∃ p : Nat, p < (layT T []).length ∧ tempsOf (rd_T39 (layT T []) p) = tempsOf y := by
    intro y hy
    obtain ⟨p, hp, he⟩ := List.getElem_of_mem hy
    rw [pre_length] at hp
    obtain ⟨z, j, z1, z2⟩ := laid_at c p hp
    rw [Nat.zero_add] at z2
    have : z = y := by
      rw [List.getElem?_eq_getElem (by rw [pre_length]; exact hp)] at z1
      injection z1 with z1
      rw [← z1, he]
    subst this
    refine ⟨p, by omega, ?_⟩
    rcases z2 with z2 | z2 <;> rw [z2] <;> rfl
  have used : ∀ t : Int, UsedIn T.pre t → ∀ k : Nat, (layT T []).length + 13 ≤ k → selvagelaw12_used.f k (layT T []) t = some true := by
    intro t ⟨y, hy, ht⟩ k hk
    obtain ⟨p, hp, he⟩ := place y hy
    exact used_l0 _ hn t _ 0 (by omega) ⟨p, Nat.zero_le _, hp, by rw [he]; exact ht⟩ k hk
  have const : ∀ (t v : Int), (∃ j : Nat, j < (layT T []).length ∧ (rd_T39 (layT T []) j).f0 = 1 ∧ (rd_T39 (layT T []) j).f1 = t ∧ v = (rd_T39 (layT T []) j).f6) → ConstIn T.pre t v := by
    intro t v ⟨j, j1, j2, j3, j4⟩
    obtain ⟨y, hy, e0, e1, e2, e3, e6⟩ := piece j j1
    exact ⟨y, hy, by rw [← e0]; exact j2, by rw [← e1]; exact j3, by rw [← e6]; exact j4.symm⟩
  intro d
  induction d with
  | zero => intro i hi; rw [selvagelaw12_FoldLeast.l0, if_neg (by omega)]
  | succ d ih =>
    intro i hi
    have hih := ih (i + 1) (by omega)
    obtain ⟨F, hF⟩ : ∃ F, F = (layT T []).length + 20 + 3 * d := ⟨_, rfl⟩
    rw [← hF] at hih
    rw [show (layT T []).length + 20 + 3 * (d + 1) = F + 1 + 1 + 1 from by omega]
    have up : ∀ m, F ≤ m → selvagelaw12_FoldLeast.l0 m (layT T []) ((i + 1 : Nat) : Int) = some true := fun m hm => leo_up (f := fun k => selvagelaw12_FoldLeast.l0 k (layT T []) ((i + 1 : Nat) : Int)) (fun k => (selvagelaw12_FoldLeast.mono_l k).2.1 _ _) hih m hm
    obtain ⟨y, hy, e0, e1, e2, e3, e6⟩ := piece i (by omega)
    obtain ⟨va, ba, ka1, ka2⟩ := known_f (layT T []) hn (rd_T39 (layT T []) i).f2
    obtain ⟨vb, bb, kb1, kb2⟩ := known_f (layT T []) hn (rd_T39 (layT T []) i).f3
    have ca : ba = true → ∃ K, ConstIn T.pre y.f2 K := fun h => ⟨va, by rw [← e2]; exact const _ _ (ka2 h)⟩
    have cb : bb = true → ConstIn T.pre y.f3 vb := fun h => by rw [← e3]; exact const _ _ (kb2 h)
    obtain ⟨l1, l2, l3⟩ := hle y hy
    have idle := hni y hy
    have sz := hT.size
    -- what is made is used
    have use1 : (y.f0 = 1 ∨ y.f0 = 2 ∨ y.f0 = 3 ∨ y.f0 = 4) → UsedIn T.pre y.f1 := by
      intro e
      unfold idleB at idle
      rw [if_pos e] at idle
      have h0 := (cnt_zero T sz y.f1)
      by_cases hu : UsedIn T.pre y.f1
      · exact hu
      · rw [h0.2 hu] at idle; simp at idle
    have use5 : y.f0 = 5 → bb = true → vb ≠ 0 → UsedIn T.pre y.f1 := by
      intro e h1 h2
      unfold idleB at idle
      rw [if_neg (by omega), if_pos e] at idle
      have h0 := (cnt_zero T sz y.f1)
      by_cases hu : UsedIn T.pre y.f1
      · exact hu
      · rw [h0.2 hu, (kn_iff hT.once y.f3 vb).2 (cb h1)] at idle
        simp at idle
        exact absurd idle h2
    rw [selvagelaw12_FoldLeast.l0, if_pos (by omega), if_pos (by omega), ka1 _ (by omega), Option.bind_some, kb1 _ (by omega), Option.bind_some]
    simp only []
    have u1 : UsedIn T.pre y.f1 → selvagelaw12_used.f (F + 1) (layT T []) (rd_T39 (layT T []) i).f1 = some true := fun h => used _ (by rw [e1]; exact h) _ (by omega)
    have goOn := up (F + 1) (by omega)
    have goOn0 := up F (Nat.le_refl _)
    have arith : (y.f0 = 2 ∨ y.f0 = 3 ∨ y.f0 = 4) → selvagelaw12_FoldLeast.j2 (F + 1 + 1) (layT T []) i ba vb bb (rd_T39 (layT T []) i).f0 true (rd_T39 (layT T []) i).f0 (rd_T39 (layT T []) i).f1 (rd_T39 (layT T []) i).f2 (rd_T39 (layT T []) i).f3 (rd_T39 (layT T []) i).f4 (rd_T39 (layT T []) i).f5 (rd_T39 (layT T []) i).f6 (rd_T39 (layT T []) i).f7 = some true := by
      intro e
      rw [selvagelaw12_FoldLeast.j2, if_pos rfl, w_one (by omega), u1 (use1 (by omega)), goOn]
      simp only [Option.bind_some, if_true]
      cases hba : ba with
      | false => simp
      | true =>
        cases hbb : bb with
        | false => simp
        | true => exact absurd ⟨ca hba, vb, cb hbb⟩ (l1 e)
    rw [e0]
    by_cases c2 : y.f0 = 2
    · rw [if_pos c2, c2]; have := arith (.inl c2); rw [e0, c2] at this; exact this
    · rw [if_neg c2]
      by_cases c3 : y.f0 = 3
      · rw [if_pos c3, c3]; have := arith (.inr (.inl c3)); rw [e0, c3] at this; exact this
      · rw [if_neg c3]
        by_cases c4 : y.f0 = 4
        · rw [c4]; have := arith (.inr (.inr c4)); rw [e0, c4] at this; exact this
        · rw [show (y.f0 == 4) = false from beq_eq_false_iff_ne.2 c4, selvagelaw12_FoldLeast.j2, if_neg (by simp), w_one (by omega)]
          by_cases c1 : y.f0 = 1
          · rw [if_pos c1, u1 (use1 (.inl c1)), Option.bind_some, if_pos rfl, goOn]
          · rw [if_neg c1]
            by_cases c5 : y.f0 = 5
            · rw [if_pos c5]
              cases hbb : bb with
              | false => simp only [Bool.false_eq_true, if_false]; exact goOn
              | true =>
                rw [if_pos rfl]
                by_cases hv : vb = 0
                · rw [if_pos hv]; exact goOn
                · rw [if_neg hv]
                  cases hba : ba with
                  | true => exact absurd (ca hba) (l2 c5 vb (cb hbb) hv)
                  | false => rw [if_neg (by simp), u1 (use5 c5 hbb hv), Option.bind_some, if_pos rfl]; exact goOn
            · rw [if_neg c5]
              have dec : (y.f0 = 16 ∨ y.f0 = 17) → selvagelaw12_FoldLeast.j3 (F + 1) (layT T []) i ba bb true y.f0 (rd_T39 (layT T []) i).f1 (rd_T39 (layT T []) i).f2 (rd_T39 (layT T []) i).f3 (rd_T39 (layT T []) i).f4 (rd_T39 (layT T []) i).f5 (rd_T39 (layT T []) i).f6 (rd_T39 (layT T []) i).f7 = some true := by
                intro e
                obtain ⟨p, q⟩ := l3 e
                rw [selvagelaw12_FoldLeast.j3, if_pos rfl, w_one (by omega), goOn0, if_neg (show ¬ (rd_T39 (layT T []) i).f2 = (rd_T39 (layT T []) i).f3 from by rw [e2, e3]; exact p)]
                cases hba : ba with
                | false => simp
                | true =>
                  cases hbb : bb with
                  | false => simp
                  | true => exact absurd ⟨ca hba, vb, cb hbb⟩ q
              by_cases c16 : y.f0 = 16
              · rw [if_pos c16, c16]; have := dec (.inl c16); rw [c16] at this; exact this
              · rw [if_neg c16]
                by_cases c17 : y.f0 = 17
                · rw [c17]; have := dec (.inr c17); rw [c17] at this; exact this
                · rw [show (y.f0 == 17) = false from beq_eq_false_iff_ne.2 c17, selvagelaw12_FoldLeast.j3, if_neg (by simp), w_one (by omega)]; exact goOn0
theorem FoldLeast_true (code : List S39) (l : List S80) : ∃ k, selvagelaw12_FoldLeast.f k code l = some true := by
  obtain ⟨k1, h1⟩ := awake_true
  have up1 := fun m => leo_up (f := fun k => selvagelaw12_awake.f k) selvagelaw12_awake.mono h1 m
  have j0t : ∀ m, selvagelaw12_FoldLeast.j0 (m + 1) code l true = some true := fun m => by rw [selvagelaw12_FoldLeast.j0, if_pos rfl]
  cases hg : rightB code l with
  | false =>
    refine ⟨k1 + 1, ?_⟩
    rw [selvagelaw12_FoldLeast.f, up1 _ (by omega), Option.bind_some, if_pos rfl]
    by_cases c1 : (code.length : Int) > 410
    · rw [if_pos c1]; exact j0t _
    · rw [if_neg c1]
      by_cases c2 : (l.length : Int) > 16
      · rw [decide_eq_true c2]; exact j0t _
      · rw [decide_eq_false c2, selvagelaw12_FoldLeast.j0, if_neg (by simp), fold_bad hg, Option.bind_some]; simp
  | true =>
    have hgood := (rightB_iff code l).1 hg
    obtain ⟨T, t1, t2, t3, t4⟩ := fold_least hgood
    have hK := least_l0 t2 t3 t4 (layT T []).length 0 (by omega)
    obtain ⟨K, hKe⟩ : ∃ K, K = (layT T []).length + 20 + 3 * (layT T []).length := ⟨_, rfl⟩
    rw [← hKe, ← t1] at hK
    have hK' := leo_up (f := fun k => selvagelaw12_FoldLeast.l0 k (foldOut code) 0) (fun k => (selvagelaw12_FoldLeast.mono_l k).2.1 _ _) hK (k1 + K) (by omega)
    refine ⟨k1 + K + 1, ?_⟩
    rw [selvagelaw12_FoldLeast.f, up1 _ (by omega), Option.bind_some, if_pos rfl]
    by_cases c1 : (code.length : Int) > 410
    · rw [if_pos c1]; exact j0t _
    · rw [if_neg c1]
      by_cases c2 : (l.length : Int) > 16
      · rw [decide_eq_true c2]; exact j0t _
      · rw [decide_eq_false c2, selvagelaw12_FoldLeast.j0, if_neg (by simp), fold_good hgood, Option.bind_some, if_pos rfl]; exact hK'
end Go.Proofs.Ytaoefdbhfhcplaa.Q
