/- Right trees: what grows out of right code is one; trimming keeps one, and keeps what it does. -/
import Derived.Test.YtaoefdbhfhcplaaFoldGrow
namespace Go.Proofs.Ytaoefdbhfhcplaa.Q
open Go.RowKit Go.Proofs.YtaoefdbhfhcplaaW.PrintWords Go.Proofs.YtaoefdbhfhcplaaW.PrintLast Go.Proofs.YtaoefdbhfhcplaaW.PrintMore Go.Proofs.Ytaoefdbhfhcplaa.IM
set_option linter.unusedVariables false
set_option linter.unusedSimpArgs false

/-- The shape of a right tree: a stop has nothing behind it, a branch has an else. -/
def Shape (l : List S80) : FT → Prop
  | .leaf => True
  | .node x n s => pieceA l x = true ∧ (n.isLeaf = true ↔ x.f0 = 18) ∧ (s.isLeaf = true ↔ hasTo x.f0 = false) ∧ (hasTo x.f0 = false → x.f7 = 0) ∧ Shape l n ∧ Shape l s
/-- What is used was made on the way. -/
def UsesOK : FT → (Int → Prop) → Prop
  | .leaf, _ => True
  | .node x n s, P => (hasA x.f0 = true → P x.f2) ∧ (hasB x.f0 = true → P x.f3) ∧ UsesOK n (fun t => P t ∨ hasD x.f0 = true ∧ x.f1 = t) ∧ UsesOK s (fun t => P t ∨ hasD x.f0 = true ∧ x.f1 = t)
theorem UsesOK.mono : ∀ {t : FT} {P Q : Int → Prop}, UsesOK t P → (∀ d, P d → Q d) → UsesOK t Q := by
  intro t
  induction t with
  | leaf => intro _ _ _ _; trivial
  | node x n s ihn ihs =>
    intro P Q ⟨h1, h2, h3, h4⟩ h
    exact ⟨fun a => h _ (h1 a), fun a => h _ (h2 a), ihn h3 (fun d hd => hd.imp (h d) id), ihs h4 (fun d hd => hd.imp (h d) id)⟩
def Apart2 (x y : S39) : Prop := hasD x.f0 = true → hasD y.f0 = true → x.f1 ≠ y.f1
/-- Each temp is made by one piece of the tree. -/
def Once (t : FT) : Prop := t.pre.Pairwise Apart2
structure RightT (l : List S80) (t : FT) : Prop where
  shape : Shape l t
  uses : UsesOK t (fun _ => False)
  once : Once t
  size : t.size ≤ 400
  some_ : t.isLeaf = false

theorem pre_length : ∀ t : FT, t.pre.length = t.size := by
  intro t
  induction t with
  | leaf => rfl
  | node x n s ihn ihs => simp only [FT.pre, FT.size, List.length_cons, List.length_append]; omega

/-! ### out of code -/
def growP (code : List S39) : Nat → Nat → (Int → Option Int) → List Nat
  | 0, _, _ => []
  | k + 1, i, known =>
    if (rd_T39 code i).f0 = 18 then [i]
    else match gWay known (rd_T39 code i) with
      | .leap => growP code k (rd_T39 code i).f7.toNat known
      | .on => growP code k (i + 1) known
      | .stay y => i :: (growP code k (i + 1) (learn known y) ++ (if y.f7 = 0 then [] else growP code k y.f7.toNat (learn known y)))
theorem anc_trans {code : List S39} {a b c : Nat} (h1 : Anc code a b) (h2 : Anc code b c) : Anc code a c := by
  induction h2 with
  | one hb hp => exact .more hb hp h1
  | more hk hp _ ih => exact .more hk hp ih
/-- Two pieces on the ways to one: one is on the way to the other. -/
theorem anc_line {code : List S39} {l : List S80} (hg : Good code l) {a b : Nat} : ∀ {j : Nat}, j < code.length → Anc code a j → Anc code b j → a = b ∨ Anc code a b ∨ Anc code b a := by
  intro j hj h1
  induction h1 with
  | one ha hp =>
    intro h2
    cases h2 with
    | one hb hp2 =>
      obtain ⟨p, _, _, hall⟩ := hg.way _ (by have := pred_lt (hg.to_ _ ha) hp; omega) hj
      exact .inl (by rw [hall _ ha hp, hall _ hb hp2])
    | more hk hp2 h3 =>
      obtain ⟨p, _, _, hall⟩ := hg.way _ (by have := pred_lt (hg.to_ _ ha) hp; omega) hj
      have : _ = _ := (hall _ ha hp).trans (hall _ hk hp2).symm
      subst this
      exact .inr (.inr h3)
  | more hk hp h1 ih =>
    intro h2
    obtain ⟨p, _, _, hall⟩ := hg.way _ (by have := pred_lt (hg.to_ _ hk) hp; omega) hj
    cases h2 with
    | one hb hp2 =>
      have : _ = _ := (hall _ hk hp).trans (hall _ hb hp2).symm
      subst this
      exact .inr (.inl h1)
    | more hk2 hp2 h3 =>
      have : _ = _ := (hall _ hk hp).trans (hall _ hk2 hp2).symm
      subst this
      exact ih hk h3
theorem pred_next {code : List S39} {i : Nat} (h : (rd_T39 code i).f0 ≠ 18) : isPred code i (i + 1) = true := by
  unfold isPred
  simp [h]
theorem pred_to {code : List S39} {i : Nat} (h : hasTo (rd_T39 code i).f0 = true) (h0 : 0 ≤ (rd_T39 code i).f7) : isPred code i (rd_T39 code i).f7.toNat = true := by
  unfold isPred
  rw [h]
  simp; right; omega
theorem grow_pos {code : List S39} {l : List S80} (hg : Good code l) : ∀ (k i : Nat) (known : Int → Option Int), i < code.length → code.length - i ≤ k →
    (growP code k i known).length = (growT code k i known).size ∧ (∀ p ∈ growP code k i known, p < code.length ∧ (i = p ∨ Anc code i p)) ∧ (growP code k i known).Nodup ∧
    (growT code k i known).isLeaf = false ∧
    (∀ q p : Nat, (growP code k i known)[q]? = some p → ∃ y, (growT code k i known).pre[q]? = some y ∧ Kin l (rd_T39 code p) y) := by
  intro k
  induction k with
  | zero => intro i known hi hk; omega
  | succ k ih =>
    intro i known hi hk
    simp only [growP, growT]
    have hp := hg.piece i hi
    by_cases h18 : (rd_T39 code i).f0 = 18
    · rw [if_pos h18, if_pos h18]
      refine ⟨rfl, ?_, by simp, rfl, ?_⟩
      · intro p hp'; rw [List.mem_singleton] at hp'; subst hp'; exact ⟨hi, .inl rfl⟩
      · intro q p hq
        cases q with
        | zero =>
          have : i = p := by simpa using hq
          subst this
          exact ⟨_, rfl, kin_refl hp⟩
        | succ q => simp at hq
    · rw [if_neg h18, if_neg h18]
      have hnl := next_lt hg hi h18
      cases hway : gWay known (rd_T39 code i) with
      | leap =>
        have hto : hasTo (rd_T39 code i).f0 = true := by
          have := hway
          unfold gWay at this
          split at this
          · rename_i h1; rcases h1 with e | e <;> rw [e] <;> decide
          · (repeat' split at this) <;> cases this
        obtain ⟨t0, t1⟩ := to_lt hg hi hto
        obtain ⟨a, b, c, d, e⟩ := ih (rd_T39 code i).f7.toNat known (by omega) (by omega)
        refine ⟨a, fun p hp' => ?_, c, d, e⟩
        obtain ⟨b1, b2⟩ := b p hp'
        refine ⟨b1, .inr ?_⟩
        have h1 : Anc code i (rd_T39 code i).f7.toNat := .one hi (pred_to hto (by omega))
        rcases b2 with b2 | b2
        · rw [← b2]; exact h1
        · exact anc_trans h1 b2
      | on =>
        obtain ⟨a, b, c, d, e⟩ := ih (i + 1) known hnl (by omega)
        refine ⟨a, fun p hp' => ?_, c, d, e⟩
        obtain ⟨b1, b2⟩ := b p hp'
        refine ⟨b1, .inr ?_⟩
        have h1 : Anc code i (i + 1) := .one hi (pred_next h18)
        rcases b2 with b2 | b2
        · rw [← b2]; exact h1
        · exact anc_trans h1 b2
      | stay y =>
        have hkin := way_stay hp (to_no hg hi) hway
        obtain ⟨a, b, c, d, e⟩ := ih (i + 1) (learn known y) hnl (by omega)
        have h1 : Anc code i (i + 1) := .one hi (pred_next h18)
        have b' : ∀ p ∈ growP code k (i + 1) (learn known y), p < code.length ∧ Anc code i p ∧ (i + 1 = p ∨ Anc code (i + 1) p) := fun p hp' => by
          obtain ⟨b1, b2⟩ := b p hp'
          refine ⟨b1, ?_, b2⟩
          rcases b2 with b2 | b2
          · rw [← b2]; exact h1
          · exact anc_trans h1 b2
        by_cases h7 : y.f7 = 0
        · dsimp only
          rw [if_pos h7, if_pos h7]
          simp only [List.append_nil, FT.size, FT.pre, FT.isLeaf]
          refine ⟨by simp [a], ?_, ?_, trivial, ?_⟩
          · intro p hp'
            rcases List.mem_cons.1 hp' with e1 | e1
            · subst e1; exact ⟨hi, .inl rfl⟩
            · obtain ⟨c1, c2, _⟩ := b' p e1; exact ⟨c1, .inr c2⟩
          · refine List.nodup_cons.2 ⟨fun hm => ?_, c⟩
            obtain ⟨_, c2, _⟩ := b' i hm
            have := anc_lt (hg.to_) c2; omega
          · intro q p hq
            cases q with
            | zero =>
              have : i = p := by simpa using hq
              subst this
              exact ⟨y, rfl, hkin⟩
            | succ q => exact e q p (by simpa using hq)
        · dsimp only
          rw [if_neg h7, if_neg h7]
          have hto : hasTo (rd_T39 code i).f0 = true := by
            cases hh : hasTo (rd_T39 code i).f0 with
            | true => rfl
            | false => exact absurd (by rw [hkin.to_]; exact to_no hg hi hh) h7
          obtain ⟨t0, t1⟩ := to_lt hg hi hto
          have e7 := hkin.to_
          rw [e7]
          obtain ⟨a2, b2, c2, d2, e2⟩ := ih (rd_T39 code i).f7.toNat (learn known y) (by omega) (by omega)
          have h2 : Anc code i (rd_T39 code i).f7.toNat := .one hi (pred_to hto (by omega))
          have b2' : ∀ p ∈ growP code k (rd_T39 code i).f7.toNat (learn known y), p < code.length ∧ Anc code i p ∧ ((rd_T39 code i).f7.toNat = p ∨ Anc code (rd_T39 code i).f7.toNat p) := fun p hp' => by
            obtain ⟨b1, b3⟩ := b2 p hp'
            refine ⟨b1, ?_, b3⟩
            rcases b3 with b3 | b3
            · rw [← b3]; exact h2
            · exact anc_trans h2 b3
          simp only [FT.size, FT.pre, FT.isLeaf]
          refine ⟨by simp [a, a2], ?_, ?_, trivial, ?_⟩
          · intro p hp'
            rcases List.mem_cons.1 hp' with e1 | e1
            · subst e1; exact ⟨hi, .inl rfl⟩
            · rcases List.mem_append.1 e1 with e1 | e1
              · obtain ⟨c1, c2, _⟩ := b' p e1; exact ⟨c1, .inr c2⟩
              · obtain ⟨c1, c2, _⟩ := b2' p e1; exact ⟨c1, .inr c2⟩
          · refine List.nodup_cons.2 ⟨fun hm => ?_, ?_⟩
            · rcases List.mem_append.1 hm with e1 | e1
              · obtain ⟨_, c2, _⟩ := b' i e1
                have := anc_lt (hg.to_) c2; omega
              · obtain ⟨_, c2, _⟩ := b2' i e1
                have := anc_lt (hg.to_) c2; omega
            · rw [List.nodup_append]
              refine ⟨c, c2, ?_⟩
              intro u hu v hv he
              subst he
              obtain ⟨ul, _, u1⟩ := b' u hu
              obtain ⟨_, _, u2⟩ := b2' u hv
              -- neither i + 1 nor To lies on the way to the other
              have nope : ∀ z w : Nat, z < code.length → w < code.length → isPred code i z = true → isPred code i w = true → ¬ Anc code z w := by
                intro z w hz hw hpz hpw hzw
                have zi : i < z := pred_lt (hg.to_ i hi) hpz
                obtain ⟨p, _, _, hall⟩ := hg.way w (by have := anc_lt hg.to_ hzw; omega) hw
                have pi := hall i hi hpw
                cases hzw with
                | one _ hp2 => have := hall z hz hp2; omega
                | more hk2 hp2 h3 =>
                  have := hall _ hk2 hp2
                  have h4 := anc_lt hg.to_ h3
                  omega
              have p1 := pred_next (code := code) (i := i) h18
              have p2 := pred_to (code := code) (i := i) hto (by omega)
              have tl : (rd_T39 code i).f7.toNat < code.length := by omega
              rcases u1 with u1 | u1 <;> rcases u2 with u2 | u2
              · omega
              · rw [← u1] at u2; exact nope _ _ tl hnl p2 p1 u2
              · rw [← u2] at u1; exact nope _ _ hnl tl p1 p2 u1
              · rcases anc_line hg ul u1 u2 with e3 | e3 | e3
                · omega
                · exact nope _ _ hnl tl p1 p2 e3
                · exact nope _ _ tl hnl p2 p1 e3
          · intro q p hq
            cases q with
            | zero =>
              have : i = p := by simpa using hq
              subst this
              exact ⟨y, rfl, hkin⟩
            | succ q =>
              rw [List.getElem?_cons_succ] at hq ⊢
              by_cases hlt : q < (growP code k (i + 1) (learn known y)).length
              · rw [List.getElem?_append_left hlt] at hq
                obtain ⟨z, z1, z2⟩ := e q p hq
                exact ⟨z, by rw [List.getElem?_append_left (by rw [pre_length, ← a]; exact hlt)]; exact z1, z2⟩
              · rw [List.getElem?_append_right (by omega)] at hq
                obtain ⟨z, z1, z2⟩ := e2 _ p hq
                exact ⟨z, by rw [List.getElem?_append_right (by rw [pre_length, ← a]; omega), pre_length, ← a]; exact z1, z2⟩
theorem nodup_len : ∀ (n : Nat) (xs : List Nat), xs.Nodup → (∀ p ∈ xs, p < n) → xs.length ≤ n := by
  intro n xs hn hlt
  have h1 : xs.length ≤ (List.range n).length := List.Nodup.length_le_of_subset hn (fun p hp => List.mem_range.2 (hlt p hp))
  simpa using h1
theorem ancD_next {code : List S39} {l : List S80} (hg : Good code l) {i j : Nat} (hi : i < code.length) (hj : j < code.length) (hp : isPred code i j = true) {t : Int} (h : AncD code j t) : AncD code i t ∨ hasD (rd_T39 code i).f0 = true ∧ (rd_T39 code i).f1 = t := by
  obtain ⟨y, h1, h2, h3, h4⟩ := h
  obtain ⟨p, _, _, hall⟩ := hg.way j (by have := pred_lt (hg.to_ _ hi) hp; omega) hj
  have e := hall i hi hp
  cases h1 with
  | one hy hp2 =>
    have := hall y hy hp2
    rw [← e] at this
    subst this
    exact .inr ⟨h3, h4⟩
  | more hk hp2 h5 =>
    have := hall _ hk hp2
    rw [← e] at this
    subst this
    exact .inl ⟨y, h5, h2, h3, h4⟩
theorem grow_shape {code : List S39} {l : List S80} (hg : Good code l) : ∀ (k i : Nat) (known : Int → Option Int), i < code.length → code.length - i ≤ k →
    Shape l (growT code k i known) ∧ UsesOK (growT code k i known) (AncD code i) := by
  intro k
  induction k with
  | zero => intro i known hi hk; omega
  | succ k ih =>
    intro i known hi hk
    simp only [growT]
    have hp := hg.piece i hi
    by_cases h18 : (rd_T39 code i).f0 = 18
    · rw [if_pos h18]
      have hn : hasTo (rd_T39 code i).f0 = false := by rw [h18]; decide
      exact ⟨⟨hp, by simp [FT.isLeaf, h18], by simp [FT.isLeaf, hn], to_no hg hi, trivial, trivial⟩, (hg.use i hi).1, (hg.use i hi).2, trivial, trivial⟩
    · rw [if_neg h18]
      have hnl := next_lt hg hi h18
      have way_nod : (∀ y, gWay known (rd_T39 code i) ≠ .stay y) → (hasTo (rd_T39 code i).f0 = true ∧ hasD (rd_T39 code i).f0 = false) := by
        intro h
        unfold gWay at h
        split at h
        · rename_i h1; rcases h1 with e | e <;> rw [e] <;> exact ⟨by decide, by decide⟩
        · exfalso
          revert h
          (repeat' split) <;> (intro h; exact h _ rfl)
      have le_next : ∀ j : Nat, j < code.length → isPred code i j = true → hasD (rd_T39 code i).f0 = false → ∀ t, AncD code j t → AncD code i t := by
        intro j hj hpj hd t ht
        rcases ancD_next hg hi hj hpj ht with h | h
        · exact h
        · rw [hd] at h; exact absurd h.1 (by decide)
      cases hway : gWay known (rd_T39 code i) with
      | leap =>
        obtain ⟨hto, hd⟩ := way_nod (fun y e => by rw [hway] at e; cases e)
        obtain ⟨t0, t1⟩ := to_lt hg hi hto
        obtain ⟨a, b⟩ := ih (rd_T39 code i).f7.toNat known (by omega) (by omega)
        exact ⟨a, b.mono (le_next _ (by omega) (pred_to hto (by omega)) hd)⟩
      | on =>
        obtain ⟨hto, hd⟩ := way_nod (fun y e => by rw [hway] at e; cases e)
        obtain ⟨a, b⟩ := ih (i + 1) known hnl (by omega)
        exact ⟨a, b.mono (le_next _ hnl (pred_next h18) hd)⟩
      | stay y =>
        have hkin := way_stay hp (to_no hg hi) hway
        obtain ⟨a, b⟩ := ih (i + 1) (learn known y) hnl (by omega)
        have pl := (grow_pos hg k (i + 1) (learn known y) hnl (by omega)).2.2.2.1
        have nx : ∀ j : Nat, j < code.length → isPred code i j = true → ∀ t, AncD code j t → (AncD code i t ∨ hasD y.f0 = true ∧ y.f1 = t) := by
          intro j hj hpj t ht
          rw [hkin.hd, hkin.d]
          exact ancD_next hg hi hj hpj ht
        have uA : hasA y.f0 = true → AncD code i y.f2 := fun h => by obtain ⟨h1, h2⟩ := hkin.a h; rw [h2]; exact (hg.use i hi).1 h1
        have uB : hasB y.f0 = true → AncD code i y.f3 := fun h => by obtain ⟨h1, h2⟩ := hkin.b h; rw [h2]; exact (hg.use i hi).2 h1
        have st : ¬ y.f0 = 18 := fun e => h18 (hkin.stop.1 e)
        have nl : (growT code k (i + 1) (learn known y)).isLeaf = true ↔ y.f0 = 18 := by rw [pl]; simp [st]
        have t7 : hasTo y.f0 = false → y.f7 = 0 := fun h => by rw [hkin.to_]; exact to_no hg hi (by rw [← hkin.hto]; exact h)
        by_cases h7 : y.f7 = 0
        · dsimp only
          rw [if_pos h7]
          have hto : hasTo y.f0 = false := by
            cases hh : hasTo y.f0 with
            | false => rfl
            | true =>
              obtain ⟨t0, t1⟩ := to_lt hg hi (by rw [← hkin.hto]; exact hh)
              have := hkin.to_; omega
          exact ⟨⟨hkin.piece, nl, by simp [FT.isLeaf, hto], t7, a, trivial⟩, uA, uB, b.mono (nx _ hnl (pred_next h18)), trivial⟩
        · dsimp only
          rw [if_neg h7]
          have hto : hasTo (rd_T39 code i).f0 = true := by
            cases hh : hasTo (rd_T39 code i).f0 with
            | true => rfl
            | false => exact absurd (by rw [hkin.to_]; exact to_no hg hi hh) h7
          obtain ⟨t0, t1⟩ := to_lt hg hi hto
          have e7 := hkin.to_
          rw [e7]
          obtain ⟨a2, b2⟩ := ih (rd_T39 code i).f7.toNat (learn known y) (by omega) (by omega)
          have pl2 := (grow_pos hg k (rd_T39 code i).f7.toNat (learn known y) (by omega) (by omega)).2.2.2.1
          have hty : hasTo y.f0 = true := by rw [hkin.hto]; exact hto
          exact ⟨⟨hkin.piece, nl, by rw [pl2]; simp [hty], t7, a, a2⟩, uA, uB, b.mono (nx _ hnl (pred_next h18)), b2.mono (nx _ (by omega) (pred_to hto (by omega)))⟩
theorem grow_right {code : List S39} {l : List S80} (hg : Good code l) : RightT l (growT code code.length 0 fun _ => none) ∧ (growT code code.length 0 fun _ => none).size ≤ code.length := by
  have h1 := hg.len1
  obtain ⟨a, b, c, d, e⟩ := grow_pos hg code.length 0 (fun _ => none) (by omega) (by omega)
  obtain ⟨s, u⟩ := grow_shape hg code.length 0 (fun _ => none) (by omega) (by omega)
  have hsz : (growT code code.length 0 fun _ => none).size ≤ code.length := by
    rw [← a]
    exact nodup_len _ _ c (fun p hp => (b p hp).1)
  refine ⟨⟨s, u.mono (fun t ⟨y, h, _⟩ => by have := anc_lt hg.to_ h; omega), ?_, by have := hg.len2; omega, d⟩, hsz⟩
  unfold Once
  rw [List.pairwise_iff_getElem]
  intro p q hp hq hpq hd1 hd2 he
  rw [pre_length, ← a] at hp hq
  obtain ⟨y, y1, y2⟩ := e p _ (List.getElem?_eq_getElem hp)
  obtain ⟨z, z1, z2⟩ := e q _ (List.getElem?_eq_getElem hq)
  have ey := List.getElem_of_getElem? y1
  have ez := List.getElem_of_getElem? z1
  obtain ⟨_, ey⟩ := ey
  obtain ⟨_, ez⟩ := ez
  rw [ey] at hd1 he
  rw [ez] at hd2 he
  have bp := (b _ (List.getElem_mem hp)).1
  have bq := (b _ (List.getElem_mem hq)).1
  have := hg.uniq _ _ bp bq (by rw [← y2.hd]; exact hd1) (by rw [← z2.hd]; exact hd2) (by rw [← y2.d, ← z2.d]; exact he)
  have hne := List.pairwise_iff_getElem.1 c p q hp hq hpq
  exact hne this
end Go.Proofs.Ytaoefdbhfhcplaa.Q
