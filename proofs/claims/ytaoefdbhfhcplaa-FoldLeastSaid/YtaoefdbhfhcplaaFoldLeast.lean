/- In folded code nothing is reckoned or decided that is known, and no piece is idle. -/
import Derived.Test.YtaoefdbhfhcplaaFoldLay
namespace Go.Proofs.Ytaoefdbhfhcplaa.Q
open Go.RowKit Go.Proofs.YtaoefdbhfhcplaaW.PrintWords Go.Proofs.YtaoefdbhfhcplaaW.PrintLast Go.Proofs.YtaoefdbhfhcplaaW.PrintMore Go.Proofs.Ytaoefdbhfhcplaa.IM
set_option linter.unusedVariables false
set_option linter.unusedSimpArgs false

theorem no_anc0 {code : List S39} (ht : ∀ i : Nat, i < code.length → pieceTo code.length i (rd_T39 code i) = true) (t : Int) : ¬ AncD code 0 t := by
  intro ⟨y, h1, _⟩
  have := anc_lt ht h1; omega
def LeastAt (L : List S39) (x : S39) : Prop :=
  ((x.f0 = 2 ∨ x.f0 = 3 ∨ x.f0 = 4) → ¬ ((∃ K, ConstIn L x.f2 K) ∧ ∃ K, ConstIn L x.f3 K)) ∧
  (x.f0 = 5 → ∀ K, ConstIn L x.f3 K → K ≠ 0 → ¬ ∃ K, ConstIn L x.f2 K) ∧
  ((x.f0 = 16 ∨ x.f0 = 17) → x.f2 ≠ x.f3 ∧ ¬ ((∃ K, ConstIn L x.f2 K) ∧ ∃ K, ConstIn L x.f3 K))
theorem const_mono {L L' : List S39} (h : ∀ x ∈ L', x ∈ L) {a K : Int} (hc : ConstIn L' a K) : ConstIn L a K := by
  obtain ⟨y, h1, h2⟩ := hc
  exact ⟨y, h y h1, h2⟩
theorem least_mono {L L' : List S39} (h : ∀ x ∈ L', x ∈ L) {x : S39} (hl : LeastAt L x) : LeastAt L' x :=
  ⟨fun e ⟨⟨K, k⟩, K', k'⟩ => hl.1 e ⟨⟨K, const_mono h k⟩, K', const_mono h k'⟩, fun e K k k0 ⟨K', k'⟩ => hl.2.1 e K (const_mono h k) k0 ⟨K', const_mono h k'⟩, fun e => ⟨(hl.2.2 e).1, fun ⟨⟨K, k⟩, K', k'⟩ => (hl.2.2 e).2 ⟨⟨K, const_mono h k⟩, K', const_mono h k'⟩⟩⟩
theorem stay_least {known : Int → Option Int} {L : List S39} {x y : S39} (hA : hasA x.f0 = true → ∀ K, ConstIn L x.f2 K → known x.f2 = some K) (hB : hasB x.f0 = true → ∀ K, ConstIn L x.f3 K → known x.f3 = some K) (h : gWay known x = .stay y) : LeastAt L y := by
  rw [gWay_eq known x _ _ rfl rfl] at h
  have vac : y.f0 = 1 → LeastAt L y := fun e => ⟨fun h => by omega, fun h => by omega, fun h => by omega⟩
  have bothT : hasA x.f0 = true → hasB x.f0 = true → (∃ K, ConstIn L x.f2 K) → (∃ K, ConstIn L x.f3 K) → ((known x.f2).isSome && (known x.f3).isSome) = true := by
    intro a b ⟨K, k⟩ ⟨K', k'⟩
    rw [hA a K k, hB b K' k']; rfl
  by_cases h16 : x.f0 = 16
  · have a : hasA x.f0 = true := by rw [h16]; decide
    have b : hasB x.f0 = true := by rw [h16]; decide
    rw [if_pos h16] at h
    split at h
    · cases h
    · rename_i hc
      split at h
      · cases h
      · rename_i hb
        injection h with h; subst h
        exact ⟨fun e => by omega, fun e => by omega, fun _ => ⟨fun e => hc (.inl e), fun ⟨p, q⟩ => hb (bothT a b p q)⟩⟩
  · rw [if_neg h16] at h
    by_cases h17 : x.f0 = 17
    · have a : hasA x.f0 = true := by rw [h17]; decide
      have b : hasB x.f0 = true := by rw [h17]; decide
      rw [if_pos h17] at h
      split at h
      · cases h
      · rename_i hc
        split at h
        · split at h <;> cases h
        · rename_i hb
          injection h with h; subst h
          exact ⟨fun e => by omega, fun e => by omega, fun _ => ⟨hc, fun ⟨p, q⟩ => hb (bothT a b p q)⟩⟩
    · rw [if_neg h17] at h
      by_cases h2 : x.f0 = 2 ∨ x.f0 = 3 ∨ x.f0 = 4
      · have a : hasA x.f0 = true := by rcases h2 with e | e | e <;> rw [e] <;> decide
        have b : hasB x.f0 = true := by rcases h2 with e | e | e <;> rw [e] <;> decide
        rw [if_pos h2] at h
        split at h
        · injection h with h; subst h; exact vac rfl
        · rename_i hb
          injection h with h; subst h
          exact ⟨fun _ ⟨p, q⟩ => hb (bothT a b p q), fun e => by omega, fun e => by omega⟩
      · rw [if_neg h2] at h
        by_cases h5 : x.f0 = 5
        · have a : hasA x.f0 = true := by rw [h5]; decide
          have b : hasB x.f0 = true := by rw [h5]; decide
          rw [if_pos h5] at h
          split at h
          · injection h with h; subst h; exact vac rfl
          · rename_i hb
            injection h with h; subst h
            refine ⟨fun e => by omega, fun _ K k k0 p => hb ⟨bothT a b p ⟨K, k⟩, ?_⟩, fun e => by omega⟩
            rw [hB b K k]; exact k0
        · rw [if_neg h5] at h
          injection h with h; subst h
          exact ⟨fun e => absurd e h2, fun e => absurd e h5, fun e => by omega⟩
theorem grow_least {code : List S39} {l : List S80} (hg : Good code l) (L : List S39) (hL : L.Pairwise Apart2) : ∀ (k i : Nat) (known : Int → Option Int), i < code.length → code.length - i ≤ k → (∀ x ∈ (growT code k i known).pre, x ∈ L) →
    (∀ a K, AncD code i a → ConstIn L a K → known a = some K) → ∀ x ∈ (growT code k i known).pre, LeastAt L x := by
  intro k
  induction k with
  | zero => intro i known hi hk; omega
  | succ k ih =>
    intro i known hi hk hin hkn
    simp only [growT] at hin ⊢
    by_cases h18 : (rd_T39 code i).f0 = 18
    · rw [if_pos h18]
      intro x hx
      have : x = rd_T39 code i := by simpa [FT.pre] using hx
      rw [this]
      exact ⟨fun e => by omega, fun e => by omega, fun e => by omega⟩
    · rw [if_neg h18] at hin ⊢
      have hnl := next_lt hg hi h18
      have hw := way_run (known := known) (x := rd_T39 code i) (s := runSt0 [])
      have nod : (∀ y, gWay known (rd_T39 code i) ≠ .stay y) → hasTo (rd_T39 code i).f0 = true ∧ hasD (rd_T39 code i).f0 = false := by
        intro h
        unfold gWay at h
        split at h
        · rename_i h1; rcases h1 with e | e <;> rw [e] <;> exact ⟨by decide, by decide⟩
        · exfalso
          revert h
          (repeat' split) <;> (intro h; exact h _ rfl)
      cases hway : gWay known (rd_T39 code i) with
      | leap =>
        rw [hway] at hin
        obtain ⟨hto, hd⟩ := nod (fun y e => by rw [hway] at e; cases e)
        obtain ⟨t0, t1⟩ := to_lt hg hi hto
        exact ih _ known (by omega) (by omega) hin (fun a K ha hc => hkn a K ((ancD_next hg hi (by omega) (pred_to hto (by omega)) ha).elim id (fun h => by rw [hd] at h; exact absurd h.1 (by decide))) hc)
      | on =>
        rw [hway] at hin
        obtain ⟨hto, hd⟩ := nod (fun y e => by rw [hway] at e; cases e)
        exact ih _ known hnl (by omega) hin (fun a K ha hc => hkn a K ((ancD_next hg hi hnl (pred_next h18) ha).elim id (fun h => by rw [hd] at h; exact absurd h.1 (by decide))) hc)
      | stay y =>
        rw [hway] at hin
        dsimp only at hin ⊢
        have hkin := way_stay (hg.piece i hi) (to_no hg hi) hway
        have hy : y ∈ L := hin y (by simp [FT.pre])
        have hkn' : ∀ j : Nat, j < code.length → isPred code i j = true → ∀ a K, AncD code j a → ConstIn L a K → learn known y a = some K := by
          intro j hj hp a K ha hc
          obtain ⟨z, z1, z2, z3, z4⟩ := hc
          by_cases e : y.f0 = 1 ∧ y.f1 = a
          · have : z = y := once_eq hL z1 hy (by rw [z2]; decide) (by rw [e.1]; decide) (by rw [z3, e.2])
            subst this
            unfold learn; rw [if_pos e.1]; unfold upd; rw [if_pos e.2.symm, z4]
          · have hl : learn known y a = known a := by
              unfold learn
              split
              · rename_i h1; unfold upd; rw [if_neg (fun h => e ⟨h1, h.symm⟩)]
              · rfl
            rw [hl]
            rcases ancD_next hg hi hj hp ha with h | ⟨h1, h2⟩
            · exact hkn a K h ⟨z, z1, z2, z3, z4⟩
            · exfalso
              have : z = y := once_eq hL z1 hy (by rw [z2]; decide) (by rw [hkin.hd]; exact h1) (by rw [z3, hkin.d, h2])
              subst this
              exact e ⟨z2, z3⟩
        have hyl : LeastAt L y := stay_least (fun a K hc => hkn _ K ((hg.use i hi).1 a) hc) (fun b K hc => hkn _ K ((hg.use i hi).2 b) hc) hway
        intro x hx
        simp only [FT.pre] at hx
        rcases List.mem_cons.1 hx with e | e
        · rw [e]; exact hyl
        · rcases List.mem_append.1 e with e | e
          · exact ih _ _ hnl (by omega) (fun z hz => hin z (by simp [FT.pre, hz])) (hkn' _ hnl (pred_next h18)) x e
          · by_cases h7 : y.f7 = 0
            · rw [if_pos h7] at e; simp [FT.pre] at e
            · rw [if_neg h7] at e hin
              have hto : hasTo (rd_T39 code i).f0 = true := by
                cases hh : hasTo (rd_T39 code i).f0 with
                | true => rfl
                | false => exact absurd (by rw [hkin.to_]; exact to_no hg hi hh) h7
              obtain ⟨t0, t1⟩ := to_lt hg hi hto
              have e7 := hkin.to_
              rw [e7] at e hin
              exact ih _ _ (by omega) (by omega) (fun z hz => hin z (by simp [FT.pre, hz])) (hkn' _ (by omega) (pred_to hto (by omega))) x e
/-- The folded tree: each piece is least, none is idle. -/
theorem fold_least {code : List S39} {l : List S80} (hg : Good code l) : ∃ T : FT, foldOut code = layT T [] ∧ RightT l T ∧ NoIdle T ∧ ∀ x ∈ T.pre, LeastAt T.pre x := by
  obtain ⟨r1, r2⟩ := grow_right hg
  obtain ⟨t1, t2, t3, t4⟩ := trimAll_right (code.length + 1) _ r1 (by omega)
  have h1 := hg.len1
  refine ⟨_, rfl, t1, t2, fun x hx => ?_⟩
  have sub := t3.subset
  exact least_mono (fun y hy => sub hy) (grow_least hg _ r1.once code.length 0 _ (by omega) (by omega) (fun y hy => hy) (fun a K ha => absurd ha (no_anc0 hg.to_ a)) x (sub hx))
end Go.Proofs.Ytaoefdbhfhcplaa.Q
