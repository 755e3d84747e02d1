/- What alloc.Homes promises of registers and slots: two temps that live at the same time share no register, no two temps share a slot. -/
import Derived.Test.YtgljbgmphelhbaaHomesLaw
namespace Go.Proofs.Ytgljbgmphelhbaa.Q
open Go.RowKit Go.Proofs.YtgljbgmphelhbaaW.PrintWords Go.Proofs.YtgljbgmphelhbaaW.PrintLast Go.Proofs.YtgljbgmphelhbaaW.PrintMore Go.Proofs.Ytgljbgmphelhbaa.IM
set_option linter.unusedVariables false
set_option linter.unusedSimpArgs false

theorem seekReg_spec (p : Int → Bool) : ∀ (k r : Nat), r ≤ seekReg p k r ∧ seekReg p k r ≤ r + k ∧ (∀ j : Nat, r ≤ j → j < seekReg p k r → p j = true) ∧ (p (seekReg p k r : Nat) = false ∨ seekReg p k r = r + k) := by
  intro k
  induction k with
  | zero => intro r; simp only [seekReg]; exact ⟨Nat.le_refl _, Nat.le_refl _, fun j h1 h2 => by omega, .inr rfl⟩
  | succ k ih =>
    intro r
    simp only [seekReg]
    by_cases h : p r = true
    · rw [if_pos h]
      obtain ⟨h1, h2, h3, h4⟩ := ih (r + 1)
      refine ⟨by omega, by omega, fun j hj1 hj2 => ?_, ?_⟩
      · by_cases e : j = r
        · rw [e]; exact h
        · exact h3 j (by omega) hj2
      · rcases h4 with h4 | h4
        · exact .inl h4
        · exact .inr (by omega)
    · rw [if_neg h]
      exact ⟨Nat.le_refl _, by omega, fun j h1 h2 => by omega, .inl (by simpa using h)⟩
theorem leastReg_spec (out : List S36) (act : List S44) : leastReg out act ≤ act.length ∧ ∀ a ∈ act, (rd_T36 out a.f0).f0 ≠ (leastReg out act : Nat) := by
  obtain ⟨h1, h2, h3, h4⟩ := seekReg_spec (taken out act) act.length 0
  have hf : taken out act (leastReg out act : Nat) = false := by
    rcases h4 with h4 | h4
    · exact h4
    · rw [Bool.eq_false_iff]
      intro hc
      have := taken_le out act (act.length + 1) (fun i hi => by
        by_cases e : i = leastReg out act
        · rw [e]; exact hc
        · exact h3 i (by omega) (by unfold leastReg at e; omega))
      omega
  refine ⟨by unfold leastReg; omega, fun a ha he => ?_⟩
  simp only [taken, decide_eq_false_iff_not] at hf
  apply hf
  rw [idxFrom_any, List.any_eq_true]
  exact ⟨a, ha, by simp [hasReg, he]⟩
theorem rd_padNew (xs : List S36) (d i : Int) (h0 : ¬ i.toNat < xs.length) (h1 : i.toNat < (padTo xs d).length) : rd_T36 (padTo xs d) i = ⟨-1, -1⟩ := by
  unfold padTo at h1
  rw [List.length_append, List.length_replicate] at h1
  unfold rd_T36 padTo
  rw [List.getD_eq_getElem?_getD, List.getElem?_append_right (by omega), List.getElem?_replicate, if_pos (by omega)]
  rfl
def madeB (code : List S40) (i : Nat) (t : Int) : Prop := 0 ≤ t ∧ 0 ≤ mk code t ∧ mk code t < i
structure PInv (code : List S40) (regs : Int) (i : Nat) (st : HSt) : Prop where
  p1 : ∀ t : Int, 0 ≤ t → t < st.out.length → ¬ madeB code i t → rd_T36 st.out t = ⟨-1, -1⟩
  p2 : ∀ t : Int, madeB code i t → t < st.out.length ∧
    ((0 ≤ (rd_T36 st.out t).f0 ∧ (rd_T36 st.out t).f0 < regs ∧ (rd_T36 st.out t).f1 = 0 ∧ (spanV_ code t ∈ st.act ∨ (spanV_ code t).f2 < i)) ∨
     ((rd_T36 st.out t).f0 = -1 ∧ 0 ≤ (rd_T36 st.out t).f1 ∧ (rd_T36 st.out t).f1 < st.slots))
  p3 : ∀ a ∈ st.act, 0 ≤ (rd_T36 st.out a.f0).f0
  p4 : ∀ t u : Int, madeB code i t → madeB code i u → t ≠ u → (rd_T36 st.out t).f0 < 0 → (rd_T36 st.out u).f0 < 0 → (rd_T36 st.out t).f1 ≠ (rd_T36 st.out u).f1
  p5 : ∀ t u : Int, madeB code i t → madeB code i u → t ≠ u → 0 ≤ (rd_T36 st.out t).f0 → (rd_T36 st.out t).f0 = (rd_T36 st.out u).f0 → ¬ ((spanV_ code u).f1 ≤ (spanV_ code t).f2 ∧ (spanV_ code t).f1 ≤ (spanV_ code u).f2)
theorem made_succ {code : List S40} {l : List S83} (h : rightB code l = true) {i : Nat} (hi : i < code.length) (hd : hasD (rd_T40 code i).f0 = true) (t : Int) : madeB code (i + 1) t ↔ (t = (rd_T40 code i).f1 ∨ madeB code i t) := by
  have hm := mk_at h hi hd
  have hD := right_D h i hi hd
  unfold madeB
  constructor
  · intro ⟨h0, h1, h2⟩
    by_cases e : mk code t = i
    · obtain ⟨j, _, hj2, _, hj4⟩ := mk_made h1
      have : j = i := by omega
      subst this
      exact .inl hj4.symm
    · exact .inr ⟨h0, h1, by omega⟩
  · rintro (h | ⟨h0, h1, h2⟩)
    · rw [h]; exact ⟨hD.1, by omega, by omega⟩
    · exact ⟨h0, h1, by omega⟩
theorem made_not {code : List S40} {i : Nat} (hd : ¬ hasD (rd_T40 code i).f0 = true) (t : Int) : madeB code (i + 1) t ↔ madeB code i t := by
  unfold madeB
  constructor
  · intro ⟨h0, h1, h2⟩
    by_cases e : mk code t = i
    · obtain ⟨j, _, hj2, hj3, _⟩ := mk_made h1
      have : j = i := by omega
      subst this
      exact absurd hj3 hd
    · exact ⟨h0, h1, by omega⟩
  · rintro ⟨h0, h1, h2⟩
    exact ⟨h0, h1, by omega⟩
theorem mem_erase_of {α : Type} {l : List α} {x : α} {k : Nat} (hx : x ∈ l) (hk : k < l.length) (hne : x ≠ l[k]) : x ∈ l.eraseIdx k := by
  rw [List.mem_eraseIdx_iff_getElem]
  obtain ⟨j, hj, he⟩ := List.mem_iff_getElem.1 hx
  exact ⟨j, hj, fun e => hne (by subst e; exact he.symm), he⟩
theorem ne_erase {α β : Type} [DecidableEq β] (f : α → β) : ∀ {l : List α} (hn : (l.map f).Nodup) {x : α} {k : Nat} (hk : k < l.length) (hx : x ∈ l.eraseIdx k), f x ≠ f l[k] := by
  intro l hn x k hk hx he
  rw [List.mem_eraseIdx_iff_getElem] at hx
  obtain ⟨j, hj, hjk, hjx⟩ := hx
  have h1 : (l.map f)[j]'(by simpa using hj) = (l.map f)[k]'(by simpa using hk) := by
    rw [List.getElem_map, List.getElem_map, hjx, he]
  have hp := List.pairwise_iff_getElem.1 hn
  rcases Nat.lt_or_ge j k with hlt | hge
  · exact hp j k _ _ hlt h1
  · exact hp k j (by simpa using hk) (by simpa using hj) (by omega) h1.symm

/-- the piece's own temp takes register r -/
theorem pinv_reg {code : List S40} {l : List S83} (h : rightB code l = true) {regs : Int} {i : Nat} {st : HSt} (hi : i < code.length) (hd : hasD (rd_T40 code i).f0 = true) (a : AInv code i st) (p : PInv code regs i st)
    (hlt : ((st.act.filter (keepB (spanV_ code (rd_T40 code i).f1))).length : Int) < regs) :
    PInv code regs (i + 1) ⟨(padTo st.out (rd_T40 code i).f1).set (rd_T40 code i).f1.toNat ⟨leastReg (padTo st.out (rd_T40 code i).f1) (st.act.filter (keepB (spanV_ code (rd_T40 code i).f1))), 0⟩, st.act.filter (keepB (spanV_ code (rd_T40 code i).f1)) ++ [spanV_ code (rd_T40 code i).f1], st.slots⟩ := by
  obtain ⟨m1, m2⟩ := ainv_mid h hi hd a
  have hm := mk_at h hi hd
  have hD := right_D h i hi hd
  have hg := length_padTo_gt st.out (rd_T40 code i).f1 hD.1
  obtain ⟨s0, s1, s2, s3⟩ := span_of (code := code) (t := (rd_T40 code i).f1) (by omega)
  have hms := made_succ h hi hd
  have hrp := rd_pad st.out (rd_T40 code i).f1
  have hpn := rd_padNew st.out (rd_T40 code i).f1
  obtain ⟨hL1, hL2⟩ := leastReg_spec (padTo st.out (rd_T40 code i).f1) (st.act.filter (keepB (spanV_ code (rd_T40 code i).f1)))
  generalize hT : (rd_T40 code i).f1 = T at *
  generalize hr : leastReg (padTo st.out T) (st.act.filter (keepB (spanV_ code T))) = r at *
  have hnm : ∀ t, madeB code i t → t ≠ T := fun t ht e => by
    rw [e] at ht; have := ht.2.2; omega
  have hget : ∀ t : Int, 0 ≤ t → rd_T36 ((padTo st.out T).set T.toNat ⟨(r : Int), 0⟩) t = if t = T then ⟨(r : Int), 0⟩ else rd_T36 (padTo st.out T) t := by
    intro t ht
    rw [rd_set36]
    by_cases e : t = T
    · rw [if_pos ⟨by rw [e], by omega⟩, if_pos e]
    · rw [if_neg (by omega), if_neg e]
  have hold : ∀ t : Int, madeB code i t → rd_T36 ((padTo st.out T).set T.toNat ⟨(r : Int), 0⟩) t = rd_T36 st.out t := fun t ht => by
    have h1 := (p.p2 t ht).1
    have h0 := ht.1
    rw [hget t h0, if_neg (hnm t ht), hrp t (by omega)]
  have hTT : rd_T36 ((padTo st.out T).set T.toNat ⟨(r : Int), 0⟩) T = ⟨(r : Int), 0⟩ := by rw [hget T hD.1, if_pos rfl]
  have apart : ∀ u : Int, madeB code i u → (rd_T36 st.out u).f0 = r → (spanV_ code u).f2 < i := by
    intro u hu he
    obtain ⟨u1, u2⟩ := p.p2 u hu
    rcases u2 with ⟨_, _, _, u6⟩ | ⟨u3, _⟩
    · rcases u6 with u6 | u6
      · by_cases hk : keepB (spanV_ code T) (spanV_ code u) = true
        · have h5 := hL2 _ (List.mem_filter.2 ⟨u6, hk⟩)
          have hu0 := hu.1
          rw [(span_of hu.2.1).1, hrp u (by omega)] at h5
          exact absurd he h5
        · rw [keep_iff] at hk
          omega
      · exact u6
    · omega
  constructor
  · intro t h0 h1 h2
    simp only [List.length_set] at h1
    have e : t ≠ T := fun e => h2 ((hms t).2 (.inl e))
    show rd_T36 ((padTo st.out T).set T.toNat ⟨(r : Int), 0⟩) t = _
    rw [hget t h0, if_neg e]
    by_cases hl : t.toNat < st.out.length
    · rw [hrp t hl]
      exact p.p1 t h0 (by omega) (fun hc => h2 ((hms t).2 (.inr hc)))
    · exact hpn t hl (by omega)
  · intro t ht
    rw [hms] at ht
    simp only [List.length_set]
    rcases ht with rfl | ht
    · refine ⟨by omega, .inl ?_⟩
      rw [hTT]
      exact ⟨by show (0 : Int) ≤ (r : Int); omega, by show (r : Int) < regs; omega, rfl, .inl (by simp)⟩
    · obtain ⟨u1, u2⟩ := p.p2 t ht
      rw [hold t ht]
      refine ⟨by omega, ?_⟩
      rcases u2 with ⟨u3, u4, u5, u6⟩ | u3
      · refine .inl ⟨u3, u4, u5, ?_⟩
        rcases u6 with u6 | u6
        · by_cases hk : keepB (spanV_ code T) (spanV_ code t) = true
          · exact .inl (List.mem_append.2 (.inl (List.mem_filter.2 ⟨u6, hk⟩)))
          · rw [keep_iff] at hk
            exact .inr (by push_cast; omega)
        · exact .inr (by push_cast; omega)
      · exact .inr u3
  · intro b hb
    rcases List.mem_append.1 hb with hb | hb
    · have hb1 := (List.mem_filter.1 hb).1
      obtain ⟨o1, o2, o3, o4, o5⟩ := a.own b hb1
      show 0 ≤ (rd_T36 ((padTo st.out T).set T.toNat ⟨(r : Int), 0⟩) b.f0).f0
      rw [hold b.f0 ⟨o4, o2, o3⟩]
      exact p.p3 b hb1
    · rw [List.mem_singleton] at hb
      rw [hb, s0]
      show 0 ≤ (rd_T36 ((padTo st.out T).set T.toNat ⟨(r : Int), 0⟩) T).f0
      rw [hTT]
      show (0 : Int) ≤ (r : Int); omega
  · intro t u ht hu hne h1 h2
    change (rd_T36 ((padTo st.out T).set T.toNat ⟨(r : Int), 0⟩) t).f0 < 0 at h1
    change (rd_T36 ((padTo st.out T).set T.toNat ⟨(r : Int), 0⟩) u).f0 < 0 at h2
    show (rd_T36 ((padTo st.out T).set T.toNat ⟨(r : Int), 0⟩) t).f1 ≠ (rd_T36 ((padTo st.out T).set T.toNat ⟨(r : Int), 0⟩) u).f1
    rw [hms] at ht hu
    rcases ht with rfl | ht
    · rw [hTT] at h1
      change (r : Int) < 0 at h1; omega
    · rcases hu with rfl | hu
      · rw [hTT] at h2
        change (r : Int) < 0 at h2; omega
      · rw [hold t ht] at h1 ⊢
        rw [hold u hu] at h2 ⊢
        exact p.p4 t u ht hu hne h1 h2
  · intro t u ht hu hne h1 h2
    change 0 ≤ (rd_T36 ((padTo st.out T).set T.toNat ⟨(r : Int), 0⟩) t).f0 at h1
    change (rd_T36 ((padTo st.out T).set T.toNat ⟨(r : Int), 0⟩) t).f0 = (rd_T36 ((padTo st.out T).set T.toNat ⟨(r : Int), 0⟩) u).f0 at h2
    rw [hms] at ht hu
    rcases ht with rfl | ht
    · rcases hu with rfl | hu
      · exact absurd rfl hne
      · rw [hTT, hold u hu] at h2
        have := apart u hu h2.symm
        intro hc; omega
    · rcases hu with rfl | hu
      · rw [hTT, hold t ht] at h2
        have := apart t ht h2
        intro hc; omega
      · rw [hold t ht] at h1 h2
        rw [hold u hu] at h2
        exact p.p5 t u ht hu hne h1 h2
/-- one of those that live gives way: it takes a slot, and the piece's own temp its register -/
theorem pinv_slot {code : List S40} {l : List S83} (h : rightB code l = true) {regs : Int} {i : Nat} {st : HSt} (hi : i < code.length) (hd : hasD (rd_T40 code i).f0 = true) (a : AInv code i st) (p : PInv code regs i st) (k : Nat)
    (hk : k < (st.act.filter (keepB (spanV_ code (rd_T40 code i).f1)) ++ [spanV_ code (rd_T40 code i).f1]).length) (v : S44) (hv : v = (st.act.filter (keepB (spanV_ code (rd_T40 code i).f1)) ++ [spanV_ code (rd_T40 code i).f1])[k]) :
    PInv code regs (i + 1) ⟨((padTo st.out (rd_T40 code i).f1).set (rd_T40 code i).f1.toNat (rd_T36 (padTo st.out (rd_T40 code i).f1) v.f0)).set v.f0.toNat ⟨-1, st.slots⟩, (st.act.filter (keepB (spanV_ code (rd_T40 code i).f1)) ++ [spanV_ code (rd_T40 code i).f1]).eraseIdx k, st.slots + 1⟩ := by
  obtain ⟨m1, m2⟩ := ainv_mid h hi hd a
  have hm := mk_at h hi hd
  have hD := right_D h i hi hd
  have hg := length_padTo_gt st.out (rd_T40 code i).f1 hD.1
  obtain ⟨s0, s1, s2, s3⟩ := span_of (code := code) (t := (rd_T40 code i).f1) (by omega)
  have hms := made_succ h hi hd
  have hrp := rd_pad st.out (rd_T40 code i).f1
  have hpn := rd_padNew st.out (rd_T40 code i).f1
  generalize hT : (rd_T40 code i).f1 = T at *
  have hvm : v ∈ st.act.filter (keepB (spanV_ code T)) ++ [spanV_ code T] := by rw [hv]; exact List.getElem_mem hk
  have hne' : ∀ x ∈ (st.act.filter (keepB (spanV_ code T)) ++ [spanV_ code T]).eraseIdx k, x.f0 ≠ v.f0 := fun x hx => by rw [hv]; exact ne_erase (·.f0) m2 hk hx
  have hin' : ∀ x ∈ st.act.filter (keepB (spanV_ code T)) ++ [spanV_ code T], x.f0 ≠ v.f0 → x ∈ (st.act.filter (keepB (spanV_ code T)) ++ [spanV_ code T]).eraseIdx k := fun x hx hne => mem_erase_of hx hk (fun e => hne (by rw [hv, ← e]))
  clear hv
  obtain ⟨v1, v2, v3, v4, v5, v6, v7⟩ := m1 v hvm
  have hnm : ∀ t, madeB code i t → t ≠ T := fun t ht e => by
    rw [e] at ht; have := ht.2.2; omega
  have hvold : v.f0 ≠ T → v ∈ st.act ∧ madeB code i v.f0 := fun hne => by
    rcases List.mem_append.1 hvm with hb | hb
    · have hb1 := (List.mem_filter.1 hb).1
      obtain ⟨o1, o2, o3, o4, o5⟩ := a.own v hb1
      exact ⟨hb1, o4, o2, o3⟩
    · rw [List.mem_singleton] at hb
      rw [hb] at hne
      exact absurd s0 hne
  generalize hO : ((padTo st.out T).set T.toNat (rd_T36 (padTo st.out T) v.f0)).set v.f0.toNat ⟨-1, (st.slots : Int)⟩ = O at *
  have hOl : O.length = (padTo st.out T).length := by rw [← hO]; simp
  have hget : ∀ t : Int, 0 ≤ t → rd_T36 O t = if t = v.f0 then ⟨-1, (st.slots : Int)⟩ else if t = T then rd_T36 (padTo st.out T) v.f0 else rd_T36 (padTo st.out T) t := by
    intro t ht
    rw [← hO, rd_set36, rd_set36]
    by_cases e : t = v.f0
    · rw [if_pos ⟨by rw [e], by simp; omega⟩, if_pos e]
    · rw [if_neg (by omega), if_neg e]
      by_cases e2 : t = T
      · rw [if_pos ⟨by rw [e2], by omega⟩, if_pos e2]
      · rw [if_neg (by omega), if_neg e2]
  have hold : ∀ t : Int, madeB code i t → t ≠ v.f0 → rd_T36 O t = rd_T36 st.out t := fun t ht e => by
    have h1 := (p.p2 t ht).1
    have h0 := ht.1
    rw [hget t h0, if_neg e, if_neg (hnm t ht), hrp t (by omega)]
  have hVV : rd_T36 O v.f0 = ⟨-1, (st.slots : Int)⟩ := by rw [hget v.f0 v4, if_pos rfl]
  have hTT : v.f0 ≠ T → rd_T36 O T = rd_T36 st.out v.f0 := fun e => by
    have h1 := (p.p2 _ (hvold e).2).1
    rw [hget T hD.1, if_neg (fun e' => e e'.symm), if_pos rfl, hrp v.f0 (by omega)]
  clear hO
  have hvspan : v = spanV_ code v.f0 := v1
  have apart : v.f0 ≠ T → ∀ u : Int, madeB code i u → u ≠ v.f0 → (rd_T36 st.out u).f0 = (rd_T36 st.out v.f0).f0 → (spanV_ code u).f2 < i := by
    intro hne u hu huv he
    have h5 := p.p5 v.f0 u (hvold hne).2 hu (fun e => huv e.symm) (p.p3 v (hvold hne).1) he.symm
    rw [← hvspan] at h5
    have h6 := (span_of hu.2.1).2.1
    have h7 := hu.2.2
    by_cases hc : (spanV_ code u).f2 < i
    · exact hc
    · exact absurd ⟨by omega, by omega⟩ h5
  constructor
  · intro t h0 h1 h2
    change t < (O.length : Int) at h1
    have e : t ≠ T := fun e => h2 ((hms t).2 (.inl e))
    have e2 : t ≠ v.f0 := fun e2 => h2 (by
      rw [hms]
      by_cases e3 : v.f0 = T
      · exact .inl (by rw [e2, e3])
      · exact .inr (by rw [e2]; exact (hvold e3).2))
    show rd_T36 O t = _
    rw [hget t h0, if_neg e2, if_neg e]
    by_cases hl : t.toNat < st.out.length
    · rw [hrp t hl]
      exact p.p1 t h0 (by omega) (fun hc => h2 ((hms t).2 (.inr hc)))
    · exact hpn t hl (by omega)
  · intro t ht
    show t < (O.length : Int) ∧ _
    by_cases e2 : t = v.f0
    · refine ⟨by omega, .inr ?_⟩
      show (rd_T36 O t).f0 = -1 ∧ 0 ≤ (rd_T36 O t).f1 ∧ (rd_T36 O t).f1 < ((st.slots + 1 : Nat) : Int)
      rw [e2, hVV]
      exact ⟨rfl, by show (0 : Int) ≤ (st.slots : Int); omega, by show (st.slots : Int) < _; push_cast; omega⟩
    · rw [hms] at ht
      show _ ∧ ((0 ≤ (rd_T36 O t).f0 ∧ (rd_T36 O t).f0 < regs ∧ (rd_T36 O t).f1 = 0 ∧ _) ∨ ((rd_T36 O t).f0 = -1 ∧ 0 ≤ (rd_T36 O t).f1 ∧ (rd_T36 O t).f1 < ((st.slots + 1 : Nat) : Int)))
      rcases ht with rfl | ht
      · have hvT : v.f0 ≠ t := fun e => e2 e.symm
        obtain ⟨u1, u2⟩ := p.p2 _ (hvold hvT).2
        have u7 := p.p3 v (hvold hvT).1
        rw [hTT hvT]
        refine ⟨by omega, .inl ?_⟩
        rcases u2 with ⟨u3, u4, u5, u6⟩ | ⟨u3, _⟩
        · exact ⟨u3, u4, u5, .inl (hin' _ (by simp) (by rw [s0]; exact e2))⟩
        · omega
      · obtain ⟨u1, u2⟩ := p.p2 t ht
        rw [hold t ht e2]
        refine ⟨by omega, ?_⟩
        rcases u2 with ⟨u3, u4, u5, u6⟩ | ⟨u3, u4, u5⟩
        · refine .inl ⟨u3, u4, u5, ?_⟩
          rcases u6 with u6 | u6
          · by_cases hk' : keepB (spanV_ code T) (spanV_ code t) = true
            · exact .inl (hin' _ (List.mem_append.2 (.inl (List.mem_filter.2 ⟨u6, hk'⟩))) (by rw [(span_of ht.2.1).1]; exact e2))
            · rw [keep_iff] at hk'
              exact .inr (by push_cast; omega)
          · exact .inr (by push_cast; omega)
        · exact .inr ⟨u3, u4, by push_cast; omega⟩
  · intro b hb
    have hbv := hne' b hb
    have hb' := List.mem_of_mem_eraseIdx hb
    show 0 ≤ (rd_T36 O b.f0).f0
    rcases List.mem_append.1 hb' with hb2 | hb2
    · have hb1 := (List.mem_filter.1 hb2).1
      obtain ⟨o1, o2, o3, o4, o5⟩ := a.own b hb1
      rw [hold b.f0 ⟨o4, o2, o3⟩ hbv]
      exact p.p3 b hb1
    · rw [List.mem_singleton] at hb2
      rw [hb2, s0] at hbv ⊢
      rw [hTT (fun e => hbv e.symm)]
      exact p.p3 v (hvold (fun e => hbv e.symm)).1
  · intro t u ht hu hne h1 h2
    change (rd_T36 O t).f0 < 0 at h1
    change (rd_T36 O u).f0 < 0 at h2
    show (rd_T36 O t).f1 ≠ (rd_T36 O u).f1
    have small : ∀ x : Int, madeB code (i + 1) x → x ≠ v.f0 → (rd_T36 O x).f0 < 0 → madeB code i x ∧ (rd_T36 st.out x).f1 < st.slots := by
      intro x hx hxv hx1
      rw [hms] at hx
      rcases hx with rfl | hx
      · have hvT : v.f0 ≠ x := fun e => hxv e.symm
        rw [hTT hvT] at hx1
        have := p.p3 v (hvold hvT).1
        omega
      · rw [hold x hx hxv] at hx1
        rcases (p.p2 x hx).2 with ⟨u3, _⟩ | ⟨u3, u4, u5⟩
        · omega
        · exact ⟨hx, u5⟩
    by_cases et : t = v.f0
    · have eu : u ≠ v.f0 := fun e => hne (by rw [et, e])
      obtain ⟨q1, q2⟩ := small u hu eu h2
      rw [et, hVV, hold u q1 eu]
      show (st.slots : Int) ≠ _
      omega
    · obtain ⟨w1, w2⟩ := small t ht et h1
      by_cases eu : u = v.f0
      · rw [eu, hVV, hold t w1 et]
        show _ ≠ (st.slots : Int)
        omega
      · obtain ⟨q1, q2⟩ := small u hu eu h2
        rw [hold t w1 et] at h1 ⊢
        rw [hold u q1 eu] at h2 ⊢
        exact p.p4 t u w1 q1 hne h1 h2
  · intro t u ht hu hne h1 h2
    change 0 ≤ (rd_T36 O t).f0 at h1
    change (rd_T36 O t).f0 = (rd_T36 O u).f0 at h2
    have et : t ≠ v.f0 := fun e => by rw [e, hVV] at h1; change (0 : Int) ≤ -1 at h1; omega
    have eu : u ≠ v.f0 := fun e => by rw [h2, e, hVV] at h1; change (0 : Int) ≤ -1 at h1; omega
    rw [hms] at ht hu
    rcases ht with rfl | ht
    · rcases hu with rfl | hu
      · exact absurd rfl hne
      · have hvT : v.f0 ≠ t := fun e => et e.symm
        rw [hTT hvT, hold u hu eu] at h2
        have := apart hvT u hu eu h2.symm
        intro hc; omega
    · rcases hu with rfl | hu
      · have hvT : v.f0 ≠ u := fun e => eu e.symm
        rw [hTT hvT, hold t ht et] at h2
        have := apart hvT t ht et h2
        intro hc; omega
      · rw [hold t ht et] at h1 h2
        rw [hold u hu eu] at h2
        exact p.p5 t u ht hu hne h1 h2
theorem pinv_at {code : List S40} {l : List S83} {regs : Int} (h : rightB code l = true) : ∀ i : Nat, i ≤ code.length → PInv code regs i (hAt code regs i) := by
  intro i
  induction i with
  | zero =>
    intro _
    refine ⟨fun t h0 h1 => by simp [hAt] at h1; omega, fun t ht => by have := ht.2; omega, fun a ha => by simp [hAt] at ha, fun t u ht => by have := ht.2; omega, fun t u ht => by have := ht.2; omega⟩
  | succ i ih =>
    intro hi
    have p := ih (by omega)
    have a := ainv_at (regs := regs) h i (by omega)
    rw [hAt]
    generalize hAt code regs i = st at *
    unfold hStep
    by_cases hd : hasD (rd_T40 code i).f0 = true
    · rw [if_pos hd]
      have hm := mk_at h (by omega) hd
      have s0 := (span_of (code := code) (t := (rd_T40 code i).f1) (by omega)).1
      dsimp only
      rw [s0]
      split
      · rename_i hlt
        exact pinv_reg h (by omega) hd a p hlt
      · have hk := leastK_lt ((st.act.filter (keepB (spanV_ code (rd_T40 code i).f1)) ++ [spanV_ code (rd_T40 code i).f1]).map wkey) (by simp)
        rw [List.length_map] at hk
        refine pinv_slot h (by omega) hd a p _ hk _ ?_
        rw [rd_T44, List.getD_eq_getElem?_getD, show (((leastK ((st.act.filter (keepB (spanV_ code (rd_T40 code i).f1)) ++ [spanV_ code (rd_T40 code i).f1]).map wkey) : Nat) : Int)).toNat = leastK ((st.act.filter (keepB (spanV_ code (rd_T40 code i).f1)) ++ [spanV_ code (rd_T40 code i).f1]).map wkey) from by omega, List.getElem?_eq_getElem hk]
        rfl
    · rw [if_neg hd]
      have hms := made_not hd
      refine ⟨fun t h0 h1 h2 => p.p1 t h0 h1 (fun hc => h2 ((hms t).2 hc)), fun t ht => ?_, p.p3, fun t u ht hu => p.p4 t u ((hms t).1 ht) ((hms u).1 hu), fun t u ht hu => p.p5 t u ((hms t).1 ht) ((hms u).1 hu)⟩
      obtain ⟨u1, u2⟩ := p.p2 t ((hms t).1 ht)
      refine ⟨u1, ?_⟩
      rcases u2 with ⟨u3, u4, u5, u6⟩ | u3
      · exact .inl ⟨u3, u4, u5, u6.imp id (fun h => by push_cast; omega)⟩
      · exact .inr u3
end Go.Proofs.Ytgljbgmphelhbaa.Q
