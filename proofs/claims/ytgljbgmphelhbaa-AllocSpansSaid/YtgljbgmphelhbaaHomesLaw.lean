/- What alloc.Homes promises, told plainly: who is active, and that there is a register for each where there are enough. -/
import Derived.Test.YtgljbgmphelhbaaHomesModel
namespace Go.Proofs.Ytgljbgmphelhbaa.Q
open Go.RowKit Go.Proofs.YtgljbgmphelhbaaW.PrintWords Go.Proofs.YtgljbgmphelhbaaW.PrintLast Go.Proofs.YtgljbgmphelhbaaW.PrintMore Go.Proofs.Ytgljbgmphelhbaa.IM
set_option linter.unusedVariables false
set_option linter.unusedSimpArgs false

/-! ### each temp is made once -/
theorem rStep_made (i : Nat) (x : S40) (s : RSt) : (rStep i x s).made = if hasD x.f0 then upd s.made x.f1 i else s.made := by
  have hn : (rNext i x (rTo i x s)).made = s.made := by
    unfold rNext rTo
    split <;> split <;> rfl
  unfold rStep rMade
  split
  · show upd (rNext i x (rTo i x s)).made x.f1 i = _
    rw [hn]
  · exact hn
theorem made_none (code : List S40) (t : Int) : ∀ i : Nat, ((rAt code i).made t).isNone = true → ∀ j : Nat, j < i → makesT (rd_T40 code j) t = false := by
  intro i
  induction i with
  | zero => intro _ j hj; omega
  | succ i ih =>
    intro h j hj
    rw [rAt, rStep_made] at h
    by_cases hd : hasD (rd_T40 code i).f0 = true
    · rw [if_pos hd] at h
      simp only [upd] at h
      by_cases ht : t = (rd_T40 code i).f1
      · rw [if_pos ht] at h; simp at h
      · rw [if_neg ht] at h
        by_cases hji : j = i
        · subst hji
          simp only [makesT, hd, Bool.true_and, beq_eq_false_iff_ne, ne_eq]
          exact fun e => ht e.symm
        · exact ih h j (by omega)
    · rw [if_neg hd] at h
      by_cases hji : j = i
      · subst hji
        simp [makesT, Bool.eq_false_iff.mpr hd]
      · exact ih h j (by omega)
/-- The piece that makes a temp; -1: none. -/
def mk (code : List S40) (t : Int) : Int := idxFrom (fun x => makesT x t) code 0
theorem get_rd {code : List S40} {i : Nat} (hi : i < code.length) : code[i] = rd_T40 code i := by
  simp [rd_T40, List.getD_eq_getElem?_getD, List.getElem?_eq_getElem hi]
theorem mk_at {code : List S40} {l : List S83} (h : rightB code l = true) {i : Nat} (hi : i < code.length) (hd : hasD (rd_T40 code i).f0 = true) : mk code (rd_T40 code i).f1 = i := by
  have hr := h
  simp only [rightB, Bool.and_eq_true] at hr
  have h1 := (upTo_iff _ _).1 hr.1.2 i hi
  simp only [ok1, Bool.and_eq_true] at h1
  have h2 := h1.2
  rw [hd] at h2
  have hn := made_none code (rd_T40 code i).f1 i (by simpa using h2)
  unfold mk
  rcases idxFrom_spec (fun x => makesT x (rd_T40 code i).f1) code 0 with ⟨he, hall⟩ | ⟨k, hk, he, htake, hp⟩
  · have := hall code[i] (List.getElem_mem hi)
    rw [get_rd hi] at this
    simp [makesT, hd] at this
  · rw [he]
    by_cases h3 : k < i
    · have := hn k h3
      rw [get_rd hk] at hp
      rw [this] at hp; cases hp
    · by_cases h4 : i < k
      · have := htake code[i] (by
          rw [List.mem_take_iff_getElem]
          exact ⟨i, by omega, rfl⟩)
        rw [get_rd hi] at this
        simp [makesT, hd] at this
      · omega
theorem mk_made {code : List S40} {t : Int} (h : 0 ≤ mk code t) : ∃ i : Nat, i < code.length ∧ mk code t = i ∧ hasD (rd_T40 code i).f0 = true ∧ (rd_T40 code i).f1 = t := by
  unfold mk at h ⊢
  rcases idxFrom_spec (fun x => makesT x t) code 0 with ⟨he, hall⟩ | ⟨k, hk, he, htake, hp⟩
  · omega
  · refine ⟨k, hk, by omega, ?_⟩
    rw [get_rd hk] at hp
    simpa [makesT] using hp
theorem span_of {code : List S40} {t : Int} (h : 0 ≤ mk code t) : (spanV_ code t).f0 = t ∧ (spanV_ code t).f1 = mk code t ∧ (spanV_ code t).f1 ≤ (spanV_ code t).f2 ∧ alloc_spanOf.f code t = some (t, (spanV_ code t).f1, (spanV_ code t).f2, (spanV_ code t).f3, true) := by
  have h' : ¬ idxFrom (fun x => makesT x t) code 0 < 0 := by unfold mk at h; omega
  have h1 : alloc_spanOf.f code t = some (t, idxFrom (fun x => makesT x t) code 0, (useLoop t code 0 (idxFrom (fun x => makesT x t) code 0) 0).1, (useLoop t code 0 (idxFrom (fun x => makesT x t) code 0) 0).2, true) := by
    unfold alloc_spanOf.f; rw [if_neg h']
  have h2 : spanV_ code t = ⟨t, idxFrom (fun x => makesT x t) code 0, (useLoop t code 0 (idxFrom (fun x => makesT x t) code 0) 0).1, (useLoop t code 0 (idxFrom (fun x => makesT x t) code 0) 0).2⟩ := by
    unfold spanV_; rw [h1]
  rw [h1, h2]
  exact ⟨rfl, rfl, (useLoop_bound t code 0 _ 0).1, rfl⟩
theorem span_not {code : List S40} {t : Int} (h : ¬ 0 ≤ mk code t) : alloc_spanOf.f code t = some (0, 0, 0, 0, false) := by
  unfold alloc_spanOf.f
  rw [if_pos (by unfold mk at h; omega)]

/-! ### who is active -/
structure AInv (code : List S40) (i : Nat) (st : HSt) : Prop where
  own : ∀ a ∈ st.act, a = spanV_ code a.f0 ∧ 0 ≤ mk code a.f0 ∧ mk code a.f0 < i ∧ 0 ≤ a.f0 ∧ a.f0 < st.out.length
  one : (st.act.map (·.f0)).Nodup
theorem keep_iff {s a : S44} : keepB s a = true ↔ s.f1 ≤ a.f2 := by
  simp [keepB, ended]
theorem nodup_sub {α β : Type} {f : α → β} {l l' : List α} (h : l'.Sublist l) (hn : (l.map f).Nodup) : (l'.map f).Nodup := List.Sublist.nodup (List.Sublist.map f h) hn
theorem ainv_mid {code : List S40} {l : List S83} (h : rightB code l = true) {i : Nat} {st : HSt} (hi : i < code.length) (hd : hasD (rd_T40 code i).f0 = true) (a : AInv code i st) :
    (∀ b ∈ st.act.filter (keepB (spanV_ code (rd_T40 code i).f1)) ++ [spanV_ code (rd_T40 code i).f1], b = spanV_ code b.f0 ∧ 0 ≤ mk code b.f0 ∧ mk code b.f0 < (i + 1 : Nat) ∧ 0 ≤ b.f0 ∧ b.f0 < (padTo st.out (rd_T40 code i).f1).length ∧ b.f1 ≤ i ∧ (i : Int) ≤ b.f2) ∧
    ((st.act.filter (keepB (spanV_ code (rd_T40 code i).f1)) ++ [spanV_ code (rd_T40 code i).f1]).map (·.f0)).Nodup := by
  have hm := mk_at h hi hd
  have hD := right_D h i hi hd
  obtain ⟨s0, s1, s2, s3⟩ := span_of (code := code) (t := (rd_T40 code i).f1) (by omega)
  have hg := length_padTo_gt st.out (rd_T40 code i).f1 hD.1
  constructor
  · intro b hb
    rcases List.mem_append.1 hb with hb | hb
    · obtain ⟨hb1, hb2⟩ := List.mem_filter.1 hb
      obtain ⟨o1, o2, o3, o4, o5⟩ := a.own b hb1
      have hf : b.f1 = mk code b.f0 := by
        have := (span_of (code := code) (t := b.f0) o2).2.1
        rwa [← o1] at this
      rw [keep_iff] at hb2
      exact ⟨o1, o2, by omega, o4, by omega, by omega, by omega⟩
    · rw [List.mem_singleton] at hb
      rw [hb, s0]
      exact ⟨rfl, by omega, by omega, hD.1, by omega, by omega, by omega⟩
  · rw [List.map_append, List.nodup_append]
    refine ⟨nodup_sub List.filter_sublist a.one, by simp, ?_⟩
    intro x hx y hy
    obtain ⟨b, hb, rfl⟩ := List.mem_map.1 hx
    rw [List.map_singleton, List.mem_singleton, s0] at hy
    rw [hy]
    intro e
    have := (a.own b (List.mem_filter.1 hb).1).2.2.1
    rw [e, hm] at this
    omega
theorem ainv_step {code : List S40} {l : List S83} (h : rightB code l = true) {regs : Int} {i : Nat} {st : HSt} (hi : i < code.length) (a : AInv code i st) : AInv code (i + 1) (hStep code regs (rd_T40 code i) st) := by
  unfold hStep
  by_cases hd : hasD (rd_T40 code i).f0 = true
  · rw [if_pos hd]
    obtain ⟨m1, m2⟩ := ainv_mid h hi hd a
    dsimp only
    split
    · refine ⟨fun b hb => ?_, m2⟩
      obtain ⟨o1, o2, o3, o4, o5, _⟩ := m1 b hb
      exact ⟨o1, o2, o3, o4, by simpa using o5⟩
    · refine ⟨fun b hb => ?_, nodup_sub (List.eraseIdx_sublist _ _) m2⟩
      obtain ⟨o1, o2, o3, o4, o5, _⟩ := m1 b (List.mem_of_mem_eraseIdx hb)
      exact ⟨o1, o2, o3, o4, by simpa using o5⟩
  · rw [if_neg hd]
    exact ⟨fun b hb => by obtain ⟨o1, o2, o3, o4, o5⟩ := a.own b hb; exact ⟨o1, o2, by omega, o4, o5⟩, a.one⟩
theorem ainv_at {code : List S40} {l : List S83} {regs : Int} (h : rightB code l = true) : ∀ i : Nat, i ≤ code.length → AInv code i (hAt code regs i) := by
  intro i
  induction i with
  | zero => intro _; exact ⟨fun a ha => by simp [hAt] at ha, by simp [hAt]⟩
  | succ i ih => intro hi; exact ainv_step h (by omega) (ih (by omega))

/-! ### how many live at a piece -/
def liveB (code : List S40) (i : Int) (t : Nat) : Bool := decide (0 ≤ mk code t) && decide ((spanV_ code t).f1 ≤ i) && decide (i ≤ (spanV_ code t).f2)
def cnt (code : List S40) (i : Int) : Nat → Nat
  | 0 => 0
  | m + 1 => cnt code i m + if liveB code i m = true then 1 else 0
theorem cnt_ge (code : List S40) (i : Int) : ∀ (m : Nat) (L : List Int), L.Nodup → (∀ x ∈ L, 0 ≤ x ∧ x < m ∧ liveB code i x.toNat = true) → L.length ≤ cnt code i m := by
  intro m
  induction m with
  | zero =>
    intro L _ h
    cases L with
    | nil => simp
    | cons x L => have := h x (by simp); omega
  | succ m ih =>
    intro L hn h
    simp only [cnt]
    by_cases hm : (m : Int) ∈ L
    · have h1 := ih (L.erase (m : Int)) (hn.erase _) (fun x hx => by
        have hx' := (List.Nodup.mem_erase_iff hn).1 hx
        obtain ⟨a, b, c⟩ := h x hx'.2
        have hne : x ≠ (m : Int) := hx'.1
        exact ⟨a, by omega, c⟩)
      have h2 := List.length_erase_of_mem hm
      have h3 := (h (m : Int) hm).2.2
      rw [show ((m : Int)).toNat = m from by omega] at h3
      rw [if_pos h3]
      have : 0 < L.length := List.length_pos_of_mem hm
      omega
    · have h1 := ih L hn (fun x hx => by
        obtain ⟨a, b, c⟩ := h x hx
        have hne : x ≠ (m : Int) := fun e => hm (e ▸ hx)
        exact ⟨a, by omega, c⟩)
      omega
theorem out_step (code : List S40) (regs : Int) (x : S40) (st : HSt) (h0 : hasD x.f0 = true → 0 ≤ x.f1) : st.out.length ≤ (hStep code regs x st).out.length := by
  unfold hStep
  split
  · rename_i hd
    have := length_padTo_gt st.out x.f1 (h0 hd)
    dsimp only
    split <;> simp <;> omega
  · exact Nat.le_refl _
theorem out_mono {code : List S40} {l : List S83} (regs : Int) (h : rightB code l = true) (i : Nat) : ∀ d : Nat, i + d ≤ code.length → (hAt code regs i).out.length ≤ (hAt code regs (i + d)).out.length := by
  intro d
  induction d with
  | zero => intro _; exact Nat.le_refl _
  | succ d ih =>
    intro hd
    refine Nat.le_trans (ih (by omega)) ?_
    exact out_step code regs _ _ (fun hh => (right_D h (i + d) (by omega) hh).1)

/-! ### enough registers -/
theorem rd_set36 (xs : List S36) (j : Nat) (v : S36) (i : Int) : rd_T36 (xs.set j v) i = if j = i.toNat ∧ j < xs.length then v else rd_T36 xs i := by
  unfold rd_T36
  rw [List.getD_eq_getElem?_getD, List.getD_eq_getElem?_getD, List.getElem?_set]
  by_cases h1 : j = i.toNat
  · subst h1
    by_cases h2 : i.toNat < xs.length
    · simp [h2]
    · simp [h2]
  · rw [if_neg h1, if_neg (fun h => h1 h.1)]
theorem rd_pad (xs : List S36) (d : Int) (i : Int) (hi : i.toNat < xs.length) : rd_T36 (padTo xs d) i = rd_T36 xs i := by
  unfold rd_T36 padTo
  rw [List.getD_eq_getElem?_getD, List.getD_eq_getElem?_getD, List.getElem?_append_left hi]
structure EInv (code : List S40) (i : Nat) (st : HSt) : Prop where
  reg : ∀ t : Int, 0 ≤ t → 0 ≤ mk code t → mk code t < i → t < st.out.length ∧ 0 ≤ (rd_T36 st.out t).f0
theorem einv_at {code : List S40} {l : List S83} {regs : Int} (h : rightB code l = true) (henough : ∀ i : Nat, i < code.length → (cnt code i (hAt code regs code.length).out.length : Int) ≤ regs) : ∀ i : Nat, i ≤ code.length → EInv code i (hAt code regs i) := by
  intro i
  induction i with
  | zero => intro _; exact ⟨fun t _ h1 h2 => by omega⟩
  | succ i ih =>
    intro hi
    have e := ih (by omega)
    have a := ainv_at (regs := regs) h i (by omega)
    have hout := out_mono regs h (i + 1) (code.length - (i + 1)) (by omega)
    rw [show i + 1 + (code.length - (i + 1)) = code.length from by omega] at hout
    have hen := henough i (by omega)
    rw [hAt] at hout ⊢
    generalize hst : hAt code regs i = st at *
    unfold hStep at hout ⊢
    by_cases hd : hasD (rd_T40 code i).f0 = true
    · rw [if_pos hd] at hout ⊢
      obtain ⟨m1, m2⟩ := ainv_mid h (by omega) hd a
      have hm := mk_at h (by omega) hd
      have hD := right_D h i (by omega) hd
      have hg := length_padTo_gt st.out (rd_T40 code i).f1 hD.1
      obtain ⟨s0, s1, s2, s3⟩ := span_of (code := code) (t := (rd_T40 code i).f1) (by omega)
      have hlen : (padTo st.out (rd_T40 code i).f1).length ≤ (hAt code regs code.length).out.length := by
        dsimp only at hout
        split at hout <;> simpa using hout
      have hc := cnt_ge code i (hAt code regs code.length).out.length _ m2 (fun x hx => by
        obtain ⟨b, hb, rfl⟩ := List.mem_map.1 hx
        obtain ⟨o1, o2, o3, o4, o5, o6, o7⟩ := m1 b hb
        refine ⟨o4, by omega, ?_⟩
        simp only [liveB, Bool.and_eq_true, decide_eq_true_eq]
        rw [show ((b.f0.toNat : Nat) : Int) = b.f0 from by omega, ← o1]
        exact ⟨⟨o2, o6⟩, o7⟩)
      rw [List.length_map, List.length_append] at hc
      simp only [List.length_singleton] at hc
      have hlt : ((st.act.filter (keepB (spanV_ code (rd_T40 code i).f1))).length : Int) < regs := by omega
      dsimp only
      rw [if_pos hlt]
      refine ⟨fun t ht h1 h2 => ?_⟩
      show t < ((List.set _ _ _).length : Int) ∧ 0 ≤ (rd_T36 (List.set _ _ _) t).f0
      rw [List.length_set, rd_set36, s0]
      by_cases htt : t = (rd_T40 code i).f1
      · rw [htt, if_pos ⟨rfl, by omega⟩]
        exact ⟨by omega, by show (0 : Int) ≤ ((leastReg _ _ : Nat) : Int); omega⟩
      · rw [if_neg (by omega)]
        have hne : mk code t ≠ i := by
          intro he
          obtain ⟨j, _, hj2, _, hj4⟩ := mk_made h1
          have : j = i := by omega
          subst this
          exact htt hj4.symm
        obtain ⟨r1, r2⟩ := e.reg t ht h1 (by omega)
        refine ⟨by omega, ?_⟩
        rw [rd_pad _ _ _ (by omega)]
        exact r2
    · rw [if_neg hd]
      refine ⟨fun t ht h1 h2 => e.reg t ht h1 ?_⟩
      have hne : mk code t ≠ i := by
        intro he
        obtain ⟨j, _, hj2, hj3, _⟩ := mk_made h1
        have : j = i := by omega
        subst this
        exact hd hj3
      omega
end Go.Proofs.Ytgljbgmphelhbaa.Q
