/- Trimming keeps a right tree, what it does, and what is least in it. -/
import Derived.Test.YtaoefdbhfhcplaaFoldTrim
namespace Go.Proofs.Ytaoefdbhfhcplaa.Q
open Go.RowKit Go.Proofs.YtaoefdbhfhcplaaW.PrintWords Go.Proofs.YtaoefdbhfhcplaaW.PrintLast Go.Proofs.YtaoefdbhfhcplaaW.PrintMore Go.Proofs.Ytaoefdbhfhcplaa.IM
set_option linter.unusedVariables false
set_option linter.unusedSimpArgs false

/-! ### counts -/
def usesN : FT → Int → Nat
  | .leaf, _ => 0
  | .node x n s, a => (tempsOf x).count a + usesN s a + usesN n a
theorem temps_len (x : S39) : (tempsOf x).length ≤ 2 := by unfold tempsOf; (repeat' split) <;> simp
theorem bumps (B : Int) : ∀ (ts : List Int) (used : Int → Option Int), (∀ a, 0 ≤ (used a).getD 0 ∧ (used a).getD 0 ≤ B) → B + ts.length ≤ 9000000000000000000 →
    (∀ a, (ts.foldl bump used a).getD 0 = (used a).getD 0 + ts.count a) := by
  intro ts
  induction ts with
  | nil => intro used _ _ a; simp
  | cons t ts ih =>
    intro used hb hB a
    have hb' : ∀ a, 0 ≤ (bump used t a).getD 0 ∧ (bump used t a).getD 0 ≤ B + 1 := by
      intro a
      unfold bump upd
      obtain ⟨h1, h2⟩ := hb t
      obtain ⟨h3, h4⟩ := hb a
      simp only [List.length_cons] at hB
      split
      · simp only [Option.getD_some]; unfold wrap64; omega
      · omega
    rw [List.foldl_cons]
    have ih' := ih (bump used t)
    have : ∀ a, (ts.foldl bump (bump used t) a).getD 0 = (bump used t a).getD 0 + ts.count a := by
      clear ih'
      intro a
      have gen : ∀ (B' : Int), (∀ a, 0 ≤ (bump used t a).getD 0 ∧ (bump used t a).getD 0 ≤ B') → B' + ts.length ≤ 9000000000000000000 → (ts.foldl bump (bump used t) a).getD 0 = (bump used t a).getD 0 + ts.count a := by
        intro B' h1 h2
        have : ∀ (ts : List Int) (used : Int → Option Int) (B : Int), (∀ a, 0 ≤ (used a).getD 0 ∧ (used a).getD 0 ≤ B) → B + ts.length ≤ 9000000000000000000 → ∀ a, (ts.foldl bump used a).getD 0 = (used a).getD 0 + ts.count a := by
          intro ts
          induction ts with
          | nil => intro used B _ _ a; simp
          | cons t ts ih =>
            intro used B hb hB a
            rw [List.foldl_cons, ih (bump used t) (B + 1) ?_ ?_ a]
            · unfold bump upd
              obtain ⟨h1, h2⟩ := hb t
              simp only [List.length_cons] at hB
              by_cases e : a = t
              · subst e
                rw [if_pos rfl]
                simp only [Option.getD_some, List.count_cons_self]
                unfold wrap64; omega
              · rw [if_neg e, List.count_cons_of_ne (fun h => e h.symm)]
            · intro a
              unfold bump upd
              obtain ⟨h1, h2⟩ := hb t
              obtain ⟨h3, h4⟩ := hb a
              simp only [List.length_cons] at hB
              split
              · simp only [Option.getD_some]; unfold wrap64; omega
              · omega
            · simp only [List.length_cons] at hB; omega
        exact this ts (bump used t) B' h1 h2 a
      exact gen (B + 1) hb' (by simp only [List.length_cons] at hB; omega)
    rw [this a]
    unfold bump upd
    obtain ⟨h1, h2⟩ := hb t
    simp only [List.length_cons] at hB
    by_cases e : a = t
    · subst e
      rw [if_pos rfl]
      simp only [Option.getD_some, List.count_cons_self]
      unfold wrap64; omega
    · rw [if_neg e, List.count_cons_of_ne (fun h => e h.symm)]
theorem count_len (ts : List Int) (a : Int) : ts.count a ≤ ts.length := List.count_le_length
theorem usesN_le : ∀ (t : FT) (a : Int), usesN t a ≤ 2 * t.size := by
  intro t a
  induction t with
  | leaf => simp [usesN]
  | node x n s ihn ihs =>
    simp only [usesN, FT.size]
    have h1 := temps_len x
    have h2 := count_len (tempsOf x) a
    omega
theorem cnt_of : ∀ (t : FT) (used : Int → Option Int) (B : Int), (∀ a, 0 ≤ (used a).getD 0 ∧ (used a).getD 0 ≤ B) → B + 2 * t.size ≤ 9000000000000000000 →
    ∀ a, (cntT t used a).getD 0 = (used a).getD 0 + usesN t a := by
  intro t
  induction t with
  | leaf => intro used B _ _ a; simp [cntT, usesN]
  | node x n s ihn ihs =>
    intro used B hb hB a
    simp only [FT.size] at hB
    have hx := temps_len x
    have h1 : ∀ a, (addUses used x a).getD 0 = (used a).getD 0 + (tempsOf x).count a := bumps B (tempsOf x) used hb (by omega)
    have b1 : ∀ a, 0 ≤ (addUses used x a).getD 0 ∧ (addUses used x a).getD 0 ≤ B + 2 := fun a => by
      have := hb a; have := count_len (tempsOf x) a; rw [h1]; omega
    have h2 := ihs (addUses used x) (B + 2) b1 (by omega)
    have b2 : ∀ a, 0 ≤ (cntT s (addUses used x) a).getD 0 ∧ (cntT s (addUses used x) a).getD 0 ≤ B + 2 + 2 * s.size := fun a => by
      have := b1 a; have := usesN_le s a; rw [h2]; omega
    have h3 := ihn (cntT s (addUses used x)) _ b2 (by omega) a
    simp only [cntT, usesN]
    rw [h3, h2, h1]
    push_cast
    omega
def UsedIn (L : List S39) (a : Int) : Prop := ∃ x ∈ L, a ∈ tempsOf x
theorem usesN_pos : ∀ (t : FT) (a : Int), usesN t a ≠ 0 ↔ UsedIn t.pre a := by
  intro t a
  induction t with
  | leaf => simp [usesN, UsedIn, FT.pre]
  | node x n s ihn ihs =>
    simp only [usesN, FT.pre]
    have hc : (tempsOf x).count a ≠ 0 ↔ a ∈ tempsOf x := by rw [← List.count_pos_iff]; omega
    constructor
    · intro h
      by_cases h1 : (tempsOf x).count a ≠ 0
      · exact ⟨x, by simp, hc.1 h1⟩
      · by_cases h2 : usesN s a ≠ 0
        · obtain ⟨y, hy, hy2⟩ := ihs.1 h2; exact ⟨y, by simp [hy], hy2⟩
        · obtain ⟨y, hy, hy2⟩ := ihn.1 (by omega); exact ⟨y, by simp [hy], hy2⟩
    · intro ⟨y, hy, hy2⟩
      rcases List.mem_cons.1 hy with e | e
      · subst e; have := hc.2 hy2; omega
      · rcases List.mem_append.1 e with e | e
        · have := ihn.2 ⟨y, e, hy2⟩; omega
        · have := ihs.2 ⟨y, e, hy2⟩; omega
/-- The counts of a tree, from nothing on. -/
theorem cnt_zero (t : FT) (hs : t.size ≤ 400) (a : Int) : ((cntT t fun _ => none) a).getD 0 = 0 ↔ ¬ UsedIn t.pre a := by
  rw [cnt_of t _ 0 (fun a => ⟨Int.le_refl _, Int.le_refl _⟩) (by omega) a, ← usesN_pos]
  simp

/-! ### which are known -/
def ConstIn (L : List S39) (a K : Int) : Prop := ∃ y ∈ L, y.f0 = 1 ∧ y.f1 = a ∧ y.f6 = K
theorem learn_some {known : Int → Option Int} {x : S39} {a K : Int} (h : learn known x a = some K) : (x.f0 = 1 ∧ x.f1 = a ∧ x.f6 = K) ∨ known a = some K := by
  unfold learn at h
  split at h
  · rename_i h1
    unfold upd at h
    split at h
    · rename_i e; injection h with h; exact .inl ⟨h1, e.symm, h⟩
    · exact .inr h
  · exact .inr h
theorem learn_none {known : Int → Option Int} {x : S39} {a : Int} (h : learn known x a = none) : ¬ (x.f0 = 1 ∧ x.f1 = a) ∧ known a = none := by
  unfold learn at h
  split at h
  · rename_i h1
    unfold upd at h
    split at h
    · cases h
    · rename_i e; exact ⟨fun hh => e hh.2.symm, h⟩
  · rename_i h1; exact ⟨fun hh => h1 hh.1, h⟩
theorem kn_some : ∀ (t : FT) (known : Int → Option Int) (a K : Int), knT t known a = some K → ConstIn t.pre a K ∨ known a = some K := by
  intro t
  induction t with
  | leaf => intro known a K h; exact .inr h
  | node x n s ihn ihs =>
    intro known a K h
    simp only [knT] at h
    rcases ihn _ _ _ h with ⟨y, hy, h1⟩ | h
    · exact .inl ⟨y, by simp [FT.pre, hy], h1⟩
    · rcases ihs _ _ _ h with ⟨y, hy, h1⟩ | h
      · exact .inl ⟨y, by simp [FT.pre, hy], h1⟩
      · rcases learn_some h with h | h
        · exact .inl ⟨x, by simp [FT.pre], h⟩
        · exact .inr h
theorem kn_none : ∀ (t : FT) (known : Int → Option Int) (a : Int), knT t known a = none → (∀ K, ¬ ConstIn t.pre a K) ∧ known a = none := by
  intro t
  induction t with
  | leaf => intro known a h; exact ⟨fun K ⟨y, hy, _⟩ => by simp [FT.pre] at hy, h⟩
  | node x n s ihn ihs =>
    intro known a h
    simp only [knT] at h
    obtain ⟨h1, h⟩ := ihn _ _ h
    obtain ⟨h2, h⟩ := ihs _ _ h
    obtain ⟨h3, h⟩ := learn_none h
    refine ⟨fun K ⟨y, hy, h4, h5, h6⟩ => ?_, h⟩
    simp only [FT.pre] at hy
    rcases List.mem_cons.1 hy with e | e
    · subst e; exact h3 ⟨h4, h5⟩
    · rcases List.mem_append.1 e with e | e
      · exact h1 K ⟨y, e, h4, h5, h6⟩
      · exact h2 K ⟨y, e, h4, h5, h6⟩
theorem once_eq {L : List S39} (h : L.Pairwise Apart2) {x y : S39} (hx : x ∈ L) (hy : y ∈ L) (dx : hasD x.f0 = true) (dy : hasD y.f0 = true) (e : x.f1 = y.f1) : x = y := by
  obtain ⟨p, hp, rfl⟩ := List.getElem_of_mem hx
  obtain ⟨q, hq, rfl⟩ := List.getElem_of_mem hy
  rw [List.pairwise_iff_getElem] at h
  rcases Nat.lt_trichotomy p q with h1 | h1 | h1
  · exact absurd e (h p q hp hq h1 dx dy)
  · subst h1; rfl
  · exact absurd e.symm (h q p hq hp h1 dy dx)
theorem kn_iff {t : FT} (h : Once t) (a K : Int) : (knT t fun _ => none) a = some K ↔ ConstIn t.pre a K := by
  constructor
  · intro h1
    rcases kn_some t _ a K h1 with h1 | h1
    · exact h1
    · cases h1
  · intro hc
    cases hk : (knT t fun _ => none) a with
    | none => exact absurd hc ((kn_none t _ a hk).1 K)
    | some K' =>
      rcases kn_some t _ a K' hk with h1 | h1
      · obtain ⟨y, y1, y2, y3, y4⟩ := h1
        obtain ⟨z, z1, z2, z3, z4⟩ := hc
        have := once_eq h y1 z1 (by rw [y2]; decide) (by rw [z2]; decide) (by rw [y3, z3])
        rw [← y4, ← z4, this]
      · cases h1

/-! ### trimming keeps a right tree -/
theorem idle_kind {used known : Int → Option Int} {x : S39} (h : idleB used known x = true) : x.f0 ≠ 18 ∧ hasTo x.f0 = false ∧ hasD x.f0 = true ∧ (used x.f1).getD 0 = 0 ∧ 1 ≤ x.f0 ∧ x.f0 ≤ 5 ∧ (x.f0 = 5 → (known x.f3).getD 0 ≠ 0) := by
  unfold idleB at h
  split at h
  · rename_i hc
    refine ⟨by omega, ?_, ?_, by simpa using h, by omega, by omega, by omega⟩
    · rcases hc with e | e | e | e <;> rw [e] <;> decide
    · rcases hc with e | e | e | e <;> rw [e] <;> decide
  · split at h
    · rename_i hc
      simp only [Bool.and_eq_true, beq_iff_eq, bne_iff_ne] at h
      exact ⟨by omega, by rw [hc]; decide, by rw [hc]; decide, h.1, by omega, by omega, fun _ => h.2⟩
    · cases h
theorem trim_leaf {l : List S80} (used known : Int → Option Int) : ∀ t : FT, Shape l t → (trimT used known t).1.isLeaf = t.isLeaf := by
  intro t
  induction t with
  | leaf => intro _; rfl
  | node x n s ihn ihs =>
    intro ⟨h1, h2, h3, h4, h5, h6⟩
    simp only [trimT]
    split
    · rename_i hi
      rw [ihn h5]
      have := (idle_kind hi).1
      cases hl : n.isLeaf with
      | false => rfl
      | true => exact absurd (h2.1 hl) this
    · rfl
theorem trim_sub (used known : Int → Option Int) : ∀ t : FT, List.Sublist (trimT used known t).1.pre t.pre := by
  intro t
  induction t with
  | leaf => exact List.Sublist.refl _
  | node x n s ihn ihs =>
    simp only [trimT]
    split
    · simp only [FT.pre]
      exact List.Sublist.cons _ (ihn.trans (List.sublist_append_left _ _))
    · simp only [FT.pre]
      exact List.Sublist.cons_cons _ (List.Sublist.append ihn ihs)
theorem trim_shape {l : List S80} (used known : Int → Option Int) : ∀ t : FT, Shape l t → Shape l (trimT used known t).1 := by
  intro t
  induction t with
  | leaf => intro _; trivial
  | node x n s ihn ihs =>
    intro ⟨h1, h2, h3, h4, h5, h6⟩
    simp only [trimT]
    split
    · exact ihn h5
    · exact ⟨h1, by rw [trim_leaf used known n h5]; exact h2, by rw [trim_leaf used known s h6]; exact h3, h4, ihn h5, ihs h6⟩
def InU (U : Int → Prop) (x : S39) : Prop := (hasA x.f0 = true → U x.f2) ∧ (hasB x.f0 = true → U x.f3)
theorem trim_uses (used known : Int → Option Int) (U : Int → Prop) (hU : ∀ a, U a ↔ (used a).getD 0 ≠ 0) : ∀ (t : FT) (P : Int → Prop), UsesOK t P → (∀ x ∈ t.pre, InU U x) → UsesOK (trimT used known t).1 (fun a => P a ∧ U a) := by
  intro t
  induction t with
  | leaf => intro _ _ _; trivial
  | node x n s ihn ihs =>
    intro P ⟨h1, h2, h3, h4⟩ hin
    have hn := ihn _ h3 (fun y hy => hin y (by simp [FT.pre, hy]))
    have hs := ihs _ h4 (fun y hy => hin y (by simp [FT.pre, hy]))
    simp only [trimT]
    split
    · rename_i hi
      have hz := (idle_kind hi).2.2.2.1
      refine hn.mono fun a ⟨ha, hu⟩ => ⟨?_, hu⟩
      rcases ha with ha | ⟨_, ha⟩
      · exact ha
      · rw [← ha] at hu; exact absurd hz ((hU _).1 hu)
    · have hx := hin x (by simp [FT.pre])
      refine ⟨fun h => ⟨h1 h, hx.1 h⟩, fun h => ⟨h2 h, hx.2 h⟩, hn.mono fun a ⟨ha, hu⟩ => ?_, hs.mono fun a ⟨ha, hu⟩ => ?_⟩
      · exact ha.imp (fun h => ⟨h, hu⟩) id
      · exact ha.imp (fun h => ⟨h, hu⟩) id
theorem mem_temps {x : S39} : (hasA x.f0 = true → x.f2 ∈ tempsOf x) ∧ (hasB x.f0 = true → x.f3 ∈ tempsOf x) := by
  unfold tempsOf
  cases hb : hasB x.f0 <;> cases ha : hasA x.f0 <;> simp
theorem in_used {L : List S39} {x : S39} (hx : x ∈ L) : InU (UsedIn L) x := ⟨fun h => ⟨x, hx, mem_temps.1 h⟩, fun h => ⟨x, hx, mem_temps.2 h⟩⟩
def trim1 (t : FT) : FT × Nat := trimT (cntT t fun _ => none) (knT t fun _ => none) t
theorem trim_right {l : List S80} {t : FT} (h : RightT l t) : RightT l (trim1 t).1 := by
  refine ⟨trim_shape _ _ t h.shape, ?_, List.Pairwise.sublist (trim_sub _ _ t) h.once, by have := trim_size (cntT t fun _ => none) (knT t fun _ => none) t; have := h.size; unfold trim1; omega, by unfold trim1; rw [trim_leaf _ _ t h.shape]; exact h.some_⟩
  have := trim_uses (cntT t fun _ => none) (knT t fun _ => none) (UsedIn t.pre) (fun a => by rw [Ne, cnt_zero t h.size a]; exact Iff.symm Classical.not_not) t _ h.uses (fun x hx => in_used hx)
  exact this.mono fun a ha => ha.1

/-! ### trimming keeps what is done -/
structure Sim (U : Int → Prop) (s s' : RunSt) : Prop where
  len : s.temps.length = 400
  len' : s'.temps.length = 400
  ans : s.ans = s'.ans
  acts : s.acts = s'.acts
  same : ∀ a, 0 ≤ a → U a → rd s.temps a = rd s'.temps a
def SimR (U : Int → Prop) : StepR → StepR → Prop
  | .done a st, .done a' st' => a = a' ∧ st = st'
  | .next s, .next s' => Sim U s s'
  | .jump s, .jump s' => Sim U s s'
  | _, _ => False
theorem sim_put {U : Int → Prop} {tm tm' : List Int} {ts_ ts_' : List Int} {ac ac' : List S44} (h1 : tm.length = 400) (h2 : tm'.length = 400) (h3 : ts_ = ts_') (h4 : ac = ac') (h5 : ∀ a, 0 ≤ a → U a → rd tm a = rd tm' a) {d : Int} (hd : 0 ≤ d) (v : Int) :
    Sim U ⟨tm.set d.toNat v, ts_, ac⟩ ⟨tm'.set d.toNat v, ts_', ac'⟩ := by
  refine ⟨by simp [h1], by simp [h2], h3, h4, fun a ha hu => ?_⟩
  show rd (tm.set _ _) a = rd (tm'.set _ _) a
  rw [rd_set _ _ _ _ ha, rd_set _ _ _ _ ha, h1, h2, h5 a ha hu]
theorem step_sim {U : Int → Prop} {x : S39} (hop : 1 ≤ x.f0 ∧ x.f0 ≤ 18) (hD : hasD x.f0 = true → 0 ≤ x.f1) {s s' : RunSt} (h : Sim U s s') (hA : hasA x.f0 = true → rd s.temps x.f2 = rd s'.temps x.f2) (hB : hasB x.f0 = true → rd s.temps x.f3 = rd s'.temps x.f3) :
    SimR U (stepP x s) (stepP x s') := by
  obtain ⟨f0, f1, f2, f3, f4, f5, f6, f7⟩ := x
  dsimp only at hop hD hA hB
  obtain ⟨tm, ts_, ac⟩ := s
  obtain ⟨tm', ts_', ac'⟩ := s'
  obtain ⟨h1, h2, h3, h4, h5⟩ := h
  dsimp only at h1 h2 h3 h4 h5 hA hB
  subst h3
  subst h4
  have pt := fun (ts_ : List Int) (ac : List S44) (hd : 0 ≤ f1) (v : Int) => sim_put (U := U) h1 h2 (rfl : ts_ = ts_) (rfl : ac = ac) h5 hd v
  have nt : ∀ (ts_ : List Int) (ac : List S44), Sim U ⟨tm, ts_, ac⟩ ⟨tm', ts_, ac⟩ := fun ts_ ac => ⟨h1, h2, rfl, rfl, h5⟩
  rcases kind_split hop with e | e | e | e | e | e | e | e | e | e | e | e | e | e | e | e | e | e <;> subst e <;>
    simp only [hasD, hasA, hasB, List.contains, List.elem] at hD hA hB <;> simp at hD hA hB <;> simp [stepP, askR, RunSt.put, RunSt.tell, *]
  all_goals (repeat' split)
  all_goals first
    | exact pt _ _ hD _
    | exact nt _ _
    | exact ⟨rfl, rfl⟩
theorem idle_step {used known : Int → Option Int} {x : S39} (h : idleB used known x = true) {s : RunSt} (hb : x.f0 = 5 → rd s.temps x.f3 ≠ 0) : ∃ v, stepP x s = .next (s.put x.f1 v) ∧ (x.f0 = 1 → v = x.f6) := by
  obtain ⟨_, _, _, _, h1, h5, _⟩ := idle_kind h
  obtain ⟨f0, f1, f2, f3, f4, f5, f6, f7⟩ := x
  dsimp only at h1 h5 hb ⊢
  have : f0 = 1 ∨ f0 = 2 ∨ f0 = 3 ∨ f0 = 4 ∨ f0 = 5 := by omega
  rcases this with e | e | e | e | e <;> subst e
  · exact ⟨f6, by simp [stepP], fun _ => rfl⟩
  · exact ⟨_, by simp [stepP]; rfl, fun h => by omega⟩
  · exact ⟨_, by simp [stepP]; rfl, fun h => by omega⟩
  · exact ⟨_, by simp [stepP]; rfl, fun h => by omega⟩
  · refine ⟨_, by simp [stepP]; rw [if_neg (hb rfl)], fun h => by omega⟩
theorem trim_run {l : List S80} {used known : Int → Option Int} {U : Int → Prop} (hU : ∀ a, U a ↔ (used a).getD 0 ≠ 0) : ∀ (t : FT) (P : Int → Prop) (s s' : RunSt), Shape l t → UsesOK t P → (∀ x ∈ t.pre, InU U x) →
    (∀ x ∈ t.pre, hasD x.f0 = true → ∀ K, known x.f1 = some K → x.f0 = 1 ∧ x.f6 = K) → (∀ a, P a → 0 ≤ a ∧ a < 400) → (∀ a K, P a → known a = some K → rd s.temps a = K) → Sim U s s' →
    runT t s = runT (trimT used known t).1 s' := by
  intro t
  induction t with
  | leaf => intro P s s' _ _ _ _ _ _ h; simp [trimT, runT, h.acts]
  | node x n sd ihn ihs =>
    intro P s s' hsh hus hin hc hP hk hsim
    obtain ⟨h1, h2, h3, h4, h5, h6⟩ := hsh
    obtain ⟨u1, u2, u3, u4⟩ := hus
    have hx := hin x (by simp [FT.pre])
    have hop := op_of_piece h1
    have hinn : ∀ y ∈ n.pre, InU U y := fun y hy => hin y (by simp [FT.pre, hy])
    have hins : ∀ y ∈ sd.pre, InU U y := fun y hy => hin y (by simp [FT.pre, hy])
    have hcn : ∀ y ∈ n.pre, hasD y.f0 = true → ∀ K, known y.f1 = some K → y.f0 = 1 ∧ y.f6 = K := fun y hy => hc y (by simp [FT.pre, hy])
    have hcs : ∀ y ∈ sd.pre, hasD y.f0 = true → ∀ K, known y.f1 = some K → y.f0 = 1 ∧ y.f6 = K := fun y hy => hc y (by simp [FT.pre, hy])
    have hP' : ∀ a, (P a ∨ hasD x.f0 = true ∧ x.f1 = a) → 0 ≤ a ∧ a < 400 := by
      intro a ha
      rcases ha with ha | ⟨ha, e⟩
      · exact hP a ha
      · rw [← e]; exact D_of_piece h1 ha
    have hk' : ∀ s2 : RunSt, StepIn x s s2 → ∀ a K, (P a ∨ hasD x.f0 = true ∧ x.f1 = a) → known a = some K → rd s2.temps a = K := by
      intro s2 hs2 a K ha hka
      cases hd : hasD x.f0 with
      | false =>
        rw [hs2.no hd]
        rcases ha with ha | ⟨ha, _⟩
        · exact hk a K ha hka
        · rw [hd] at ha; cases ha
      | true =>
        obtain ⟨v, hv, hv1⟩ := hs2.yes hd
        obtain ⟨d0, d1⟩ := D_of_piece h1 hd
        by_cases e : a = x.f1
        · subst e
          obtain ⟨c1, c2⟩ := hc x (by simp [FT.pre]) hd K hka
          rw [hv, rd_same d0 (by rw [hsim.len]; omega), hv1 c1, c2]
        · rcases ha with ha | ⟨_, ha⟩
          · rw [hv, rd_other d0 (hP a ha).1 e]; exact hk a K ha hka
          · exact absurd ha.symm e
    simp only [trimT]
    by_cases hi : idleB used known x = true
    · rw [if_pos hi]
      obtain ⟨i1, i2, i3, i4, i5, i6, i7⟩ := idle_kind hi
      obtain ⟨v, hv, hv1⟩ := idle_step hi (s := s) (fun e => by
        have hkb := i7 e
        cases hkn : known x.f3 with
        | none => rw [hkn] at hkb; simp at hkb
        | some b =>
          rw [hkn] at hkb
          rw [hk _ b (u2 (by rw [e]; decide)) hkn]
          simpa using hkb)
      simp only [runT]
      rw [hv]
      dsimp only
      obtain ⟨d0, d1⟩ := D_of_piece h1 i3
      have hin2 : StepIn x s (s.put x.f1 v) := ⟨by simp [RunSt.put], fun h => (by rw [i3] at h; cases h), fun _ => ⟨v, rfl, hv1⟩⟩
      refine ihn _ _ s' h5 u3 hinn hcn hP' (hk' _ hin2) ⟨by simp [RunSt.put, hsim.len], hsim.len', hsim.ans, hsim.acts, fun a ha hu => ?_⟩
      show rd (s.temps.set _ _) a = _
      rw [rd_other d0 ha (fun e => (hU a).1 hu (by rw [e]; exact i4))]
      exact hsim.same a ha hu
    · rw [if_neg hi]
      simp only [runT]
      have hA : hasA x.f0 = true → rd s.temps x.f2 = rd s'.temps x.f2 := fun h => hsim.same _ (A_of_piece h1).1 (hx.1 h)
      have hB : hasB x.f0 = true → rd s.temps x.f3 = rd s'.temps x.f3 := fun h => hsim.same _ (B_of_piece h1).1 (hx.2 h)
      have hst := step_sim hop (fun h => (D_of_piece h1 h).1) hsim hA hB
      cases e1 : stepP x s with
      | done a st =>
        cases e2 : stepP x s' with
        | done a' st' => rw [e1, e2] at hst; obtain ⟨q1, q2⟩ := hst; rw [q1, q2]
        | next s2 => rw [e1, e2] at hst; exact hst.elim
        | jump s2 => rw [e1, e2] at hst; exact hst.elim
      | next s1 =>
        cases e2 : stepP x s' with
        | done a' st' => rw [e1, e2] at hst; exact hst.elim
        | next s2 =>
          rw [e1, e2] at hst
          exact ihn _ s1 s2 h5 u3 hinn hcn hP' (hk' _ (step_next hop e1).1) hst
        | jump s2 => rw [e1, e2] at hst; exact hst.elim
      | jump s1 =>
        cases e2 : stepP x s' with
        | done a' st' => rw [e1, e2] at hst; exact hst.elim
        | next s2 => rw [e1, e2] at hst; exact hst.elim
        | jump s2 =>
          rw [e1, e2] at hst
          obtain ⟨j1, j2, j3⟩ := step_jump hop e1
          exact ihs _ s1 s2 h6 u4 hins hcs hP' (hk' _ ⟨by rw [j1], fun _ => j1, fun h => (by rw [j3] at h; cases h)⟩) hst
theorem trim1_run {l : List S80} {t : FT} (h : RightT l t) (ts_ : List Int) : runT t (runSt0 ts_) = runT (trim1 t).1 (runSt0 ts_) := by
  refine trim_run (l := l) (U := UsedIn t.pre) (fun a => by rw [Ne, cnt_zero t h.size a]; exact Iff.symm Classical.not_not) t (fun _ => False) _ _ h.shape h.uses (fun x hx => in_used hx) ?_ (fun a h => h.elim) (fun a K h => h.elim) ⟨runSt0_len _, runSt0_len _, rfl, rfl, fun _ _ _ => rfl⟩
  intro x hx hd K hK
  obtain ⟨y, y1, y2, y3, y4⟩ := (kn_iff h.once _ _).1 hK
  have := once_eq h.once hx y1 hd (by rw [y2]; decide) y3.symm
  subst this
  exact ⟨y2, y4⟩

/-! ### all trimming -/
def NoIdle (t : FT) : Prop := ∀ x ∈ t.pre, idleB (cntT t fun _ => none) (knT t fun _ => none) x = false
theorem trim_none (used known : Int → Option Int) : ∀ t : FT, (trimT used known t).2 = 0 → (trimT used known t).1 = t ∧ ∀ x ∈ t.pre, idleB used known x = false := by
  intro t
  induction t with
  | leaf => intro _; exact ⟨rfl, fun x hx => by simp [FT.pre] at hx⟩
  | node x n s ihn ihs =>
    intro h
    simp only [trimT] at h ⊢
    by_cases hi : idleB used known x = true
    · rw [if_pos hi] at h; simp at h
    · rw [if_neg hi] at h ⊢
      have h : (trimT used known n).2 + (trimT used known s).2 = 0 := h
      obtain ⟨a1, a2⟩ := ihn (by omega)
      obtain ⟨b1, b2⟩ := ihs (by omega)
      refine ⟨by rw [a1, b1], fun y hy => ?_⟩
      simp only [FT.pre] at hy
      rcases List.mem_cons.1 hy with e | e
      · subst e; exact Bool.eq_false_iff.mpr hi
      · rcases List.mem_append.1 e with e | e
        · exact a2 y e
        · exact b2 y e
theorem trimAll_right {l : List S80} : ∀ (k : Nat) (t : FT), RightT l t → t.size < k → RightT l (trimAll k t) ∧ NoIdle (trimAll k t) ∧ List.Sublist (trimAll k t).pre t.pre ∧ ∀ ts_, runT t (runSt0 ts_) = runT (trimAll k t) (runSt0 ts_) := by
  intro k
  induction k with
  | zero => intro t _ h; omega
  | succ k ih =>
    intro t h hk
    simp only [trimAll]
    have hr := trim_right h
    have hrun := trim1_run h
    have hsz := trim_size (cntT t fun _ => none) (knT t fun _ => none) t
    have hsub := trim_sub (cntT t fun _ => none) (knT t fun _ => none) t
    by_cases e : (trimT (cntT t fun _ => none) (knT t fun _ => none) t).2 = 0
    · rw [if_pos e]
      obtain ⟨a, b⟩ := trim_none _ _ t e
      rw [a]
      exact ⟨h, b, List.Sublist.refl _, fun _ => rfl⟩
    · rw [if_neg e]
      obtain ⟨c1, c2, c3, c4⟩ := ih (trim1 t).1 hr (by unfold trim1; omega)
      exact ⟨c1, c2, c3.trans hsub, fun ts_ => (hrun ts_).trans (c4 ts_)⟩
end Go.Proofs.Ytaoefdbhfhcplaa.Q
