/- A tree grown out of right code runs as the code does, and is a right tree. -/
import Derived.Test.YtaoefdbhfhcplaaFoldModel
namespace Go.Proofs.Ytaoefdbhfhcplaa.Q
open Go.RowKit Go.Proofs.YtaoefdbhfhcplaaW.PrintWords Go.Proofs.YtaoefdbhfhcplaaW.PrintLast Go.Proofs.YtaoefdbhfhcplaaW.PrintMore Go.Proofs.Ytaoefdbhfhcplaa.IM
set_option linter.unusedVariables false
set_option linter.unusedSimpArgs false

def runT : FT → RunSt → List S44 × Int
  | .leaf, s => (s.acts, 0)
  | .node x n sd, s =>
    match stepP x s with
    | .done a st => (a, st)
    | .next s' => runT n s'
    | .jump s' => runT sd s'

/-! ### a piece's kind -/
theorem op_of_piece {l : List S80} {x : S39} (h : pieceA l x = true) : 1 ≤ x.f0 ∧ x.f0 ≤ 18 := by
  simp only [pieceA, Bool.and_eq_true] at h
  have := h.1.1.1.1.1
  simpa [isKind] using this
theorem D_of_piece {l : List S80} {x : S39} (h : pieceA l x = true) (hd : hasD x.f0 = true) : 0 ≤ x.f1 ∧ x.f1 < 400 := by
  simp only [pieceA, Bool.and_eq_true] at h
  have := h.1.1.1.1.2
  rw [hd] at this
  simpa [tempB] using this
theorem A_of_piece {l : List S80} {x : S39} (h : pieceA l x = true) : 0 ≤ x.f2 ∧ x.f2 < 400 := by
  simp only [pieceA, Bool.and_eq_true] at h
  have := h.1.1.1.2
  cases ha : hasA x.f0 <;> rw [ha] at this <;> simp [tempB] at this <;> omega
theorem B_of_piece {l : List S80} {x : S39} (h : pieceA l x = true) : 0 ≤ x.f3 ∧ x.f3 < 400 := by
  simp only [pieceA, Bool.and_eq_true] at h
  have := h.1.1.2
  cases ha : hasB x.f0 <;> rw [ha] at this <;> simp [tempB] at this <;> omega
theorem kind_split {op : Int} (h : 1 ≤ op ∧ op ≤ 18) : op = 1 ∨ op = 2 ∨ op = 3 ∨ op = 4 ∨ op = 5 ∨ op = 6 ∨ op = 7 ∨ op = 8 ∨ op = 9 ∨ op = 10 ∨ op = 11 ∨ op = 12 ∨ op = 13 ∨ op = 14 ∨ op = 15 ∨ op = 16 ∨ op = 17 ∨ op = 18 := by omega

/-! ### steps -/
theorem rd_other {xs : List Int} {d t v : Int} (hd : 0 ≤ d) (ht : 0 ≤ t) (hne : t ≠ d) : rd (xs.set d.toNat v) t = rd xs t := by
  rw [rd_set _ _ _ _ ht, if_neg (by omega)]
theorem rd_same {xs : List Int} {d v : Int} (hd : 0 ≤ d) (hl : d < xs.length) : rd (xs.set d.toNat v) d = v := by
  rw [rd_set _ _ _ _ hd, if_pos (by omega)]
structure StepIn (x : S39) (s s' : RunSt) : Prop where
  len : s'.temps.length = s.temps.length
  no : hasD x.f0 = false → s'.temps = s.temps
  yes : hasD x.f0 = true → ∃ v, s'.temps = s.temps.set x.f1.toNat v ∧ (x.f0 = 1 → v = x.f6)
theorem step_next {x : S39} (hop : 1 ≤ x.f0 ∧ x.f0 ≤ 18) {s s' : RunSt} (h : stepP x s = .next s') : StepIn x s s' ∧ x.f0 ≠ 18 := by
  obtain ⟨f0, f1, f2, f3, f4, f5, f6, f7⟩ := x
  dsimp only at hop
  obtain ⟨tm, ts_, ac⟩ := s
  rcases kind_split hop with e | e | e | e | e | e | e | e | e | e | e | e | e | e | e | e | e | e <;> subst e <;>
    simp [stepP, askR, RunSt.put, RunSt.tell] at h
  all_goals (repeat' split at h)
  all_goals (first | (cases h; done) | skip)
  all_goals (first | (injection h with h; subst h) | subst h)
  all_goals refine ⟨⟨by simp, by simp [hasD], ?_⟩, by simp⟩
  all_goals first
    | exact fun _ => ⟨_, rfl, by simp⟩
    | simp [hasD]
theorem step_jump {x : S39} (hop : 1 ≤ x.f0 ∧ x.f0 ≤ 18) {s s' : RunSt} (h : stepP x s = .jump s') : s'.temps = s.temps ∧ hasTo x.f0 = true ∧ hasD x.f0 = false := by
  obtain ⟨f0, f1, f2, f3, f4, f5, f6, f7⟩ := x
  dsimp only at hop
  obtain ⟨tm, ts_, ac⟩ := s
  rcases kind_split hop with e | e | e | e | e | e | e | e | e | e | e | e | e | e | e | e | e | e <;> subst e <;>
    simp [stepP, askR, RunSt.put, RunSt.tell] at h
  all_goals (repeat' split at h)
  all_goals (first | (cases h; done) | skip)
  all_goals (first | (injection h with h; subst h) | subst h)
  all_goals exact ⟨rfl, by simp [hasTo], by simp [hasD]⟩

/-! ### what grow makes of a piece -/
structure Kin (l : List S80) (x y : S39) : Prop where
  piece : pieceA l y = true
  d : y.f1 = x.f1
  hd : hasD y.f0 = hasD x.f0
  to_ : y.f7 = x.f7
  hto : hasTo y.f0 = hasTo x.f0
  stop : y.f0 = 18 ↔ x.f0 = 18
  a : hasA y.f0 = true → hasA x.f0 = true ∧ y.f2 = x.f2
  b : hasB y.f0 = true → hasB x.f0 = true ∧ y.f3 = x.f3
theorem kin_refl {l : List S80} {x : S39} (h : pieceA l x = true) : Kin l x x := ⟨h, rfl, rfl, rfl, rfl, Iff.rfl, fun h => ⟨h, rfl⟩, fun h => ⟨h, rfl⟩⟩
theorem const_piece {l : List S80} {d k : Int} (h0 : 0 ≤ d) (h1 : d < 400) : pieceA l ⟨1, d, 0, 0, 0, 0, k, 0⟩ = true := by
  simp [pieceA, isKind, tempB, hasD, hasA, hasB, hasK, placesB, rowB, hasPlace, h0, h1]
theorem way_stay {l : List S80} {known : Int → Option Int} {x y : S39} (hp : pieceA l x = true) (ht : hasTo x.f0 = false → x.f7 = 0) (h : gWay known x = .stay y) : Kin l x y := by
  have hop := op_of_piece hp
  have hD := D_of_piece hp
  obtain ⟨f0, f1, f2, f3, f4, f5, f6, f7⟩ := x
  dsimp only at hop hD ht
  unfold gWay at h
  dsimp only at h
  have cst : ∀ k, (f0 = 2 ∨ f0 = 3 ∨ f0 = 4 ∨ f0 = 5) → Kin l ⟨f0, f1, f2, f3, f4, f5, f6, f7⟩ ⟨1, f1, 0, 0, 0, 0, k, 0⟩ := by
    intro k hk
    have hd : hasD f0 = true := by rcases hk with e | e | e | e <;> rw [e] <;> decide
    have htn : hasTo f0 = false := by rcases hk with e | e | e | e <;> rw [e] <;> decide
    obtain ⟨a, b⟩ := hD hd
    refine ⟨const_piece a b, rfl, ?_, ?_, ?_, ?_, ?_, ?_⟩
    · show hasD 1 = hasD f0; rw [hd]; decide
    · show (0 : Int) = f7; exact (ht htn).symm
    · show hasTo 1 = hasTo f0; rw [htn]; decide
    · show ((1 : Int) = 18) ↔ f0 = 18; constructor <;> intro e <;> omega
    · intro e; exact absurd e (show ¬ (hasA 1 = true) by decide)
    · intro e; exact absurd e (show ¬ (hasB 1 = true) by decide)
  split at h
  · split at h
    · split at h
      · split at h <;> cases h
      · split at h <;> cases h
    · split at h
      · split at h <;> cases h
      · injection h with h; subst h; exact kin_refl hp
  · split at h
    · split at h
      · injection h with h; subst h; exact cst _ (by omega)
      · injection h with h; subst h; exact kin_refl hp
    · split at h
      · split at h
        · split at h
          · injection h with h; subst h; exact kin_refl hp
          · injection h with h; subst h; exact cst _ (by omega)
        · injection h with h; subst h; exact kin_refl hp
      · injection h with h; subst h; exact kin_refl hp
def WayOK (x : S39) (s : RunSt) : GWay → Prop
  | .leap => stepP x s = .jump s ∧ hasTo x.f0 = true ∧ hasD x.f0 = false
  | .on => stepP x s = .next s ∧ x.f0 ≠ 18 ∧ hasD x.f0 = false
  | .stay y => stepP y s = stepP x s
theorem way_run {known : Int → Option Int} {x : S39} {s : RunSt} (hA : ∀ v, hasA x.f0 = true → known x.f2 = some v → rd s.temps x.f2 = v) (hB : ∀ v, hasB x.f0 = true → known x.f3 = some v → rd s.temps x.f3 = v) : WayOK x s (gWay known x) := by
  have main : ∀ w, gWay known x = w → WayOK x s w := by
    intro w hw
    obtain ⟨f0, f1, f2, f3, f4, f5, f6, f7⟩ := x
    dsimp only at hA hB
    unfold gWay at hw
    dsimp only at hw
    by_cases h1 : f0 = 16 ∨ f0 = 17
    · rw [if_pos h1] at hw
      have ha : hasA f0 = true := by rcases h1 with e | e <;> rw [e] <;> decide
      have hb : hasB f0 = true := by rcases h1 with e | e <;> rw [e] <;> decide
      have hd : hasD f0 = false := by rcases h1 with e | e <;> rw [e] <;> decide
      have ht : hasTo f0 = true := by rcases h1 with e | e <;> rw [e] <;> decide
      have hn : f0 ≠ 18 := by omega
      have same : f2 = f3 → stepP ⟨f0, f1, f2, f3, f4, f5, f6, f7⟩ s = if f0 = 16 then .jump s else .next s := by
        intro e
        subst e
        rcases h1 with e | e <;> subst e <;> simp [stepP]
      split at hw
      · rename_i a b ka kb
        have e1 := hA a ha ka
        have e2 := hB b hb kb
        by_cases e : f0 = 16
        · rw [if_pos e] at hw
          by_cases c : f2 = f3 ∨ b ≤ a
          · rw [if_pos c] at hw
            subst hw
            refine ⟨?_, ht, hd⟩
            subst e
            have hle : b ≤ a := by
              rcases c with c | c
              · subst c; rw [e1] at e2; omega
              · exact c
            simp [stepP, e1, e2, hle]
          · rw [if_neg c] at hw
            subst hw
            refine ⟨?_, hn, hd⟩
            subst e
            have hlt : ¬ b ≤ a := fun h => c (.inr h)
            simp [stepP, e1, e2]
            omega
        · rw [if_neg e] at hw
          have e17 : f0 = 17 := by omega
          by_cases c : a = b
          · rw [if_pos c] at hw
            subst hw
            refine ⟨?_, hn, hd⟩
            subst e17
            simp [stepP, e1, e2, c]
          · rw [if_neg c] at hw
            subst hw
            refine ⟨?_, ht, hd⟩
            subst e17
            simp [stepP, e1, e2, c]
      · by_cases c : f2 = f3
        · rw [if_pos c] at hw
          have := same c
          by_cases e : f0 = 16
          · rw [if_pos e] at hw; subst hw; rw [if_pos e] at this; exact ⟨this, ht, hd⟩
          · rw [if_neg e] at hw; subst hw; rw [if_neg e] at this; exact ⟨this, hn, hd⟩
        · rw [if_neg c] at hw; subst hw; rfl
    · rw [if_neg h1] at hw
      by_cases h2 : f0 = 2 ∨ f0 = 3 ∨ f0 = 4
      · rw [if_pos h2] at hw
        have ha : hasA f0 = true := by rcases h2 with e | e | e <;> rw [e] <;> decide
        have hb : hasB f0 = true := by rcases h2 with e | e | e <;> rw [e] <;> decide
        split at hw
        · rename_i a b ka kb
          have e1 := hA a ha ka
          have e2 := hB b hb kb
          subst hw
          show stepP _ s = stepP _ s
          rcases h2 with e | e | e <;> subst e <;> simp [stepP, reckonV, e1, e2]
        · subst hw; rfl
      · rw [if_neg h2] at hw
        by_cases h3 : f0 = 5
        · rw [if_pos h3] at hw
          have ha : hasA f0 = true := by rw [h3]; decide
          have hb : hasB f0 = true := by rw [h3]; decide
          split at hw
          · rename_i a b ka kb
            have e1 := hA a ha ka
            have e2 := hB b hb kb
            by_cases c : b = 0
            · rw [if_pos c] at hw; subst hw; rfl
            · rw [if_neg c] at hw; subst hw; subst h3
              show stepP _ s = stepP _ s
              simp [stepP, e1, e2, c]
          · subst hw; rfl
        · rw [if_neg h3] at hw; subst hw; rfl
  exact main _ rfl

/-- The same, with the walk's words. -/
theorem gWay_eq (known : Int → Option Int) (x : S39) (ka kb : Option Int) (ha : ka = known x.f2) (hb : kb = known x.f3) : gWay known x =
    if x.f0 = 16 then (if x.f2 = x.f3 ∨ (ka.isSome && kb.isSome) = true ∧ kb.getD 0 ≤ ka.getD 0 then .leap else if (ka.isSome && kb.isSome) = true then .on else .stay x)
    else if x.f0 = 17 then (if x.f2 = x.f3 then .on else if (ka.isSome && kb.isSome) = true then (if ka.getD 0 = kb.getD 0 then .on else .leap) else .stay x)
    else if x.f0 = 2 ∨ x.f0 = 3 ∨ x.f0 = 4 then (if (ka.isSome && kb.isSome) = true then .stay ⟨1, x.f1, 0, 0, 0, 0, reckonV x.f0 (ka.getD 0) (kb.getD 0), 0⟩ else .stay x)
    else if x.f0 = 5 then (if (ka.isSome && kb.isSome) = true ∧ kb.getD 0 ≠ 0 then .stay ⟨1, x.f1, 0, 0, 0, 0, wrap64 ((ka.getD 0).tdiv (kb.getD 0)), 0⟩ else .stay x)
    else .stay x := by
  subst ha; subst hb
  obtain ⟨f0, f1, f2, f3, f4, f5, f6, f7⟩ := x
  unfold gWay
  dsimp only
  by_cases h16 : f0 = 16
  · subst h16
    rw [if_pos (Or.inl rfl), if_pos rfl]
    cases hka : known f2 <;> cases hkb : known f3 <;> by_cases e : f2 = f3 <;> simp [e]
    all_goals (subst e; rw [hka] at hkb; cases hkb)
  · by_cases h17 : f0 = 17
    · subst h17
      rw [if_pos (Or.inr rfl), if_neg h16, if_pos rfl]
      cases hka : known f2 <;> cases hkb : known f3 <;> by_cases e : f2 = f3 <;> simp [e]
      all_goals (subst e; rw [hka] at hkb; cases hkb; try simp)
    · rw [if_neg (show ¬ (f0 = 16 ∨ f0 = 17) from by omega), if_neg h16, if_neg h17]
      by_cases h2 : f0 = 2 ∨ f0 = 3 ∨ f0 = 4
      · rw [if_pos h2, if_pos h2]
        cases hka : known f2 <;> cases hkb : known f3 <;> simp
      · rw [if_neg h2, if_neg h2]
        by_cases h5 : f0 = 5
        · rw [if_pos h5, if_pos h5]
          cases hka : known f2 <;> cases hkb : known f3 <;> simp
        · rw [if_neg h5, if_neg h5]

/-! ### the run -/
theorem next_lt {code : List S39} {l : List S80} (hg : Good code l) {i : Nat} (hi : i < code.length) (h : (rd_T39 code i).f0 ≠ 18) : i + 1 < code.length := by
  rcases Nat.lt_or_ge (i + 1) code.length with h1 | h1
  · exact h1
  · exfalso
    apply h
    have e : (i : Int) = (code.length : Int) - 1 := by omega
    rw [e]; exact hg.last
theorem to_lt {code : List S39} {l : List S80} (hg : Good code l) {i : Nat} (hi : i < code.length) (h : hasTo (rd_T39 code i).f0 = true) : (i : Int) + 1 < (rd_T39 code i).f7 ∧ (rd_T39 code i).f7 < code.length := by
  have := hg.to_ i hi
  unfold pieceTo at this
  rw [h, if_pos rfl] at this
  simpa using this
theorem to_no {code : List S39} {l : List S80} (hg : Good code l) {i : Nat} (hi : i < code.length) (h : hasTo (rd_T39 code i).f0 = false) : (rd_T39 code i).f7 = 0 := by
  have := hg.to_ i hi
  unfold pieceTo at this
  rw [h] at this
  simpa using this
/-- What is known is so: and it was made on the way. -/
structure Knows (code : List S39) (i : Nat) (known : Int → Option Int) (s : RunSt) : Prop where
  len : s.temps.length = 400
  val : ∀ t v, known t = some v → 0 ≤ t ∧ t < 400 ∧ rd s.temps t = v
  old : ∀ t v, known t = some v → ∃ j : Nat, j < i ∧ hasD (rd_T39 code j).f0 = true ∧ (rd_T39 code j).f1 = t
theorem Knows.later {code : List S39} {i j : Nat} {known : Int → Option Int} {s s' : RunSt} (h : Knows code i known s) (hij : i ≤ j) (he : s'.temps = s.temps) : Knows code j known s' :=
  ⟨by rw [he]; exact h.len, fun t v hk => by rw [he]; exact h.val t v hk, fun t v hk => by obtain ⟨q, h1, h2⟩ := h.old t v hk; exact ⟨q, by omega, h2⟩⟩
theorem Knows.step {code : List S39} {l : List S80} (hg : Good code l) {i j : Nat} (hi : i < code.length) (hij : i < j) {known : Int → Option Int} {s s' : RunSt} {y : S39} (h : Knows code i known s) (hk : Kin l (rd_T39 code i) y) (hs : StepIn y s s') : Knows code j (learn known y) s' := by
  cases hd : hasD y.f0 with
  | false =>
    have h1 : y.f0 ≠ 1 := by intro e; rw [e] at hd; exact absurd hd (by decide)
    unfold learn
    rw [if_neg h1]
    exact h.later (by omega) (hs.no hd)
  | true =>
    obtain ⟨v, hv, hv1⟩ := hs.yes hd
    have hd' : hasD (rd_T39 code i).f0 = true := by rw [← hk.hd]; exact hd
    obtain ⟨d0, d1⟩ := D_of_piece hk.piece hd
    have hne : ∀ t w, known t = some w → t ≠ y.f1 := by
      intro t w ht e
      obtain ⟨q, q1, q2, q3⟩ := h.old t w ht
      have := hg.uniq q i (by omega) hi q2 hd' (by rw [q3, e, hk.d])
      omega
    have old : Knows code j known s' := ⟨by rw [hs.len]; exact h.len, fun t w ht => by
      obtain ⟨a, b, c⟩ := h.val t w ht
      exact ⟨a, b, by rw [hv, rd_other d0 a (hne t w ht)]; exact c⟩, fun t w ht => by obtain ⟨q, h1, h2⟩ := h.old t w ht; exact ⟨q, by omega, h2⟩⟩
    unfold learn
    by_cases h1 : y.f0 = 1
    · rw [if_pos h1]
      refine ⟨old.len, fun t w ht => ?_, fun t w ht => ?_⟩
      · simp only [upd] at ht
        split at ht
        · rename_i e
          injection ht with ht
          subst ht; subst e
          exact ⟨d0, d1, by rw [hv, rd_same d0 (by rw [h.len]; omega)]; exact hv1 h1⟩
        · exact old.val t w ht
      · simp only [upd] at ht
        split at ht
        · rename_i e
          exact ⟨i, hij, hd', by rw [e, hk.d]⟩
        · exact old.old t w ht
    · rw [if_neg h1]; exact old
theorem grow_run {code : List S39} {l : List S80} (hg : Good code l) : ∀ (k : Nat) (i : Nat) (known : Int → Option Int) (s : RunSt) (m : Nat), i < code.length → code.length - i ≤ k → code.length - i ≤ m → Knows code i known s →
    runT (growT code k i known) s = runC code m i s := by
  intro k
  induction k with
  | zero => intro i known s m hi hk; omega
  | succ k ih =>
    intro i known s m hi hk hm hkn
    obtain ⟨m, rfl⟩ : ∃ q, m = q + 1 := ⟨m - 1, by omega⟩
    simp only [growT, runC]
    by_cases h18 : (rd_T39 code i).f0 = 18
    · rw [if_pos h18]
      simp only [runT]
      have : stepP (rd_T39 code i) s = .done s.acts 1 := by unfold stepP; simp [h18]
      rw [this]
    · rw [if_neg h18]
      have hp := hg.piece i hi
      have hop := op_of_piece hp
      have hnl := next_lt hg hi h18
      have hw := way_run (known := known) (x := rd_T39 code i) (s := s) (fun v _ h => (hkn.val _ v h).2.2) (fun v _ h => (hkn.val _ v h).2.2)
      cases hway : gWay known (rd_T39 code i) with
      | leap =>
        rw [hway] at hw
        obtain ⟨hs, hto, hd⟩ := hw
        obtain ⟨t0, t1⟩ := to_lt hg hi hto
        rw [hs]
        dsimp only
        have e : (((rd_T39 code i).f7.toNat : Nat) : Int) = (rd_T39 code i).f7 := by omega
        rw [ih _ known s m (by omega) (by omega) (by omega) (hkn.later (by omega) rfl), e]
      | on =>
        rw [hway] at hw
        obtain ⟨hs, _, hd⟩ := hw
        rw [hs]
        dsimp only
        rw [ih _ known s m hnl (by omega) (by omega) (hkn.later (by omega) rfl), show ((i + 1 : Nat) : Int) = (i : Int) + 1 from by omega]
      | stay y =>
        rw [hway] at hw
        have hw : stepP y s = stepP (rd_T39 code i) s := hw
        have hkin := way_stay hp (to_no hg hi) hway
        simp only [runT]
        cases hst : stepP y s with
        | done a st => rw [hw] at hst; rw [hst]
        | next s' =>
          obtain ⟨hin, _⟩ := step_next (op_of_piece hkin.piece) hst
          rw [hw] at hst; rw [hst]
          dsimp only
          rw [ih _ _ s' m hnl (by omega) (by omega) (hkn.step hg hi (by omega) hkin hin), show ((i + 1 : Nat) : Int) = (i : Int) + 1 from by omega]
        | jump s' =>
          obtain ⟨hte, hto, hdn⟩ := step_jump (op_of_piece hkin.piece) hst
          rw [hw] at hst; rw [hst]
          dsimp only
          obtain ⟨t0, t1⟩ := to_lt hg hi (by rw [← hkin.hto]; exact hto)
          have e7 := hkin.to_
          rw [if_neg (by omega), e7]
          have h1 : y.f0 ≠ 1 := by intro e; rw [e] at hdn; exact absurd hdn (by decide)
          have hl : learn known y = known := by unfold learn; rw [if_neg h1]
          have e : (((rd_T39 code i).f7.toNat : Nat) : Int) = (rd_T39 code i).f7 := by omega
          rw [hl, ih _ known s' m (by omega) (by omega) (by omega) (hkn.later (by omega) hte), e]
theorem fold_grow_run {code : List S39} {l : List S80} (hg : Good code l) (ts_ : List Int) : runT (growT code code.length 0 fun _ => none) (runSt0 ts_) = runC code code.length 0 (runSt0 ts_) := by
  have h1 := hg.len1
  exact grow_run hg code.length 0 _ _ _ (by omega) (by omega) (by omega) ⟨runSt0_len _, fun t v h => (by cases h), fun t v h => (by cases h)⟩
end Go.Proofs.Ytaoefdbhfhcplaa.Q
