/- What alloc.Homes reckons, told plainly. -/
import Derived.Test.YtgljbgmphelhbaaSpanClone
import Derived.Test.YtgljbgmphelhbaaWeight
import Derived.Test.YtgljbgmphelhbaaTreeRightAll
namespace Go.Proofs.Ytgljbgmphelhbaa.Q
open Go.RowKit Go.Proofs.YtgljbgmphelhbaaW.PrintWords Go.Proofs.YtgljbgmphelhbaaW.PrintLast Go.Proofs.YtgljbgmphelhbaaW.PrintMore
set_option linter.unusedVariables false
set_option linter.unusedSimpArgs false

/-! ### keys of weights: none: no number -/
def lessK : Option Nat → Option Nat → Bool
  | none, none => false
  | none, some y => !fNan y
  | some _, none => false
  | some x, some y => wLess x y
def wkey (s : S44) : Option Nat := FloatKind.f64.format.div (fNum s.f3) (fNum (s.f2 - s.f1))
def KB (k : Option Nat) (b : Nat) : Prop :=
  match k with
  | some r => b = r
  | none => ∃ t : Nat, b = (t % 2) * 2 ^ 63 + 0x7ff0000000000000 + 1 + (t / 2) % (2 ^ 52 - 1)
theorem KB_of (s : S44) (b : Nat) (h : WBits s.f3 (s.f2 - s.f1) b) : KB (wkey s) b := h
theorem nan_read (b t : Nat) (h : b = (t % 2) * 2 ^ 63 + 0x7ff0000000000000 + 1 + (t / 2) % (2 ^ 52 - 1)) : ∃ s n, FloatKind.f64.format.read b = .nan s n := by
  have h2 : (t / 2) % (2 ^ 52 - 1) < 2 ^ 52 - 1 := Nat.mod_lt _ (by decide)
  have h3 : t % 2 = 0 ∨ t % 2 = 1 := by omega
  have hs : (FloatKind.f64.format).signWeight = 2 ^ 63 := by decide
  have hb : (FloatKind.f64.format).binade = 2 ^ 52 := by decide
  have hi : (FloatKind.f64.format).infRung = 0x7ff0000000000000 := by decide
  have hr : b % 2 ^ 63 = 0x7ff0000000000000 + 1 + (t / 2) % (2 ^ 52 - 1) := by omega
  unfold Ieee.Format.read
  rw [hs, hb, hi, hr]
  simp only []
  rw [if_neg (by omega), if_neg (by omega), if_neg (by omega)]
  exact ⟨_, _, rfl⟩
theorem ord_nan_l {b c : Nat} (h : ∃ s n, FloatKind.f64.format.read b = .nan s n) : fOrd b c = none := by
  obtain ⟨s, n, h⟩ := h
  unfold fOrd Ieee.Format.order
  rw [h]; rfl
theorem ord_nan_r {b c : Nat} (h : ∃ s n, FloatKind.f64.format.read b = .nan s n) : fOrd c b = none := by
  obtain ⟨s, n, h⟩ := h
  unfold fOrd Ieee.Format.order
  rw [h]
  cases FloatKind.f64.format.read c <;> rfl
theorem less_KB {k k' : Option Nat} {b b' : Nat} (h : KB k b) (h' : KB k' b') : wLess b b' = lessK k k' := by
  cases k with
  | some x =>
    have hx : b = x := h
    subst hx
    cases k' with
    | some y =>
      have hy : b' = y := h'
      subst hy
      rfl
    | none =>
      obtain ⟨t, ht⟩ := h'
      have hn := nan_read b' t ht
      simp only [wLess, fEq0, cmpLess, fNan, fLt, ord_nan_l hn, ord_nan_r hn, lessK]
      simp
  | none =>
    obtain ⟨t, ht⟩ := h
    have hn := nan_read b t ht
    cases k' with
    | some y =>
      have hy : b' = y := h'
      subst hy
      simp only [wLess, fEq0, cmpLess, fNan, fLt, ord_nan_l hn, ord_nan_r hn, lessK]
      simp
    | none =>
      obtain ⟨t', ht'⟩ := h'
      have hn' := nan_read b' t' ht'
      simp only [wLess, fEq0, cmpLess, fNan, fLt, ord_nan_l hn, ord_nan_r hn, ord_nan_l hn', ord_nan_r hn', lessK]
      simp
/-- The place of the first least key. -/
def leastKFrom : List (Option Nat) → Nat → Int → (Int → Option Nat) → Int
  | [], _, best, _ => best
  | b :: bs, i, best, at_ => if best < 0 ∨ lessK b (at_ best) = true then leastKFrom bs (i + 1) i at_ else leastKFrom bs (i + 1) best at_
def rdK (ks : List (Option Nat)) (i : Int) : Option Nat := ks.getD i.toNat none
def leastK (ks : List (Option Nat)) : Nat := (leastKFrom ks 0 (-1) (rdK ks)).toNat
theorem leastFrom_eq (ks : List (Option Nat)) (bs : List Nat) (hall : ∀ j : Nat, j < ks.length → KB (rdK ks j) (rdN bs j)) :
    ∀ (m : List (Option Nat)) (l : List Nat) (i : Nat) (best : Int), l.length = m.length → (∀ j : Nat, j < m.length → KB (m.getD j none) (l.getD j 0)) → best < ks.length → leastFrom l i best (rdN bs) = leastKFrom m i best (rdK ks) ∨ ¬ (i + m.length ≤ ks.length) := by
  intro m
  induction m with
  | nil =>
    intro l i best hl _ _
    have : l = [] := List.length_eq_zero_iff.mp (by simpa using hl)
    subst this
    exact .inl rfl
  | cons k m ih =>
    intro l i best hl hkb hb
    cases l with
    | nil => simp at hl
    | cons b l =>
      by_cases hle : i + (k :: m).length ≤ ks.length
      · left
        have hl' : l.length = m.length := by simpa using hl
        have h0 : KB k b := by simpa using hkb 0 (by simp)
        have hkb' : ∀ j : Nat, j < m.length → KB (m.getD j none) (l.getD j 0) := fun j hj => by simpa using hkb (j + 1) (by simp; omega)
        have hil : (i : Int) < ks.length := by simp at hle; omega
        simp only [leastFrom, leastKFrom]
        by_cases hneg : best < 0
        · rw [if_pos (Or.inl hneg), if_pos (Or.inl hneg)]
          rcases ih l (i + 1) i hl' hkb' hil with h | h
          · exact h
          · simp at hle; omega
        · have hbb : KB (rdK ks best) (rdN bs best) := by
            have := hall best.toNat (by omega)
            rwa [show ((best.toNat : Nat) : Int) = best from by omega] at this
          rw [less_KB h0 hbb]
          by_cases hc : best < 0 ∨ lessK k (rdK ks best) = true
          · rw [if_pos hc, if_pos hc]
            rcases ih l (i + 1) i hl' hkb' hil with h | h
            · exact h
            · simp at hle; omega
          · rw [if_neg hc, if_neg hc]
            rcases ih l (i + 1) best hl' hkb' hb with h | h
            · exact h
            · simp at hle; omega
      · exact .inr hle
theorem leastKFrom_range (at_ : Int → Option Nat) : ∀ (m : List (Option Nat)) (i : Nat) (best : Int), -1 ≤ best → best < i → (m ≠ [] ∨ 0 ≤ best) → 0 ≤ leastKFrom m i best at_ ∧ leastKFrom m i best at_ < (i : Int) + m.length := by
  intro m
  induction m with
  | nil =>
    intro i best h0 h1 h2
    rcases h2 with h2 | h2
    · exact absurd rfl h2
    · simp only [leastKFrom]; simp; omega
  | cons k m ih =>
    intro i best h0 h1 _
    simp only [leastKFrom]
    split
    · have := ih (i + 1) i (by omega) (by omega) (.inr (by omega))
      simp; omega
    · rename_i hc
      have hb : 0 ≤ best := by
        by_cases h : best < 0
        · exact absurd (Or.inl h) hc
        · omega
      have := ih (i + 1) best h0 (by omega) (.inr hb)
      simp; omega
theorem leastK_lt (ks : List (Option Nat)) (h : 0 < ks.length) : leastK ks < ks.length := by
  have := leastKFrom_range (rdK ks) ks 0 (-1) (by omega) (by omega) (.inl (by intro e; rw [e] at h; simp at h))
  unfold leastK; omega
theorem leastW_eq (ks : List (Option Nat)) (bs : List Nat) (hl : bs.length = ks.length) (hall : ∀ j : Nat, j < ks.length → KB (rdK ks j) (rdN bs j)) (h : 0 < ks.length) : leastW bs = (leastK ks : Int) := by
  have h1 := leastFrom_eq ks bs hall ks bs 0 (-1) hl (fun j hj => by simpa [rdK, rdN] using hall j hj) (by omega)
  have h2 := leastKFrom_range (rdK ks) ks 0 (-1) (by omega) (by omega) (.inl (by intro e; rw [e] at h; simp at h))
  rcases h1 with h1 | h1
  · unfold leastW leastK; rw [h1]; omega
  · omega

/-! ### homes -/
structure HSt where
  out : List S36
  act : List S44
  slots : Nat
def padTo (out : List S36) (d : Int) : List S36 := out ++ List.replicate (d + 1 - out.length).toNat ⟨-1, -1⟩
def spanV_ (code : List S40) (t : Int) : S44 :=
  match alloc_spanOf.f code t with
  | some (a, b, c, d, _) => ⟨a, b, c, d⟩
  | none => z44
def hStep (code : List S40) (regs : Int) (x : S40) (st : HSt) : HSt :=
  if hasD x.f0 then
    let out1 := padTo st.out x.f1
    let s := spanV_ code x.f1
    let act1 := st.act.filter (keepB s)
    let all := act1 ++ [s]
    if (act1.length : Int) < regs then ⟨out1.set s.f0.toNat ⟨leastReg out1 act1, 0⟩, all, st.slots⟩
    else
      let k := leastK (all.map wkey)
      let a := rd_T44 all k
      let out2 := out1.set s.f0.toNat (rd_T36 out1 a.f0)
      ⟨out2.set a.f0.toNat ⟨-1, st.slots⟩, all.eraseIdx k, st.slots + 1⟩
  else st
def hAt (code : List S40) (regs : Int) : Nat → HSt
  | 0 => ⟨[], [], 0⟩
  | i + 1 => hStep code regs (rd_T40 code i) (hAt code regs i)
def alloc_Homes.f (code : List S40) (l : List S83) (regs : Int) : Option (List S36 × Int) :=
  if rightB code l = false then some ([], 3)
  else if regs < 1 ∨ 8 < regs then some ([], 1)
  else some ((hAt code regs code.length).out, 0)

theorem useLoop_bound (t : Int) : ∀ (xs : List S40) (i : Nat) (to_ u : Int), to_ ≤ (useLoop t xs i to_ u).1 ∧ (∀ m : Int, to_ < m → (i : Int) + xs.length ≤ m → (useLoop t xs i to_ u).1 < m) ∧ u ≤ (useLoop t xs i to_ u).2 ∧ (useLoop t xs i to_ u).2 ≤ u + xs.length := by
  intro xs
  induction xs with
  | nil => intro i to_ u; simp only [useLoop]; exact ⟨Int.le_refl _, fun m h _ => h, Int.le_refl _, by simp⟩
  | cons x xs ih =>
    intro i to_ u
    simp only [useLoop]
    by_cases h : usesT x t = true
    · rw [if_pos h]
      obtain ⟨h1, h2, h3, h4⟩ := ih (i + 1) (if to_ < i then (i : Int) else to_) (u + 1)
      refine ⟨?_, fun m hm hl => h2 m ?_ ?_, by omega, by simp; omega⟩
      · have : to_ ≤ (if to_ < i then (i : Int) else to_) := by split <;> omega
        omega
      · simp at hl; split <;> omega
      · simp at hl; omega
    · rw [if_neg h]
      obtain ⟨h1, h2, h3, h4⟩ := ih (i + 1) to_ u
      refine ⟨h1, fun m hm hl => h2 m hm ?_, h3, by simp; omega⟩
      simp at hl; omega
theorem maker_pos {code : List S40} {i : Nat} (hi : i < code.length) (hd : hasD (rd_T40 code i).f0 = true) : ¬ idxFrom (fun x => makesT x (rd_T40 code i).f1) code 0 < 0 := by
  have h : code.any (fun x => makesT x (rd_T40 code i).f1) = true := by
    rw [List.any_eq_true]
    refine ⟨code[i], List.getElem_mem hi, ?_⟩
    have e : rd_T40 code i = code[i] := by simp [rd_T40, List.getD_eq_getElem?_getD, List.getElem?_eq_getElem hi]
    rw [e] at hd
    simp [makesT, e, hd]
  have := (idxFrom_any (fun x => makesT x (rd_T40 code i).f1) code 0).2 h
  omega
theorem span_facts {code : List S40} {i : Nat} (hi : i < code.length) (hd : hasD (rd_T40 code i).f0 = true) :
    (spanV_ code (rd_T40 code i).f1).f0 = (rd_T40 code i).f1 ∧ 0 ≤ (spanV_ code (rd_T40 code i).f1).f1 ∧ (spanV_ code (rd_T40 code i).f1).f1 ≤ (spanV_ code (rd_T40 code i).f1).f2 ∧ (spanV_ code (rd_T40 code i).f1).f2 < code.length ∧
      ∃ r5, alloc_spanOf.f code (rd_T40 code i).f1 = some ((spanV_ code (rd_T40 code i).f1).f0, (spanV_ code (rd_T40 code i).f1).f1, (spanV_ code (rd_T40 code i).f1).f2, (spanV_ code (rd_T40 code i).f1).f3, r5) := by
  have hp := maker_pos hi hd
  generalize (rd_T40 code i).f1 = t at hp ⊢
  have h1 : alloc_spanOf.f code t = some (t, idxFrom (fun x => makesT x t) code 0, (useLoop t code 0 (idxFrom (fun x => makesT x t) code 0) 0).1, (useLoop t code 0 (idxFrom (fun x => makesT x t) code 0) 0).2, true) := by
    unfold alloc_spanOf.f; rw [if_neg hp]
  have h2 : spanV_ code t = ⟨t, idxFrom (fun x => makesT x t) code 0, (useLoop t code 0 (idxFrom (fun x => makesT x t) code 0) 0).1, (useLoop t code 0 (idxFrom (fun x => makesT x t) code 0) 0).2⟩ := by
    unfold spanV_; rw [h1]
  rw [h2]
  have h3 := useLoop_bound t code 0 (idxFrom (fun x => makesT x t) code 0) 0
  have h4 := idxFrom_le (fun x => makesT x t) code 0
  refine ⟨rfl, by show 0 ≤ idxFrom _ _ _; omega, h3.1, h3.2.1 _ (by omega) (by simp), true, h1⟩

structure HInv (i : Nat) (st : HSt) : Prop where
  ol : st.out.length ≤ 400
  al : st.act.length ≤ i
  ain : ∀ a ∈ st.act, 0 ≤ a.f0 ∧ a.f0 < st.out.length ∧ 0 ≤ a.f1 ∧ a.f1 ≤ a.f2 ∧ a.f2 ≤ 400
  sl : st.slots ≤ i
theorem length_padTo (out : List S36) (d : Int) (h0 : 0 ≤ d) : (padTo out d).length = out.length ∨ ((padTo out d).length : Int) = d + 1 := by
  unfold padTo
  simp
  omega
theorem length_padTo_gt (out : List S36) (d : Int) (h0 : 0 ≤ d) : d < (padTo out d).length ∧ out.length ≤ (padTo out d).length := by
  unfold padTo
  simp
  omega
/-- What holds once the piece's own temp has a place, and the elder temps' registers are free. -/
theorem hinv_mid {code : List S40} {i : Nat} {st : HSt} (h : HInv i st) (hi : i < code.length) (hn : code.length ≤ 400) (hd : hasD (rd_T40 code i).f0 = true) (h0 : 0 ≤ (rd_T40 code i).f1) (h1 : (rd_T40 code i).f1 < 400) :
    (padTo st.out (rd_T40 code i).f1).length ≤ 400 ∧ (st.act.filter (keepB (spanV_ code (rd_T40 code i).f1))).length ≤ i ∧
    ∀ a ∈ st.act.filter (keepB (spanV_ code (rd_T40 code i).f1)) ++ [spanV_ code (rd_T40 code i).f1], 0 ≤ a.f0 ∧ a.f0 < (padTo st.out (rd_T40 code i).f1).length ∧ 0 ≤ a.f1 ∧ a.f1 ≤ a.f2 ∧ a.f2 ≤ 400 := by
  obtain ⟨s0, s1, s2, s3, _⟩ := span_facts hi hd
  have hl := length_padTo st.out (rd_T40 code i).f1 h0
  have hg := length_padTo_gt st.out (rd_T40 code i).f1 h0
  refine ⟨by have := h.ol; omega, Nat.le_trans (List.length_filter_le _ _) h.al, fun a ha => ?_⟩
  rcases List.mem_append.1 ha with ha | ha
  · obtain ⟨a1, a2, a3, a4, a5⟩ := h.ain a (List.mem_filter.1 ha).1
    exact ⟨a1, by omega, a3, a4, a5⟩
  · rw [List.mem_singleton] at ha
    rw [ha]
    exact ⟨by omega, by omega, s1, s2, by omega⟩
theorem hinv_step {code : List S40} {regs : Int} {i : Nat} {st : HSt} (h : HInv i st) (hi : i < code.length) (hn : code.length ≤ 400) (hD : hasD (rd_T40 code i).f0 = true → 0 ≤ (rd_T40 code i).f1 ∧ (rd_T40 code i).f1 < 400) : HInv (i + 1) (hStep code regs (rd_T40 code i) st) := by
  unfold hStep
  by_cases hd : hasD (rd_T40 code i).f0 = true
  · obtain ⟨h0, h1⟩ := hD hd
    obtain ⟨m1, m2, m3⟩ := hinv_mid h hi hn hd h0 h1
    rw [if_pos hd]
    dsimp only
    split
    · exact ⟨by simpa using m1, by simp; omega, fun a ha => by simpa using m3 a ha, by have := h.sl; show st.slots ≤ _; omega⟩
    · refine ⟨by simpa using m1, ?_, fun a ha => by simpa using m3 a (List.mem_of_mem_eraseIdx ha), by have := h.sl; show st.slots + 1 ≤ _; omega⟩
      have h5 := List.length_eraseIdx_le (l := st.act.filter (keepB (spanV_ code (rd_T40 code i).f1)) ++ [spanV_ code (rd_T40 code i).f1]) (i := leastK ((st.act.filter (keepB (spanV_ code (rd_T40 code i).f1)) ++ [spanV_ code (rd_T40 code i).f1]).map wkey))
      refine Nat.le_trans h5 ?_
      simp; omega
  · rw [if_neg hd]
    exact ⟨h.ol, by have := h.al; omega, h.ain, by have := h.sl; omega⟩
theorem right_D {code : List S40} {l : List S83} (h : rightB code l = true) (i : Nat) (hi : i < code.length) (hd : hasD (rd_T40 code i).f0 = true) : 0 ≤ (rd_T40 code i).f1 ∧ (rd_T40 code i).f1 < 400 := by
  simp only [rightB, Bool.and_eq_true] at h
  have h1 := (upTo_iff _ _).1 h.1.2 i hi
  simp only [ok1, pieceA, Bool.and_eq_true] at h1
  have h2 := h1.1.1.1.1.1.1.2
  rw [hd] at h2
  simpa [tempB] using h2
theorem right_len {code : List S40} {l : List S83} (h : rightB code l = true) : 1 ≤ code.length ∧ code.length ≤ 400 := by
  simp only [rightB, Bool.and_eq_true, decide_eq_true_eq] at h
  exact ⟨h.1.1.1.1, h.1.1.1.2⟩
theorem hinv_at {code : List S40} {l : List S83} {regs : Int} (h : rightB code l = true) : ∀ i : Nat, i ≤ code.length → HInv i (hAt code regs i) := by
  intro i
  induction i with
  | zero => intro _; exact ⟨by simp [hAt], by simp [hAt], fun a ha => by simp [hAt] at ha, by simp [hAt]⟩
  | succ i ih => intro hi; exact hinv_step (ih (by omega)) (by omega) (right_len h).2 (right_D h i (by omega))
end Go.Proofs.Ytgljbgmphelhbaa.Q
