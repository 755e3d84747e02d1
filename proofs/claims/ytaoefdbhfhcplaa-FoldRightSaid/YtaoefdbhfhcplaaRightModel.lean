/- What tree.Right reckons, told plainly. -/
import Derived.Test.YtaoefdbhfhcplaaCode
import Derived.Test.YtaoefdbhfhcplaaAbove
namespace Go.Proofs.Ytaoefdbhfhcplaa.Q
open Go.RowKit Go.Proofs.YtaoefdbhfhcplaaW.PrintWords Go.Proofs.YtaoefdbhfhcplaaW.PrintLast Go.Proofs.YtaoefdbhfhcplaaW.PrintMore Go.Proofs.Ytaoefdbhfhcplaa.IM
set_option linter.unusedVariables false
set_option linter.unusedSimpArgs false

structure RSt where
  ways : List Int
  frm : List Int
  made : Int → Option Int
def rst0 (n : Nat) : RSt := ⟨List.replicate n 0, List.replicate n 0, fun _ => none⟩
def rTo (i : Nat) (x : S39) (s : RSt) : RSt := if hasTo x.f0 then ⟨s.ways.set x.f7.toNat (rd s.ways x.f7 + 1), s.frm.set x.f7.toNat i, s.made⟩ else s
def rNext (i : Nat) (x : S39) (s : RSt) : RSt := if x.f0 = 18 then s else ⟨s.ways.set (i + 1) (rd s.ways ((i : Int) + 1) + 1), s.frm.set (i + 1) i, s.made⟩
def rMade (i : Nat) (x : S39) (s : RSt) : RSt := if hasD x.f0 then ⟨s.ways, s.frm, upd s.made x.f1 i⟩ else s
def rStep (i : Nat) (x : S39) (s : RSt) : RSt := rMade i x (rNext i x (rTo i x s))
def rAt (code : List S39) : Nat → RSt
  | 0 => rst0 code.length
  | i + 1 => rStep i (rd_T39 code i) (rAt code i)
def ok1 (code : List S39) (l : List S80) (i : Nat) : Bool :=
  pieceA l (rd_T39 code i) && pieceTo code.length i (rd_T39 code i) && (!hasD (rd_T39 code i).f0 || ((rAt code i).made (rd_T39 code i).f1).isNone)
def ok2 (s : RSt) (code : List S39) (i : Nat) : Bool :=
  (i == 0 || rd s.ways i == 1) && (!hasA (rd_T39 code i).f0 || aboveB s.made s.frm (rd_T39 code i).f2 i) && (!hasB (rd_T39 code i).f0 || aboveB s.made s.frm (rd_T39 code i).f3 i)
def upTo (p : Nat → Bool) : Nat → Bool
  | 0 => true
  | i + 1 => upTo p i && p i
theorem upTo_iff (p : Nat → Bool) (n : Nat) : upTo p n = true ↔ ∀ i, i < n → p i = true := by
  induction n with
  | zero => simp [upTo]
  | succ n ih =>
    simp only [upTo, Bool.and_eq_true, ih]
    constructor
    · intro ⟨h1, h2⟩ i hi
      by_cases e : i = n
      · rw [e]; exact h2
      · exact h1 i (by omega)
    · intro h
      exact ⟨fun i hi => h i (by omega), h n (by omega)⟩
theorem upTo_false {p : Nat → Bool} {n i : Nat} (hi : i < n) (h : p i = false) : upTo p n = false := by
  rw [Bool.eq_false_iff]
  intro hc
  have := (upTo_iff p n).1 hc i hi
  rw [h] at this
  cases this
def rightB (code : List S39) (l : List S80) : Bool :=
  decide (1 ≤ code.length) && decide (code.length ≤ 400) && (rd_T39 code (code.length - 1)).f0 == 18 && upTo (ok1 code l) code.length && upTo (ok2 (rAt code code.length) code) code.length
def tree_Right.f (code : List S39) (l : List S80) : Option Bool := some (rightB code l)

/-! what holds of the lists -/
theorem rd_set (xs : List Int) (j : Nat) (v : Int) (i : Int) (hi : 0 ≤ i) : rd (xs.set j v) i = if j = i.toNat ∧ j < xs.length then v else rd xs i := by
  unfold rd
  rw [List.getD_eq_getElem?_getD, List.getD_eq_getElem?_getD, List.getElem?_set]
  by_cases h1 : j = i.toNat
  · subst h1
    by_cases h2 : i.toNat < xs.length
    · simp [h2]
    · simp [h2]
  · rw [if_neg h1, if_neg (fun h => h1 h.1)]
structure RInv (n i : Nat) (s : RSt) : Prop where
  lw : s.ways.length = n
  lf : s.frm.length = n
  w0 : ∀ j : Int, 0 ≤ j → 0 ≤ rd s.ways j
  w1 : ∀ j : Int, 0 ≤ j → rd s.ways j ≤ 2 * i
  f0 : ∀ j : Int, 1 ≤ j → 0 ≤ rd s.frm j ∧ rd s.frm j < j
  m0 : ∀ t v, s.made t = some v → 0 ≤ v
theorem rd_replicate (n : Nat) (i : Int) : rd (List.replicate n 0) i = 0 := by
  unfold rd
  rw [List.getD_eq_getElem?_getD, List.getElem?_replicate]
  split <;> rfl
theorem rinv0 (n : Nat) : RInv n 0 (rst0 n) :=
  ⟨by simp [rst0], by simp [rst0], fun j _ => by simp [rst0, rd_replicate], fun j _ => by simp [rst0, rd_replicate], fun j hj => by simp [rst0, rd_replicate]; omega, fun t v h => by simp [rst0] at h⟩
theorem rinv_step {n i : Nat} {x : S39} {s : RSt} (h : RInv n i s) (hto : pieceTo n i x = true) : RInv n (i + 1) (rStep i x s) := by
  obtain ⟨lw, lf, w0, w1, f0, m0⟩ := h
  -- behind the To: at most one more
  have a : (rTo i x s).ways.length = n ∧ (rTo i x s).frm.length = n ∧ (∀ j : Int, 0 ≤ j → 0 ≤ rd (rTo i x s).ways j) ∧ (∀ j : Int, 0 ≤ j → rd (rTo i x s).ways j ≤ 2 * i + 1) ∧ (∀ j : Int, 1 ≤ j → 0 ≤ rd (rTo i x s).frm j ∧ rd (rTo i x s).frm j < j) ∧ (∀ t v, (rTo i x s).made t = some v → 0 ≤ v) := by
    unfold rTo
    unfold pieceTo at hto
    by_cases hh : hasTo x.f0 = true
    · rw [if_pos hh] at hto
      simp at hto
      rw [if_pos hh]
      refine ⟨by simp [lw], by simp [lf], fun j hj => ?_, fun j hj => ?_, fun j hj => ?_, m0⟩
      · show 0 ≤ rd (s.ways.set _ _) j
        rw [rd_set _ _ _ _ hj]
        split
        · have := w0 x.f7 (by omega); omega
        · exact w0 j hj
      · show rd (s.ways.set _ _) j ≤ _
        rw [rd_set _ _ _ _ hj]
        split
        · have := w1 x.f7 (by omega); omega
        · have := w1 j hj; omega
      · show 0 ≤ rd (s.frm.set _ _) j ∧ rd (s.frm.set _ _) j < j
        rw [rd_set _ _ _ _ (by omega)]
        split
        · rename_i hc; omega
        · exact f0 j hj
    · rw [if_neg hh]
      exact ⟨lw, lf, w0, fun j hj => by have := w1 j hj; omega, f0, m0⟩
  obtain ⟨alw, alf, aw0, aw1, af0, am0⟩ := a
  have b : (rNext i x (rTo i x s)).ways.length = n ∧ (rNext i x (rTo i x s)).frm.length = n ∧ (∀ j : Int, 0 ≤ j → 0 ≤ rd (rNext i x (rTo i x s)).ways j) ∧ (∀ j : Int, 0 ≤ j → rd (rNext i x (rTo i x s)).ways j ≤ 2 * i + 2) ∧ (∀ j : Int, 1 ≤ j → 0 ≤ rd (rNext i x (rTo i x s)).frm j ∧ rd (rNext i x (rTo i x s)).frm j < j) ∧ (∀ t v, (rNext i x (rTo i x s)).made t = some v → 0 ≤ v) := by
    unfold rNext
    by_cases hh : x.f0 = 18
    · rw [if_pos hh]
      exact ⟨alw, alf, aw0, fun j hj => by have := aw1 j hj; omega, af0, am0⟩
    · rw [if_neg hh]
      refine ⟨by simp [alw], by simp [alf], fun j hj => ?_, fun j hj => ?_, fun j hj => ?_, am0⟩
      · show 0 ≤ rd (List.set _ _ _) j
        rw [rd_set _ _ _ _ hj]
        split
        · have := aw0 ((i : Int) + 1) (by omega); omega
        · exact aw0 j hj
      · show rd (List.set _ _ _) j ≤ _
        rw [rd_set _ _ _ _ hj]
        split
        · have := aw1 ((i : Int) + 1) (by omega); omega
        · have := aw1 j hj; omega
      · show 0 ≤ rd (List.set _ _ _) j ∧ rd (List.set _ _ _) j < j
        rw [rd_set _ _ _ _ (by omega)]
        split
        · rename_i hc; omega
        · exact af0 j hj
  obtain ⟨blw, blf, bw0, bw1, bf0, bm0⟩ := b
  unfold rStep rMade
  by_cases hh : hasD x.f0 = true
  · rw [if_pos hh]
    refine ⟨blw, blf, bw0, fun j hj => by have := bw1 j hj; show rd _ _ ≤ _; push_cast; omega, bf0, fun t v h => ?_⟩
    simp only [upd] at h
    split at h
    · injection h with h; omega
    · exact bm0 t v h
  · rw [if_neg hh]
    exact ⟨blw, blf, bw0, fun j hj => by have := bw1 j hj; push_cast; omega, bf0, bm0⟩
theorem to_bound {n i : Nat} {x : S39} {s : RSt} (h : RInv n i s) (hto : pieceTo n i x = true) (j : Int) (hj : 0 ≤ j) : 0 ≤ rd (rTo i x s).ways j ∧ rd (rTo i x s).ways j ≤ 2 * i + 1 := by
  unfold rTo
  unfold pieceTo at hto
  by_cases hh : hasTo x.f0 = true
  · rw [if_pos hh] at hto
    simp at hto
    rw [if_pos hh]
    show 0 ≤ rd (s.ways.set _ _) j ∧ rd (s.ways.set _ _) j ≤ _
    rw [rd_set _ _ _ _ hj]
    split
    · have := h.w0 x.f7 (by omega); have := h.w1 x.f7 (by omega); omega
    · have := h.w0 j hj; have := h.w1 j hj; omega
  · rw [if_neg hh]
    have := h.w0 j hj; have := h.w1 j hj; omega
theorem rinv_at {code : List S39} {l : List S80} : ∀ i : Nat, upTo (ok1 code l) i = true → RInv code.length i (rAt code i) := by
  intro i
  induction i with
  | zero => intro _; exact rinv0 _
  | succ i ih =>
    intro h
    simp only [upTo, Bool.and_eq_true] at h
    refine rinv_step (ih h.1) ?_
    have := h.2
    simp only [ok1, Bool.and_eq_true] at this
    exact this.1.2
end Go.Proofs.Ytaoefdbhfhcplaa.Q
