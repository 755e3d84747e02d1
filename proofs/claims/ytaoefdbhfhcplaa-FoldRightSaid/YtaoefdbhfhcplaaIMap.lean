/- Laws for a map from whole numbers to whole numbers that a call makes: what it holds is told as a function. -/
import Derived.Maps.Own
import Derived.Maps.OwnOps
import Derived.Maps.OwnSet
import Derived.Maps.Views
import Derived.WalkKit
import Derived.Deep.Draws
set_option linter.unusedVariables false
namespace Go.Proofs.Ytaoefdbhfhcplaa.IM
open Go.RowKit Go.Maps

/-- Block b of w is a map of at most n entries, from ints to ints of 64 bits, that holds M. -/
def rawI (v : Value) : Option (DataW Unit × List MemPlace) :=
  match v with
  | .int .i64 a => some (.lit (.int .i64 a), [])
  | _ => none
theorem rawI_inv {v : Value} {z : DataW Unit} {ps : List MemPlace} (h : rawI v = some (z, ps)) : ∃ a, v = .int .i64 a ∧ z = .lit (.int .i64 a) := by
  unfold rawI at h
  split at h
  · injection h with h; injection h with h _; exact ⟨_, rfl, h.symm⟩
  · cases h
def IMap (P : Program) (k e : TypeId) (w : World) (b n : Nat) (M : Int → Option Int) : Prop :=
  ∃ D : DataW Unit, w.ownsMap P k rawI b n D ∧ IsMap D ∧
    (∀ x : Int, (Lit.int .i64 x).wf = true → Maps.has D (.int .i64 x) = (M x).isSome ∧ D.atKey (.int .i64 x) (.lit (.int .i64 0)) = .lit (.int .i64 ((M x).getD 0)))

def upd (M : Int → Option Int) (x v : Int) : Int → Option Int := fun y => if y = x then some v else M y

theorem IMap.made (P : Program) (k e : TypeId) (w : World) : IMap P k e (w.alloc (.map #[] 0)) w.heap.size 0 (fun _ => none) :=
  ⟨.map [], World.ownsMap_made w P k _, isMap_empty, fun _ _ => ⟨rfl, rfl⟩⟩

theorem IMap.kept {P : Program} {k e : TypeId} {w w' : World} {b n : Nat} {M : Int → Option Int} {row : Option Nat} (h : IMap P k e w b n M) (hg : w.grownBy w' row) (hne : some b ≠ row) : IMap P k e w' b n M := by
  obtain ⟨D, h1, h2, h3⟩ := h
  exact ⟨D, h1.kept hg hne, h2, h3⟩
theorem IMap.alloc {P : Program} {k e : TypeId} {w : World} {b n : Nat} {M : Int → Option Int} (h : IMap P k e w b n M) (o : Obj) : IMap P k e (w.alloc o) b n M := by
  obtain ⟨D, h1, h2, h3⟩ := h
  exact ⟨D, h1.alloc o, h2, h3⟩
theorem IMap.drew {P : Program} {k e : TypeId} {w : World} {b n : Nat} {M : Int → Option Int} (h : IMap P k e w b n M) : IMap P k e w.drew b n M := by
  obtain ⟨D, h1, h2, h3⟩ := h
  exact ⟨D, h1.drew, h2, h3⟩
theorem IMap.drewN {P : Program} {k e : TypeId} {w : World} {b n : Nat} {M : Int → Option Int} (h : IMap P k e w b n M) (j : Nat) : IMap P k e (w.drewN j) b n M := by
  obtain ⟨D, h1, h2, h3⟩ := h
  exact ⟨D, h1, h2, h3⟩
theorem IMap.lt {P : Program} {k e : TypeId} {w : World} {b n : Nat} {M : Int → Option Int} (h : IMap P k e w b n M) : b < w.heap.size := by
  obtain ⟨D, h1, h2, h3⟩ := h
  exact h1.lt
/-- Whatever keeps what lies below B keeps a map that lies there. -/
theorem IMap.below {P : Program} {k e : TypeId} {w w' : World} {b n B : Nat} {M : Int → Option Int} (h : IMap P k e w b n M) (hb : Below B w w') (hlt : b < B) : IMap P k e w' b n M := by
  obtain ⟨D, ⟨es, clock, h1, h4⟩, h2, h3⟩ := h
  exact ⟨D, ⟨es, clock, by rw [hb.block b hlt]; exact h1, h4⟩, h2, h3⟩
/-- A store into another block keeps a map. -/
theorem IMap.setCell {P : Program} {k e : TypeId} {w : World} {b n : Nat} {M : Int → Option Int} (h : IMap P k e w b n M) (a : Addr) (v : Value) (hne : a.block ≠ b) : IMap P k e (w.setCell a v) b n M := by
  obtain ⟨D, ⟨es, clock, h1, h4⟩, h2, h3⟩ := h
  refine ⟨D, ⟨es, clock, ?_, h4⟩, h2, h3⟩
  have : (w.setCell a v).heap[b]? = w.heap[b]? := by
    unfold World.setCell
    simp only [Array.getElem?_modify]
    rw [if_neg hne]
  rw [this]
  exact h1

section
variable {P : Program} {w : World} {ops : Array Oper} {rest : List Oper} {o : Oper} {a : Act} {Q : Exit → Act → World → Prop}
theorem IMap.lookup_ok (hg : o.guard = none) (m x : Operand) (t : TypeId) (hop : o.op = Op.lookup t m x true)
    (k e : TypeId) (hk : P.underlying k = some (.int .i64)) (ht : P.underlying t = some (.map k e)) (he : P.underlying e = some (.int .i64)) (hz : (zeroValue e).run P w = .ok (.int .i64 0) w) (b n : Nat) (M : Int → Option Int)
    (hm : a.eval m = .map (some b)) (hown : IMap P k e w b n M) (key : Int) (hx : a.eval x = .int .i64 key) (hwf : (Lit.int .i64 key).wf = true)
    (hK : wpList P ops Q rest (a.put o.dst (.tuple #[.int .i64 ((M key).getD 0), .bool (M key).isSome])) w) :
    wpList P ops Q (o :: rest) a w := by
  obtain ⟨D, h1, h2, h3⟩ := hown
  refine wpList_lookup_own_ok w hg m x t hop k e (int_keyed hk) ht rawI hz (.lit (.int .i64 0)) [] rfl b n D hm h1 _ (.int .i64 key) hx (keyOf_int_mk hk hwf) ?_
  intro v ps hv
  obtain ⟨c, rfl, hc⟩ := rawI_inv hv
  obtain ⟨h4, h5⟩ := h3 key hwf
  rw [h5] at hc
  have : (M key).getD 0 = c := by injection hc with hc; injection hc with _ hc
  rw [h4, ← this]
  exact hK
/-- A lookup, guarded or not. -/
theorem IMap.look (hw : Region.wanted o (yielded ops a.tmps) = true) (m x : Operand) (t : TypeId) (hop : o.op = Op.lookup t m x false)
    (k e : TypeId) (hk : P.underlying k = some (.int .i64)) (ht : P.underlying t = some (.map k e)) (hz : (zeroValue e).run P w = .ok (.int .i64 0) w) (b n : Nat) (M : Int → Option Int)
    (hm : a.eval m = .map (some b)) (hown : IMap P k e w b n M) (key : Int) (hx : a.eval x = .int .i64 key) (hwf : (Lit.int .i64 key).wf = true)
    (hK : wpList P ops Q rest (a.put o.dst (.int .i64 ((M key).getD 0))) w) :
    wpList P ops Q (o :: rest) a w := by
  obtain ⟨D, h1, h2, h3⟩ := hown
  refine wpList_step fun K' hK' => ?_
  rw [if_pos hw]
  obtain ⟨v, ps, hrun, hv⟩ := h1.lookup (int_keyed hk) ht hz (zd := .lit (.int .i64 0)) (zp := []) rfl (keyOf_int_mk hk hwf)
  obtain ⟨c, rfl, hc⟩ := rawI_inv hv
  obtain ⟨h4, h5⟩ := h3 key hwf
  rw [h5] at hc
  have : (M key).getD 0 = c := by injection hc with hc; injection hc with _ hc
  unfold Oper.wp
  simp [execOp, hop, hm, hx, hrun, Result.andThen]
  rw [this] at hK
  exact hK' _ _ hK
theorem IMap.lookup (hg : o.guard = none) (m x : Operand) (t : TypeId) (hop : o.op = Op.lookup t m x false)
    (k e : TypeId) (hk : P.underlying k = some (.int .i64)) (ht : P.underlying t = some (.map k e)) (he : P.underlying e = some (.int .i64)) (hz : (zeroValue e).run P w = .ok (.int .i64 0) w) (b n : Nat) (M : Int → Option Int)
    (hm : a.eval m = .map (some b)) (hown : IMap P k e w b n M) (key : Int) (hx : a.eval x = .int .i64 key) (hwf : (Lit.int .i64 key).wf = true)
    (hK : wpList P ops Q rest (a.put o.dst (.int .i64 ((M key).getD 0))) w) :
    wpList P ops Q (o :: rest) a w :=
  IMap.look (by simp [Region.wanted, hg]) m x t hop k e hk ht hz b n M hm hown key hx hwf hK
theorem IMap.put (hg : o.guard = none) (m x v : Operand) (t : TypeId) (hop : o.op = Op.mapUpdate t m x v)
    (k e : TypeId) (hk : P.underlying k = some (.int .i64)) (ht : P.underlying t = some (.map k e)) (b n : Nat) (M : Int → Option Int)
    (hm : a.eval m = .map (some b)) (hown : IMap P k e w b n M) (hn : n < maxLen) (key val : Int) (hx : a.eval x = .int .i64 key) (hv : a.eval v = .int .i64 val) (hwf : (Lit.int .i64 key).wf = true)
    (hK : ∀ w', IMap P k e w' b (n + 1) (upd M key val) → w.grownBy w' (some b) → wpList P ops Q rest (a.put o.dst undef) w') :
    wpList P ops Q (o :: rest) a w := by
  obtain ⟨D, h1, h2, h3⟩ := hown
  refine wpList_mapUpdate_own _ hg m x v t hop k e (int_keyed hk) ht _ b n D hm h1 hn _ _ (.int .i64 key) hx hv (keyOf_int_mk hk hwf) (.lit (.int .i64 val)) [] rfl ?_
  intro w' h4 hgr
  refine hK w' ⟨_, h4, h2.put _ _, ?_⟩ hgr
  intro y hy
  by_cases e1 : y = key
  · subst e1
    refine ⟨?_, ?_⟩
    · rw [has_put_same h2 (by first | exact trivial | simp [WideAt.IsKeyLit])]; simp [upd]
    · rw [atKey_put_same h2 (by first | exact trivial | simp [WideAt.IsKeyLit])]; simp [upd]
  · have hne : Lit.int .i64 y ≠ Lit.int .i64 key := by intro h; injection h with _ h; exact e1 h
    refine ⟨?_, ?_⟩
    · rw [has_put_other hne]; simp [upd, e1]; exact (h3 y hy).1
    · rw [atKey_put_other hne]; simp [upd, e1]; exact (h3 y hy).2
theorem IMap.update (hg : o.guard = none) (m x v : Operand) (t : TypeId) (hop : o.op = Op.mapUpdate t m x v)
    (k e : TypeId) (hk : P.underlying k = some (.int .i64)) (ht : P.underlying t = some (.map k e)) (he : P.underlying e = some (.int .i64)) (b n : Nat) (M : Int → Option Int)
    (hm : a.eval m = .map (some b)) (hown : IMap P k e w b n M) (hn : n < maxLen) (key val : Int) (hx : a.eval x = .int .i64 key) (hv : a.eval v = .int .i64 val) (hwf : (Lit.int .i64 key).wf = true) (hwv : (Lit.int .i64 val).wf = true)
    (hK : ∀ w', IMap P k e w' b (n + 1) (upd M key val) → w.grownBy w' (some b) → wpList P ops Q rest (a.put o.dst undef) w') :
    wpList P ops Q (o :: rest) a w := IMap.put hg m x v t hop k e hk ht b n M hm hown hn key val hx hv hwf hK
end
end Go.Proofs.Ytaoefdbhfhcplaa.IM
