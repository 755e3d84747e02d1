/- Trees in memory; what a call that writes some blocks leaves; the contract of maps.Clone, reckon and temps. -/
import Derived.Test.YtaoefdbhfhcplaaFoldModel
import Derived.Test.YtaoefdbhfhcplaaTreeRightAll
import Derived.Test.YtaoefdbhfhcplaaQ6
import Derived.Test.YtaoefdbhfhcplaaQ7
import Derived.Shelf.SlMaps.Clone
namespace Go.Proofs.Ytaoefdbhfhcplaa.Q
open Go.RowKit Go.Proofs.YtaoefdbhfhcplaaW.PrintWords Go.Proofs.YtaoefdbhfhcplaaW.PrintLast Go.Proofs.YtaoefdbhfhcplaaW.PrintMore Go.Proofs.Ytaoefdbhfhcplaa.IM
set_option linter.unusedVariables false
set_option linter.unusedSimpArgs false

/-- All that lay there is as it was, but for the blocks of S. -/
structure Ch (S : Nat → Prop) (w w' : World) : Prop where
  os : w'.os = w.os
  tape : w'.tape = w.tape
  output : w'.output = w.output
  size : w.heap.size ≤ w'.heap.size
  block : ∀ k, k < w.heap.size → ¬ S k → w'.heap[k]? = w.heap[k]?
theorem Ch.refl (S : Nat → Prop) (w : World) : Ch S w w := ⟨rfl, rfl, rfl, Nat.le_refl _, fun _ _ _ => rfl⟩
theorem Ch.trans {S : Nat → Prop} {a b c : World} (h : Ch S a b) (k : Ch S b c) : Ch S a c :=
  ⟨k.os.trans h.os, k.tape.trans h.tape, k.output.trans h.output, Nat.le_trans h.size k.size, fun i hi hS => (k.block i (Nat.lt_of_lt_of_le hi h.size) hS).trans (h.block i hi hS)⟩
theorem Ch.mono {S T : Nat → Prop} {a b : World} (h : Ch S a b) (hST : ∀ k, k < a.heap.size → S k → T k) : Ch T a b :=
  ⟨h.os, h.tape, h.output, h.size, fun k hk hT => h.block k hk (fun hS => hT (hST k hk hS))⟩
theorem Ch.ofBelow {S : Nat → Prop} {w w' : World} (h : Below w.heap.size w w') : Ch S w w' := ⟨h.os, h.tape, h.output, h.size, fun k hk _ => h.block k hk⟩
theorem Ch.ofGrown {S : Nat → Prop} {w w' : World} {b : Nat} (h : w.grownBy w' (some b)) (hb : S b) : Ch S w w' :=
  ⟨h.os, h.tape, h.output, h.size, fun k hk hS => h.block k hk (by rintro e; injection e with e; exact hS (by rw [e]; exact hb))⟩
theorem Ch.alloc {S : Nat → Prop} {w w' : World} (h : Ch S w w') (o : Obj) : Ch S w (w'.alloc o) := h.trans (Ch.ofBelow ((Below.refl _ _).alloc (Nat.le_refl _) o))
theorem Ch.drew {S : Nat → Prop} {w w' : World} (h : Ch S w w') : Ch S w w'.drew := ⟨h.os, h.tape, h.output, h.size, h.block⟩
theorem Ch.drewN {S : Nat → Prop} {w w' : World} (h : Ch S w w') (n : Nat) : Ch S w (w'.drewN n) := ⟨h.os, h.tape, h.output, h.size, h.block⟩
theorem Ch.setCell {S : Nat → Prop} {w w' : World} (h : Ch S w w') (p : Addr) (v : Value) (hp : p.block < w.heap.size → S p.block) : Ch S w (w'.setCell p v) := by
  have hb := Below.heap_setCell w' p v
  refine ⟨h.os, h.tape, h.output, ?_, fun k hk hS => ?_⟩
  · have : (w'.setCell p v).heap.size = w'.heap.size := by simp [World.setCell]
    rw [this]; exact h.size
  · rw [hb k (fun e => hS (by rw [e]; exact hp (by rw [← e]; exact hk)))]; exact h.block k hk hS
/-- What is written lies above B: all below B is as it was. -/
theorem Ch.below {S : Nat → Prop} {w0 w w' : World} (h : Ch S w w') (hB : Below w0.heap.size w0 w) (hS : ∀ k, S k → w0.heap.size ≤ k) : Below w0.heap.size w0 w' :=
  ⟨h.os.trans hB.os, h.tape.trans hB.tape, h.output.trans hB.output, Nat.le_trans hB.size h.size, fun k hk => (h.block k (Nat.lt_of_lt_of_le hk hB.size) (fun hs => by have := hS k hs; omega)).trans (hB.block k hk)⟩
theorem Ch.blk {S : Nat → Prop} {w w' : World} (h : Ch S w w') {g : Nat} {o : Obj} (hg : w.heap[g]? = some o) (hS : ¬ S g) : w'.heap[g]? = some o := (h.block g (blk_lt hg) hS).trans hg
theorem IMap.ch {P : Program} {k e : TypeId} {w w' : World} {b n : Nat} {M : Int → Option Int} {S : Nat → Prop} (h : IMap P k e w b n M) (hc : Ch S w w') (hS : ¬ S b) : IMap P k e w' b n M := by
  have hlt := h.lt
  obtain ⟨D, ⟨es, clock, h1, h4⟩, h2, h3⟩ := h
  exact ⟨D, ⟨es, clock, by rw [hc.block b hlt hS]; exact h1, h4⟩, h2, h3⟩
theorem IMap.mono {P : Program} {k e : TypeId} {w : World} {b n m : Nat} {M : Int → Option Int} (h : IMap P k e w b n M) (hn : n ≤ m) : IMap P k e w b m M := by
  obtain ⟨D, h1, h2, h3⟩ := h
  exact ⟨D, h1.mono hn, h2, h3⟩

/-! ### trees -/
def insCells (x : S39) : List Value := [.int .i64 x.f0, .int .i64 x.f1, .int .i64 x.f2, .int .i64 x.f3, .int .i64 x.f4, .int .i64 x.f5, .int .i64 x.f6, .int .i64 x.f7]
/-- A tree lies in memory; in which blocks. -/
def FTAt (w : World) : FT → Value → List Nat → Prop
  | .leaf, v, bs => v = .pointer none ∧ bs = []
  | .node x n s, v, bs => ∃ (g : Nat) (pn ps : Value) (bn bt : List Nat), v = .pointer (some ⟨g, 0, none⟩) ∧
      w.heap[g]? = some (.cells #[.int .i64 x.f0, .int .i64 x.f1, .int .i64 x.f2, .int .i64 x.f3, .int .i64 x.f4, .int .i64 x.f5, .int .i64 x.f6, .int .i64 x.f7, pn, ps] 74 (0, 0)) ∧
      FTAt w n pn bn ∧ FTAt w s ps bt ∧ bs = g :: (bn ++ bt)
theorem FTAt.lt {w : World} : ∀ {t : FT} {v : Value} {bs : List Nat}, FTAt w t v bs → ∀ b ∈ bs, b < w.heap.size := by
  intro t
  induction t with
  | leaf => intro v bs ⟨_, h⟩ b hb; rw [h] at hb; simp at hb
  | node x n s ihn ihs =>
    intro v bs ⟨g, pn, ps, bn, bt, h1, h2, h3, h4, h5⟩ b hb
    rw [h5] at hb
    rcases List.mem_cons.1 hb with e | e
    · rw [e]; exact blk_lt h2
    · rcases List.mem_append.1 e with e | e
      · exact ihn h3 b e
      · exact ihs h4 b e
theorem FTAt.congr {w w' : World} : ∀ {t : FT} {v : Value} {bs : List Nat}, FTAt w t v bs → (∀ b ∈ bs, w'.heap[b]? = w.heap[b]?) → FTAt w' t v bs := by
  intro t
  induction t with
  | leaf => intro v bs h _; exact h
  | node x n s ihn ihs =>
    intro v bs ⟨g, pn, ps, bn, bt, h1, h2, h3, h4, h5⟩ hb
    exact ⟨g, pn, ps, bn, bt, h1, by rw [hb g (by rw [h5]; simp)]; exact h2, ihn h3 (fun b h => hb b (by rw [h5]; simp [h])), ihs h4 (fun b h => hb b (by rw [h5]; simp [h])), h5⟩
theorem FTAt.ch {w w' : World} {S : Nat → Prop} {t : FT} {v : Value} {bs : List Nat} (h : FTAt w t v bs) (hc : Ch S w w') (hS : ∀ b ∈ bs, ¬ S b) : FTAt w' t v bs :=
  h.congr fun b hb => hc.block b (h.lt b hb) (hS b hb)
theorem FTAt.leaf_iff {w : World} {t : FT} {v : Value} {bs : List Nat} (h : FTAt w t v bs) : (t.isLeaf = true ↔ v = .pointer none) := by
  cases t with
  | leaf => exact ⟨fun _ => h.1, fun _ => rfl⟩
  | node x n s =>
    obtain ⟨g, pn, ps, bn, bt, h1, _⟩ := h
    rw [h1]
    simp [FT.isLeaf]

/-! ### callees -/
set_option maxHeartbeats 2000000 in
theorem clone_w (b : Nat) (es : Array MapEntry) (clock : Nat) (w : World) (hb : w.heap[b]? = some (.map es clock)) :
    Calls Try.prog 32 #[.map (some b)] w fun e w' => e = .returned (.map (some w.heap.size)) ∧ w' = w.alloc (.map es clock) := by
  have hq := fun w => run_eql_map_nil_sl (P := Try.prog) w 47 _ _ (some b) Try.underlying47
  go_enter Try.func32, Try.ntmps32
  go_wp2
  rw [run_callFunc_extern Try.func39 (by kernel_rfl) (by kernel_rfl) (by kernel_rfl) (e := Extern.MapsClone.clone) (by kernel_rfl), run_maps_clone_sl w 47 hb]
  simp only [Result.andThen]
  rw [Oper.upon_value]
  go_wp2
  rw [run_typeAssert_map_sl _ 47 20 _ _ _ Try.underlying47]
  simp only [Result.andThen]
  rw [Oper.upon_value]
  go_wp2
  go_ret
  exact ⟨rfl, rfl⟩
theorem clone_c (b n : Nat) (M : Int → Option Int) (w : World) (h : IMap Try.prog 3 2 w b n M) :
    Calls Try.prog 32 #[.map (some b)] w fun e w' => e = .returned (.map (some w.heap.size)) ∧ IMap Try.prog 3 2 w' w.heap.size n M ∧ Below w.heap.size w w' ∧ w.heap.size < w'.heap.size := by
  obtain ⟨D, ⟨es, clock, h1, h4⟩, h2, h3⟩ := h
  refine (clone_w b es clock w h1).mono fun e w' ⟨he, hw⟩ => ?_
  subst hw
  exact ⟨he, ⟨D, ⟨es, clock, blk_new _ _, h4⟩, h2, h3⟩, (Below.refl _ w).alloc (Nat.le_refl _) _, by simp⟩
theorem reckon_c (op a b : Int) (w : World) : Calls Try.prog 31 #[.int .i64 op, .int .i64 a, .int .i64 b] w fun e w' => e = .returned (.int .i64 (reckonV op a b)) ∧ Drawn0 w w' :=
  fold_reckon.calls op a b _ w (by unfold fold_reckon.f reckonV; (repeat' split) <;> rfl)
theorem temps_of (x : S39) : fold_temps.f 3 x.f0 x.f1 x.f2 x.f3 x.f4 x.f5 x.f6 x.f7 = some (tempsOf x) := by
  obtain ⟨f0, f1, f2, f3, f4, f5, f6, f7⟩ := x
  by_cases h : 1 ≤ f0 ∧ f0 ≤ 18
  · have : f0 = 1 ∨ f0 = 2 ∨ f0 = 3 ∨ f0 = 4 ∨ f0 = 5 ∨ f0 = 6 ∨ f0 = 7 ∨ f0 = 8 ∨ f0 = 9 ∨ f0 = 10 ∨ f0 = 11 ∨ f0 = 12 ∨ f0 = 13 ∨ f0 = 14 ∨ f0 = 15 ∨ f0 = 16 ∨ f0 = 17 ∨ f0 = 18 := by omega
    rcases this with e | e | e | e | e | e | e | e | e | e | e | e | e | e | e | e | e | e <;> subst e <;> rfl
  · have hn : ∀ l : List Int, (∀ y ∈ l, 1 ≤ y ∧ y ≤ 18) → l.contains f0 = false := by
      intro l hl
      rw [Bool.eq_false_iff]
      intro hc
      exact h (hl f0 (List.contains_iff_mem.1 hc))
    have e17 : (f0 == 17) = false := beq_eq_false_iff_ne.2 (by omega)
    have hA : hasA f0 = false := hn _ (by decide)
    have hB : hasB f0 = false := hn _ (by decide)
    simp only [fold_temps.f, tempsOf, hA, hB]
    rw [if_neg (by omega), if_neg (by omega), if_neg (by omega), if_neg (by omega), if_neg (by omega), if_neg (by omega), if_neg (by omega), e17]
    simp only [fold_temps.j0]
    rw [if_neg (by simp), if_neg (by omega), if_neg (by omega), if_neg (by omega), if_neg (by omega), if_neg (by omega), if_neg (by omega)]
    rfl
theorem temps_c (x : S39) (w : World) : Calls Try.prog 33 #[.agg #[.int .i64 x.f0, .int .i64 x.f1, .int .i64 x.f2, .int .i64 x.f3, .int .i64 x.f4, .int .i64 x.f5, .int .i64 x.f6, .int .i64 x.f7]] w fun e w' => ∃ v : Value, e = .returned v ∧ Kd.R (Kd.int .i64) 3 w' w.heap.size (fun _ => True) v (tempsOf x) ∧ Below w.heap.size w w' :=
  fold_temps.calls 3 _ _ _ _ _ _ _ _ _ w (temps_of x)
end Go.Proofs.Ytaoefdbhfhcplaa.Q
