/- How an argument of a law, a slice of structs, opens into the rows that the contracts read. -/
import Derived.Test.YtaoefdbhfhcplaaQ0
import Derived.Deep.Slices
import Derived.WalkKit
import Derived.ProofKit
import Derived.OpenShut
namespace Go.Proofs.Ytaoefdbhfhcplaa.Q
open Go.RowKit Go.Proofs.YtaoefdbhfhcplaaW.PrintWords Go.Proofs.YtaoefdbhfhcplaaW.PrintLast Go.Proofs.YtaoefdbhfhcplaaW.PrintMore
open Go.ChangeShapes Go.WideShapes
set_option linter.unusedVariables false
set_option linter.unusedSimpArgs false

theorem slice_open {H : Type} {enc : TypeId × Value → H} {P : Program} {α : Type} (d : Kd α) {t e : TypeId} {W : World} {base : Nat} {spare : Nat → Bool} {held : Bool} (ht : P.underlying t = some (.slice e)) (hs : P.cellsOf e = d.sz)
    (hel : ∀ (n : Nat) (cs : List Value) (y : DataW H × List MemPlace), DataW.trod enc P W base spare held n e cs = some y → ∃ v : α, d.K W v cs)
    {a : Option Addr} {len cap : Nat} {dd : DataW H} {ps : List MemPlace} (h : DataW.Trod enc P W base spare held t (.slice a len cap) dd ps) : ∃ l : List α, l.length = len ∧ len ≤ cap ∧ Kd.C d W a len l := by
  obtain ⟨fuel, hf⟩ := h
  rcases Go.Deep.open_slice ht hf with ⟨hcs, _⟩ | ⟨x, len', cap', m, n, D, Pl, hcs, hb, hl, hm, hmm, _, hx⟩
  · simp [Value.cells] at hcs
    obtain ⟨rfl, rfl, rfl⟩ := hcs
    exact ⟨[], rfl, Nat.le_refl _, Kd.C_nil d W⟩
  · simp [Value.cells] at hcs
    obtain ⟨rfl, rfl, rfl⟩ := hcs
    have hlm : len ≤ m := by rw [hmm]; split <;> omega
    have key : ∀ j : Nat, j ≤ len → ∃ l : List α, l.length = j ∧ ∀ (i : Nat) (v : α), l[i]? = some v → ∃ c : List Value, c.length = d.sz ∧ d.K W v c ∧ ∀ (q : Nat) (u : Value), c[q]? = some u → W.cell? (x.add (i * d.sz + q)) = some u := by
      intro j
      induction j with
      | zero => intro _; exact ⟨[], rfl, fun i v h => by simp at h⟩
      | succ j ih =>
        intro hj
        obtain ⟨l, hll, hl2⟩ := ih (by omega)
        obtain ⟨cs', h1, h2⟩ := hx j (by omega)
        obtain ⟨v, hv⟩ := hel _ _ _ h2
        obtain ⟨_, hlen, hcell⟩ := World.cells?_some h1
        rw [hs] at hlen hcell
        refine ⟨l ++ [v], by simp [hll], fun i v' hi => ?_⟩
        by_cases hij : i < l.length
        · rw [List.getElem?_append_left hij] at hi
          exact hl2 i v' hi
        · rw [List.getElem?_append_right (by omega)] at hi
          have e0 : i - l.length = 0 := by
            by_cases e : i - l.length = 0
            · exact e
            · rw [List.getElem?_eq_none (by simp; omega)] at hi; cases hi
          rw [e0] at hi
          have ev : v = v' := by simpa using hi
          have ei : i = j := by omega
          subst ev
          subst ei
          refine ⟨cs', hlen, hv, fun q u hq => ?_⟩
          have hql : q < cs'.length := by
            rcases Nat.lt_or_ge q cs'.length with h | h
            · exact h
            · rw [List.getElem?_eq_none h] at hq; cases hq
          have := hcell q (by omega)
          rw [Go.Deep.add_add] at this
          rw [this]
          exact hq
    obtain ⟨l, hll, hl2⟩ := key len (Nat.le_refl _)
    have hmx : maxLen ≤ 9223372036854775807 := by decide
    exact ⟨l, hll, hl, hll, by omega, fun _ => ⟨x, rfl, hl2⟩⟩

theorem ins_open {H : Type} {enc : TypeId × Value → H} {W : World} {base : Nat} {spare : Nat → Bool} {held : Bool} (fuel : Nat) (cs : List Value) (y : DataW H × List MemPlace) (h : DataW.trod enc Try.prog W base spare held fuel 39 cs = some y) : ∃ v : S39, k39.K W v cs := by
  obtain ⟨xs, n, _, _, hl, hx, hf⟩ := DataW.trod_struct Try.underlying39 h
  have hl8 : cs.length = 8 := by rw [hl]; kernel_rfl
  have c3 : Try.prog.cellsOf 3 = 1 := by kernel_rfl
  have c2 : Try.prog.cellsOf 2 = 1 := by kernel_rfl
  have some_ : ∀ i : Nat, i < 8 → ∃ z, xs[i]? = some z := fun i hi => ⟨xs[i]'(by rw [hx]; exact hi), List.getElem?_eq_getElem _⟩
  have one : ∀ (i : Nat), i < 8 → ∀ ff : Field, (#[{ name := "Op", type := 3, offset := 0, embedded := false, tag := "", pkgPath := "", byteOffset := 0 },
        { name := "D", type := 3, offset := 1, embedded := false, tag := "", pkgPath := "", byteOffset := 8 },
        { name := "A", type := 3, offset := 2, embedded := false, tag := "", pkgPath := "", byteOffset := 16 },
        { name := "B", type := 3, offset := 3, embedded := false, tag := "", pkgPath := "", byteOffset := 24 },
        { name := "Loc", type := 3, offset := 4, embedded := false, tag := "", pkgPath := "", byteOffset := 32 },
        { name := "Len", type := 3, offset := 5, embedded := false, tag := "", pkgPath := "", byteOffset := 40 },
        { name := "K", type := 2, offset := 6, embedded := false, tag := "", pkgPath := "", byteOffset := 48 },
        { name := "To", type := 3, offset := 7, embedded := false, tag := "", pkgPath := "", byteOffset := 56 }] : Array Field)[i]? = some ff → (ff.type = 3 ∨ ff.type = 2) → ∃ a, (cs.drop ff.offset).take 1 = [.int .i64 a] := by
    intro i hi ff hff hty
    have h1 := hf i ff hff
    obtain ⟨z, hz⟩ := some_ i hi
    rw [hz] at h1
    rcases hty with hty | hty
    · rw [hty, c3] at h1
      obtain ⟨a, ha, _⟩ := DataW.trod_int Try.underlying3 h1
      exact ⟨a, ha⟩
    · rw [hty, c2] at h1
      obtain ⟨a, ha, _⟩ := DataW.trod_int Try.underlying2 h1
      exact ⟨a, ha⟩
  obtain ⟨a0, h0⟩ := one 0 (by omega) _ rfl (.inl rfl)
  obtain ⟨a1, h1⟩ := one 1 (by omega) _ rfl (.inl rfl)
  obtain ⟨a2, h2⟩ := one 2 (by omega) _ rfl (.inl rfl)
  obtain ⟨a3, h3⟩ := one 3 (by omega) _ rfl (.inl rfl)
  obtain ⟨a4, h4⟩ := one 4 (by omega) _ rfl (.inl rfl)
  obtain ⟨a5, h5⟩ := one 5 (by omega) _ rfl (.inl rfl)
  obtain ⟨a6, h6⟩ := one 6 (by omega) _ rfl (.inr rfl)
  obtain ⟨a7, h7⟩ := one 7 (by omega) _ rfl (.inl rfl)
  match cs, hl8 with
  | [b0, b1, b2, b3, b4, b5, b6, b7], _ =>
    simp at h0 h1 h2 h3 h4 h5 h6 h7
    subst h0 h1 h2 h3 h4 h5 h6 h7
    exact ⟨⟨a0, a1, a2, a3, a4, a5, a6, a7⟩, k39_mk W ⟨a0, a1, a2, a3, a4, a5, a6, a7⟩⟩

theorem loc_open {H : Type} {enc : TypeId × Value → H} {W : World} {base : Nat} {spare : Nat → Bool} {held : Bool} (fuel : Nat) (cs : List Value) (y : DataW H × List MemPlace) (h : DataW.trod enc Try.prog W base spare held fuel 80 cs = some y) : ∃ v : S80, k80.K W v cs := by
  obtain ⟨xs, n, _, _, hl, hx, hf⟩ := DataW.trod_struct Try.underlying80 h
  have hl2 : cs.length = 2 := by rw [hl]; kernel_rfl
  have c4 : Try.prog.cellsOf 4 = 1 := by kernel_rfl
  have c2 : Try.prog.cellsOf 2 = 1 := by kernel_rfl
  have some_ : ∀ i : Nat, i < 2 → ∃ z, xs[i]? = some z := fun i hi => ⟨xs[i]'(by rw [hx]; exact hi), List.getElem?_eq_getElem _⟩
  have e0 := hf 0 _ rfl
  have e1 := hf 1 _ rfl
  obtain ⟨z0, hz0⟩ := some_ 0 (by omega)
  obtain ⟨z1, hz1⟩ := some_ 1 (by omega)
  rw [hz0] at e0
  rw [hz1] at e1
  obtain ⟨a0, h0, _⟩ := DataW.trod_bool Try.underlying4 e0
  obtain ⟨a1, h1, _⟩ := DataW.trod_int Try.underlying2 e1
  change List.take (Try.prog.cellsOf 4) (List.drop 0 cs) = _ at h0
  change List.take (Try.prog.cellsOf 2) (List.drop 1 cs) = _ at h1
  rw [c4] at h0
  rw [c2] at h1
  match cs, hl2 with
  | [b0, b1], _ =>
    simp at h0 h1
    subst h0 h1
    exact ⟨⟨a0, a1⟩, k80_mk W ⟨a0, a1⟩⟩
end Go.Proofs.Ytaoefdbhfhcplaa.Q
