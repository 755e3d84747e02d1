/- The plain law of AllocApart: what it reckons is true. -/
import Derived.Test.YtgljbgmphelhbaaApartLaw
import Derived.Test.YtgljbgmphelhbaaBase
import Derived.Test.YtgljbgmphelhbaaQ10
namespace Go.Proofs.Ytgljbgmphelhbaa.Q
open Go.RowKit Go.Proofs.YtgljbgmphelhbaaW.PrintWords Go.Proofs.YtgljbgmphelhbaaW.PrintLast Go.Proofs.YtgljbgmphelhbaaW.PrintMore Go.Proofs.Ytgljbgmphelhbaa.IM
set_option linter.unusedVariables false
set_option linter.unusedSimpArgs false

theorem apart_l1 (code : List S40) (regs : Int) (H : List S36) (hH : H.length ≤ 100000) (t : Nat) (ht : t < H.length) (from_ to_ : Int)
    (f4 : ∀ u : Nat, u < t → 0 ≤ mk code u → (rd_T36 H t).f0 < 0 → (rd_T36 H u).f0 < 0 → (rd_T36 H t).f1 ≠ (rd_T36 H u).f1)
    (f5 : ∀ u : Nat, u < t → 0 ≤ mk code u → 0 ≤ (rd_T36 H t).f0 → (rd_T36 H t).f0 = (rd_T36 H u).f0 → ¬ ((spanV_ code u).f1 ≤ to_ ∧ from_ ≤ (spanV_ code u).f2))
    (K : Nat) (hK : selvagelaw14_AllocApart.l0 K code regs H ((t + 1 : Nat) : Int) = some true) :
    ∀ d j : Nat, j + d = t → selvagelaw14_AllocApart.l1 (K + d + 1) code regs H t from_ to_ j = some true := by
  intro d
  induction d with
  | zero =>
    intro j hj
    rw [selvagelaw14_AllocApart.l1, if_neg (by omega), w_one (by omega)]
    exact hK
  | succ d ih =>
    intro j hj
    have hih := ih (j + 1) (by omega)
    rw [show K + (d + 1) + 1 = (K + d + 1) + 1 from by omega, selvagelaw14_AllocApart.l1, if_pos (by omega), w_one (n := j) (by omega)]
    obtain ⟨a, b, ok, he, ho, hl⟩ := Span_live code j
    rw [he]
    simp only [Option.bind_some]
    by_cases hok : ok = true
    · obtain ⟨ea, eb⟩ := hl hok
      have hm : 0 ≤ mk code j := by rw [hok] at ho; simpa using ho.symm
      have g4 := f4 j (by omega) hm
      have g5 := f5 j (by omega) hm
      rw [← ea, ← eb] at g5
      have hz : (0 : Int) ≤ (t : Int) := by omega
      have hz2 : (0 : Int) ≤ (j : Int) := by omega
      have hz3 : (t : Int) < (H.length : Int) := by omega
      have hz4 : (j : Int) < (H.length : Int) := by omega
      rw [if_pos hok]
      generalize (rd_T36 H t).f0 = rt at *
      generalize (rd_T36 H t).f1 = st at *
      generalize (rd_T36 H j).f0 = ru at *
      generalize (rd_T36 H j).f1 = su at *
      (repeat' split) <;> first
        | exact hih
        | (exfalso; omega)
    · rw [if_neg hok]
      exact hih
theorem apart_l0 (code : List S40) (l : List S83) (regs : Int) (hreg : 1 ≤ regs) (h : rightB code l = true) :
    ∀ d t : Nat, t + d = (hAt code regs code.length).out.length → ∃ K, selvagelaw14_AllocApart.l0 K code regs (hAt code regs code.length).out t = some true := by
  have hlen := right_len h
  have hv := hinv_at (regs := regs) h code.length (Nat.le_refl _)
  have p := pinv_at (regs := regs) h code.length (Nat.le_refl _)
  have hH := hv.ol
  have hsl := hv.sl
  generalize hAt code regs code.length = st at *
  have made : ∀ t : Nat, 0 ≤ mk code t → madeB code code.length t := fun t h1 => by
    obtain ⟨j, j1, j2, _⟩ := mk_made h1
    exact ⟨by omega, h1, by omega⟩
  intro d
  induction d with
  | zero =>
    intro t ht
    exact ⟨1, by rw [selvagelaw14_AllocApart.l0, if_neg (by omega)]⟩
  | succ d ih =>
    intro t ht
    obtain ⟨K, hK⟩ := ih (t + 1) (by omega)
    refine ⟨K + t + 1 + 1 + 1, ?_⟩
    rw [selvagelaw14_AllocApart.l0, if_pos (by omega), w_one (n := t) (by omega)]
    obtain ⟨a, b, ok, he, ho, hl⟩ := Span_live code t
    rw [he]
    simp only [Option.bind_some]
    by_cases hok : ok = true
    · obtain ⟨ea, eb⟩ := hl hok
      have hm : 0 ≤ mk code t := by rw [hok] at ho; simpa using ho.symm
      have q2 := (p.p2 t (made t hm)).2
      have q1 := apart_l1 code regs st.out (by omega) t (by omega) a b
        (fun u hu hmu => p.p4 t u (made t hm) (made u hmu) (by omega))
        (fun u hu hmu => by rw [ea, eb]; exact p.p5 t u (made t hm) (made u hmu) (by omega))
        K hK t 0 (by omega)
      have hj : ∀ x : Bool, x = false → selvagelaw14_AllocApart.j2 (K + t + 1 + 1) code regs st.out t a b x = some true := fun x hx => by
        rw [selvagelaw14_AllocApart.j2, hx]
        exact q1
      rw [if_pos hok, if_pos (by omega)]
      rcases q2 with ⟨r1, r2, r3, _⟩ | ⟨r1, r2, r3⟩
      · rw [if_neg (by omega), if_neg (by omega), if_neg (by omega), if_neg (by omega), if_pos r1, r3]
        exact hj _ rfl
      · rw [if_neg (by omega), if_neg (by omega), if_neg (by omega), if_neg (by omega), if_neg (by omega)]
        exact hj _ rfl
    · have hm : ¬ 0 ≤ mk code t := fun hc => by
        rw [decide_eq_true hc] at ho
        exact hok ho
      have q1 := p.p1 t (by omega) (by omega) (fun hc => hm hc.2.1)
      rw [if_neg hok, if_pos (by omega), q1, if_pos rfl, if_pos rfl, show K + t + 1 + 1 = K + (t + 1 + 1) from by omega]
      exact leo_add (f := fun k => selvagelaw14_AllocApart.l0 k code regs st.out ((t + 1 : Nat) : Int)) (fun k => (selvagelaw14_AllocApart.mono_l k).2.1 _ _ _ _) K (t + 1 + 1) _ hK
theorem apart_j0 (code : List S40) (l : List S83) (regs : Int) (b : Bool) : ∃ k, selvagelaw14_AllocApart.j0 k code l regs b = some true := by
  by_cases hb : b = true
  · exact ⟨1, by rw [selvagelaw14_AllocApart.j0, if_pos hb]⟩
  · by_cases h : rightB code l = true
    · by_cases hr : regs < 1 ∨ 8 < regs
      · refine ⟨1, ?_⟩
        rw [selvagelaw14_AllocApart.j0, if_neg hb, alloc_Homes.f, if_neg (by rw [h]; simp), if_pos hr]
        rfl
      · obtain ⟨K, hK⟩ := apart_l0 code l regs (by omega) h (hAt code regs code.length).out.length 0 (by omega)
        refine ⟨K + 1, ?_⟩
        rw [selvagelaw14_AllocApart.j0, if_neg hb, alloc_Homes.f, if_neg (by rw [h]; simp), if_neg hr]
        exact hK
    · refine ⟨1, ?_⟩
      rw [selvagelaw14_AllocApart.j0, if_neg hb, alloc_Homes.f, if_pos (by simpa using h)]
      rfl
theorem AllocApart_true (code : List S40) (l : List S83) (regs : Int) : ∃ k, selvagelaw14_AllocApart.f k code l regs = some true := by
  obtain ⟨k1, h1⟩ := awake_true
  have key : ∀ b : Bool, ∃ k, (selvagelaw14_awake.f k = some true) ∧ selvagelaw14_AllocApart.j0 k code l regs b = some true := by
    intro b
    obtain ⟨k2, h2⟩ := apart_j0 code l regs b
    refine ⟨k1 + k2, leo_add selvagelaw14_awake.mono k1 k2 _ h1, ?_⟩
    rw [Nat.add_comm]
    exact leo_add (f := fun k => selvagelaw14_AllocApart.j0 k code l regs b) (fun k => (selvagelaw14_AllocApart.mono_l k).1 _ _ _ _) k2 k1 _ h2
  by_cases c1 : (code.length : Int) > 200
  · obtain ⟨k, a, b⟩ := key true
    exact ⟨k, by rw [selvagelaw14_AllocApart.f, a, Option.bind_some, if_pos rfl, if_pos c1]; exact b⟩
  · obtain ⟨k, a, b⟩ := key (decide ((l.length : Int) > 16))
    exact ⟨k, by rw [selvagelaw14_AllocApart.f, a, Option.bind_some, if_pos rfl, if_neg c1]; exact b⟩
end Go.Proofs.Ytgljbgmphelhbaa.Q
