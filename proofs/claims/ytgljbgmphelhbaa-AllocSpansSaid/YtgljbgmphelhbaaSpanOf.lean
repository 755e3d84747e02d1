/- The contract of alloc.spanOf: the span of a temp, and how many pieces use it. -/
import Derived.Test.YtgljbgmphelhbaaCode
import Derived.Test.YtgljbgmphelhbaaQ4
namespace Go.Proofs.Ytgljbgmphelhbaa.Q
open Go.RowKit Go.Proofs.YtgljbgmphelhbaaW.PrintWords Go.Proofs.YtgljbgmphelhbaaW.PrintLast Go.Proofs.YtgljbgmphelhbaaW.PrintMore
set_option linter.unusedVariables false
set_option linter.unusedSimpArgs false

attribute [local go_sem] max2_int min2_int max_two min_two max_three min_three max_four min_four   -- for this text's walks alone

theorem blk_put4 {w : World} {g : Nat} {t : TypeId} {a b c d : Value} (h : w.heap[g]? = some (.cells #[a, b, c, d] t (0, 0))) (a' b' c' d' : Value) :
    ((((w.setCell ⟨g, 0, none⟩ a').setCell ⟨g, 1, none⟩ b').setCell ⟨g, 2, none⟩ c').setCell ⟨g, 3, none⟩ d').heap[g]? = some (.cells #[a', b', c', d'] t (0, 0)) :=
  blk_put (blk_put (blk_put (blk_put h 0 a' rfl) 1 b' rfl) 2 c' rfl) 3 d' rfl
theorem below_put4 {w W : World} {g : Nat} (h : Below w.heap.size w W) (hg : w.heap.size ≤ g) (a' b' c' d' : Value) :
    Below w.heap.size w ((((W.setCell ⟨g, 0, none⟩ a').setCell ⟨g, 1, none⟩ b').setCell ⟨g, 2, none⟩ c').setCell ⟨g, 3, none⟩ d') :=
  below_set (below_set (below_set (below_set h hg) hg) hg) hg
def usesT (x : S40) (t : Int) : Bool := (hasA x.f0 && x.f2 == t) || (hasB x.f0 && x.f3 == t)
def makesT (x : S40) (t : Int) : Bool := hasD x.f0 && x.f1 == t
/-- The number of the first element, counted from i on, that p holds of; -1: none. -/
def idxFrom {α : Type} (p : α → Bool) : List α → Nat → Int
  | [], _ => -1
  | x :: xs, i => if p x then i else idxFrom p xs (i + 1)
/-- How many use t, and the greatest number of these. -/
def useLoop (t : Int) : List S40 → Nat → Int → Int → Int × Int
  | [], _, to_, u => (to_, u)
  | x :: xs, i, to_, u => if usesT x t then useLoop t xs (i + 1) (if to_ < i then (i : Int) else to_) (u + 1) else useLoop t xs (i + 1) to_ u
def alloc_spanOf.f (code : List S40) (t : Int) : Option (Int × Int × Int × Int × Bool) :=
  if idxFrom (fun x => makesT x t) code 0 < 0 then some (0, 0, 0, 0, false)
  else some (t, idxFrom (fun x => makesT x t) code 0, (useLoop t code 0 (idxFrom (fun x => makesT x t) code 0) 0).1, (useLoop t code 0 (idxFrom (fun x => makesT x t) code 0) 0).2, true)

theorem not_kind {op : Int} (h : ¬ isKind op = true) (s : List Int) (hs : ∀ c ∈ s, 1 ≤ c ∧ c ≤ 18) : s.contains op = false := by
  rw [Bool.eq_false_iff]
  intro hc
  obtain ⟨a, b⟩ := hs _ (List.contains_iff_mem.mp hc)
  exact h (by simp [isKind]; omega)
theorem makes_of (x : S40) : alloc_makes.f x.f0 x.f1 x.f2 x.f3 x.f4 x.f5 x.f6 x.f7 = some (hasD x.f0) := by
  generalize x.f0 = op
  by_cases h : isKind op = true
  · rcases kind_cases h with rfl | rfl | rfl | rfl | rfl | rfl | rfl | rfl | rfl | rfl | rfl | rfl | rfl | rfl | rfl | rfl | rfl | rfl <;> rfl
  · have h1 : ∀ c : Int, 1 ≤ c → c ≤ 18 → op ≠ c := by intro c h1 h2 he; subst he; exact h (by simp [isKind]; omega)
    have h3 : hasD op = false := not_kind h _ (by decide)
    rw [h3]
    simp only [alloc_makes.f, h1 1 (by omega) (by omega), h1 2 (by omega) (by omega), h1 3 (by omega) (by omega), h1 4 (by omega) (by omega), h1 5 (by omega) (by omega), h1 6 (by omega) (by omega), h1 8 (by omega) (by omega), h1 10 (by omega) (by omega), h1 11 (by omega) (by omega), h1 13 (by omega) (by omega), if_false]
theorem needs_of (x : S40) (t : Int) : ∃ k, alloc_needs.f k x.f0 x.f1 x.f2 x.f3 x.f4 x.f5 x.f6 x.f7 t = some (usesT x t) := by
  refine ⟨1, ?_⟩
  unfold usesT
  generalize x.f0 = op
  by_cases h : isKind op = true
  · rcases kind_cases h with rfl | rfl | rfl | rfl | rfl | rfl | rfl | rfl | rfl | rfl | rfl | rfl | rfl | rfl | rfl | rfl | rfl | rfl <;>
      simp [alloc_needs.f, alloc_needs.j0, hasA, hasB] <;> (by_cases h2 : x.f2 = t <;> simp [h2])
  · have h1 : ∀ c : Int, 1 ≤ c → c ≤ 18 → op ≠ c := by intro c h1 h2 he; subst he; exact h (by simp [isKind]; omega)
    have h2 : ∀ c : Int, 1 ≤ c → c ≤ 18 → (op == c) = false := fun c a b => beq_eq_false_iff_ne.mpr (h1 c a b)
    have h3 : hasA op = false := not_kind h _ (by decide)
    have h4 : hasB op = false := not_kind h _ (by decide)
    rw [h3, h4]
    simp only [alloc_needs.f, alloc_needs.j0, h1 2 (by omega) (by omega), h1 3 (by omega) (by omega), h1 4 (by omega) (by omega), h1 5 (by omega) (by omega), h1 12 (by omega) (by omega), h1 14 (by omega) (by omega), h1 16 (by omega) (by omega), h2 17 (by omega) (by omega), h1 7 (by omega) (by omega), h1 9 (by omega) (by omega), h1 10 (by omega) (by omega), h1 11 (by omega) (by omega), h1 13 (by omega) (by omega), h1 15 (by omega) (by omega), if_false, Bool.false_eq_true, Bool.false_and, Bool.or_false]
theorem makes_c (x : S40) (w : World) : Calls Try.prog 18 #[.agg #[.int .i64 x.f0, .int .i64 x.f1, .int .i64 x.f2, .int .i64 x.f3, .int .i64 x.f4, .int .i64 x.f5, .int .i64 x.f6, .int .i64 x.f7]] w fun e w' => e = .returned (.bool (hasD x.f0)) ∧ Below w.heap.size w w' :=
  alloc_makes.calls _ _ _ _ _ _ _ _ _ w (makes_of x)
theorem needs_c (x : S40) (t : Int) (w : World) : Calls Try.prog 33 #[.agg #[.int .i64 x.f0, .int .i64 x.f1, .int .i64 x.f2, .int .i64 x.f3, .int .i64 x.f4, .int .i64 x.f5, .int .i64 x.f6, .int .i64 x.f7], .int .i64 t] w fun e w' => e = .returned (.bool (usesT x t)) ∧ Below w.heap.size w w' := by
  obtain ⟨k, hk⟩ := needs_of x t
  exact alloc_needs.calls k _ _ _ _ _ _ _ _ _ _ w hk

set_option maxHeartbeats 1000000 in
/-- The closure of spanOf: is it the piece that makes t? -/
theorem spanOf1_c (x : S40) (g : Nat) (t : Int) (w : World) (hg : w.heap[g]? = some (.cells #[.int .i64 t] 3 (0, 0))) : Calls Try.prog 32 #[.agg #[.int .i64 x.f0, .int .i64 x.f1, .int .i64 x.f2, .int .i64 x.f3, .int .i64 x.f4, .int .i64 x.f5, .int .i64 x.f6, .int .i64 x.f7], .pointer (some ⟨g, 0, none⟩)] w fun e w' => e = .returned (.bool (makesT x t)) ∧ Below w.heap.size w w' := by
  have HG := Aside0.mk hg
  clear hg
  go_enter Try.func32, Try.ntmps32
  go_upto_region 1 with (fail)
  obtain ⟨gx, hgx⟩ : ∃ g, g = w.heap.size := ⟨_, rfl⟩
  have hne : g < gx := by rw [hgx]; exact blk_lt HG.out
  obtain ⟨W1, hW1⟩ : ∃ W1, W1 = w.alloc (.cells #[.int .i64 x.f0, .int .i64 x.f1, .int .i64 x.f2, .int .i64 x.f3, .int .i64 x.f4, .int .i64 x.f5, .int .i64 x.f6, .int .i64 x.f7] 40) := ⟨_, rfl⟩
  have HBX : Aside0 (W1.heap[gx]? = some (.cells #[.int .i64 x.f0, .int .i64 x.f1, .int .i64 x.f2, .int .i64 x.f3, .int .i64 x.f4, .int .i64 x.f5, .int .i64 x.f6, .int .i64 x.f7] 40 (0, 0))) := ⟨by rw [hW1, hgx]; exact blk_new _ _⟩
  have HG1 : Aside0 (W1.heap[g]? = some (.cells #[.int .i64 t] 3 (0, 0))) := ⟨by rw [hW1]; exact blk_alloc HG.out _⟩
  have HB1 : Aside0 (Below w.heap.size w W1) := ⟨by rw [hW1]; exact (Below.refl _ _).alloc (Nat.le_refl _) _⟩
  rw [← hW1, ← hgx]
  clear hW1 hgx HG
  have cx := fun j => blk_cell HBX.out j
  have cx0 := cx 0; have cx1 := cx 1; have cx2 := cx 2; have cx3 := cx 3; have cx4 := cx 4; have cx5 := cx 5; have cx6 := cx 6; have cx7 := cx 7
  clear cx
  simp only [List.getElem?_toArray, List.getElem?_cons_zero, List.getElem?_cons_succ] at cx0 cx1 cx2 cx3 cx4 cx5 cx6 cx7
  cases hd : hasD x.f0 with
  | false =>
    have HD := Aside0.mk hd
    go_wp2_with (go_at_call 18; refine (makes_c x _).mono ?_; rintro e W2 ⟨rfl, hB2⟩)
    go_ret
    exact ⟨by simp [makesT, HD.out], below_then HB1.out HB1.out.size hB2⟩
  | true =>
    have HD := Aside0.mk hd
    have HM : Aside0 (makesT x t = (x.f1 == t)) := ⟨by simp [makesT, hd]⟩
    go_wp2_with (go_at_call 18; refine (makes_c x _).mono ?_; rintro e W2 ⟨rfl, hB2⟩; have ca := blk_cell (blk_below HBX.out hB2) 1; have cb := blk_cell (blk_below HG1.out hB2) 0; simp only [List.getElem?_toArray, List.getElem?_cons_zero, List.getElem?_cons_succ] at ca cb)
    go_ret
    exact ⟨by rw [HM.out]; rfl, below_then HB1.out HB1.out.size hB2⟩

set_option maxHeartbeats 1000000 in
/-- slices.IndexFunc of spanOf's closure. -/
theorem indexIns_c (A : Option Addr) (c : Nat) (code : List S40) (g : Nat) (t : Int) (w : World) (hr : Kd.C k40 w A code.length code) (hc : code.length ≤ c) (hg : w.heap[g]? = some (.cells #[.int .i64 t] 3 (0, 0))) :
    Calls Try.prog 31 #[.slice A code.length c, .func (.func 32) #[] #[.pointer (some ⟨g, 0, none⟩)]] w fun e w' => e = .returned (.int .i64 (idxFrom (fun x => makesT x t) code 0)) ∧ Below w.heap.size w w' := by
  have hlen := hr.2.1
  have HR := Aside0.mk hr
  have HG := Aside0.mk hg
  clear hr hg
  go_enter Try.func31, Try.ntmps31
  go_wp2_with (fail)
  go_loopw [8] (fun v wr => ∃ i : Nat, v = .int .i64 i ∧ i ≤ code.length ∧ Aside0 (idxFrom (fun x => makesT x t) (code.drop i) i = idxFrom (fun x => makesT x t) code 0) ∧ Aside0 (Below w.heap.size w wr)) (fun v _ => code.length - (intOf v).toNat)
  case atStart => exact ⟨0, rfl, Nat.zero_le _, ⟨by simp⟩, ⟨Below.refl _ _⟩⟩
  case round =>
    obtain ⟨i, rfl, hi, HI, HB⟩ := hrel
    by_cases hlt : i < code.length
    · have hC := Kd.C_below HR.out HB.out
      obtain ⟨ad, rfl, hx0, hx1, hx2, hx3, hx4, hx5, hx6, hx7⟩ := at_T40 hC (i : Int) (by omega) (by omega)
      rw [Int.toNat_natCast] at hx0 hx1 hx2 hx3 hx4 hx5 hx6 hx7
      obtain ⟨x, hxe⟩ : ∃ x, x = rd_T40 code i := ⟨_, rfl⟩
      rw [← hxe] at hx0 hx1 hx2 hx3 hx4 hx5 hx6 hx7
      have hxg : code[i]'hlt = x := by rw [hxe]; simp [rd_T40, List.getD_eq_getElem?_getD, List.getElem?_eq_getElem hlt]
      have HS : Aside0 (idxFrom (fun x => makesT x t) code 0 = if makesT x t then (i : Int) else idxFrom (fun x => makesT x t) (code.drop (i + 1)) (i + 1)) := ⟨by
        rw [← HI.out, List.drop_eq_getElem_cons hlt, hxg]; rfl⟩
      have HG2 : Aside0 (wr.heap[g]? = some (.cells #[.int .i64 t] 3 (0, 0))) := ⟨blk_below HG.out HB.out⟩
      clear hC hxe hxg HI
      cases hm : makesT x t with
      | true =>
        have HM := Aside0.mk hm
        go_wp2_with (go_at_call 32; refine (spanOf1_c x g t _ HG2.out).mono ?_; rintro e W2 ⟨rfl, hB2⟩; rw [HM.out])
        go_ret
        exact ⟨by rw [HS.out, HM.out]; rfl, below_then HB.out HB.out.size hB2⟩
      | false =>
        have HM := Aside0.mk hm
        go_wp2_with (go_at_call 32; refine (spanOf1_c x g t _ HG2.out).mono ?_; rintro e W2 ⟨rfl, hB2⟩; rw [HM.out])
        go_roundw
        case rel => exact ⟨i + 1, by go_num, by omega, ⟨by rw [HS.out, HM.out]; rfl⟩, ⟨below_then HB.out HB.out.size hB2⟩⟩
        case measure => simp [intOf]; omega
    · have hin : i = code.length := by omega
      subst hin
      have HS : Aside0 (idxFrom (fun x => makesT x t) code 0 = -1) := ⟨by rw [← HI.out, List.drop_length]; rfl⟩
      go_wp2
      go_ret
      exact ⟨by rw [HS.out]; rfl, HB.out⟩

theorem idxFrom_le {α : Type} (p : α → Bool) : ∀ (xs : List α) (i : Nat), idxFrom p xs i < (i : Int) + xs.length ∨ idxFrom p xs i = -1 := by
  intro xs
  induction xs with
  | nil => intro i; exact .inr rfl
  | cons x xs ih =>
    intro i
    simp only [idxFrom]
    split
    · left; simp; omega
    · rcases ih (i + 1) with h | h
      · left; simp; omega
      · exact .inr h

set_option maxHeartbeats 2000000 in
theorem alloc_spanOf.calls (A0 : Option Addr) (c0 : Nat) (l0 : List S40) (a1 : Int) (r1 : Int) (r2 : Int) (r3 : Int) (r4 : Int) (r5 : Bool) (w : World) (hr0 : Kd.C k40 w A0 l0.length l0) (hc0 : l0.length ≤ c0) (h : alloc_spanOf.f l0 a1 = some (r1, r2, r3, r4, r5)) :
    Calls Try.prog 16 #[.slice A0 l0.length c0, .int .i64 a1] w fun e w' => e = .returned (.tuple #[.agg #[.int .i64 r1, .int .i64 r2, .int .i64 r3, .int .i64 r4], .bool r5]) ∧ Below w.heap.size w w' := by
  have hmf : ∀ (fn : Fn) (first cap : Array Value) (w : World), (Instr.makeFunc fn first cap).run Try.prog w = .ok (.func fn first cap) w := fun _ _ _ _ => rfl
  have hlen := hr0.2.1
  have HR := Aside0.mk hr0
  have H := Aside0.mk h
  clear hr0 h
  go_enter Try.func16, Try.ntmps16
  go_upto_region 1 with (fail)
  obtain ⟨g3, hg3⟩ : ∃ g, g = w.heap.size := ⟨_, rfl⟩
  obtain ⟨g4, hg4⟩ : ∃ g, g = w.heap.size + 1 := ⟨_, rfl⟩
  obtain ⟨W0, hW0⟩ : ∃ W0, W0 = (w.alloc (.cells #[.int .i64 a1] 3)).alloc (.cells #[.int .i64 0, .int .i64 0, .int .i64 0, .int .i64 0] 44) := ⟨_, rfl⟩
  have HG3 : Aside0 (W0.heap[g3]? = some (.cells #[.int .i64 a1] 3 (0, 0))) := ⟨by rw [hW0, hg3]; exact blk_alloc (blk_new _ _) _⟩
  have HG4 : Aside0 (W0.heap[g4]? = some (.cells #[.int .i64 0, .int .i64 0, .int .i64 0, .int .i64 0] 44 (0, 0))) := ⟨by rw [hW0, hg4, ← show (w.alloc (.cells #[.int .i64 a1] 3)).heap.size = w.heap.size + 1 from by simp]; exact blk_new _ _⟩
  have HB0 : Aside0 (Below w.heap.size w W0) := ⟨by rw [hW0]; exact below_alloc ((Below.refl _ _).alloc (Nat.le_refl _) _) _⟩
  have h34 : g3 < g4 := by omega
  have h3w : w.heap.size ≤ g3 := by omega
  rw [← hW0, ← hg4, ← hg3]
  clear hW0 hg3 hg4
  have HC0 : Aside0 (Kd.C k40 W0 A0 l0.length l0) := ⟨Kd.C_below HR.out HB0.out⟩
  go_upto_region 2 with (go_at_call 31; refine (indexIns_c A0 c0 l0 g3 a1 _ HC0.out hc0 HG3.out).mono ?_; rintro e W1 ⟨rfl, hB1⟩)
  have HB1 : Aside0 (Below w.heap.size w W1) := ⟨below_then HB0.out HB0.out.size hB1⟩
  have HG31 : Aside0 (W1.heap[g3]? = some (.cells #[.int .i64 a1] 3 (0, 0))) := ⟨blk_below HG3.out hB1⟩
  have HG41 : Aside0 (W1.heap[g4]? = some (.cells #[.int .i64 0, .int .i64 0, .int .i64 0, .int .i64 0] 44 (0, 0))) := ⟨blk_below HG4.out hB1⟩
  clear hB1 HG3 HG4 HB0 HC0
  have H2 := H.out
  unfold alloc_spanOf.f at H2
  obtain ⟨ix, hix⟩ : ∃ ix, ix = idxFrom (fun x => makesT x a1) l0 0 := ⟨_, rfl⟩
  rw [← hix] at H2 ⊢
  have HIX := Aside0.mk hix
  clear hix H
  have c30 := blk_cell HG31.out 0
  have c4 := fun j => blk_cell HG41.out j
  have f4 := fun j => blk_frozen HG41.out j
  have c40 := c4 0; have c41 := c4 1; have c42 := c4 2; have c43 := c4 3
  have f40 := f4 0; have f41 := f4 1; have f42 := f4 2; have f43 := f4 3
  clear c4 f4
  simp only [List.getElem?_toArray, List.getElem?_cons_zero, List.getElem?_cons_succ] at c30 c40 c41 c42 c43
  by_cases hneg : ix < 0
  · rw [if_pos hneg] at H2
    injection H2 with H2
    simp only [Prod.mk.injEq] at H2
    obtain ⟨rfl, rfl, rfl, rfl, rfl⟩ := H2
    have hnb : decide (ix < 0) = true := decide_eq_true hneg
    clear hneg
    go_wp2
    refine bodyPost_ret (results_ct rfl _ _ g4 44 #[.int .i64 0, .int .i64 0, .int .i64 0, .int .i64 0] (0, 0) _ rfl (blk_put4 HG41.out _ _ _ _) Try.underlying44 rfl (by kernel_rfl)) rfl ?_
    exact ⟨rfl, below_put4 HB1.out (by omega) _ _ _ _⟩
  · rw [if_neg hneg] at H2
    injection H2 with H2
    simp only [Prod.mk.injEq] at H2
    obtain ⟨rfl, rfl, h3, h4, rfl⟩ := H2
    have H3 := Aside0.mk h3
    have H4 := Aside0.mk h4
    have hnb : decide (ix < 0) = false := decide_eq_false hneg
    clear h3 h4
    have hixn : ix < l0.length := by
      have := idxFrom_le (fun x => makesT x a1) l0 0
      rw [← HIX.out] at this
      omega
    go_upto_region 5 with (fail)
    obtain ⟨g7, hg7⟩ : ∃ g, g = W1.heap.size := ⟨_, rfl⟩
    obtain ⟨W2, hW2⟩ : ∃ W, W = W1.alloc (.cells #[.int .i64 a1, .int .i64 ix, .int .i64 ix, .int .i64 0] 44) := ⟨_, rfl⟩
    have HG7 : Aside0 (W2.heap[g7]? = some (.cells #[.int .i64 a1, .int .i64 ix, .int .i64 ix, .int .i64 0] 44 (0, 0))) := ⟨by rw [hW2, hg7]; exact blk_new _ _⟩
    have HG3 : Aside0 (W2.heap[g3]? = some (.cells #[.int .i64 a1] 3 (0, 0))) := ⟨by rw [hW2]; exact blk_alloc HG31.out _⟩
    have HG4 : Aside0 (W2.heap[g4]? = some (.cells #[.int .i64 0, .int .i64 0, .int .i64 0, .int .i64 0] 44 (0, 0))) := ⟨by rw [hW2]; exact blk_alloc HG41.out _⟩
    have HB2 : Aside0 (Below w.heap.size w W2) := ⟨by rw [hW2]; exact below_alloc HB1.out _⟩
    have h47 : g4 < g7 := by rw [hg7]; exact blk_lt HG41.out
    rw [← hW2, ← hg7]
    clear hW2 hg7 HG31 HG41 HB1 c30 c40 c41 c42 c43 f40 f41 f42 f43 hnb
    go_wp2_with (fail)
    go_loopw [22] (fun v wr => ∃ (i : Nat) (to_ u : Int), v = .int .i64 i ∧ i ≤ l0.length ∧ 0 ≤ u ∧ u ≤ i ∧ 0 ≤ to_ ∧ to_ ≤ l0.length ∧ Aside0 (useLoop a1 (l0.drop i) i to_ u = useLoop a1 l0 0 ix 0) ∧
        Aside0 (wr.heap[g7]? = some (.cells #[.int .i64 a1, .int .i64 ix, .int .i64 to_, .int .i64 u] 44 (0, 0))) ∧ Aside0 (wr.heap[g3]? = some (.cells #[.int .i64 a1] 3 (0, 0))) ∧
        Aside0 (wr.heap[g4]? = some (.cells #[.int .i64 0, .int .i64 0, .int .i64 0, .int .i64 0] 44 (0, 0))) ∧ Aside0 (Below w.heap.size w wr)) (fun v _ => l0.length - (intOf v).toNat)
    case atStart => exact ⟨0, ix, 0, rfl, Nat.zero_le _, by omega, by omega, by omega, by omega, ⟨by simp⟩, HG7, HG3, HG4, HB2⟩
    case round =>
      clear HG7 HG3 HG4 HB2
      obtain ⟨i, to_, u, rfl, hi, hu0, hu1, ht0, ht1, HI, HG7, HG3, HG4, HB⟩ := hrel
      by_cases hlt : i < l0.length
      · have hC := Kd.C_below HR.out HB.out
        obtain ⟨ad, rfl, hx0, hx1, hx2, hx3, hx4, hx5, hx6, hx7⟩ := at_T40 hC (i : Int) (by omega) (by omega)
        rw [Int.toNat_natCast] at hx0 hx1 hx2 hx3 hx4 hx5 hx6 hx7
        obtain ⟨x, hxe⟩ : ∃ x, x = rd_T40 l0 i := ⟨_, rfl⟩
        rw [← hxe] at hx0 hx1 hx2 hx3 hx4 hx5 hx6 hx7
        have hxg : l0[i]'hlt = x := by rw [hxe]; simp [rd_T40, List.getD_eq_getElem?_getD, List.getElem?_eq_getElem hlt]
        have HS : Aside0 (useLoop a1 l0 0 ix 0 = if usesT x a1 then useLoop a1 (l0.drop (i + 1)) (i + 1) (if to_ < i then (i : Int) else to_) (u + 1) else useLoop a1 (l0.drop (i + 1)) (i + 1) to_ u) := ⟨by
          rw [← HI.out, List.drop_eq_getElem_cons hlt, hxg]; rfl⟩
        clear hC hxe hxg HI
        have c30 := blk_cell HG3.out 0
        simp only [List.getElem?_toArray, List.getElem?_cons_zero, List.getElem?_cons_succ] at c30
        have hlt3 : g3 < wr.heap.size := blk_lt HG3.out
        have hne3 : g3 ≠ wr.heap.size := by omega
        go_upto_if 29 with (go_at_call 33; refine (needs_c x a1 _).mono ?_; rintro e W3 ⟨rfl, hB3⟩)
        have hB4 : Below wr.heap.size wr W3 := ((Below.refl _ wr).alloc (Nat.le_refl _) _).trans (hB3.mono (by simp))
        have HG7' : Aside0 (W3.heap[g7]? = some (.cells #[.int .i64 a1, .int .i64 ix, .int .i64 to_, .int .i64 u] 44 (0, 0))) := ⟨blk_below HG7.out hB4⟩
        have HG3' : Aside0 (W3.heap[g3]? = some (.cells #[.int .i64 a1] 3 (0, 0))) := ⟨blk_below HG3.out hB4⟩
        have HG4' : Aside0 (W3.heap[g4]? = some (.cells #[.int .i64 0, .int .i64 0, .int .i64 0, .int .i64 0] 44 (0, 0))) := ⟨blk_below HG4.out hB4⟩
        have HB' : Aside0 (Below w.heap.size w W3) := ⟨below_then HB.out HB.out.size hB4⟩
        clear hB3 hB4 HG7 HG3 HG4 HB hx0 hx1 hx2 hx3 hx4 hx5 hx6 hx7 c30
        have c72 := blk_cell HG7'.out 2
        have c73 := blk_cell HG7'.out 3
        have f72 := blk_frozen HG7'.out 2
        have f73 := blk_frozen HG7'.out 3
        simp only [List.getElem?_toArray, List.getElem?_cons_zero, List.getElem?_cons_succ] at c72 c73
        cases hu : usesT x a1 with
        | false =>
          have HU := Aside0.mk hu
          go_wp2_with (fail)
          go_roundw
          case rel => exact ⟨i + 1, to_, u, by go_num, by omega, by omega, by omega, by omega, by omega, ⟨by rw [HS.out, HU.out]; rfl⟩, HG7', HG3', HG4', HB'⟩
          case measure => simp [intOf]; omega
        | true =>
          have HU := Aside0.mk hu
          by_cases hm : to_ < i
          · have HM := Aside0.mk hm
            go_wp2_with (fail)
            go_roundw
            case rel => exact ⟨i + 1, i, u + 1, by go_num, by omega, by omega, by omega, by omega, by omega, ⟨by rw [HS.out, HU.out, if_pos HM.out]; rfl⟩, ⟨blk_put (blk_put HG7'.out 3 _ rfl) 2 _ rfl⟩, ⟨blk_far (blk_far HG3'.out (by simp; omega) _) (by simp; omega) _⟩, ⟨blk_far (blk_far HG4'.out (by simp; omega) _) (by simp; omega) _⟩, ⟨below_set (below_set HB'.out (by omega)) (by omega)⟩⟩
            case measure => simp [intOf]; omega
          · have HM := Aside0.mk hm
            go_wp2_with (fail)
            go_roundw
            case rel => exact ⟨i + 1, to_, u + 1, by go_num, by omega, by omega, by omega, by omega, by omega, ⟨by rw [HS.out, HU.out, if_neg HM.out]; rfl⟩, ⟨blk_put (blk_put HG7'.out 3 _ rfl) 2 _ rfl⟩, ⟨blk_far (blk_far HG3'.out (by simp; omega) _) (by simp; omega) _⟩, ⟨blk_far (blk_far HG4'.out (by simp; omega) _) (by simp; omega) _⟩, ⟨below_set (below_set HB'.out (by omega)) (by omega)⟩⟩
            case measure => simp [intOf]; omega
      · have hin : i = l0.length := by omega
        subst hin
        have HE : Aside0 (useLoop a1 l0 0 ix 0 = (to_, u)) := ⟨by rw [← HI.out, List.drop_length]; rfl⟩
        have c7 := fun j => blk_cell HG7.out j
        have c4 := fun j => blk_cell HG4.out j
        have f4 := fun j => blk_frozen HG4.out j
        have c70 := c7 0; have c71 := c7 1; have c72 := c7 2; have c73 := c7 3
        have c40 := c4 0; have c41 := c4 1; have c42 := c4 2; have c43 := c4 3
        have f40 := f4 0; have f41 := f4 1; have f42 := f4 2; have f43 := f4 3
        clear c4 f4 c7
        simp only [List.getElem?_toArray, List.getElem?_cons_zero, List.getElem?_cons_succ] at c40 c41 c42 c43 c70 c71 c72 c73
        go_wp2
        refine bodyPost_ret (results_ct rfl _ _ g4 44 #[.int .i64 a1, .int .i64 ix, .int .i64 to_, .int .i64 u] (0, 0) _ rfl (blk_put4 HG4.out _ _ _ _) Try.underlying44 rfl (by kernel_rfl)) rfl ?_
        exact ⟨by rw [← H3.out, ← H4.out, HE.out]; rfl, below_put4 HB.out (by omega) _ _ _ _⟩
end Go.Proofs.Ytgljbgmphelhbaa.Q
