/- The contract of alloc.least: the least register that no span of a list has. -/
import Derived.Test.YtgljbgmphelhbaaSpans
namespace Go.Proofs.Ytgljbgmphelhbaa.Q
open Go.RowKit Go.Proofs.YtgljbgmphelhbaaW.PrintWords Go.Proofs.YtgljbgmphelhbaaW.PrintLast Go.Proofs.YtgljbgmphelhbaaW.PrintMore
set_option linter.unusedVariables false
set_option linter.unusedSimpArgs false

def hasReg (out : List S36) (r : Int) (x : S44) : Bool := (rd_T36 out x.f0).f0 == r
def taken (out : List S36) (act : List S44) (r : Int) : Bool := decide (0 ≤ idxFrom (hasReg out r) act 0)
def seekReg (p : Int → Bool) : Nat → Nat → Nat
  | 0, r => r
  | k + 1, r => if p r then seekReg p k (r + 1) else r
def leastReg (out : List S36) (act : List S44) : Nat := seekReg (taken out act) act.length 0

theorem idxFrom_any {α : Type} (p : α → Bool) : ∀ (xs : List α) (i : Nat), (0 ≤ idxFrom p xs i) ↔ xs.any p = true := by
  intro xs
  induction xs with
  | nil => intro i; simp [idxFrom]
  | cons x xs ih =>
    intro i
    simp only [idxFrom, List.any_cons]
    by_cases h : p x = true
    · rw [if_pos h, h]; simp
    · rw [if_neg h, Bool.eq_false_iff.mpr h, ih]; simp
theorem holes : ∀ (r : Nat) (l : List Int), (∀ i : Nat, i < r → (i : Int) ∈ l) → r ≤ l.length := by
  intro r
  induction r with
  | zero => intro l _; exact Nat.zero_le _
  | succ r ih =>
    intro l h
    have h1 := h r (by omega)
    have h2 := ih (l.erase (r : Int)) (fun i hi => (List.mem_erase_of_ne (by omega)).2 (h i (by omega)))
    have h3 := List.length_erase_of_mem h1
    have h4 : 0 < l.length := List.length_pos_of_mem h1
    omega
theorem taken_le (out : List S36) (act : List S44) (r : Nat) (h : ∀ i : Nat, i < r → taken out act i = true) : r ≤ act.length := by
  have := holes r (act.map fun x => (rd_T36 out x.f0).f0) (fun i hi => by
    have h1 := h i hi
    simp only [taken, decide_eq_true_eq] at h1
    rw [idxFrom_any, List.any_eq_true] at h1
    obtain ⟨x, hx, he⟩ := h1
    simp only [hasReg, beq_iff_eq] at he
    rw [← he]
    exact List.mem_map.2 ⟨x, hx, rfl⟩)
  simpa using this

set_option maxHeartbeats 1000000 in
theorem least1_c (x : S44) (gh gr : Nat) (A : Option Addr) (c : Nat) (out : List S36) (r : Int) (w : World) (hh : w.heap[gh]? = some (.cells #[.slice A out.length c] 27 (0, 0))) (hr : w.heap[gr]? = some (.cells #[.int .i64 r] 3 (0, 0)))
    (hC : Kd.C k36 w A out.length out) (h0 : 0 ≤ x.f0) (h1 : x.f0 < out.length) :
    Calls Try.prog 40 #[.agg #[.int .i64 x.f0, .int .i64 x.f1, .int .i64 x.f2, .int .i64 x.f3], .pointer (some ⟨gh, 0, none⟩), .pointer (some ⟨gr, 0, none⟩)] w fun e w' => e = .returned (.bool (hasReg out r x)) ∧ Below w.heap.size w w' := by
  have hlt1 : gh < w.heap.size := blk_lt hh
  have hlt2 : gr < w.heap.size := blk_lt hr
  have hne1 : gh ≠ w.heap.size := by omega
  have hne2 : gr ≠ w.heap.size := by omega
  have c1 := blk_cell hh 0
  have c2 := blk_cell hr 0
  simp only [List.getElem?_toArray, List.getElem?_cons_zero, List.getElem?_cons_succ] at c1 c2
  obtain ⟨ad, rfl, hx0, hx1⟩ := at_T36 hC x.f0 h0 h1
  have hadlt := World.block_lt_of_cell? w _ hx0
  have hadne : (ad.add (x.f0.toNat * 2)).block ≠ w.heap.size := by omega
  clear hh hr hx1
  have HC := Aside0.mk hC
  clear hC
  go_enter Try.func40, Try.ntmps40
  go_upto_region 1 with (fail)
  go_quiet (fail)
  go_wp2
  go_ret
  exact ⟨rfl, by repeat (first | exact Below.refl _ _ | apply pw_below_drewN | apply below_drew1 | apply below_alloc)⟩
set_option maxHeartbeats 1000000 in
theorem indexSpan2_c (A : Option Addr) (c : Nat) (xs : List S44) (gh gr : Nat) (A2 : Option Addr) (c2 : Nat) (out : List S36) (r : Int) (w : World) (hr : Kd.C k44 w A xs.length xs) (hc : xs.length ≤ c) (hh : w.heap[gh]? = some (.cells #[.slice A2 out.length c2] 27 (0, 0))) (hg : w.heap[gr]? = some (.cells #[.int .i64 r] 3 (0, 0))) (hC2 : Kd.C k36 w A2 out.length out) (hin : ∀ x ∈ xs, 0 ≤ x.f0 ∧ x.f0 < out.length) :
    Calls Try.prog 38 #[.slice A xs.length c, .func (.func 40) #[] #[.pointer (some ⟨gh, 0, none⟩), .pointer (some ⟨gr, 0, none⟩)]] w fun e w' => e = .returned (.int .i64 (idxFrom (hasReg out r) xs 0)) ∧ Below w.heap.size w w' := by
  have hlen := hr.2.1
  have HR := Aside0.mk hr
  have HG := Aside0.mk hg
  have HH := Aside0.mk hh
  have HC2 := Aside0.mk hC2
  have HIN := Aside0.mk hin
  clear hr hg hh hC2 hin
  go_enter Try.func38, Try.ntmps38
  go_wp2_with (fail)
  go_loopw [8] (fun v wr => ∃ i : Nat, v = .int .i64 i ∧ i ≤ xs.length ∧ Aside0 (idxFrom (hasReg out r) (xs.drop i) i = idxFrom (hasReg out r) xs 0) ∧ Aside0 (Below w.heap.size w wr)) (fun v _ => xs.length - (intOf v).toNat)
  case atStart => exact ⟨0, rfl, Nat.zero_le _, ⟨by simp⟩, ⟨Below.refl _ _⟩⟩
  case round =>
    obtain ⟨i, rfl, hi, HI, HB⟩ := hrel
    by_cases hlt : i < xs.length
    · have hC := Kd.C_below HR.out HB.out
      obtain ⟨ad, rfl, hx0, hx1, hx2, hx3⟩ := at_T44 hC (i : Int) (by omega) (by omega)
      rw [Int.toNat_natCast] at hx0 hx1 hx2 hx3
      obtain ⟨x, hxe⟩ : ∃ x, x = rd_T44 xs i := ⟨_, rfl⟩
      rw [← hxe] at hx0 hx1 hx2 hx3
      have hxg : xs[i]'hlt = x := by rw [hxe]; simp [rd_T44, List.getD_eq_getElem?_getD, List.getElem?_eq_getElem hlt]
      have HS : Aside0 (idxFrom (hasReg out r) xs 0 = if hasReg out r x then (i : Int) else idxFrom (hasReg out r) (xs.drop (i + 1)) (i + 1)) := ⟨by
        rw [← HI.out, List.drop_eq_getElem_cons hlt, hxg]; rfl⟩
      have HG2 := Aside0.mk (blk_below HG.out HB.out)
      have HH2 := Aside0.mk (blk_below HH.out HB.out)
      have HC3 := Aside0.mk (Kd.C_below HC2.out HB.out)
      have HX : Aside0 (0 ≤ x.f0 ∧ x.f0 < out.length) := ⟨HIN.out x (by rw [← hxg]; exact List.getElem_mem hlt)⟩
      clear hC hxe hxg HI
      cases hm : hasReg out r x with
      | true =>
        have HM := Aside0.mk hm
        go_wp2_with (go_at_call 40; refine (least1_c x gh gr A2 c2 out r _ HH2.out HG2.out HC3.out HX.out.1 HX.out.2).mono ?_; rintro e W2 ⟨rfl, hB2⟩; rw [HM.out])
        go_ret
        exact ⟨by rw [HS.out, HM.out]; rfl, below_then HB.out HB.out.size hB2⟩
      | false =>
        have HM := Aside0.mk hm
        go_wp2_with (go_at_call 40; refine (least1_c x gh gr A2 c2 out r _ HH2.out HG2.out HC3.out HX.out.1 HX.out.2).mono ?_; rintro e W2 ⟨rfl, hB2⟩; rw [HM.out])
        go_roundw
        case rel => exact ⟨i + 1, by go_num, by omega, ⟨by rw [HS.out, HM.out]; rfl⟩, ⟨below_then HB.out HB.out.size hB2⟩⟩
        case measure => simp [intOf]; omega
    · have hin : i = xs.length := by omega
      subst hin
      have HS : Aside0 (idxFrom (hasReg out r) xs 0 = -1) := ⟨by rw [← HI.out, List.drop_length]; rfl⟩
      go_wp2
      go_ret
      exact ⟨by rw [HS.out]; rfl, HB.out⟩

set_option maxHeartbeats 1000000 in
theorem containsSpan_c (A : Option Addr) (c : Nat) (xs : List S44) (gh gr : Nat) (A2 : Option Addr) (c2 : Nat) (out : List S36) (r : Int) (w : World) (hr : Kd.C k44 w A xs.length xs) (hc : xs.length ≤ c) (hh : w.heap[gh]? = some (.cells #[.slice A2 out.length c2] 27 (0, 0))) (hg : w.heap[gr]? = some (.cells #[.int .i64 r] 3 (0, 0))) (hC2 : Kd.C k36 w A2 out.length out) (hin : ∀ x ∈ xs, 0 ≤ x.f0 ∧ x.f0 < out.length) :
    Calls Try.prog 39 #[.slice A xs.length c, .func (.func 40) #[] #[.pointer (some ⟨gh, 0, none⟩), .pointer (some ⟨gr, 0, none⟩)]] w fun e w' => e = .returned (.bool (taken out xs r)) ∧ Below w.heap.size w w' := by
  have HC := Aside0.mk (indexSpan2_c A c xs gh gr A2 c2 out r w hr hc hh hg hC2 hin)
  clear hr hh hg hC2 hin
  go_enter Try.func39, Try.ntmps39
  go_wp2_with (go_at_call 38; refine HC.out.mono ?_; rintro e W2 ⟨rfl, hB2⟩)
  go_ret
  exact ⟨rfl, hB2⟩

set_option maxHeartbeats 1000000 in
theorem least_reg_c (A : Option Addr) (c : Nat) (xs : List S44) (A2 : Option Addr) (c2 : Nat) (out : List S36) (w : World) (hr : Kd.C k44 w A xs.length xs) (hc : xs.length ≤ c) (hC2 : Kd.C k36 w A2 out.length out) (hin : ∀ x ∈ xs, 0 ≤ x.f0 ∧ x.f0 < out.length) (hn : xs.length ≤ 100000) :
    Calls Try.prog 22 #[.slice A xs.length c, .slice A2 out.length c2] w fun e w' => e = .returned (.int .i64 (leastReg out xs)) ∧ Below w.heap.size w w' := by
  have hmf : ∀ (fn : Fn) (first cap : Array Value) (w : World), (Instr.makeFunc fn first cap).run Try.prog w = .ok (.func fn first cap) w := fun _ _ _ _ => rfl
  have HR := Aside0.mk hr
  have HC2 := Aside0.mk hC2
  have HIN := Aside0.mk hin
  clear hr hC2 hin
  go_enter Try.func22, Try.ntmps22
  go_wp2_with (fail)
  obtain ⟨gh, hgh⟩ : ∃ g, g = w.heap.size := ⟨_, rfl⟩
  obtain ⟨W0, hW0⟩ : ∃ W0, W0 = (w.alloc (.cells #[.slice A2 out.length c2] 27)).alloc (.cells #[.int .i64 0] 3) := ⟨_, rfl⟩
  have HH : Aside0 (W0.heap[gh]? = some (.cells #[.slice A2 out.length c2] 27 (0, 0))) := ⟨by rw [hW0, hgh]; exact blk_alloc (blk_new _ _) _⟩
  have HG : Aside0 (W0.heap[gh + 1]? = some (.cells #[.int .i64 0] 3 (0, 0))) := ⟨by rw [hW0, hgh, ← show (w.alloc (.cells #[.slice A2 out.length c2] 27)).heap.size = w.heap.size + 1 from by simp]; exact blk_new _ _⟩
  have HB0 : Aside0 (Below w.heap.size w W0) := ⟨by rw [hW0]; exact below_alloc ((Below.refl _ _).alloc (Nat.le_refl _) _) _⟩
  rw [← hW0, ← hgh]
  have hgw : w.heap.size ≤ gh := by omega
  clear hW0 hgh
  go_loopg [5] (xs.length + 1) (fun kq v5 wr => ∃ (r g : Nat), v5 = .pointer (some ⟨g, 0, none⟩) ∧ kq + r = xs.length + 1 ∧ gh < g ∧ Aside0 (∀ i : Nat, i < r → taken out xs i = true) ∧ Aside0 (seekReg (taken out xs) (xs.length - r) r = leastReg out xs) ∧
      Aside0 (wr.heap[gh]? = some (.cells #[.slice A2 out.length c2] 27 (0, 0))) ∧ Aside0 (wr.heap[g]? = some (.cells #[.int .i64 r] 3 (0, 0))) ∧ Aside0 (Below w.heap.size w wr))
  case atStart => exact ⟨0, gh + 1, rfl, by omega, by omega, ⟨fun i hi => by omega⟩, ⟨rfl⟩, HH, HG, HB0⟩
  case round =>
    clear HH HG HB0
    obtain ⟨r, g, rfl, hkr, hgg, HT, HS, HH, HG, HB⟩ := hrel
    have HRW := Aside0.mk (Kd.C_below HR.out HB.out)
    have HC2W := Aside0.mk (Kd.C_below HC2.out HB.out)
    have hlen := taken_le out xs r HT.out
    cases hm : taken out xs r with
    | false =>
      have HM := Aside0.mk hm
      have HE : Aside0 (leastReg out xs = r) := ⟨by
        rw [← HS.out]
        cases xs.length - r with
        | zero => rfl
        | succ k => simp only [seekReg]; rw [HM.out]; rfl⟩
      clear hm
      go_wp2_with (go_at_call 39; refine (containsSpan_c A c xs gh g A2 c2 out r _ HRW.out hc HH.out HG.out HC2W.out HIN.out).mono ?_; rintro e W2 ⟨rfl, hB2⟩; rw [HM.out]; have cg := blk_cell (blk_below HG.out hB2) 0; simp only [List.getElem?_toArray, List.getElem?_cons_zero] at cg)
      go_ret
      exact ⟨by rw [HE.out]; rfl, below_then HB.out HB.out.size hB2⟩
    | true =>
      have HM := Aside0.mk hm
      have hT2 : ∀ i : Nat, i < r + 1 → taken out xs i = true := fun i hi => by
        by_cases e : i = r
        · rw [e]; exact hm
        · exact HT.out i (by omega)
      have hlen2 := taken_le out xs (r + 1) hT2
      have HT2 := Aside0.mk hT2
      have HS2 : Aside0 (seekReg (taken out xs) (xs.length - (r + 1)) (r + 1) = leastReg out xs) := ⟨by
        rw [← HS.out]
        obtain ⟨k, hk⟩ : ∃ k, xs.length - r = k + 1 := ⟨xs.length - r - 1, by omega⟩
        rw [hk, show xs.length - (r + 1) = k from by omega]
        simp only [seekReg]; rw [HM.out]; rfl⟩
      clear hm hT2
      go_wp2_with (go_at_call 39; refine (containsSpan_c A c xs gh g A2 c2 out r _ HRW.out hc HH.out HG.out HC2W.out HIN.out).mono ?_; rintro e W2 ⟨rfl, hB2⟩; rw [HM.out]; have cg := blk_cell (blk_below HG.out hB2) 0; simp only [List.getElem?_toArray, List.getElem?_cons_zero] at cg)
      go_roundg (gk - 1)
      case rel => exact ⟨r + 1, W2.heap.size, rfl, by omega, Nat.lt_of_lt_of_le (blk_lt HH.out) hB2.size, HT2, HS2, ⟨blk_alloc (blk_below HH.out hB2) _⟩, ⟨by rw [show (((r + 1 : Nat) : Int)) = (r : Int) + 1 from by omega]; exact blk_new _ _⟩, ⟨below_alloc (below_then HB.out HB.out.size hB2) _⟩⟩
      case measure => omega
end Go.Proofs.Ytgljbgmphelhbaa.Q
