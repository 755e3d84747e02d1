/- Written for this claim by a program: functions, their contracts and rows. -/
import Derived.Test.YtgljbgmphelhbaaQ0
import Derived.Test.YtgljbgmphelhbaaQ5
namespace Go.Proofs.Ytgljbgmphelhbaa.Q
open Go.RowKit Go.Proofs.YtgljbgmphelhbaaW.PrintWords Go.Proofs.YtgljbgmphelhbaaW.PrintLast Go.Proofs.YtgljbgmphelhbaaW.PrintMore
attribute [local go_sem] max2_int min2_int max_two min_two max_three min_three max_four min_four   -- for this text's walks alone
set_option linter.unusedVariables false
set_option linter.unusedSimpArgs false

/-! ### selvageref10_Before: function 29 -/
mutual
def selvageref10_Before.l0 : Nat → List (S40) → Int → List Int → Int → Option (List Int)
  | 0, _, _, _, _ => none
  | k + 1, x0, x1, x5, x6 => if x6 < (x0.length : Int) then (selvageref10_Before.j1 k x0 x1 x5 x6 (decide (x6 < x1))) else (selvageref10_Before.j1 k x0 x1 x5 x6 false)
def selvageref10_Before.j1 : Nat → List (S40) → Int → List Int → Int → Bool → Option (List Int)
  | 0, _, _, _, _, _ => none
  | k + 1, x0, x1, x5, x6, x15 => if x15 = true then (if x6 = (wrap64 (x1 - 1)) then (if 0 ≤ x6 then (if x6 < (x0.length : Int) then (if ((rd_T40 x0 x6).f0) = 18 then ((selvageref10_Has.f k ((rd_T40 x0 x6).f0) 116).bind fun t115 => (if t115 = true then (if ((rd_T40 x0 x6).f7) = x1 then (if x5.length < 17592186044416 then (selvageref10_Before.l0 k x0 x1 (x5 ++ [x6]) (wrap64 (x6 + 1))) else (none)) else (selvageref10_Before.l0 k x0 x1 x5 (wrap64 (x6 + 1)))) else (selvageref10_Before.l0 k x0 x1 x5 (wrap64 (x6 + 1))))) else (if x5.length < 17592186044416 then (selvageref10_Before.l0 k x0 x1 (x5 ++ [x6]) (wrap64 (x6 + 1))) else (none))) else (none)) else (none)) else (if 0 ≤ x6 then (if x6 < (x0.length : Int) then ((selvageref10_Has.f k ((rd_T40 x0 x6).f0) 116).bind fun t124 => (if t124 = true then (if ((rd_T40 x0 x6).f7) = x1 then (if x5.length < 17592186044416 then (selvageref10_Before.l0 k x0 x1 (x5 ++ [x6]) (wrap64 (x6 + 1))) else (none)) else (selvageref10_Before.l0 k x0 x1 x5 (wrap64 (x6 + 1)))) else (selvageref10_Before.l0 k x0 x1 x5 (wrap64 (x6 + 1))))) else (none)) else (none))) else (some x5)
end
def selvageref10_Before.f (k : Nat) (l0 : List (S40)) (a1 : Int) : Option (List Int) := selvageref10_Before.l0 k l0 a1 ([] : List Int) 0
theorem selvageref10_Before.mono_l : ∀ k, (∀ y0 y1 y2 y3, LeO (selvageref10_Before.l0 k y0 y1 y2 y3) (selvageref10_Before.l0 (k + 1) y0 y1 y2 y3)) ∧ (∀ y0 y1 y2 y3 y4, LeO (selvageref10_Before.j1 k y0 y1 y2 y3 y4) (selvageref10_Before.j1 (k + 1) y0 y1 y2 y3 y4))
  | 0 => ⟨fun _ _ _ _ r h => by simp [selvageref10_Before.l0] at h, fun _ _ _ _ _ r h => by simp [selvageref10_Before.j1] at h⟩
  | k + 1 => by
    obtain ⟨ih0, ih1⟩ := selvageref10_Before.mono_l k
    refine ⟨?_, ?_⟩
    · intro y0 y1 y2 y3
      unfold selvageref10_Before.l0
      repeat' first
      | (with_reducible exact ih0 _ _ _ _)
      | (with_reducible exact ih1 _ _ _ _ _)
      | (with_reducible exact selvageref10_Has.mono _ _ _)
      | (with_reducible exact LeO.refl _)
      | (with_reducible exact LeO.none _)
      | (with_reducible refine LeO.ite ?_ ?_)
      | (with_reducible refine LeO.bind ?_ (fun _ => ?_))
      | exact ih0 _ _ _ _
      | exact ih1 _ _ _ _ _
      | exact selvageref10_Has.mono _ _ _
      | exact LeO.none _
      | refine LeO.ite ?_ ?_
      | refine LeO.bind ?_ (fun _ => ?_)
    · intro y0 y1 y2 y3 y4
      unfold selvageref10_Before.j1
      repeat' first
      | (with_reducible exact ih0 _ _ _ _)
      | (with_reducible exact ih1 _ _ _ _ _)
      | (with_reducible exact selvageref10_Has.mono _ _ _)
      | (with_reducible exact LeO.refl _)
      | (with_reducible exact LeO.none _)
      | (with_reducible refine LeO.ite ?_ ?_)
      | (with_reducible refine LeO.bind ?_ (fun _ => ?_))
      | exact ih0 _ _ _ _
      | exact ih1 _ _ _ _ _
      | exact selvageref10_Has.mono _ _ _
      | exact LeO.none _
      | refine LeO.ite ?_ ?_
      | refine LeO.bind ?_ (fun _ => ?_)
theorem selvageref10_Before.mono : ∀ a0 a1 k, LeO (selvageref10_Before.f k a0 a1) (selvageref10_Before.f (k + 1) a0 a1) := by
  intro a0 a1 k
  obtain ⟨ih0, ih1⟩ := selvageref10_Before.mono_l k
  unfold selvageref10_Before.f
  repeat' first
      | (with_reducible exact ih0 _ _ _ _)
      | (with_reducible exact ih1 _ _ _ _ _)
      | (with_reducible exact selvageref10_Has.mono _ _ _)
      | (with_reducible exact LeO.refl _)
      | (with_reducible exact LeO.none _)
      | (with_reducible refine LeO.ite ?_ ?_)
      | (with_reducible refine LeO.bind ?_ (fun _ => ?_))
      | exact ih0 _ _ _ _
      | exact ih1 _ _ _ _ _
      | exact selvageref10_Has.mono _ _ _
      | exact LeO.none _
      | refine LeO.ite ?_ ?_
      | refine LeO.bind ?_ (fun _ => ?_)
set_option maxHeartbeats 8000000 in
set_option maxRecDepth 100000 in
theorem selvageref10_Before.calls (k : Nat) (A0 : Option Addr) (c0 : Nat) (l0 : List (S40)) (a1 : Int) (r : List Int) (w : World) (hr0 : Kd.C k40 w A0 l0.length l0) (hc0 : l0.length ≤ c0) (h : selvageref10_Before.f k l0 a1 = some r) :
    Calls Try.prog 29 #[.slice A0 l0.length c0, .int .i64 a1] w fun e w' => ∃ v0_ : Value, e = .returned (v0_) ∧ Kd.R (Kd.int .i64) 3 w' w.heap.size (fun _ => True) v0_ r ∧ Below w.heap.size w w' := by
  have HR0 := Aside0.mk hr0
  have HC0 := Aside0.mk hc0
  clear hr0 hc0
  have HB := Aside0.mk (Below.refl w.heap.size w)
  have H : (selvageref10_Before.l0 k l0 a1 ([] : List Int) 0) = some r := h
  clear h
  have H' := Aside0.mk H
  clear H
  go_enter Try.func29, Try.ntmps29
  go_wp2
  go_loopg [5, 6] k (fun kq v5 v6 w' => ∃ (x5_1 : List Int) (x6_1 : Int), v6 = .int .i64 x6_1 ∧ Aside0 (selvageref10_Before.l0 kq l0 a1 x5_1 x6_1 = some r) ∧ Aside0 (kq ≤ k) ∧ Aside0 (Kd.R (Kd.int .i64) 3 w' w.heap.size (fun _ => True) v5 x5_1) ∧ Aside0 (Below w.heap.size w w'))
  case atStart => exact ⟨(([] : List Int)), (0), (by first | rfl | (simp; done) | (simp [*]; done)), H', ⟨Nat.le_refl _⟩, ⟨by first | exact Kd.R_nil _ _ _ _ _ | exact Kd.N_nil _ _ _ _ _ | exact Kd.V_nil _ _ _ _ _ | exact Kd.Q_nil _ _ _ _ _ | exact Kd.S_nil _ _ _ _ _⟩, ⟨by repeat (first | (with_reducible first | exact HB.out | apply below_alloc | apply pw_below_drewN | apply below_drew1) | exact HB.out)⟩⟩
  case round =>
    clear H'
    try clear c2
    try clear p2
    obtain ⟨x5_1, x6_1, rfl, HA, HK1, HO_5, HB⟩ := hrel
    cases gk with
    | zero => exact absurd HA.out (by simp [selvageref10_Before.l0])
    | succ k1 =>
      have H := HA.out
      clear HA
      simp only [selvageref10_Before.l0] at H
      have HC3 := Aside0.mk H
      clear H
      go_upto_region 3 with (fail)
      go_cut [15] (fun v15 wc => ∃ (kq : Nat) (x15_2 : Bool), v15 = .bool x15_2 ∧ Aside0 (selvageref10_Before.j1 kq l0 a1 x5_1 x6_1 x15_2 = some r) ∧ Aside0 (kq ≤ k1) ∧ Aside0 (Kd.R (Kd.int .i64) 3 wc w.heap.size (fun _ => True) u5 x5_1) ∧ Aside0 (Below w.heap.size w wc))
      case first =>
        have H := HC3.out
        clear HC3
        by_cases c4 : x6_1 < (l0.length : Int)
        · rw [if_pos c4] at H
          have c4b0 : decide (x6_1 < (l0.length : Int)) = true := decide_eq_true c4
          clear c4
          (first | rw [c4b0] | (simp only [i64_w, i32_w]; rw [c4b0]) | skip)
          have H' := Aside0.mk H
          clear H
          go_wp2
          go_meet
          case rel => exact ⟨_, (decide (x6_1 < a1)), (by first | rfl | (simp; done) | (simp [*]; done)), H', ⟨by have := HK1.out; first | omega | exact Nat.le_refl _⟩, ⟨by (with_reducible repeat (first | apply Kd.R_alloc | apply Kd.R_drewN | apply Kd.R_drew)); exact HO_5.out⟩, ⟨by repeat (first | (with_reducible first | exact HB.out | apply below_alloc | apply pw_below_drewN | apply below_drew1) | exact HB.out)⟩⟩
        · rw [if_neg c4] at H
          have c4b0 : decide (x6_1 < (l0.length : Int)) = false := decide_eq_false c4
          clear c4
          (first | rw [c4b0] | (simp only [i64_w, i32_w]; rw [c4b0]) | skip)
          have H' := Aside0.mk H
          clear H
          go_wp2
          go_meet
          case rel => exact ⟨_, (false), (by first | rfl | (simp; done) | (simp [*]; done)), H', ⟨by have := HK1.out; first | omega | exact Nat.le_refl _⟩, ⟨by (with_reducible repeat (first | apply Kd.R_alloc | apply Kd.R_drewN | apply Kd.R_drew)); exact HO_5.out⟩, ⟨by repeat (first | (with_reducible first | exact HB.out | apply below_alloc | apply pw_below_drewN | apply below_drew1) | exact HB.out)⟩⟩
      case rest =>
        clear HC3
        try clear c2
        try clear p2
        try clear c4
        try clear c4b0
        try clear p2
        obtain ⟨kq, x15_2, rfl, HA, HJ2, HO_5, HB⟩ := hcut
        cases kq with
        | zero => exact absurd HA.out (by simp [selvageref10_Before.j1])
        | succ kj2 =>
          have H := HA.out
          clear HA
          simp only [selvageref10_Before.j1] at H
          by_cases c5 : x15_2 = true
          · subst c5
            have H1 : (if x6_1 = (wrap64 (a1 - 1)) then (if 0 ≤ x6_1 then (if x6_1 < (l0.length : Int) then (if ((rd_T40 l0 x6_1).f0) = 18 then ((selvageref10_Has.f kj2 ((rd_T40 l0 x6_1).f0) 116).bind fun t115 => (if t115 = true then (if ((rd_T40 l0 x6_1).f7) = a1 then (if x5_1.length < 17592186044416 then (selvageref10_Before.l0 kj2 l0 a1 (x5_1 ++ [x6_1]) (wrap64 (x6_1 + 1))) else (none)) else (selvageref10_Before.l0 kj2 l0 a1 x5_1 (wrap64 (x6_1 + 1)))) else (selvageref10_Before.l0 kj2 l0 a1 x5_1 (wrap64 (x6_1 + 1))))) else (if x5_1.length < 17592186044416 then (selvageref10_Before.l0 kj2 l0 a1 (x5_1 ++ [x6_1]) (wrap64 (x6_1 + 1))) else (none))) else (none)) else (none)) else (if 0 ≤ x6_1 then (if x6_1 < (l0.length : Int) then ((selvageref10_Has.f kj2 ((rd_T40 l0 x6_1).f0) 116).bind fun t124 => (if t124 = true then (if ((rd_T40 l0 x6_1).f7) = a1 then (if x5_1.length < 17592186044416 then (selvageref10_Before.l0 kj2 l0 a1 (x5_1 ++ [x6_1]) (wrap64 (x6_1 + 1))) else (none)) else (selvageref10_Before.l0 kj2 l0 a1 x5_1 (wrap64 (x6_1 + 1)))) else (selvageref10_Before.l0 kj2 l0 a1 x5_1 (wrap64 (x6_1 + 1))))) else (none)) else (none))) = some r := by rw [if_pos rfl] at H; exact H
            clear H
            have H := H1
            clear H1
            by_cases c6 : x6_1 = (wrap64 (a1 - 1))
            · rw [if_pos c6] at H
              have c6b0 : (x6_1 == (wrap64 (a1 - 1))) = true := beq_iff_eq.mpr c6
              have c6b1 : (x6_1 != (wrap64 (a1 - 1))) = false := bne_eq_false_iff_eq.mpr c6
              clear c6
              by_cases c7 : 0 ≤ x6_1
              · rw [if_pos c7] at H
                have c7b0 : decide (0 ≤ x6_1) = true := decide_eq_true c7
                clear c7
                by_cases c8 : x6_1 < (l0.length : Int)
                · rw [if_pos c8] at H
                  have c8b0 : decide (x6_1 < (l0.length : Int)) = true := decide_eq_true c8
                  clear c8
                  by_cases c9 : ((rd_T40 l0 x6_1).f0) = 18
                  · rw [if_pos c9] at H
                    have c9b0 : (((rd_T40 l0 x6_1).f0) == 18) = true := beq_iff_eq.mpr c9
                    have c9b1 : (((rd_T40 l0 x6_1).f0) != 18) = false := bne_eq_false_iff_eq.mpr c9
                    clear c9
                    replace H := Option.bind_eq_some_iff.mp H
                    obtain ⟨t115, A100, H⟩ := H
                    replace H : (if t115 = true then (if ((rd_T40 l0 x6_1).f7) = a1 then (if x5_1.length < 17592186044416 then (selvageref10_Before.l0 kj2 l0 a1 (x5_1 ++ [x6_1]) (wrap64 (x6_1 + 1))) else (none)) else (selvageref10_Before.l0 kj2 l0 a1 x5_1 (wrap64 (x6_1 + 1)))) else (selvageref10_Before.l0 kj2 l0 a1 x5_1 (wrap64 (x6_1 + 1)))) = some r := H
                    have A10 := Aside0.mk A100
                    clear A100
                    by_cases c11 : t115 = true
                    · subst c11
                      have H1 : (if ((rd_T40 l0 x6_1).f7) = a1 then (if x5_1.length < 17592186044416 then (selvageref10_Before.l0 kj2 l0 a1 (x5_1 ++ [x6_1]) (wrap64 (x6_1 + 1))) else (none)) else (selvageref10_Before.l0 kj2 l0 a1 x5_1 (wrap64 (x6_1 + 1)))) = some r := by rw [if_pos rfl] at H; exact H
                      clear H
                      have H := H1
                      clear H1
                      by_cases c12 : ((rd_T40 l0 x6_1).f7) = a1
                      · rw [if_pos c12] at H
                        have c12b0 : (((rd_T40 l0 x6_1).f7) == a1) = true := beq_iff_eq.mpr c12
                        have c12b1 : (((rd_T40 l0 x6_1).f7) != a1) = false := bne_eq_false_iff_eq.mpr c12
                        clear c12
                        by_cases c13 : x5_1.length < 17592186044416
                        · rw [if_pos c13] at H
                          have LMc13 := Aside0.mk c13
                          clear c13
                          obtain ⟨y117, hy117⟩ : ∃ y_ : List Int, y_ = (x5_1 ++ [x6_1]) := ⟨_, rfl⟩
                          replace H : (selvageref10_Before.l0 kj2 l0 a1 y117 (wrap64 (x6_1 + 1))) = some r := by first | (rw [hy117]; with_reducible exact H) | (have H2_ := (Option.bind_some _ _).symm.trans H; rw [hy117]; with_reducible exact H2_) | (have H2_ := (Option.bind_some _ _).symm.trans H; with_reducible exact H2_) | with_reducible exact H | (rw [hy117]; exact H) | exact H
                          have Ny117 := Aside0.mk hy117
                          clear hy117
                          have H' := Aside0.mk H
                          clear H
                          have p113 : 0 ≤ (x6_1 : Int) := of_decide_eq_true (by first | (with_reducible assumption) | assumption)
                          have q113 : x6_1 < (l0.length : Int) := of_decide_eq_true (by first | (with_reducible assumption) | assumption)
                          obtain ⟨ad113, e113, hx113_0, hx113_1, hx113_2, hx113_3, hx113_4, hx113_5, hx113_6, hx113_7⟩ := at_T40 HR0.out x6_1 p113 q113
                          cases e113
                          replace hx113_0 := (HB.out.cell (World.block_lt_of_cell? w _ hx113_0)).trans hx113_0
                          replace hx113_1 := (HB.out.cell (World.block_lt_of_cell? w _ hx113_1)).trans hx113_1
                          replace hx113_2 := (HB.out.cell (World.block_lt_of_cell? w _ hx113_2)).trans hx113_2
                          replace hx113_3 := (HB.out.cell (World.block_lt_of_cell? w _ hx113_3)).trans hx113_3
                          replace hx113_4 := (HB.out.cell (World.block_lt_of_cell? w _ hx113_4)).trans hx113_4
                          replace hx113_5 := (HB.out.cell (World.block_lt_of_cell? w _ hx113_5)).trans hx113_5
                          replace hx113_6 := (HB.out.cell (World.block_lt_of_cell? w _ hx113_6)).trans hx113_6
                          replace hx113_7 := (HB.out.cell (World.block_lt_of_cell? w _ hx113_7)).trans hx113_7
                          replace p113 := eq_true p113
                          replace q113 := eq_true q113
                          have p114 : 0 ≤ (x6_1 : Int) := of_decide_eq_true (by first | (with_reducible assumption) | assumption)
                          have q114 : x6_1 < (l0.length : Int) := of_decide_eq_true (by first | (with_reducible assumption) | assumption)
                          obtain ⟨ad114, e114, hx114_0, hx114_1, hx114_2, hx114_3, hx114_4, hx114_5, hx114_6, hx114_7⟩ := at_T40 HR0.out x6_1 p114 q114
                          obtain rfl : ad113 = ad114 := (by injection e114)
                          replace hx114_0 := (HB.out.cell (World.block_lt_of_cell? w _ hx114_0)).trans hx114_0
                          replace hx114_1 := (HB.out.cell (World.block_lt_of_cell? w _ hx114_1)).trans hx114_1
                          replace hx114_2 := (HB.out.cell (World.block_lt_of_cell? w _ hx114_2)).trans hx114_2
                          replace hx114_3 := (HB.out.cell (World.block_lt_of_cell? w _ hx114_3)).trans hx114_3
                          replace hx114_4 := (HB.out.cell (World.block_lt_of_cell? w _ hx114_4)).trans hx114_4
                          replace hx114_5 := (HB.out.cell (World.block_lt_of_cell? w _ hx114_5)).trans hx114_5
                          replace hx114_6 := (HB.out.cell (World.block_lt_of_cell? w _ hx114_6)).trans hx114_6
                          replace hx114_7 := (HB.out.cell (World.block_lt_of_cell? w _ hx114_7)).trans hx114_7
                          replace p114 := eq_true p114
                          replace q114 := eq_true q114
                          go_wp2_with (first | (go_at_call 15; (with_reducible refine (selvageref10_Has.calls kj2 ((rd_T40 l0 x6_1).f0) 116 true _ A10.out).mono ?_); rintro e w' ⟨rfl, ⟨nd, rfl⟩⟩; have p116 : 0 ≤ (x6_1 : Int) := of_decide_eq_true (by first | (with_reducible assumption) | assumption); have q116 : x6_1 < (l0.length : Int) := of_decide_eq_true (by first | (with_reducible assumption) | assumption); obtain ⟨ad116, e116, hx116_0, hx116_1, hx116_2, hx116_3, hx116_4, hx116_5, hx116_6, hx116_7⟩ := at_T40 HR0.out x6_1 p116 q116; obtain rfl : ad113 = ad116 := (by injection e116); replace hx116_0 := (HB.out.cell (World.block_lt_of_cell? w _ hx116_0)).trans hx116_0; replace hx116_1 := (HB.out.cell (World.block_lt_of_cell? w _ hx116_1)).trans hx116_1; replace hx116_2 := (HB.out.cell (World.block_lt_of_cell? w _ hx116_2)).trans hx116_2; replace hx116_3 := (HB.out.cell (World.block_lt_of_cell? w _ hx116_3)).trans hx116_3; replace hx116_4 := (HB.out.cell (World.block_lt_of_cell? w _ hx116_4)).trans hx116_4; replace hx116_5 := (HB.out.cell (World.block_lt_of_cell? w _ hx116_5)).trans hx116_5; replace hx116_6 := (HB.out.cell (World.block_lt_of_cell? w _ hx116_6)).trans hx116_6; replace hx116_7 := (HB.out.cell (World.block_lt_of_cell? w _ hx116_7)).trans hx116_7; replace p116 := eq_true p116; replace q116 := eq_true q116) | ((with_reducible refine gate_builtin (b := .append) (xs := #[.tmp 47, .tmp 49]) rfl ?_); at_builtin; refine Kd.R_append (Kd.int .i64) (w0 := w) w.heap.size rfl (.tmp 47) (.tmp 49) 63 3 (.int .i64 0) 8 rfl Try.underlying63 info3 rfl (by decide) (by omega) u5 x5_1 x6_1 [.int .i64 x6_1] (fun _ => True) (fun _ => False) rfl rfl ?aP (fun _ hk => hk.elim) ?aF ?aO ?aB ?aS ?aL ?_; (case aP => exact rfl); (case aB => exact (by repeat (first | (with_reducible first | exact HB.out | apply below_alloc | apply pw_below_drewN | apply below_drew1) | exact HB.out))); (case aF => exact (fun _ _ => trivial)); (case aO => exact (by (with_reducible repeat (first | apply Kd.R_alloc | apply Kd.R_drewN | apply Kd.R_drew)); exact HO_5.out)); (case aS => exact (below_size (by repeat (first | (with_reducible first | exact HB.out | apply below_alloc | apply pw_below_drewN | apply below_drew1) | exact HB.out)))); (case aL => have := LMc13.out; omega); intro v118 w14 ho hb hg hat; rw [← Ny117.out] at ho; have n0_ := Aside0.mk (hb); have n1_ := Aside0.mk (ho); clear HB; clear HO_5; have HB := n0_; have HO119 := n1_; clear n0_ n1_; clear ho hb hg hat))
                          go_roundg kj2
                          case measure => have := HK1.out; have := HJ2.out; omega
                          case rel => exact ⟨(y117), (wrap64 (x6_1 + 1)), (by first | rfl | (simp; done) | (simp [*]; done)), H', ⟨by have := HK1.out; have := HJ2.out; omega⟩, ⟨by (with_reducible repeat (first | apply Kd.R_alloc | apply Kd.R_drewN | apply Kd.R_drew)); exact HO119.out⟩, ⟨by repeat (first | (with_reducible first | exact HB.out | apply below_alloc | apply pw_below_drewN | apply below_drew1) | exact HB.out)⟩⟩
                        · rw [if_neg c13] at H
                          exact absurd H (by simp)
                      · rw [if_neg c12] at H
                        have c12b0 : (((rd_T40 l0 x6_1).f7) == a1) = false := beq_eq_false_iff_ne.mpr c12
                        have c12b1 : (((rd_T40 l0 x6_1).f7) != a1) = true := bne_iff_ne.mpr c12
                        have H' := Aside0.mk H
                        clear H
                        have p113 : 0 ≤ (x6_1 : Int) := of_decide_eq_true (by first | (with_reducible assumption) | assumption)
                        have q113 : x6_1 < (l0.length : Int) := of_decide_eq_true (by first | (with_reducible assumption) | assumption)
                        obtain ⟨ad113, e113, hx113_0, hx113_1, hx113_2, hx113_3, hx113_4, hx113_5, hx113_6, hx113_7⟩ := at_T40 HR0.out x6_1 p113 q113
                        cases e113
                        replace hx113_0 := (HB.out.cell (World.block_lt_of_cell? w _ hx113_0)).trans hx113_0
                        replace hx113_1 := (HB.out.cell (World.block_lt_of_cell? w _ hx113_1)).trans hx113_1
                        replace hx113_2 := (HB.out.cell (World.block_lt_of_cell? w _ hx113_2)).trans hx113_2
                        replace hx113_3 := (HB.out.cell (World.block_lt_of_cell? w _ hx113_3)).trans hx113_3
                        replace hx113_4 := (HB.out.cell (World.block_lt_of_cell? w _ hx113_4)).trans hx113_4
                        replace hx113_5 := (HB.out.cell (World.block_lt_of_cell? w _ hx113_5)).trans hx113_5
                        replace hx113_6 := (HB.out.cell (World.block_lt_of_cell? w _ hx113_6)).trans hx113_6
                        replace hx113_7 := (HB.out.cell (World.block_lt_of_cell? w _ hx113_7)).trans hx113_7
                        replace p113 := eq_true p113
                        replace q113 := eq_true q113
                        have p114 : 0 ≤ (x6_1 : Int) := of_decide_eq_true (by first | (with_reducible assumption) | assumption)
                        have q114 : x6_1 < (l0.length : Int) := of_decide_eq_true (by first | (with_reducible assumption) | assumption)
                        obtain ⟨ad114, e114, hx114_0, hx114_1, hx114_2, hx114_3, hx114_4, hx114_5, hx114_6, hx114_7⟩ := at_T40 HR0.out x6_1 p114 q114
                        obtain rfl : ad113 = ad114 := (by injection e114)
                        replace hx114_0 := (HB.out.cell (World.block_lt_of_cell? w _ hx114_0)).trans hx114_0
                        replace hx114_1 := (HB.out.cell (World.block_lt_of_cell? w _ hx114_1)).trans hx114_1
                        replace hx114_2 := (HB.out.cell (World.block_lt_of_cell? w _ hx114_2)).trans hx114_2
                        replace hx114_3 := (HB.out.cell (World.block_lt_of_cell? w _ hx114_3)).trans hx114_3
                        replace hx114_4 := (HB.out.cell (World.block_lt_of_cell? w _ hx114_4)).trans hx114_4
                        replace hx114_5 := (HB.out.cell (World.block_lt_of_cell? w _ hx114_5)).trans hx114_5
                        replace hx114_6 := (HB.out.cell (World.block_lt_of_cell? w _ hx114_6)).trans hx114_6
                        replace hx114_7 := (HB.out.cell (World.block_lt_of_cell? w _ hx114_7)).trans hx114_7
                        replace p114 := eq_true p114
                        replace q114 := eq_true q114
                        go_wp2_with (first | (go_at_call 15; (with_reducible refine (selvageref10_Has.calls kj2 ((rd_T40 l0 x6_1).f0) 116 true _ A10.out).mono ?_); rintro e w' ⟨rfl, ⟨nd, rfl⟩⟩; have p116 : 0 ≤ (x6_1 : Int) := of_decide_eq_true (by first | (with_reducible assumption) | assumption); have q116 : x6_1 < (l0.length : Int) := of_decide_eq_true (by first | (with_reducible assumption) | assumption); obtain ⟨ad116, e116, hx116_0, hx116_1, hx116_2, hx116_3, hx116_4, hx116_5, hx116_6, hx116_7⟩ := at_T40 HR0.out x6_1 p116 q116; obtain rfl : ad113 = ad116 := (by injection e116); replace hx116_0 := (HB.out.cell (World.block_lt_of_cell? w _ hx116_0)).trans hx116_0; replace hx116_1 := (HB.out.cell (World.block_lt_of_cell? w _ hx116_1)).trans hx116_1; replace hx116_2 := (HB.out.cell (World.block_lt_of_cell? w _ hx116_2)).trans hx116_2; replace hx116_3 := (HB.out.cell (World.block_lt_of_cell? w _ hx116_3)).trans hx116_3; replace hx116_4 := (HB.out.cell (World.block_lt_of_cell? w _ hx116_4)).trans hx116_4; replace hx116_5 := (HB.out.cell (World.block_lt_of_cell? w _ hx116_5)).trans hx116_5; replace hx116_6 := (HB.out.cell (World.block_lt_of_cell? w _ hx116_6)).trans hx116_6; replace hx116_7 := (HB.out.cell (World.block_lt_of_cell? w _ hx116_7)).trans hx116_7; replace p116 := eq_true p116; replace q116 := eq_true q116))
                        go_roundg kj2
                        case measure => have := HK1.out; have := HJ2.out; omega
                        case rel => exact ⟨(x5_1), (wrap64 (x6_1 + 1)), (by first | rfl | (simp; done) | (simp [*]; done)), H', ⟨by have := HK1.out; have := HJ2.out; omega⟩, ⟨by (with_reducible repeat (first | apply Kd.R_alloc | apply Kd.R_drewN | apply Kd.R_drew)); exact HO_5.out⟩, ⟨by repeat (first | (with_reducible first | exact HB.out | apply below_alloc | apply pw_below_drewN | apply below_drew1) | exact HB.out)⟩⟩
                    · replace c11 := Bool.eq_false_iff.mpr c11
                      subst c11
                      have H1 : (selvageref10_Before.l0 kj2 l0 a1 x5_1 (wrap64 (x6_1 + 1))) = some r := by rw [if_neg (show ¬ (false = true) by decide)] at H; exact H
                      clear H
                      have H := H1
                      clear H1
                      have H' := Aside0.mk H
                      clear H
                      have p113 : 0 ≤ (x6_1 : Int) := of_decide_eq_true (by first | (with_reducible assumption) | assumption)
                      have q113 : x6_1 < (l0.length : Int) := of_decide_eq_true (by first | (with_reducible assumption) | assumption)
                      obtain ⟨ad113, e113, hx113_0, hx113_1, hx113_2, hx113_3, hx113_4, hx113_5, hx113_6, hx113_7⟩ := at_T40 HR0.out x6_1 p113 q113
                      cases e113
                      replace hx113_0 := (HB.out.cell (World.block_lt_of_cell? w _ hx113_0)).trans hx113_0
                      replace hx113_1 := (HB.out.cell (World.block_lt_of_cell? w _ hx113_1)).trans hx113_1
                      replace hx113_2 := (HB.out.cell (World.block_lt_of_cell? w _ hx113_2)).trans hx113_2
                      replace hx113_3 := (HB.out.cell (World.block_lt_of_cell? w _ hx113_3)).trans hx113_3
                      replace hx113_4 := (HB.out.cell (World.block_lt_of_cell? w _ hx113_4)).trans hx113_4
                      replace hx113_5 := (HB.out.cell (World.block_lt_of_cell? w _ hx113_5)).trans hx113_5
                      replace hx113_6 := (HB.out.cell (World.block_lt_of_cell? w _ hx113_6)).trans hx113_6
                      replace hx113_7 := (HB.out.cell (World.block_lt_of_cell? w _ hx113_7)).trans hx113_7
                      replace p113 := eq_true p113
                      replace q113 := eq_true q113
                      have p114 : 0 ≤ (x6_1 : Int) := of_decide_eq_true (by first | (with_reducible assumption) | assumption)
                      have q114 : x6_1 < (l0.length : Int) := of_decide_eq_true (by first | (with_reducible assumption) | assumption)
                      obtain ⟨ad114, e114, hx114_0, hx114_1, hx114_2, hx114_3, hx114_4, hx114_5, hx114_6, hx114_7⟩ := at_T40 HR0.out x6_1 p114 q114
                      obtain rfl : ad113 = ad114 := (by injection e114)
                      replace hx114_0 := (HB.out.cell (World.block_lt_of_cell? w _ hx114_0)).trans hx114_0
                      replace hx114_1 := (HB.out.cell (World.block_lt_of_cell? w _ hx114_1)).trans hx114_1
                      replace hx114_2 := (HB.out.cell (World.block_lt_of_cell? w _ hx114_2)).trans hx114_2
                      replace hx114_3 := (HB.out.cell (World.block_lt_of_cell? w _ hx114_3)).trans hx114_3
                      replace hx114_4 := (HB.out.cell (World.block_lt_of_cell? w _ hx114_4)).trans hx114_4
                      replace hx114_5 := (HB.out.cell (World.block_lt_of_cell? w _ hx114_5)).trans hx114_5
                      replace hx114_6 := (HB.out.cell (World.block_lt_of_cell? w _ hx114_6)).trans hx114_6
                      replace hx114_7 := (HB.out.cell (World.block_lt_of_cell? w _ hx114_7)).trans hx114_7
                      replace p114 := eq_true p114
                      replace q114 := eq_true q114
                      go_wp2_with (first | (go_at_call 15; (with_reducible refine (selvageref10_Has.calls kj2 ((rd_T40 l0 x6_1).f0) 116 false _ A10.out).mono ?_); rintro e w' ⟨rfl, ⟨nd, rfl⟩⟩))
                      go_roundg kj2
                      case measure => have := HK1.out; have := HJ2.out; omega
                      case rel => exact ⟨(x5_1), (wrap64 (x6_1 + 1)), (by first | rfl | (simp; done) | (simp [*]; done)), H', ⟨by have := HK1.out; have := HJ2.out; omega⟩, ⟨by (with_reducible repeat (first | apply Kd.R_alloc | apply Kd.R_drewN | apply Kd.R_drew)); exact HO_5.out⟩, ⟨by repeat (first | (with_reducible first | exact HB.out | apply below_alloc | apply pw_below_drewN | apply below_drew1) | exact HB.out)⟩⟩
                  · rw [if_neg c9] at H
                    have c9b0 : (((rd_T40 l0 x6_1).f0) == 18) = false := beq_eq_false_iff_ne.mpr c9
                    have c9b1 : (((rd_T40 l0 x6_1).f0) != 18) = true := bne_iff_ne.mpr c9
                    by_cases c15 : x5_1.length < 17592186044416
                    · rw [if_pos c15] at H
                      have LMc15 := Aside0.mk c15
                      clear c15
                      obtain ⟨y120, hy120⟩ : ∃ y_ : List Int, y_ = (x5_1 ++ [x6_1]) := ⟨_, rfl⟩
                      replace H : (selvageref10_Before.l0 kj2 l0 a1 y120 (wrap64 (x6_1 + 1))) = some r := by first | (rw [hy120]; with_reducible exact H) | (have H2_ := (Option.bind_some _ _).symm.trans H; rw [hy120]; with_reducible exact H2_) | (have H2_ := (Option.bind_some _ _).symm.trans H; with_reducible exact H2_) | with_reducible exact H | (rw [hy120]; exact H) | exact H
                      have Ny120 := Aside0.mk hy120
                      clear hy120
                      have H' := Aside0.mk H
                      clear H
                      have p113 : 0 ≤ (x6_1 : Int) := of_decide_eq_true (by first | (with_reducible assumption) | assumption)
                      have q113 : x6_1 < (l0.length : Int) := of_decide_eq_true (by first | (with_reducible assumption) | assumption)
                      obtain ⟨ad113, e113, hx113_0, hx113_1, hx113_2, hx113_3, hx113_4, hx113_5, hx113_6, hx113_7⟩ := at_T40 HR0.out x6_1 p113 q113
                      cases e113
                      replace hx113_0 := (HB.out.cell (World.block_lt_of_cell? w _ hx113_0)).trans hx113_0
                      replace hx113_1 := (HB.out.cell (World.block_lt_of_cell? w _ hx113_1)).trans hx113_1
                      replace hx113_2 := (HB.out.cell (World.block_lt_of_cell? w _ hx113_2)).trans hx113_2
                      replace hx113_3 := (HB.out.cell (World.block_lt_of_cell? w _ hx113_3)).trans hx113_3
                      replace hx113_4 := (HB.out.cell (World.block_lt_of_cell? w _ hx113_4)).trans hx113_4
                      replace hx113_5 := (HB.out.cell (World.block_lt_of_cell? w _ hx113_5)).trans hx113_5
                      replace hx113_6 := (HB.out.cell (World.block_lt_of_cell? w _ hx113_6)).trans hx113_6
                      replace hx113_7 := (HB.out.cell (World.block_lt_of_cell? w _ hx113_7)).trans hx113_7
                      replace p113 := eq_true p113
                      replace q113 := eq_true q113
                      go_wp2_with (first | ((with_reducible refine gate_builtin (b := .append) (xs := #[.tmp 47, .tmp 49]) rfl ?_); at_builtin; refine Kd.R_append (Kd.int .i64) (w0 := w) w.heap.size rfl (.tmp 47) (.tmp 49) 63 3 (.int .i64 0) 8 rfl Try.underlying63 info3 rfl (by decide) (by omega) u5 x5_1 x6_1 [.int .i64 x6_1] (fun _ => True) (fun _ => False) rfl rfl ?aP (fun _ hk => hk.elim) ?aF ?aO ?aB ?aS ?aL ?_; (case aP => exact rfl); (case aB => exact (by repeat (first | (with_reducible first | exact HB.out | apply below_alloc | apply pw_below_drewN | apply below_drew1) | exact HB.out))); (case aF => exact (fun _ _ => trivial)); (case aO => exact (by (with_reducible repeat (first | apply Kd.R_alloc | apply Kd.R_drewN | apply Kd.R_drew)); exact HO_5.out)); (case aS => exact (below_size (by repeat (first | (with_reducible first | exact HB.out | apply below_alloc | apply pw_below_drewN | apply below_drew1) | exact HB.out)))); (case aL => have := LMc15.out; omega); intro v121 w16 ho hb hg hat; rw [← Ny120.out] at ho; have n0_ := Aside0.mk (hb); have n1_ := Aside0.mk (ho); clear HB; clear HO_5; have HB := n0_; have HO122 := n1_; clear n0_ n1_; clear ho hb hg hat))
                      go_roundg kj2
                      case measure => have := HK1.out; have := HJ2.out; omega
                      case rel => exact ⟨(y120), (wrap64 (x6_1 + 1)), (by first | rfl | (simp; done) | (simp [*]; done)), H', ⟨by have := HK1.out; have := HJ2.out; omega⟩, ⟨by (with_reducible repeat (first | apply Kd.R_alloc | apply Kd.R_drewN | apply Kd.R_drew)); exact HO122.out⟩, ⟨by repeat (first | (with_reducible first | exact HB.out | apply below_alloc | apply pw_below_drewN | apply below_drew1) | exact HB.out)⟩⟩
                    · rw [if_neg c15] at H
                      exact absurd H (by simp)
                · rw [if_neg c8] at H
                  exact absurd H (by simp)
              · rw [if_neg c7] at H
                exact absurd H (by simp)
            · rw [if_neg c6] at H
              have c6b0 : (x6_1 == (wrap64 (a1 - 1))) = false := beq_eq_false_iff_ne.mpr c6
              have c6b1 : (x6_1 != (wrap64 (a1 - 1))) = true := bne_iff_ne.mpr c6
              by_cases c17 : 0 ≤ x6_1
              · rw [if_pos c17] at H
                have c17b0 : decide (0 ≤ x6_1) = true := decide_eq_true c17
                clear c17
                by_cases c18 : x6_1 < (l0.length : Int)
                · rw [if_pos c18] at H
                  have c18b0 : decide (x6_1 < (l0.length : Int)) = true := decide_eq_true c18
                  clear c18
                  replace H := Option.bind_eq_some_iff.mp H
                  obtain ⟨t124, A190, H⟩ := H
                  replace H : (if t124 = true then (if ((rd_T40 l0 x6_1).f7) = a1 then (if x5_1.length < 17592186044416 then (selvageref10_Before.l0 kj2 l0 a1 (x5_1 ++ [x6_1]) (wrap64 (x6_1 + 1))) else (none)) else (selvageref10_Before.l0 kj2 l0 a1 x5_1 (wrap64 (x6_1 + 1)))) else (selvageref10_Before.l0 kj2 l0 a1 x5_1 (wrap64 (x6_1 + 1)))) = some r := H
                  have A19 := Aside0.mk A190
                  clear A190
                  by_cases c20 : t124 = true
                  · subst c20
                    have H1 : (if ((rd_T40 l0 x6_1).f7) = a1 then (if x5_1.length < 17592186044416 then (selvageref10_Before.l0 kj2 l0 a1 (x5_1 ++ [x6_1]) (wrap64 (x6_1 + 1))) else (none)) else (selvageref10_Before.l0 kj2 l0 a1 x5_1 (wrap64 (x6_1 + 1)))) = some r := by rw [if_pos rfl] at H; exact H
                    clear H
                    have H := H1
                    clear H1
                    by_cases c21 : ((rd_T40 l0 x6_1).f7) = a1
                    · rw [if_pos c21] at H
                      have c21b0 : (((rd_T40 l0 x6_1).f7) == a1) = true := beq_iff_eq.mpr c21
                      have c21b1 : (((rd_T40 l0 x6_1).f7) != a1) = false := bne_eq_false_iff_eq.mpr c21
                      clear c21
                      by_cases c22 : x5_1.length < 17592186044416
                      · rw [if_pos c22] at H
                        have LMc22 := Aside0.mk c22
                        clear c22
                        obtain ⟨y126, hy126⟩ : ∃ y_ : List Int, y_ = (x5_1 ++ [x6_1]) := ⟨_, rfl⟩
                        replace H : (selvageref10_Before.l0 kj2 l0 a1 y126 (wrap64 (x6_1 + 1))) = some r := by first | (rw [hy126]; with_reducible exact H) | (have H2_ := (Option.bind_some _ _).symm.trans H; rw [hy126]; with_reducible exact H2_) | (have H2_ := (Option.bind_some _ _).symm.trans H; with_reducible exact H2_) | with_reducible exact H | (rw [hy126]; exact H) | exact H
                        have Ny126 := Aside0.mk hy126
                        clear hy126
                        have H' := Aside0.mk H
                        clear H
                        have p123 : 0 ≤ (x6_1 : Int) := of_decide_eq_true (by first | (with_reducible assumption) | assumption)
                        have q123 : x6_1 < (l0.length : Int) := of_decide_eq_true (by first | (with_reducible assumption) | assumption)
                        obtain ⟨ad123, e123, hx123_0, hx123_1, hx123_2, hx123_3, hx123_4, hx123_5, hx123_6, hx123_7⟩ := at_T40 HR0.out x6_1 p123 q123
                        cases e123
                        replace hx123_0 := (HB.out.cell (World.block_lt_of_cell? w _ hx123_0)).trans hx123_0
                        replace hx123_1 := (HB.out.cell (World.block_lt_of_cell? w _ hx123_1)).trans hx123_1
                        replace hx123_2 := (HB.out.cell (World.block_lt_of_cell? w _ hx123_2)).trans hx123_2
                        replace hx123_3 := (HB.out.cell (World.block_lt_of_cell? w _ hx123_3)).trans hx123_3
                        replace hx123_4 := (HB.out.cell (World.block_lt_of_cell? w _ hx123_4)).trans hx123_4
                        replace hx123_5 := (HB.out.cell (World.block_lt_of_cell? w _ hx123_5)).trans hx123_5
                        replace hx123_6 := (HB.out.cell (World.block_lt_of_cell? w _ hx123_6)).trans hx123_6
                        replace hx123_7 := (HB.out.cell (World.block_lt_of_cell? w _ hx123_7)).trans hx123_7
                        replace p123 := eq_true p123
                        replace q123 := eq_true q123
                        go_wp2_with (first | (go_at_call 15; (with_reducible refine (selvageref10_Has.calls kj2 ((rd_T40 l0 x6_1).f0) 116 true _ A19.out).mono ?_); rintro e w' ⟨rfl, ⟨nd, rfl⟩⟩; have p125 : 0 ≤ (x6_1 : Int) := of_decide_eq_true (by first | (with_reducible assumption) | assumption); have q125 : x6_1 < (l0.length : Int) := of_decide_eq_true (by first | (with_reducible assumption) | assumption); obtain ⟨ad125, e125, hx125_0, hx125_1, hx125_2, hx125_3, hx125_4, hx125_5, hx125_6, hx125_7⟩ := at_T40 HR0.out x6_1 p125 q125; obtain rfl : ad123 = ad125 := (by injection e125); replace hx125_0 := (HB.out.cell (World.block_lt_of_cell? w _ hx125_0)).trans hx125_0; replace hx125_1 := (HB.out.cell (World.block_lt_of_cell? w _ hx125_1)).trans hx125_1; replace hx125_2 := (HB.out.cell (World.block_lt_of_cell? w _ hx125_2)).trans hx125_2; replace hx125_3 := (HB.out.cell (World.block_lt_of_cell? w _ hx125_3)).trans hx125_3; replace hx125_4 := (HB.out.cell (World.block_lt_of_cell? w _ hx125_4)).trans hx125_4; replace hx125_5 := (HB.out.cell (World.block_lt_of_cell? w _ hx125_5)).trans hx125_5; replace hx125_6 := (HB.out.cell (World.block_lt_of_cell? w _ hx125_6)).trans hx125_6; replace hx125_7 := (HB.out.cell (World.block_lt_of_cell? w _ hx125_7)).trans hx125_7; replace p125 := eq_true p125; replace q125 := eq_true q125) | ((with_reducible refine gate_builtin (b := .append) (xs := #[.tmp 47, .tmp 49]) rfl ?_); at_builtin; refine Kd.R_append (Kd.int .i64) (w0 := w) w.heap.size rfl (.tmp 47) (.tmp 49) 63 3 (.int .i64 0) 8 rfl Try.underlying63 info3 rfl (by decide) (by omega) u5 x5_1 x6_1 [.int .i64 x6_1] (fun _ => True) (fun _ => False) rfl rfl ?aP (fun _ hk => hk.elim) ?aF ?aO ?aB ?aS ?aL ?_; (case aP => exact rfl); (case aB => exact (by repeat (first | (with_reducible first | exact HB.out | apply below_alloc | apply pw_below_drewN | apply below_drew1) | exact HB.out))); (case aF => exact (fun _ _ => trivial)); (case aO => exact (by (with_reducible repeat (first | apply Kd.R_alloc | apply Kd.R_drewN | apply Kd.R_drew)); exact HO_5.out)); (case aS => exact (below_size (by repeat (first | (with_reducible first | exact HB.out | apply below_alloc | apply pw_below_drewN | apply below_drew1) | exact HB.out)))); (case aL => have := LMc22.out; omega); intro v127 w23 ho hb hg hat; rw [← Ny126.out] at ho; have n0_ := Aside0.mk (hb); have n1_ := Aside0.mk (ho); clear HB; clear HO_5; have HB := n0_; have HO128 := n1_; clear n0_ n1_; clear ho hb hg hat))
                        go_roundg kj2
                        case measure => have := HK1.out; have := HJ2.out; omega
                        case rel => exact ⟨(y126), (wrap64 (x6_1 + 1)), (by first | rfl | (simp; done) | (simp [*]; done)), H', ⟨by have := HK1.out; have := HJ2.out; omega⟩, ⟨by (with_reducible repeat (first | apply Kd.R_alloc | apply Kd.R_drewN | apply Kd.R_drew)); exact HO128.out⟩, ⟨by repeat (first | (with_reducible first | exact HB.out | apply below_alloc | apply pw_below_drewN | apply below_drew1) | exact HB.out)⟩⟩
                      · rw [if_neg c22] at H
                        exact absurd H (by simp)
                    · rw [if_neg c21] at H
                      have c21b0 : (((rd_T40 l0 x6_1).f7) == a1) = false := beq_eq_false_iff_ne.mpr c21
                      have c21b1 : (((rd_T40 l0 x6_1).f7) != a1) = true := bne_iff_ne.mpr c21
                      have H' := Aside0.mk H
                      clear H
                      have p123 : 0 ≤ (x6_1 : Int) := of_decide_eq_true (by first | (with_reducible assumption) | assumption)
                      have q123 : x6_1 < (l0.length : Int) := of_decide_eq_true (by first | (with_reducible assumption) | assumption)
                      obtain ⟨ad123, e123, hx123_0, hx123_1, hx123_2, hx123_3, hx123_4, hx123_5, hx123_6, hx123_7⟩ := at_T40 HR0.out x6_1 p123 q123
                      cases e123
                      replace hx123_0 := (HB.out.cell (World.block_lt_of_cell? w _ hx123_0)).trans hx123_0
                      replace hx123_1 := (HB.out.cell (World.block_lt_of_cell? w _ hx123_1)).trans hx123_1
                      replace hx123_2 := (HB.out.cell (World.block_lt_of_cell? w _ hx123_2)).trans hx123_2
                      replace hx123_3 := (HB.out.cell (World.block_lt_of_cell? w _ hx123_3)).trans hx123_3
                      replace hx123_4 := (HB.out.cell (World.block_lt_of_cell? w _ hx123_4)).trans hx123_4
                      replace hx123_5 := (HB.out.cell (World.block_lt_of_cell? w _ hx123_5)).trans hx123_5
                      replace hx123_6 := (HB.out.cell (World.block_lt_of_cell? w _ hx123_6)).trans hx123_6
                      replace hx123_7 := (HB.out.cell (World.block_lt_of_cell? w _ hx123_7)).trans hx123_7
                      replace p123 := eq_true p123
                      replace q123 := eq_true q123
                      go_wp2_with (first | (go_at_call 15; (with_reducible refine (selvageref10_Has.calls kj2 ((rd_T40 l0 x6_1).f0) 116 true _ A19.out).mono ?_); rintro e w' ⟨rfl, ⟨nd, rfl⟩⟩; have p125 : 0 ≤ (x6_1 : Int) := of_decide_eq_true (by first | (with_reducible assumption) | assumption); have q125 : x6_1 < (l0.length : Int) := of_decide_eq_true (by first | (with_reducible assumption) | assumption); obtain ⟨ad125, e125, hx125_0, hx125_1, hx125_2, hx125_3, hx125_4, hx125_5, hx125_6, hx125_7⟩ := at_T40 HR0.out x6_1 p125 q125; obtain rfl : ad123 = ad125 := (by injection e125); replace hx125_0 := (HB.out.cell (World.block_lt_of_cell? w _ hx125_0)).trans hx125_0; replace hx125_1 := (HB.out.cell (World.block_lt_of_cell? w _ hx125_1)).trans hx125_1; replace hx125_2 := (HB.out.cell (World.block_lt_of_cell? w _ hx125_2)).trans hx125_2; replace hx125_3 := (HB.out.cell (World.block_lt_of_cell? w _ hx125_3)).trans hx125_3; replace hx125_4 := (HB.out.cell (World.block_lt_of_cell? w _ hx125_4)).trans hx125_4; replace hx125_5 := (HB.out.cell (World.block_lt_of_cell? w _ hx125_5)).trans hx125_5; replace hx125_6 := (HB.out.cell (World.block_lt_of_cell? w _ hx125_6)).trans hx125_6; replace hx125_7 := (HB.out.cell (World.block_lt_of_cell? w _ hx125_7)).trans hx125_7; replace p125 := eq_true p125; replace q125 := eq_true q125))
                      go_roundg kj2
                      case measure => have := HK1.out; have := HJ2.out; omega
                      case rel => exact ⟨(x5_1), (wrap64 (x6_1 + 1)), (by first | rfl | (simp; done) | (simp [*]; done)), H', ⟨by have := HK1.out; have := HJ2.out; omega⟩, ⟨by (with_reducible repeat (first | apply Kd.R_alloc | apply Kd.R_drewN | apply Kd.R_drew)); exact HO_5.out⟩, ⟨by repeat (first | (with_reducible first | exact HB.out | apply below_alloc | apply pw_below_drewN | apply below_drew1) | exact HB.out)⟩⟩
                  · replace c20 := Bool.eq_false_iff.mpr c20
                    subst c20
                    have H1 : (selvageref10_Before.l0 kj2 l0 a1 x5_1 (wrap64 (x6_1 + 1))) = some r := by rw [if_neg (show ¬ (false = true) by decide)] at H; exact H
                    clear H
                    have H := H1
                    clear H1
                    have H' := Aside0.mk H
                    clear H
                    have p123 : 0 ≤ (x6_1 : Int) := of_decide_eq_true (by first | (with_reducible assumption) | assumption)
                    have q123 : x6_1 < (l0.length : Int) := of_decide_eq_true (by first | (with_reducible assumption) | assumption)
                    obtain ⟨ad123, e123, hx123_0, hx123_1, hx123_2, hx123_3, hx123_4, hx123_5, hx123_6, hx123_7⟩ := at_T40 HR0.out x6_1 p123 q123
                    cases e123
                    replace hx123_0 := (HB.out.cell (World.block_lt_of_cell? w _ hx123_0)).trans hx123_0
                    replace hx123_1 := (HB.out.cell (World.block_lt_of_cell? w _ hx123_1)).trans hx123_1
                    replace hx123_2 := (HB.out.cell (World.block_lt_of_cell? w _ hx123_2)).trans hx123_2
                    replace hx123_3 := (HB.out.cell (World.block_lt_of_cell? w _ hx123_3)).trans hx123_3
                    replace hx123_4 := (HB.out.cell (World.block_lt_of_cell? w _ hx123_4)).trans hx123_4
                    replace hx123_5 := (HB.out.cell (World.block_lt_of_cell? w _ hx123_5)).trans hx123_5
                    replace hx123_6 := (HB.out.cell (World.block_lt_of_cell? w _ hx123_6)).trans hx123_6
                    replace hx123_7 := (HB.out.cell (World.block_lt_of_cell? w _ hx123_7)).trans hx123_7
                    replace p123 := eq_true p123
                    replace q123 := eq_true q123
                    go_wp2_with (first | (go_at_call 15; (with_reducible refine (selvageref10_Has.calls kj2 ((rd_T40 l0 x6_1).f0) 116 false _ A19.out).mono ?_); rintro e w' ⟨rfl, ⟨nd, rfl⟩⟩))
                    go_roundg kj2
                    case measure => have := HK1.out; have := HJ2.out; omega
                    case rel => exact ⟨(x5_1), (wrap64 (x6_1 + 1)), (by first | rfl | (simp; done) | (simp [*]; done)), H', ⟨by have := HK1.out; have := HJ2.out; omega⟩, ⟨by (with_reducible repeat (first | apply Kd.R_alloc | apply Kd.R_drewN | apply Kd.R_drew)); exact HO_5.out⟩, ⟨by repeat (first | (with_reducible first | exact HB.out | apply below_alloc | apply pw_below_drewN | apply below_drew1) | exact HB.out)⟩⟩
                · rw [if_neg c18] at H
                  exact absurd H (by simp)
              · rw [if_neg c17] at H
                exact absurd H (by simp)
          · replace c5 := Bool.eq_false_iff.mpr c5
            subst c5
            have H1 : (some x5_1) = some r := by rw [if_neg (show ¬ (false = true) by decide)] at H; exact H
            clear H
            have H := H1
            clear H1
            obtain rfl := Option.some.inj H
            go_wp2
            go_ret
            exact ⟨_, by first | rfl | (simp [errW_none, errW_some] <;> rfl) | (simp [*, errW_none, errW_some] <;> rfl), by (with_reducible repeat (first | apply Kd.R_alloc | apply Kd.R_drewN | apply Kd.R_drew)); exact HO_5.out, by repeat (first | (with_reducible first | exact HB.out | apply below_alloc | apply pw_below_drewN | apply below_drew1) | exact HB.out)⟩

/-! ### selvageref10_field: function 45 -/
def selvageref10_field.f (a0 : Bool) (a1 : Int) : Option (Bool) := if a0 = true then (if a1 ≥ 0 then (some (decide (a1 ≤ 399))) else (some false)) else (some (a1 == 0))
set_option maxHeartbeats 8000000 in
set_option maxRecDepth 100000 in
theorem selvageref10_field.calls (a0 : Bool) (a1 : Int) (r : Bool) (w : World) (h : selvageref10_field.f a0 a1 = some r) :
    Calls Try.prog 45 #[.bool a0, .int .i64 a1] w fun e w' => e = .returned (.bool r) ∧ Drawn0 w w' := by
  have H : (if a0 = true then (if a1 ≥ 0 then (some (decide (a1 ≤ 399))) else (some false)) else (some (a1 == 0))) = some r := h
  clear h
  by_cases c3 : a0 = true
  · subst c3
    have H1 : (if a1 ≥ 0 then (some (decide (a1 ≤ 399))) else (some false)) = some r := by rw [if_pos rfl] at H; exact H
    clear H
    have H := H1
    clear H1
    by_cases c4 : a1 ≥ 0
    · rw [if_pos c4] at H
      have c4b0 : decide (0 ≤ a1) = true := decide_eq_true c4
      clear c4
      obtain rfl := Option.some.inj H
      go_enter Try.func45, Try.ntmps45
      go_wp2
      go_ret
      exact ⟨by first | rfl | (simp; done) | (simp [*]; done), by repeat (first | exact Drawn0.refl _ | apply Drawn0.step)⟩
    · rw [if_neg c4] at H
      have c4b0 : decide (0 ≤ a1) = false := decide_eq_false c4
      clear c4
      obtain rfl := Option.some.inj H
      go_enter Try.func45, Try.ntmps45
      go_wp2
      go_ret
      exact ⟨by first | rfl | (simp; done) | (simp [*]; done), by repeat (first | exact Drawn0.refl _ | apply Drawn0.step)⟩
  · replace c3 := Bool.eq_false_iff.mpr c3
    subst c3
    have H1 : (some (a1 == 0)) = some r := by rw [if_neg (show ¬ (false = true) by decide)] at H; exact H
    clear H
    have H := H1
    clear H1
    obtain rfl := Option.some.inj H
    go_enter Try.func45, Try.ntmps45
    go_wp2
    go_ret
    exact ⟨by first | rfl | (simp; done) | (simp [*]; done), by repeat (first | exact Drawn0.refl _ | apply Drawn0.step)⟩

/-! ### selvageref14_Uses: function 14 -/
def selvageref14_Uses.f (k : Nat) (a0_0 : Int) (a0_1 : Int) (a0_2 : Int) (a0_3 : Int) (a0_4 : Int) (a0_5 : Int) (a0_6 : Int) (a0_7 : Int) (a1 : Int) : Option (Bool) := (selvageref10_Has.f k a0_0 97).bind fun t130 => (if t130 = true then (if a0_2 = a1 then (some true) else ((selvageref10_Has.f k a0_0 98).bind fun t131 => (if t131 = true then (some (a0_3 == a1)) else (some false)))) else ((selvageref10_Has.f k a0_0 98).bind fun t132 => (if t132 = true then (some (a0_3 == a1)) else (some false))))
theorem selvageref14_Uses.mono : ∀ a0 a1 a2 a3 a4 a5 a6 a7 a8 k, LeO (selvageref14_Uses.f k a0 a1 a2 a3 a4 a5 a6 a7 a8) (selvageref14_Uses.f (k + 1) a0 a1 a2 a3 a4 a5 a6 a7 a8) := by
  intro a0 a1 a2 a3 a4 a5 a6 a7 a8 k
  unfold selvageref14_Uses.f
  repeat' first
      | (with_reducible exact selvageref10_Has.mono _ _ _)
      | (with_reducible exact LeO.refl _)
      | (with_reducible exact LeO.none _)
      | (with_reducible refine LeO.ite ?_ ?_)
      | (with_reducible refine LeO.bind ?_ (fun _ => ?_))
      | exact selvageref10_Has.mono _ _ _
      | exact LeO.none _
      | refine LeO.ite ?_ ?_
      | refine LeO.bind ?_ (fun _ => ?_)
set_option maxHeartbeats 8000000 in
set_option maxRecDepth 100000 in
theorem selvageref14_Uses.calls (k : Nat) (a0_0 : Int) (a0_1 : Int) (a0_2 : Int) (a0_3 : Int) (a0_4 : Int) (a0_5 : Int) (a0_6 : Int) (a0_7 : Int) (a1 : Int) (r : Bool) (w : World) (h : selvageref14_Uses.f k a0_0 a0_1 a0_2 a0_3 a0_4 a0_5 a0_6 a0_7 a1 = some r) :
    Calls Try.prog 14 #[.agg #[.int .i64 a0_0, .int .i64 a0_1, .int .i64 a0_2, .int .i64 a0_3, .int .i64 a0_4, .int .i64 a0_5, .int .i64 a0_6, .int .i64 a0_7], .int .i64 a1] w fun e w' => e = .returned (.bool r) ∧ Below w.heap.size w w' := by
  have hu40 := Try.underlying40
  have HB := Aside0.mk (Below.refl w.heap.size w)
  have H : ((selvageref10_Has.f k a0_0 97).bind fun t130 => (if t130 = true then (if a0_2 = a1 then (some true) else ((selvageref10_Has.f k a0_0 98).bind fun t131 => (if t131 = true then (some (a0_3 == a1)) else (some false)))) else ((selvageref10_Has.f k a0_0 98).bind fun t132 => (if t132 = true then (some (a0_3 == a1)) else (some false))))) = some r := h
  clear h
  replace H := Option.bind_eq_some_iff.mp H
  obtain ⟨t130, A30, H⟩ := H
  replace H : (if t130 = true then (if a0_2 = a1 then (some true) else ((selvageref10_Has.f k a0_0 98).bind fun t131 => (if t131 = true then (some (a0_3 == a1)) else (some false)))) else ((selvageref10_Has.f k a0_0 98).bind fun t132 => (if t132 = true then (some (a0_3 == a1)) else (some false)))) = some r := H
  have A3 := Aside0.mk A30
  clear A30
  by_cases c4 : t130 = true
  · subst c4
    have H1 : (if a0_2 = a1 then (some true) else ((selvageref10_Has.f k a0_0 98).bind fun t131 => (if t131 = true then (some (a0_3 == a1)) else (some false)))) = some r := by rw [if_pos rfl] at H; exact H
    clear H
    have H := H1
    clear H1
    by_cases c5 : a0_2 = a1
    · rw [if_pos c5] at H
      have c5b0 : (a0_2 == a1) = true := beq_iff_eq.mpr c5
      have c5b1 : (a0_2 != a1) = false := bne_eq_false_iff_eq.mpr c5
      clear c5
      obtain rfl := Option.some.inj H
      go_enter Try.func14, Try.ntmps14
      go_wp2_with (first | ((with_reducible refine gate_dst (N := 2) rfl ?_); refine box_event ?hg (N := 2) ?hd (cs := #[.int .i64 a0_0, .int .i64 a0_1, .int .i64 a0_2, .int .i64 a0_3, .int .i64 a0_4, .int .i64 a0_5, .int .i64 a0_6, .int .i64 a0_7]) (t := 40) ?hr ?_; (case hd => rfl); (case hg => rfl); (case hr => first | (go_simp; done) | (go_simp; rfl)); intro gb129 hg w6 hbox hb; have n0_ := Aside0.mk (below_step (by repeat (first | (with_reducible first | exact HB.out | apply below_alloc | apply pw_below_drewN | apply below_drew1) | exact HB.out)) hb); have n1_ := Aside0.mk (hbox); have n2_ := Aside0.mk ((by rw [hg]; exact (below_size (by repeat (first | (with_reducible first | exact HB.out | apply below_alloc | apply pw_below_drewN | apply below_drew1) | exact HB.out))) : w.heap.size ≤ gb129)); have n3_ := Aside0.mk ((by rw [hg]; exact (below_size (by repeat (first | (with_reducible first | exact HB.out | apply below_alloc | apply pw_below_drewN | apply below_drew1) | exact HB.out))) : w.heap.size ≤ gb129)); clear HB; have HB := n0_; have BK129 := n1_; have GW129 := n2_; have GE129 := n3_; clear n0_ n1_ n2_ n3_; clear hb hbox hg; have hcz7_0 : w6.cell? ⟨gb129, 0, none⟩ = some (.int .i64 a0_0) := (blk_cell BK129.out 0).trans rfl; have hcz7_1 : w6.cell? ⟨gb129, 1, none⟩ = some (.int .i64 a0_1) := (blk_cell BK129.out 1).trans rfl; have hcz7_2 : w6.cell? ⟨gb129, 2, none⟩ = some (.int .i64 a0_2) := (blk_cell BK129.out 2).trans rfl; have hcz7_3 : w6.cell? ⟨gb129, 3, none⟩ = some (.int .i64 a0_3) := (blk_cell BK129.out 3).trans rfl; have hcz7_4 : w6.cell? ⟨gb129, 4, none⟩ = some (.int .i64 a0_4) := (blk_cell BK129.out 4).trans rfl; have hcz7_5 : w6.cell? ⟨gb129, 5, none⟩ = some (.int .i64 a0_5) := (blk_cell BK129.out 5).trans rfl; have hcz7_6 : w6.cell? ⟨gb129, 6, none⟩ = some (.int .i64 a0_6) := (blk_cell BK129.out 6).trans rfl; have hcz7_7 : w6.cell? ⟨gb129, 7, none⟩ = some (.int .i64 a0_7) := (blk_cell BK129.out 7).trans rfl; have hfz7_0 := blk_frozen BK129.out 0; have hfz7_1 := blk_frozen BK129.out 1; have hfz7_2 := blk_frozen BK129.out 2; have hfz7_3 := blk_frozen BK129.out 3; have hfz7_4 := blk_frozen BK129.out 4; have hfz7_5 := blk_frozen BK129.out 5; have hfz7_6 := blk_frozen BK129.out 6; have hfz7_7 := blk_frozen BK129.out 7) | ((with_reducible refine gate_callee (f := 15) rfl ?_); refine goesL_ (some 7) rfl rfl Try.func15 (by kernel_rfl) rfl #[.int .i64 a0_0, .int .u8 97] rfl (by (try simp only [List.map_toArray, List.map_cons, List.map_nil]); first | done | rfl | (simp only [List.length_drop, List.length_take]; rfl)) ?_; (with_reducible refine (selvageref10_Has.calls k a0_0 97 true _ A3.out).mono ?_); rintro e w' ⟨rfl, ⟨nd, rfl⟩⟩; refine ⟨_, rfl, ?_⟩))
      go_ret
      exact ⟨by first | rfl | (simp [errW_none, errW_some] <;> rfl) | (simp [*, errW_none, errW_some] <;> rfl), by repeat (first | (with_reducible first | exact HB.out | apply below_alloc | apply pw_below_drewN | apply below_drew1 | refine below_set ?_ GE129.out) | exact HB.out)⟩
    · rw [if_neg c5] at H
      have c5b0 : (a0_2 == a1) = false := beq_eq_false_iff_ne.mpr c5
      have c5b1 : (a0_2 != a1) = true := bne_iff_ne.mpr c5
      replace H := Option.bind_eq_some_iff.mp H
      obtain ⟨t131, A80, H⟩ := H
      replace H : (if t131 = true then (some (a0_3 == a1)) else (some false)) = some r := H
      have A8 := Aside0.mk A80
      clear A80
      by_cases c9 : t131 = true
      · subst c9
        have H1 : (some (a0_3 == a1)) = some r := by rw [if_pos rfl] at H; exact H
        clear H
        have H := H1
        clear H1
        obtain rfl := Option.some.inj H
        go_enter Try.func14, Try.ntmps14
        go_wp2_with (first | ((with_reducible refine gate_dst (N := 2) rfl ?_); refine box_event ?hg (N := 2) ?hd (cs := #[.int .i64 a0_0, .int .i64 a0_1, .int .i64 a0_2, .int .i64 a0_3, .int .i64 a0_4, .int .i64 a0_5, .int .i64 a0_6, .int .i64 a0_7]) (t := 40) ?hr ?_; (case hd => rfl); (case hg => rfl); (case hr => first | (go_simp; done) | (go_simp; rfl)); intro gb129 hg w10 hbox hb; have n0_ := Aside0.mk (below_step (by repeat (first | (with_reducible first | exact HB.out | apply below_alloc | apply pw_below_drewN | apply below_drew1) | exact HB.out)) hb); have n1_ := Aside0.mk (hbox); have n2_ := Aside0.mk ((by rw [hg]; exact (below_size (by repeat (first | (with_reducible first | exact HB.out | apply below_alloc | apply pw_below_drewN | apply below_drew1) | exact HB.out))) : w.heap.size ≤ gb129)); have n3_ := Aside0.mk ((by rw [hg]; exact (below_size (by repeat (first | (with_reducible first | exact HB.out | apply below_alloc | apply pw_below_drewN | apply below_drew1) | exact HB.out))) : w.heap.size ≤ gb129)); clear HB; have HB := n0_; have BK129 := n1_; have GW129 := n2_; have GE129 := n3_; clear n0_ n1_ n2_ n3_; clear hb hbox hg; have hcz11_0 : w10.cell? ⟨gb129, 0, none⟩ = some (.int .i64 a0_0) := (blk_cell BK129.out 0).trans rfl; have hcz11_1 : w10.cell? ⟨gb129, 1, none⟩ = some (.int .i64 a0_1) := (blk_cell BK129.out 1).trans rfl; have hcz11_2 : w10.cell? ⟨gb129, 2, none⟩ = some (.int .i64 a0_2) := (blk_cell BK129.out 2).trans rfl; have hcz11_3 : w10.cell? ⟨gb129, 3, none⟩ = some (.int .i64 a0_3) := (blk_cell BK129.out 3).trans rfl; have hcz11_4 : w10.cell? ⟨gb129, 4, none⟩ = some (.int .i64 a0_4) := (blk_cell BK129.out 4).trans rfl; have hcz11_5 : w10.cell? ⟨gb129, 5, none⟩ = some (.int .i64 a0_5) := (blk_cell BK129.out 5).trans rfl; have hcz11_6 : w10.cell? ⟨gb129, 6, none⟩ = some (.int .i64 a0_6) := (blk_cell BK129.out 6).trans rfl; have hcz11_7 : w10.cell? ⟨gb129, 7, none⟩ = some (.int .i64 a0_7) := (blk_cell BK129.out 7).trans rfl; have hfz11_0 := blk_frozen BK129.out 0; have hfz11_1 := blk_frozen BK129.out 1; have hfz11_2 := blk_frozen BK129.out 2; have hfz11_3 := blk_frozen BK129.out 3; have hfz11_4 := blk_frozen BK129.out 4; have hfz11_5 := blk_frozen BK129.out 5; have hfz11_6 := blk_frozen BK129.out 6; have hfz11_7 := blk_frozen BK129.out 7) | ((with_reducible refine gate_callee (f := 15) rfl ?_); refine goesL_ (some 7) rfl rfl Try.func15 (by kernel_rfl) rfl #[.int .i64 a0_0, .int .u8 97] rfl (by (try simp only [List.map_toArray, List.map_cons, List.map_nil]); first | done | rfl | (simp only [List.length_drop, List.length_take]; rfl)) ?_; (with_reducible refine (selvageref10_Has.calls k a0_0 97 true _ A3.out).mono ?_); rintro e w' ⟨rfl, ⟨nd, rfl⟩⟩; refine ⟨_, rfl, ?_⟩) | (go_at_call 15; (with_reducible refine (selvageref10_Has.calls k a0_0 98 true _ A8.out).mono ?_); rintro e w' ⟨rfl, ⟨nd, rfl⟩⟩))
        go_ret
        exact ⟨by first | rfl | (simp [errW_none, errW_some] <;> rfl) | (simp [*, errW_none, errW_some] <;> rfl), by repeat (first | (with_reducible first | exact HB.out | apply below_alloc | apply pw_below_drewN | apply below_drew1 | refine below_set ?_ GE129.out) | exact HB.out)⟩
      · replace c9 := Bool.eq_false_iff.mpr c9
        subst c9
        have H1 : (some false) = some r := by rw [if_neg (show ¬ (false = true) by decide)] at H; exact H
        clear H
        have H := H1
        clear H1
        obtain rfl := Option.some.inj H
        go_enter Try.func14, Try.ntmps14
        go_wp2_with (first | ((with_reducible refine gate_dst (N := 2) rfl ?_); refine box_event ?hg (N := 2) ?hd (cs := #[.int .i64 a0_0, .int .i64 a0_1, .int .i64 a0_2, .int .i64 a0_3, .int .i64 a0_4, .int .i64 a0_5, .int .i64 a0_6, .int .i64 a0_7]) (t := 40) ?hr ?_; (case hd => rfl); (case hg => rfl); (case hr => first | (go_simp; done) | (go_simp; rfl)); intro gb129 hg w12 hbox hb; have n0_ := Aside0.mk (below_step (by repeat (first | (with_reducible first | exact HB.out | apply below_alloc | apply pw_below_drewN | apply below_drew1) | exact HB.out)) hb); have n1_ := Aside0.mk (hbox); have n2_ := Aside0.mk ((by rw [hg]; exact (below_size (by repeat (first | (with_reducible first | exact HB.out | apply below_alloc | apply pw_below_drewN | apply below_drew1) | exact HB.out))) : w.heap.size ≤ gb129)); have n3_ := Aside0.mk ((by rw [hg]; exact (below_size (by repeat (first | (with_reducible first | exact HB.out | apply below_alloc | apply pw_below_drewN | apply below_drew1) | exact HB.out))) : w.heap.size ≤ gb129)); clear HB; have HB := n0_; have BK129 := n1_; have GW129 := n2_; have GE129 := n3_; clear n0_ n1_ n2_ n3_; clear hb hbox hg; have hcz13_0 : w12.cell? ⟨gb129, 0, none⟩ = some (.int .i64 a0_0) := (blk_cell BK129.out 0).trans rfl; have hcz13_1 : w12.cell? ⟨gb129, 1, none⟩ = some (.int .i64 a0_1) := (blk_cell BK129.out 1).trans rfl; have hcz13_2 : w12.cell? ⟨gb129, 2, none⟩ = some (.int .i64 a0_2) := (blk_cell BK129.out 2).trans rfl; have hcz13_3 : w12.cell? ⟨gb129, 3, none⟩ = some (.int .i64 a0_3) := (blk_cell BK129.out 3).trans rfl; have hcz13_4 : w12.cell? ⟨gb129, 4, none⟩ = some (.int .i64 a0_4) := (blk_cell BK129.out 4).trans rfl; have hcz13_5 : w12.cell? ⟨gb129, 5, none⟩ = some (.int .i64 a0_5) := (blk_cell BK129.out 5).trans rfl; have hcz13_6 : w12.cell? ⟨gb129, 6, none⟩ = some (.int .i64 a0_6) := (blk_cell BK129.out 6).trans rfl; have hcz13_7 : w12.cell? ⟨gb129, 7, none⟩ = some (.int .i64 a0_7) := (blk_cell BK129.out 7).trans rfl; have hfz13_0 := blk_frozen BK129.out 0; have hfz13_1 := blk_frozen BK129.out 1; have hfz13_2 := blk_frozen BK129.out 2; have hfz13_3 := blk_frozen BK129.out 3; have hfz13_4 := blk_frozen BK129.out 4; have hfz13_5 := blk_frozen BK129.out 5; have hfz13_6 := blk_frozen BK129.out 6; have hfz13_7 := blk_frozen BK129.out 7) | ((with_reducible refine gate_callee (f := 15) rfl ?_); refine goesL_ (some 7) rfl rfl Try.func15 (by kernel_rfl) rfl #[.int .i64 a0_0, .int .u8 97] rfl (by (try simp only [List.map_toArray, List.map_cons, List.map_nil]); first | done | rfl | (simp only [List.length_drop, List.length_take]; rfl)) ?_; (with_reducible refine (selvageref10_Has.calls k a0_0 97 true _ A3.out).mono ?_); rintro e w' ⟨rfl, ⟨nd, rfl⟩⟩; refine ⟨_, rfl, ?_⟩) | (go_at_call 15; (with_reducible refine (selvageref10_Has.calls k a0_0 98 false _ A8.out).mono ?_); rintro e w' ⟨rfl, ⟨nd, rfl⟩⟩))
        go_ret
        exact ⟨by first | rfl | (simp [errW_none, errW_some] <;> rfl) | (simp [*, errW_none, errW_some] <;> rfl), by repeat (first | (with_reducible first | exact HB.out | apply below_alloc | apply pw_below_drewN | apply below_drew1 | refine below_set ?_ GE129.out) | exact HB.out)⟩
  · replace c4 := Bool.eq_false_iff.mpr c4
    subst c4
    have H1 : ((selvageref10_Has.f k a0_0 98).bind fun t132 => (if t132 = true then (some (a0_3 == a1)) else (some false))) = some r := by rw [if_neg (show ¬ (false = true) by decide)] at H; exact H
    clear H
    have H := H1
    clear H1
    replace H := Option.bind_eq_some_iff.mp H
    obtain ⟨t132, A140, H⟩ := H
    replace H : (if t132 = true then (some (a0_3 == a1)) else (some false)) = some r := H
    have A14 := Aside0.mk A140
    clear A140
    by_cases c15 : t132 = true
    · subst c15
      have H1 : (some (a0_3 == a1)) = some r := by rw [if_pos rfl] at H; exact H
      clear H
      have H := H1
      clear H1
      obtain rfl := Option.some.inj H
      go_enter Try.func14, Try.ntmps14
      go_wp2_with (first | ((with_reducible refine gate_dst (N := 2) rfl ?_); refine box_event ?hg (N := 2) ?hd (cs := #[.int .i64 a0_0, .int .i64 a0_1, .int .i64 a0_2, .int .i64 a0_3, .int .i64 a0_4, .int .i64 a0_5, .int .i64 a0_6, .int .i64 a0_7]) (t := 40) ?hr ?_; (case hd => rfl); (case hg => rfl); (case hr => first | (go_simp; done) | (go_simp; rfl)); intro gb129 hg w16 hbox hb; have n0_ := Aside0.mk (below_step (by repeat (first | (with_reducible first | exact HB.out | apply below_alloc | apply pw_below_drewN | apply below_drew1) | exact HB.out)) hb); have n1_ := Aside0.mk (hbox); have n2_ := Aside0.mk ((by rw [hg]; exact (below_size (by repeat (first | (with_reducible first | exact HB.out | apply below_alloc | apply pw_below_drewN | apply below_drew1) | exact HB.out))) : w.heap.size ≤ gb129)); have n3_ := Aside0.mk ((by rw [hg]; exact (below_size (by repeat (first | (with_reducible first | exact HB.out | apply below_alloc | apply pw_below_drewN | apply below_drew1) | exact HB.out))) : w.heap.size ≤ gb129)); clear HB; have HB := n0_; have BK129 := n1_; have GW129 := n2_; have GE129 := n3_; clear n0_ n1_ n2_ n3_; clear hb hbox hg; have hcz17_0 : w16.cell? ⟨gb129, 0, none⟩ = some (.int .i64 a0_0) := (blk_cell BK129.out 0).trans rfl; have hcz17_1 : w16.cell? ⟨gb129, 1, none⟩ = some (.int .i64 a0_1) := (blk_cell BK129.out 1).trans rfl; have hcz17_2 : w16.cell? ⟨gb129, 2, none⟩ = some (.int .i64 a0_2) := (blk_cell BK129.out 2).trans rfl; have hcz17_3 : w16.cell? ⟨gb129, 3, none⟩ = some (.int .i64 a0_3) := (blk_cell BK129.out 3).trans rfl; have hcz17_4 : w16.cell? ⟨gb129, 4, none⟩ = some (.int .i64 a0_4) := (blk_cell BK129.out 4).trans rfl; have hcz17_5 : w16.cell? ⟨gb129, 5, none⟩ = some (.int .i64 a0_5) := (blk_cell BK129.out 5).trans rfl; have hcz17_6 : w16.cell? ⟨gb129, 6, none⟩ = some (.int .i64 a0_6) := (blk_cell BK129.out 6).trans rfl; have hcz17_7 : w16.cell? ⟨gb129, 7, none⟩ = some (.int .i64 a0_7) := (blk_cell BK129.out 7).trans rfl; have hfz17_0 := blk_frozen BK129.out 0; have hfz17_1 := blk_frozen BK129.out 1; have hfz17_2 := blk_frozen BK129.out 2; have hfz17_3 := blk_frozen BK129.out 3; have hfz17_4 := blk_frozen BK129.out 4; have hfz17_5 := blk_frozen BK129.out 5; have hfz17_6 := blk_frozen BK129.out 6; have hfz17_7 := blk_frozen BK129.out 7) | ((with_reducible refine gate_callee (f := 15) rfl ?_); refine goesL_ (some 7) rfl rfl Try.func15 (by kernel_rfl) rfl #[.int .i64 a0_0, .int .u8 97] rfl (by (try simp only [List.map_toArray, List.map_cons, List.map_nil]); first | done | rfl | (simp only [List.length_drop, List.length_take]; rfl)) ?_; (with_reducible refine (selvageref10_Has.calls k a0_0 97 false _ A3.out).mono ?_); rintro e w' ⟨rfl, ⟨nd, rfl⟩⟩; refine ⟨_, rfl, ?_⟩) | (go_at_call 15; (with_reducible refine (selvageref10_Has.calls k a0_0 98 true _ A14.out).mono ?_); rintro e w' ⟨rfl, ⟨nd, rfl⟩⟩))
      go_ret
      exact ⟨by first | rfl | (simp [errW_none, errW_some] <;> rfl) | (simp [*, errW_none, errW_some] <;> rfl), by repeat (first | (with_reducible first | exact HB.out | apply below_alloc | apply pw_below_drewN | apply below_drew1 | refine below_set ?_ GE129.out) | exact HB.out)⟩
    · replace c15 := Bool.eq_false_iff.mpr c15
      subst c15
      have H1 : (some false) = some r := by rw [if_neg (show ¬ (false = true) by decide)] at H; exact H
      clear H
      have H := H1
      clear H1
      obtain rfl := Option.some.inj H
      go_enter Try.func14, Try.ntmps14
      go_wp2_with (first | ((with_reducible refine gate_dst (N := 2) rfl ?_); refine box_event ?hg (N := 2) ?hd (cs := #[.int .i64 a0_0, .int .i64 a0_1, .int .i64 a0_2, .int .i64 a0_3, .int .i64 a0_4, .int .i64 a0_5, .int .i64 a0_6, .int .i64 a0_7]) (t := 40) ?hr ?_; (case hd => rfl); (case hg => rfl); (case hr => first | (go_simp; done) | (go_simp; rfl)); intro gb129 hg w18 hbox hb; have n0_ := Aside0.mk (below_step (by repeat (first | (with_reducible first | exact HB.out | apply below_alloc | apply pw_below_drewN | apply below_drew1) | exact HB.out)) hb); have n1_ := Aside0.mk (hbox); have n2_ := Aside0.mk ((by rw [hg]; exact (below_size (by repeat (first | (with_reducible first | exact HB.out | apply below_alloc | apply pw_below_drewN | apply below_drew1) | exact HB.out))) : w.heap.size ≤ gb129)); have n3_ := Aside0.mk ((by rw [hg]; exact (below_size (by repeat (first | (with_reducible first | exact HB.out | apply below_alloc | apply pw_below_drewN | apply below_drew1) | exact HB.out))) : w.heap.size ≤ gb129)); clear HB; have HB := n0_; have BK129 := n1_; have GW129 := n2_; have GE129 := n3_; clear n0_ n1_ n2_ n3_; clear hb hbox hg; have hcz19_0 : w18.cell? ⟨gb129, 0, none⟩ = some (.int .i64 a0_0) := (blk_cell BK129.out 0).trans rfl; have hcz19_1 : w18.cell? ⟨gb129, 1, none⟩ = some (.int .i64 a0_1) := (blk_cell BK129.out 1).trans rfl; have hcz19_2 : w18.cell? ⟨gb129, 2, none⟩ = some (.int .i64 a0_2) := (blk_cell BK129.out 2).trans rfl; have hcz19_3 : w18.cell? ⟨gb129, 3, none⟩ = some (.int .i64 a0_3) := (blk_cell BK129.out 3).trans rfl; have hcz19_4 : w18.cell? ⟨gb129, 4, none⟩ = some (.int .i64 a0_4) := (blk_cell BK129.out 4).trans rfl; have hcz19_5 : w18.cell? ⟨gb129, 5, none⟩ = some (.int .i64 a0_5) := (blk_cell BK129.out 5).trans rfl; have hcz19_6 : w18.cell? ⟨gb129, 6, none⟩ = some (.int .i64 a0_6) := (blk_cell BK129.out 6).trans rfl; have hcz19_7 : w18.cell? ⟨gb129, 7, none⟩ = some (.int .i64 a0_7) := (blk_cell BK129.out 7).trans rfl; have hfz19_0 := blk_frozen BK129.out 0; have hfz19_1 := blk_frozen BK129.out 1; have hfz19_2 := blk_frozen BK129.out 2; have hfz19_3 := blk_frozen BK129.out 3; have hfz19_4 := blk_frozen BK129.out 4; have hfz19_5 := blk_frozen BK129.out 5; have hfz19_6 := blk_frozen BK129.out 6; have hfz19_7 := blk_frozen BK129.out 7) | ((with_reducible refine gate_callee (f := 15) rfl ?_); refine goesL_ (some 7) rfl rfl Try.func15 (by kernel_rfl) rfl #[.int .i64 a0_0, .int .u8 97] rfl (by (try simp only [List.map_toArray, List.map_cons, List.map_nil]); first | done | rfl | (simp only [List.length_drop, List.length_take]; rfl)) ?_; (with_reducible refine (selvageref10_Has.calls k a0_0 97 false _ A3.out).mono ?_); rintro e w' ⟨rfl, ⟨nd, rfl⟩⟩; refine ⟨_, rfl, ?_⟩) | (go_at_call 15; (with_reducible refine (selvageref10_Has.calls k a0_0 98 false _ A14.out).mono ?_); rintro e w' ⟨rfl, ⟨nd, rfl⟩⟩))
      go_ret
      exact ⟨by first | rfl | (simp [errW_none, errW_some] <;> rfl) | (simp [*, errW_none, errW_some] <;> rfl), by repeat (first | (with_reducible first | exact HB.out | apply below_alloc | apply pw_below_drewN | apply below_drew1 | refine below_set ?_ GE129.out) | exact HB.out)⟩

end Go.Proofs.Ytgljbgmphelhbaa.Q
