/- Written for this claim by a program: functions, their contracts and rows. -/
import Derived.Test.YtgljbgmphelhbaaQ0
import Derived.Test.YtgljbgmphelhbaaQ1
import Derived.Test.YtgljbgmphelhbaaQ5
namespace Go.Proofs.Ytgljbgmphelhbaa.Q
open Go.RowKit Go.Proofs.YtgljbgmphelhbaaW.PrintWords Go.Proofs.YtgljbgmphelhbaaW.PrintLast Go.Proofs.YtgljbgmphelhbaaW.PrintMore
attribute [local go_sem] max2_int min2_int max_two min_two max_three min_three max_four min_four   -- for this text's walks alone
set_option linter.unusedVariables false
set_option linter.unusedSimpArgs false

attribute [local go_sem high] eqA36
/-! ### selvageref14_Span: function 9 -/
mutual
def selvageref14_Span.l0 : Nat → List (S40) → Int → Int → Option (Int × Int × Bool)
  | 0, _, _, _ => none
  | k + 1, x0, x1, x7 => if x7 < (x0.length : Int) then (if 0 ≤ x7 then ((selvageref10_Has.f k ((rd_T40 x0 x7).f0) 100).bind fun t118 => (if t118 = true then (selvageref14_Span.j1 k x0 x1 x7 (((rd_T40 x0 x7).f1) != x1)) else (selvageref14_Span.j1 k x0 x1 x7 true))) else (none)) else (some (0, 0, false))
def selvageref14_Span.j1 : Nat → List (S40) → Int → Int → Bool → Option (Int × Int × Bool)
  | 0, _, _, _, _ => none
  | k + 1, x0, x1, x7, x31 => if x31 = true then (selvageref14_Span.l0 k x0 x1 (wrap64 (x7 + 1))) else (selvageref14_Span.l1 k x0 x1 x7 x7 0)
def selvageref14_Span.l1 : Nat → List (S40) → Int → Int → Int → Int → Option (Int × Int × Bool)
  | 0, _, _, _, _, _ => none
  | k + 1, x0, x1, x7, x8, x9 => if x9 < (x0.length : Int) then (if 0 ≤ x9 then ((selvageref14_Uses.f k ((rd_T40 x0 x9).f0) ((rd_T40 x0 x9).f1) ((rd_T40 x0 x9).f2) ((rd_T40 x0 x9).f3) ((rd_T40 x0 x9).f4) ((rd_T40 x0 x9).f5) ((rd_T40 x0 x9).f6) ((rd_T40 x0 x9).f7) x1).bind fun t121 => (if t121 = true then (if x9 > x8 then (selvageref14_Span.l1 k x0 x1 x7 x9 (wrap64 (x9 + 1))) else (selvageref14_Span.l1 k x0 x1 x7 x8 (wrap64 (x9 + 1)))) else (selvageref14_Span.l1 k x0 x1 x7 x8 (wrap64 (x9 + 1))))) else (none)) else (some (x7, x8, true))
end
def selvageref14_Span.f (k : Nat) (l0 : List (S40)) (a1 : Int) : Option (Int × Int × Bool) := selvageref14_Span.l0 k l0 a1 0
theorem selvageref14_Span.mono_l : ∀ k, (∀ y0 y1 y2, LeO (selvageref14_Span.l0 k y0 y1 y2) (selvageref14_Span.l0 (k + 1) y0 y1 y2)) ∧ (∀ y0 y1 y2 y3, LeO (selvageref14_Span.j1 k y0 y1 y2 y3) (selvageref14_Span.j1 (k + 1) y0 y1 y2 y3)) ∧ (∀ y0 y1 y2 y3 y4, LeO (selvageref14_Span.l1 k y0 y1 y2 y3 y4) (selvageref14_Span.l1 (k + 1) y0 y1 y2 y3 y4))
  | 0 => ⟨fun _ _ _ r h => by simp [selvageref14_Span.l0] at h, fun _ _ _ _ r h => by simp [selvageref14_Span.j1] at h, fun _ _ _ _ _ r h => by simp [selvageref14_Span.l1] at h⟩
  | k + 1 => by
    obtain ⟨ih0, ih1, ih2⟩ := selvageref14_Span.mono_l k
    refine ⟨?_, ?_, ?_⟩
    · intro y0 y1 y2
      unfold selvageref14_Span.l0
      repeat' first
      | (with_reducible exact ih0 _ _ _)
      | (with_reducible exact ih1 _ _ _ _)
      | (with_reducible exact ih2 _ _ _ _ _)
      | (with_reducible exact selvageref10_Has.mono _ _ _)
      | (with_reducible exact selvageref14_Uses.mono _ _ _ _ _ _ _ _ _ _)
      | (with_reducible exact LeO.refl _)
      | (with_reducible exact LeO.none _)
      | (with_reducible refine LeO.ite ?_ ?_)
      | (with_reducible refine LeO.bind ?_ (fun _ => ?_))
      | exact ih0 _ _ _
      | exact ih1 _ _ _ _
      | exact ih2 _ _ _ _ _
      | exact selvageref10_Has.mono _ _ _
      | exact selvageref14_Uses.mono _ _ _ _ _ _ _ _ _ _
      | exact LeO.none _
      | refine LeO.ite ?_ ?_
      | refine LeO.bind ?_ (fun _ => ?_)
    · intro y0 y1 y2 y3
      unfold selvageref14_Span.j1
      repeat' first
      | (with_reducible exact ih0 _ _ _)
      | (with_reducible exact ih1 _ _ _ _)
      | (with_reducible exact ih2 _ _ _ _ _)
      | (with_reducible exact selvageref10_Has.mono _ _ _)
      | (with_reducible exact selvageref14_Uses.mono _ _ _ _ _ _ _ _ _ _)
      | (with_reducible exact LeO.refl _)
      | (with_reducible exact LeO.none _)
      | (with_reducible refine LeO.ite ?_ ?_)
      | (with_reducible refine LeO.bind ?_ (fun _ => ?_))
      | exact ih0 _ _ _
      | exact ih1 _ _ _ _
      | exact ih2 _ _ _ _ _
      | exact selvageref10_Has.mono _ _ _
      | exact selvageref14_Uses.mono _ _ _ _ _ _ _ _ _ _
      | exact LeO.none _
      | refine LeO.ite ?_ ?_
      | refine LeO.bind ?_ (fun _ => ?_)
    · intro y0 y1 y2 y3 y4
      unfold selvageref14_Span.l1
      repeat' first
      | (with_reducible exact ih0 _ _ _)
      | (with_reducible exact ih1 _ _ _ _)
      | (with_reducible exact ih2 _ _ _ _ _)
      | (with_reducible exact selvageref10_Has.mono _ _ _)
      | (with_reducible exact selvageref14_Uses.mono _ _ _ _ _ _ _ _ _ _)
      | (with_reducible exact LeO.refl _)
      | (with_reducible exact LeO.none _)
      | (with_reducible refine LeO.ite ?_ ?_)
      | (with_reducible refine LeO.bind ?_ (fun _ => ?_))
      | exact ih0 _ _ _
      | exact ih1 _ _ _ _
      | exact ih2 _ _ _ _ _
      | exact selvageref10_Has.mono _ _ _
      | exact selvageref14_Uses.mono _ _ _ _ _ _ _ _ _ _
      | exact LeO.none _
      | refine LeO.ite ?_ ?_
      | refine LeO.bind ?_ (fun _ => ?_)
theorem selvageref14_Span.mono : ∀ a0 a1 k, LeO (selvageref14_Span.f k a0 a1) (selvageref14_Span.f (k + 1) a0 a1) := by
  intro a0 a1 k
  obtain ⟨ih0, ih1, ih2⟩ := selvageref14_Span.mono_l k
  unfold selvageref14_Span.f
  repeat' first
      | (with_reducible exact ih0 _ _ _)
      | (with_reducible exact ih1 _ _ _ _)
      | (with_reducible exact ih2 _ _ _ _ _)
      | (with_reducible exact selvageref10_Has.mono _ _ _)
      | (with_reducible exact selvageref14_Uses.mono _ _ _ _ _ _ _ _ _ _)
      | (with_reducible exact LeO.refl _)
      | (with_reducible exact LeO.none _)
      | (with_reducible refine LeO.ite ?_ ?_)
      | (with_reducible refine LeO.bind ?_ (fun _ => ?_))
      | exact ih0 _ _ _
      | exact ih1 _ _ _ _
      | exact ih2 _ _ _ _ _
      | exact selvageref10_Has.mono _ _ _
      | exact selvageref14_Uses.mono _ _ _ _ _ _ _ _ _ _
      | exact LeO.none _
      | refine LeO.ite ?_ ?_
      | refine LeO.bind ?_ (fun _ => ?_)
set_option maxHeartbeats 8000000 in
set_option maxRecDepth 100000 in
theorem selvageref14_Span.calls (k : Nat) (A0 : Option Addr) (c0 : Nat) (l0 : List (S40)) (a1 : Int) (r1 : Int) (r2 : Int) (r3 : Bool) (w : World) (hr0 : Kd.C k40 w A0 l0.length l0) (hc0 : l0.length ≤ c0) (h : selvageref14_Span.f k l0 a1 = some (r1, r2, r3)) :
    Calls Try.prog 9 #[.slice A0 l0.length c0, .int .i64 a1] w fun e w' => e = .returned (.tuple #[.int .i64 r1, .int .i64 r2, .bool r3]) ∧ Below w.heap.size w w' := by
  have hu40 := Try.underlying40
  have HR0 := Aside0.mk hr0
  have HC0 := Aside0.mk hc0
  clear hr0 hc0
  have HB := Aside0.mk (Below.refl w.heap.size w)
  have H : (selvageref14_Span.l0 k l0 a1 0) = some (r1, r2, r3) := h
  clear h
  have H' := Aside0.mk H
  clear H
  go_enter Try.func9, Try.ntmps9
  go_wp2
  go_loopg [7] k (fun kq v7 w' => ∃ (x7_1 : Int), v7 = .int .i64 x7_1 ∧ Aside0 (selvageref14_Span.l0 kq l0 a1 x7_1 = some (r1, r2, r3)) ∧ Aside0 (kq ≤ k) ∧ Aside0 (Below w.heap.size w w'))
  case atStart => exact ⟨(0), (by first | rfl | (simp; done) | (simp [*]; done)), H', ⟨Nat.le_refl _⟩, ⟨by repeat (first | (with_reducible first | exact HB.out | apply below_alloc | apply pw_below_drewN | apply below_drew1) | exact HB.out)⟩⟩
  case round =>
    clear H'
    try clear p2
    obtain ⟨x7_1, rfl, HA, HK1, HB⟩ := hrel
    cases gk with
    | zero => exact absurd HA.out (by simp [selvageref14_Span.l0])
    | succ k1 =>
      have H := HA.out
      clear HA
      simp only [selvageref14_Span.l0] at H
      by_cases c3 : x7_1 < (l0.length : Int)
      · rw [if_pos c3] at H
        have c3b0 : decide (x7_1 < (l0.length : Int)) = true := decide_eq_true c3
        clear c3
        have HC4 := Aside0.mk H
        clear H
        go_upto_region 4 with (fail)
        go_cut [31] (fun v31 wc => ∃ (kq : Nat) (x31_3 : Bool), v31 = .bool x31_3 ∧ Aside0 (selvageref14_Span.j1 kq l0 a1 x7_1 x31_3 = some (r1, r2, r3)) ∧ Aside0 (kq ≤ k1) ∧ Aside0 (Below w.heap.size w wc))
        case first =>
          have H := HC4.out
          clear HC4
          by_cases c5 : 0 ≤ x7_1
          · rw [if_pos c5] at H
            have c5b0 : decide (0 ≤ x7_1) = true := decide_eq_true c5
            clear c5
            (first | rw [c5b0] | (simp only [i64_w, i32_w]; rw [c5b0]) | skip)
            replace H := Option.bind_eq_some_iff.mp H
            obtain ⟨t118, A60, H⟩ := H
            replace H : (if t118 = true then (selvageref14_Span.j1 k1 l0 a1 x7_1 (((rd_T40 l0 x7_1).f1) != a1)) else (selvageref14_Span.j1 k1 l0 a1 x7_1 true)) = some (r1, r2, r3) := H
            have A6 := Aside0.mk A60
            clear A60
            by_cases c7 : t118 = true
            · subst c7
              have H1 : (selvageref14_Span.j1 k1 l0 a1 x7_1 (((rd_T40 l0 x7_1).f1) != a1)) = some (r1, r2, r3) := by rw [if_pos rfl] at H; exact H
              clear H
              have H := H1
              clear H1
              have H' := Aside0.mk H
              clear H
              have p117 : 0 ≤ (x7_1 : Int) := of_decide_eq_true (by first | (with_reducible assumption) | assumption)
              have q117 : x7_1 < (l0.length : Int) := of_decide_eq_true (by first | (with_reducible assumption) | assumption)
              obtain ⟨ad117, e117, hx117_0, hx117_1, hx117_2, hx117_3, hx117_4, hx117_5, hx117_6, hx117_7⟩ := at_T40 HR0.out x7_1 p117 q117
              cases e117
              replace hx117_0 := (HB.out.cell (World.block_lt_of_cell? w _ hx117_0)).trans hx117_0
              replace hx117_1 := (HB.out.cell (World.block_lt_of_cell? w _ hx117_1)).trans hx117_1
              replace hx117_2 := (HB.out.cell (World.block_lt_of_cell? w _ hx117_2)).trans hx117_2
              replace hx117_3 := (HB.out.cell (World.block_lt_of_cell? w _ hx117_3)).trans hx117_3
              replace hx117_4 := (HB.out.cell (World.block_lt_of_cell? w _ hx117_4)).trans hx117_4
              replace hx117_5 := (HB.out.cell (World.block_lt_of_cell? w _ hx117_5)).trans hx117_5
              replace hx117_6 := (HB.out.cell (World.block_lt_of_cell? w _ hx117_6)).trans hx117_6
              replace hx117_7 := (HB.out.cell (World.block_lt_of_cell? w _ hx117_7)).trans hx117_7
              replace p117 := eq_true p117
              replace q117 := eq_true q117
              go_wp2_with (first | ((with_reducible refine gate_callee (f := 15) rfl ?_); refine goesL_ (some 21) rfl rfl Try.func15 (by kernel_rfl) rfl #[.int .i64 ((rd_T40 l0 x7_1).f0), .int .u8 100] rfl (by (try simp only [List.map_toArray, List.map_cons, List.map_nil]); first | done | rfl | (simp only [List.length_drop, List.length_take]; rfl)) ?_; (with_reducible refine (selvageref10_Has.calls k1 ((rd_T40 l0 x7_1).f0) 100 true _ A6.out).mono ?_); rintro e w' ⟨rfl, ⟨nd, rfl⟩⟩; refine ⟨_, rfl, ?_⟩; have p119 : 0 ≤ (x7_1 : Int) := of_decide_eq_true (by first | (with_reducible assumption) | assumption); have q119 : x7_1 < (l0.length : Int) := of_decide_eq_true (by first | (with_reducible assumption) | assumption); obtain ⟨ad119, e119, hx119_0, hx119_1, hx119_2, hx119_3, hx119_4, hx119_5, hx119_6, hx119_7⟩ := at_T40 HR0.out x7_1 p119 q119; obtain rfl : ad117 = ad119 := (by injection e119); replace hx119_0 := (HB.out.cell (World.block_lt_of_cell? w _ hx119_0)).trans hx119_0; replace hx119_1 := (HB.out.cell (World.block_lt_of_cell? w _ hx119_1)).trans hx119_1; replace hx119_2 := (HB.out.cell (World.block_lt_of_cell? w _ hx119_2)).trans hx119_2; replace hx119_3 := (HB.out.cell (World.block_lt_of_cell? w _ hx119_3)).trans hx119_3; replace hx119_4 := (HB.out.cell (World.block_lt_of_cell? w _ hx119_4)).trans hx119_4; replace hx119_5 := (HB.out.cell (World.block_lt_of_cell? w _ hx119_5)).trans hx119_5; replace hx119_6 := (HB.out.cell (World.block_lt_of_cell? w _ hx119_6)).trans hx119_6; replace hx119_7 := (HB.out.cell (World.block_lt_of_cell? w _ hx119_7)).trans hx119_7; replace p119 := eq_true p119; replace q119 := eq_true q119))
              go_meet
              case rel => exact ⟨_, ((((rd_T40 l0 x7_1).f1) != a1)), (by first | rfl | (simp; done) | (simp [*]; done)), H', ⟨by have := HK1.out; first | omega | exact Nat.le_refl _⟩, ⟨by repeat (first | (with_reducible first | exact HB.out | apply below_alloc | apply pw_below_drewN | apply below_drew1) | exact HB.out)⟩⟩
            · replace c7 := Bool.eq_false_iff.mpr c7
              subst c7
              have H1 : (selvageref14_Span.j1 k1 l0 a1 x7_1 true) = some (r1, r2, r3) := by rw [if_neg (show ¬ (false = true) by decide)] at H; exact H
              clear H
              have H := H1
              clear H1
              have H' := Aside0.mk H
              clear H
              have p117 : 0 ≤ (x7_1 : Int) := of_decide_eq_true (by first | (with_reducible assumption) | assumption)
              have q117 : x7_1 < (l0.length : Int) := of_decide_eq_true (by first | (with_reducible assumption) | assumption)
              obtain ⟨ad117, e117, hx117_0, hx117_1, hx117_2, hx117_3, hx117_4, hx117_5, hx117_6, hx117_7⟩ := at_T40 HR0.out x7_1 p117 q117
              cases e117
              replace hx117_0 := (HB.out.cell (World.block_lt_of_cell? w _ hx117_0)).trans hx117_0
              replace hx117_1 := (HB.out.cell (World.block_lt_of_cell? w _ hx117_1)).trans hx117_1
              replace hx117_2 := (HB.out.cell (World.block_lt_of_cell? w _ hx117_2)).trans hx117_2
              replace hx117_3 := (HB.out.cell (World.block_lt_of_cell? w _ hx117_3)).trans hx117_3
              replace hx117_4 := (HB.out.cell (World.block_lt_of_cell? w _ hx117_4)).trans hx117_4
              replace hx117_5 := (HB.out.cell (World.block_lt_of_cell? w _ hx117_5)).trans hx117_5
              replace hx117_6 := (HB.out.cell (World.block_lt_of_cell? w _ hx117_6)).trans hx117_6
              replace hx117_7 := (HB.out.cell (World.block_lt_of_cell? w _ hx117_7)).trans hx117_7
              replace p117 := eq_true p117
              replace q117 := eq_true q117
              go_wp2_with (first | ((with_reducible refine gate_callee (f := 15) rfl ?_); refine goesL_ (some 21) rfl rfl Try.func15 (by kernel_rfl) rfl #[.int .i64 ((rd_T40 l0 x7_1).f0), .int .u8 100] rfl (by (try simp only [List.map_toArray, List.map_cons, List.map_nil]); first | done | rfl | (simp only [List.length_drop, List.length_take]; rfl)) ?_; (with_reducible refine (selvageref10_Has.calls k1 ((rd_T40 l0 x7_1).f0) 100 false _ A6.out).mono ?_); rintro e w' ⟨rfl, ⟨nd, rfl⟩⟩; refine ⟨_, rfl, ?_⟩))
              go_meet
              case rel => exact ⟨_, (true), (by first | rfl | (simp; done) | (simp [*]; done)), H', ⟨by have := HK1.out; first | omega | exact Nat.le_refl _⟩, ⟨by repeat (first | (with_reducible first | exact HB.out | apply below_alloc | apply pw_below_drewN | apply below_drew1) | exact HB.out)⟩⟩
          · rw [if_neg c5] at H
            exact absurd H (by simp)
        case rest =>
          clear HC4
          try clear c1
          try clear p1
          try clear q1
          try clear hx1
          try clear p2
          try clear c3
          try clear c3b0
          try clear c5
          try clear c5b0
          try clear c7
          try clear hx117_0
          try clear hx117_1
          try clear hx117_2
          try clear hx117_3
          try clear hx117_4
          try clear hx117_5
          try clear hx117_6
          try clear hx117_7
          try clear hx119_0
          try clear hx119_1
          try clear hx119_2
          try clear hx119_3
          try clear hx119_4
          try clear hx119_5
          try clear hx119_6
          try clear hx119_7
          try clear p117
          try clear p119
          try clear p2
          try clear q117
          try clear q119
          obtain ⟨kq, x31_3, rfl, HA, HJ3, HB⟩ := hcut
          cases kq with
          | zero => exact absurd HA.out (by simp [selvageref14_Span.j1])
          | succ kj3 =>
            have H := HA.out
            clear HA
            simp only [selvageref14_Span.j1] at H
            by_cases c8 : x31_3 = true
            · subst c8
              have H1 : (selvageref14_Span.l0 kj3 l0 a1 (wrap64 (x7_1 + 1))) = some (r1, r2, r3) := by rw [if_pos rfl] at H; exact H
              clear H
              have H := H1
              clear H1
              have H' := Aside0.mk H
              clear H
              go_wp2
              go_roundg kj3
              case measure => have := HK1.out; have := HJ3.out; omega
              case rel => exact ⟨(wrap64 (x7_1 + 1)), (by first | rfl | (simp; done) | (simp [*]; done)), H', ⟨by have := HK1.out; have := HJ3.out; omega⟩, ⟨by repeat (first | (with_reducible first | exact HB.out | apply below_alloc | apply pw_below_drewN | apply below_drew1) | exact HB.out)⟩⟩
            · replace c8 := Bool.eq_false_iff.mpr c8
              subst c8
              have H1 : (selvageref14_Span.l1 kj3 l0 a1 x7_1 x7_1 0) = some (r1, r2, r3) := by rw [if_neg (show ¬ (false = true) by decide)] at H; exact H
              clear H
              have H := H1
              clear H1
              have H' := Aside0.mk H
              clear H
              go_wp2
              go_loopg [8, 9] kj3 (fun kq v8 v9 w' => ∃ (x8_3 : Int) (x9_3 : Int), v8 = .int .i64 x8_3 ∧ v9 = .int .i64 x9_3 ∧ Aside0 (selvageref14_Span.l1 kq l0 a1 x7_1 x8_3 x9_3 = some (r1, r2, r3)) ∧ Aside0 (kq ≤ kj3) ∧ Aside0 (Below w.heap.size w w'))
              case atStart => exact ⟨(x7_1), (0), (by first | rfl | (simp; done) | (simp [*]; done)), (by first | rfl | (simp; done) | (simp [*]; done)), H', ⟨Nat.le_refl _⟩, ⟨by repeat (first | (with_reducible first | exact HB.out | apply below_alloc | apply pw_below_drewN | apply below_drew1) | exact HB.out)⟩⟩
              case round =>
                clear H'
                try clear c1
                try clear p1
                try clear q1
                try clear hx1
                try clear p2
                try clear c3
                try clear c3b0
                try clear c5
                try clear c5b0
                try clear p6
                try clear c7
                try clear c8
                try clear hx117_0
                try clear hx117_1
                try clear hx117_2
                try clear hx117_3
                try clear hx117_4
                try clear hx117_5
                try clear hx117_6
                try clear hx117_7
                try clear hx119_0
                try clear hx119_1
                try clear hx119_2
                try clear hx119_3
                try clear hx119_4
                try clear hx119_5
                try clear hx119_6
                try clear hx119_7
                try clear p1
                try clear p117
                try clear p119
                try clear p2
                try clear q1
                try clear q117
                try clear q119
                obtain ⟨x8_3, x9_3, rfl, rfl, HA, HK3, HB⟩ := hrel
                cases gk with
                | zero => exact absurd HA.out (by simp [selvageref14_Span.l1])
                | succ k3 =>
                  have H := HA.out
                  clear HA
                  simp only [selvageref14_Span.l1] at H
                  by_cases c9 : x9_3 < (l0.length : Int)
                  · rw [if_pos c9] at H
                    have c9b0 : decide (x9_3 < (l0.length : Int)) = true := decide_eq_true c9
                    clear c9
                    by_cases c10 : 0 ≤ x9_3
                    · rw [if_pos c10] at H
                      have c10b0 : decide (0 ≤ x9_3) = true := decide_eq_true c10
                      clear c10
                      replace H := Option.bind_eq_some_iff.mp H
                      obtain ⟨t121, A110, H⟩ := H
                      replace H : (if t121 = true then (if x9_3 > x8_3 then (selvageref14_Span.l1 k3 l0 a1 x7_1 x9_3 (wrap64 (x9_3 + 1))) else (selvageref14_Span.l1 k3 l0 a1 x7_1 x8_3 (wrap64 (x9_3 + 1)))) else (selvageref14_Span.l1 k3 l0 a1 x7_1 x8_3 (wrap64 (x9_3 + 1)))) = some (r1, r2, r3) := H
                      have A11 := Aside0.mk A110
                      clear A110
                      by_cases c12 : t121 = true
                      · subst c12
                        have H1 : (if x9_3 > x8_3 then (selvageref14_Span.l1 k3 l0 a1 x7_1 x9_3 (wrap64 (x9_3 + 1))) else (selvageref14_Span.l1 k3 l0 a1 x7_1 x8_3 (wrap64 (x9_3 + 1)))) = some (r1, r2, r3) := by rw [if_pos rfl] at H; exact H
                        clear H
                        have H := H1
                        clear H1
                        by_cases c13 : x9_3 > x8_3
                        · rw [if_pos c13] at H
                          have c13b0 : decide (x8_3 < x9_3) = true := decide_eq_true c13
                          clear c13
                          have H' := Aside0.mk H
                          clear H
                          have p120 : 0 ≤ (x9_3 : Int) := of_decide_eq_true (by first | (with_reducible assumption) | assumption)
                          have q120 : x9_3 < (l0.length : Int) := of_decide_eq_true (by first | (with_reducible assumption) | assumption)
                          obtain ⟨ad120, e120, hx120_0, hx120_1, hx120_2, hx120_3, hx120_4, hx120_5, hx120_6, hx120_7⟩ := at_T40 HR0.out x9_3 p120 q120
                          cases e120
                          replace hx120_0 := (HB.out.cell (World.block_lt_of_cell? w _ hx120_0)).trans hx120_0
                          replace hx120_1 := (HB.out.cell (World.block_lt_of_cell? w _ hx120_1)).trans hx120_1
                          replace hx120_2 := (HB.out.cell (World.block_lt_of_cell? w _ hx120_2)).trans hx120_2
                          replace hx120_3 := (HB.out.cell (World.block_lt_of_cell? w _ hx120_3)).trans hx120_3
                          replace hx120_4 := (HB.out.cell (World.block_lt_of_cell? w _ hx120_4)).trans hx120_4
                          replace hx120_5 := (HB.out.cell (World.block_lt_of_cell? w _ hx120_5)).trans hx120_5
                          replace hx120_6 := (HB.out.cell (World.block_lt_of_cell? w _ hx120_6)).trans hx120_6
                          replace hx120_7 := (HB.out.cell (World.block_lt_of_cell? w _ hx120_7)).trans hx120_7
                          replace p120 := eq_true p120
                          replace q120 := eq_true q120
                          go_wp2_with (first | ((with_reducible refine gate_callee (f := 14) rfl ?_); refine goesL_ (some 44) rfl rfl Try.func14 (by kernel_rfl) rfl #[.agg #[.int .i64 ((rd_T40 l0 x9_3).f0), .int .i64 ((rd_T40 l0 x9_3).f1), .int .i64 ((rd_T40 l0 x9_3).f2), .int .i64 ((rd_T40 l0 x9_3).f3), .int .i64 ((rd_T40 l0 x9_3).f4), .int .i64 ((rd_T40 l0 x9_3).f5), .int .i64 ((rd_T40 l0 x9_3).f6), .int .i64 ((rd_T40 l0 x9_3).f7)], .int .i64 a1] rfl (by (try simp only [List.map_toArray, List.map_cons, List.map_nil]); first | done | rfl | (simp only [List.length_drop, List.length_take]; rfl)) ?_; (with_reducible refine (selvageref14_Uses.calls k3 ((rd_T40 l0 x9_3).f0) ((rd_T40 l0 x9_3).f1) ((rd_T40 l0 x9_3).f2) ((rd_T40 l0 x9_3).f3) ((rd_T40 l0 x9_3).f4) ((rd_T40 l0 x9_3).f5) ((rd_T40 l0 x9_3).f6) ((rd_T40 l0 x9_3).f7) a1 true _ A11.out).mono ?_); rintro e w14 ⟨rfl, hb⟩; refine ⟨_, rfl, ?_⟩; have n0_ := Aside0.mk (below_step (by repeat (first | (with_reducible first | exact HB.out | apply below_alloc | apply pw_below_drewN | apply below_drew1) | exact HB.out)) hb); clear HB; have HB := n0_; clear n0_; (try clear hb); (try clear hb2); (try clear hk); (try clear hi)))
                          go_roundg k3
                          case measure => have := HK1.out; have := HJ3.out; have := HK3.out; omega
                          case rel => exact ⟨(x9_3), (wrap64 (x9_3 + 1)), (by first | rfl | (simp; done) | (simp [*]; done)), (by first | rfl | (simp; done) | (simp [*]; done)), H', ⟨by have := HK1.out; have := HJ3.out; have := HK3.out; omega⟩, ⟨by repeat (first | (with_reducible first | exact HB.out | apply below_alloc | apply pw_below_drewN | apply below_drew1) | exact HB.out)⟩⟩
                        · rw [if_neg c13] at H
                          have c13b0 : decide (x8_3 < x9_3) = false := decide_eq_false c13
                          clear c13
                          have H' := Aside0.mk H
                          clear H
                          have p120 : 0 ≤ (x9_3 : Int) := of_decide_eq_true (by first | (with_reducible assumption) | assumption)
                          have q120 : x9_3 < (l0.length : Int) := of_decide_eq_true (by first | (with_reducible assumption) | assumption)
                          obtain ⟨ad120, e120, hx120_0, hx120_1, hx120_2, hx120_3, hx120_4, hx120_5, hx120_6, hx120_7⟩ := at_T40 HR0.out x9_3 p120 q120
                          cases e120
                          replace hx120_0 := (HB.out.cell (World.block_lt_of_cell? w _ hx120_0)).trans hx120_0
                          replace hx120_1 := (HB.out.cell (World.block_lt_of_cell? w _ hx120_1)).trans hx120_1
                          replace hx120_2 := (HB.out.cell (World.block_lt_of_cell? w _ hx120_2)).trans hx120_2
                          replace hx120_3 := (HB.out.cell (World.block_lt_of_cell? w _ hx120_3)).trans hx120_3
                          replace hx120_4 := (HB.out.cell (World.block_lt_of_cell? w _ hx120_4)).trans hx120_4
                          replace hx120_5 := (HB.out.cell (World.block_lt_of_cell? w _ hx120_5)).trans hx120_5
                          replace hx120_6 := (HB.out.cell (World.block_lt_of_cell? w _ hx120_6)).trans hx120_6
                          replace hx120_7 := (HB.out.cell (World.block_lt_of_cell? w _ hx120_7)).trans hx120_7
                          replace p120 := eq_true p120
                          replace q120 := eq_true q120
                          go_wp2_with (first | ((with_reducible refine gate_callee (f := 14) rfl ?_); refine goesL_ (some 44) rfl rfl Try.func14 (by kernel_rfl) rfl #[.agg #[.int .i64 ((rd_T40 l0 x9_3).f0), .int .i64 ((rd_T40 l0 x9_3).f1), .int .i64 ((rd_T40 l0 x9_3).f2), .int .i64 ((rd_T40 l0 x9_3).f3), .int .i64 ((rd_T40 l0 x9_3).f4), .int .i64 ((rd_T40 l0 x9_3).f5), .int .i64 ((rd_T40 l0 x9_3).f6), .int .i64 ((rd_T40 l0 x9_3).f7)], .int .i64 a1] rfl (by (try simp only [List.map_toArray, List.map_cons, List.map_nil]); first | done | rfl | (simp only [List.length_drop, List.length_take]; rfl)) ?_; (with_reducible refine (selvageref14_Uses.calls k3 ((rd_T40 l0 x9_3).f0) ((rd_T40 l0 x9_3).f1) ((rd_T40 l0 x9_3).f2) ((rd_T40 l0 x9_3).f3) ((rd_T40 l0 x9_3).f4) ((rd_T40 l0 x9_3).f5) ((rd_T40 l0 x9_3).f6) ((rd_T40 l0 x9_3).f7) a1 true _ A11.out).mono ?_); rintro e w15 ⟨rfl, hb⟩; refine ⟨_, rfl, ?_⟩; have n0_ := Aside0.mk (below_step (by repeat (first | (with_reducible first | exact HB.out | apply below_alloc | apply pw_below_drewN | apply below_drew1) | exact HB.out)) hb); clear HB; have HB := n0_; clear n0_; (try clear hb); (try clear hb2); (try clear hk); (try clear hi)))
                          go_roundg k3
                          case measure => have := HK1.out; have := HJ3.out; have := HK3.out; omega
                          case rel => exact ⟨(x8_3), (wrap64 (x9_3 + 1)), (by first | rfl | (simp; done) | (simp [*]; done)), (by first | rfl | (simp; done) | (simp [*]; done)), H', ⟨by have := HK1.out; have := HJ3.out; have := HK3.out; omega⟩, ⟨by repeat (first | (with_reducible first | exact HB.out | apply below_alloc | apply pw_below_drewN | apply below_drew1) | exact HB.out)⟩⟩
                      · replace c12 := Bool.eq_false_iff.mpr c12
                        subst c12
                        have H1 : (selvageref14_Span.l1 k3 l0 a1 x7_1 x8_3 (wrap64 (x9_3 + 1))) = some (r1, r2, r3) := by rw [if_neg (show ¬ (false = true) by decide)] at H; exact H
                        clear H
                        have H := H1
                        clear H1
                        have H' := Aside0.mk H
                        clear H
                        have p120 : 0 ≤ (x9_3 : Int) := of_decide_eq_true (by first | (with_reducible assumption) | assumption)
                        have q120 : x9_3 < (l0.length : Int) := of_decide_eq_true (by first | (with_reducible assumption) | assumption)
                        obtain ⟨ad120, e120, hx120_0, hx120_1, hx120_2, hx120_3, hx120_4, hx120_5, hx120_6, hx120_7⟩ := at_T40 HR0.out x9_3 p120 q120
                        cases e120
                        replace hx120_0 := (HB.out.cell (World.block_lt_of_cell? w _ hx120_0)).trans hx120_0
                        replace hx120_1 := (HB.out.cell (World.block_lt_of_cell? w _ hx120_1)).trans hx120_1
                        replace hx120_2 := (HB.out.cell (World.block_lt_of_cell? w _ hx120_2)).trans hx120_2
                        replace hx120_3 := (HB.out.cell (World.block_lt_of_cell? w _ hx120_3)).trans hx120_3
                        replace hx120_4 := (HB.out.cell (World.block_lt_of_cell? w _ hx120_4)).trans hx120_4
                        replace hx120_5 := (HB.out.cell (World.block_lt_of_cell? w _ hx120_5)).trans hx120_5
                        replace hx120_6 := (HB.out.cell (World.block_lt_of_cell? w _ hx120_6)).trans hx120_6
                        replace hx120_7 := (HB.out.cell (World.block_lt_of_cell? w _ hx120_7)).trans hx120_7
                        replace p120 := eq_true p120
                        replace q120 := eq_true q120
                        go_wp2_with (first | ((with_reducible refine gate_callee (f := 14) rfl ?_); refine goesL_ (some 44) rfl rfl Try.func14 (by kernel_rfl) rfl #[.agg #[.int .i64 ((rd_T40 l0 x9_3).f0), .int .i64 ((rd_T40 l0 x9_3).f1), .int .i64 ((rd_T40 l0 x9_3).f2), .int .i64 ((rd_T40 l0 x9_3).f3), .int .i64 ((rd_T40 l0 x9_3).f4), .int .i64 ((rd_T40 l0 x9_3).f5), .int .i64 ((rd_T40 l0 x9_3).f6), .int .i64 ((rd_T40 l0 x9_3).f7)], .int .i64 a1] rfl (by (try simp only [List.map_toArray, List.map_cons, List.map_nil]); first | done | rfl | (simp only [List.length_drop, List.length_take]; rfl)) ?_; (with_reducible refine (selvageref14_Uses.calls k3 ((rd_T40 l0 x9_3).f0) ((rd_T40 l0 x9_3).f1) ((rd_T40 l0 x9_3).f2) ((rd_T40 l0 x9_3).f3) ((rd_T40 l0 x9_3).f4) ((rd_T40 l0 x9_3).f5) ((rd_T40 l0 x9_3).f6) ((rd_T40 l0 x9_3).f7) a1 false _ A11.out).mono ?_); rintro e w16 ⟨rfl, hb⟩; refine ⟨_, rfl, ?_⟩; have n0_ := Aside0.mk (below_step (by repeat (first | (with_reducible first | exact HB.out | apply below_alloc | apply pw_below_drewN | apply below_drew1) | exact HB.out)) hb); clear HB; have HB := n0_; clear n0_; (try clear hb); (try clear hb2); (try clear hk); (try clear hi)))
                        go_roundg k3
                        case measure => have := HK1.out; have := HJ3.out; have := HK3.out; omega
                        case rel => exact ⟨(x8_3), (wrap64 (x9_3 + 1)), (by first | rfl | (simp; done) | (simp [*]; done)), (by first | rfl | (simp; done) | (simp [*]; done)), H', ⟨by have := HK1.out; have := HJ3.out; have := HK3.out; omega⟩, ⟨by repeat (first | (with_reducible first | exact HB.out | apply below_alloc | apply pw_below_drewN | apply below_drew1) | exact HB.out)⟩⟩
                    · rw [if_neg c10] at H
                      exact absurd H (by simp)
                  · rw [if_neg c9] at H
                    have c9b0 : decide (x9_3 < (l0.length : Int)) = false := decide_eq_false c9
                    clear c9
                    simp only [Option.some.injEq, Prod.mk.injEq] at H
                    obtain ⟨rfl, rfl, rfl⟩ := H
                    go_wp2
                    go_ret3
                    exact ⟨by first | rfl | (simp [errW_none, errW_some] <;> rfl) | (simp [*, errW_none, errW_some] <;> rfl), by repeat (first | (with_reducible first | exact HB.out | apply below_alloc | apply pw_below_drewN | apply below_drew1) | exact HB.out)⟩
      · rw [if_neg c3] at H
        have c3b0 : decide (x7_1 < (l0.length : Int)) = false := decide_eq_false c3
        clear c3
        simp only [Option.some.injEq, Prod.mk.injEq] at H
        obtain ⟨rfl, rfl, rfl⟩ := H
        go_wp2
        go_ret3
        exact ⟨by first | rfl | (simp [errW_none, errW_some] <;> rfl) | (simp [*, errW_none, errW_some] <;> rfl), by repeat (first | (with_reducible first | exact HB.out | apply below_alloc | apply pw_below_drewN | apply below_drew1) | exact HB.out)⟩

/-! ### selvageref14_Same: function 12 -/
def selvageref14_Same.l0 : Nat → List (S36) → List (S36) → Int → Option (Bool)
  | 0, _, _, _ => none
  | k + 1, x0, x1, x5 => if x5 < (x0.length : Int) then (if 0 ≤ x5 then (if x5 < (x1.length : Int) then (if (!(((rd_T36 x0 x5).f0) == ((rd_T36 x1 x5).f0)) || (!(((rd_T36 x0 x5).f1) == ((rd_T36 x1 x5).f1)))) = true then (some false) else (selvageref14_Same.l0 k x0 x1 (wrap64 (x5 + 1)))) else (none)) else (none)) else (some true)
def selvageref14_Same.f (k : Nat) (l0 : List (S36)) (l1 : List (S36)) : Option (Bool) := if (l0.length : Int) = (l1.length : Int) then (selvageref14_Same.l0 k l0 l1 0) else (some false)
theorem selvageref14_Same.mono_l : ∀ k, (∀ y0 y1 y2, LeO (selvageref14_Same.l0 k y0 y1 y2) (selvageref14_Same.l0 (k + 1) y0 y1 y2))
  | 0 => fun _ _ _ r h => by simp [selvageref14_Same.l0] at h
  | k + 1 => by
    have ih0 := selvageref14_Same.mono_l k
    · intro y0 y1 y2
      unfold selvageref14_Same.l0
      repeat' first
      | (with_reducible exact ih0 _ _ _)
      | (with_reducible exact LeO.refl _)
      | (with_reducible exact LeO.none _)
      | (with_reducible refine LeO.ite ?_ ?_)
      | (with_reducible refine LeO.bind ?_ (fun _ => ?_))
      | exact ih0 _ _ _
      | exact LeO.none _
      | refine LeO.ite ?_ ?_
      | refine LeO.bind ?_ (fun _ => ?_)
theorem selvageref14_Same.mono : ∀ a0 a1 k, LeO (selvageref14_Same.f k a0 a1) (selvageref14_Same.f (k + 1) a0 a1) := by
  intro a0 a1 k
  have ih0 := selvageref14_Same.mono_l k
  unfold selvageref14_Same.f
  repeat' first
      | (with_reducible exact ih0 _ _ _)
      | (with_reducible exact LeO.refl _)
      | (with_reducible exact LeO.none _)
      | (with_reducible refine LeO.ite ?_ ?_)
      | (with_reducible refine LeO.bind ?_ (fun _ => ?_))
      | exact ih0 _ _ _
      | exact LeO.none _
      | refine LeO.ite ?_ ?_
      | refine LeO.bind ?_ (fun _ => ?_)
set_option maxHeartbeats 8000000 in
set_option maxRecDepth 100000 in
theorem selvageref14_Same.calls (k : Nat) (A0 : Option Addr) (c0 : Nat) (l0 : List (S36)) (A1 : Option Addr) (c1 : Nat) (l1 : List (S36)) (r : Bool) (w : World) (hr0 : Kd.C k36 w A0 l0.length l0) (hc0 : l0.length ≤ c0) (hr1 : Kd.C k36 w A1 l1.length l1) (hc1 : l1.length ≤ c1) (h : selvageref14_Same.f k l0 l1 = some r) :
    Calls Try.prog 12 #[.slice A0 l0.length c0, .slice A1 l1.length c1] w fun e w' => e = .returned (.bool r) ∧ Drawn0 w w' := by
  have hu36 := Try.underlying36
  have HR0 := Aside0.mk hr0
  have HC0 := Aside0.mk hc0
  clear hr0 hc0
  have HR1 := Aside0.mk hr1
  have HC1 := Aside0.mk hc1
  clear hr1 hc1
  have H : (if (l0.length : Int) = (l1.length : Int) then (selvageref14_Same.l0 k l0 l1 0) else (some false)) = some r := h
  clear h
  by_cases c3 : (l0.length : Int) = (l1.length : Int)
  · rw [if_pos c3] at H
    have c3b0 : ((l0.length : Int) == (l1.length : Int)) = true := beq_iff_eq.mpr c3
    have c3b1 : ((l0.length : Int) != (l1.length : Int)) = false := bne_eq_false_iff_eq.mpr c3
    have c3b2 : (l0.length == l1.length) = true := by first | simpa using c3 | (simp at c3 ⊢; omega)
    clear c3
    have H' := Aside0.mk H
    clear H
    go_enter Try.func12, Try.ntmps12
    go_wp2
    repeat (go_quiet (fail); try go_wp2)
    go_loopg [5] k (fun kq v5 w' => ∃ (x5_1 : Int), v5 = .int .i64 x5_1 ∧ Aside0 (selvageref14_Same.l0 kq l0 l1 x5_1 = some r) ∧ Aside0 (kq ≤ k) ∧ Drawn0 w w')
    case atStart => exact ⟨(0), (by first | rfl | (simp; done) | (simp [*]; done)), H', ⟨Nat.le_refl _⟩, by repeat (first | exact Drawn0.refl _ | apply Drawn0.step)⟩
    case round =>
      clear H'
      try clear c1
      try clear p2
      try clear c3
      try clear c3b0
      try clear c3b1
      try clear c3b2
      obtain ⟨x5_1, rfl, HA, HK1, ⟨m1, rfl⟩⟩ := hrel
      cases gk with
      | zero => exact absurd HA.out (by simp [selvageref14_Same.l0])
      | succ k1 =>
        have H := HA.out
        clear HA
        simp only [selvageref14_Same.l0] at H
        by_cases c4 : x5_1 < (l0.length : Int)
        · rw [if_pos c4] at H
          have c4b0 : decide (x5_1 < (l0.length : Int)) = true := decide_eq_true c4
          clear c4
          by_cases c5 : 0 ≤ x5_1
          · rw [if_pos c5] at H
            have c5b0 : decide (0 ≤ x5_1) = true := decide_eq_true c5
            clear c5
            by_cases c6 : x5_1 < (l1.length : Int)
            · rw [if_pos c6] at H
              have c6b0 : decide (x5_1 < (l1.length : Int)) = true := decide_eq_true c6
              clear c6
              by_cases c7 : (!(((rd_T36 l0 x5_1).f0) == ((rd_T36 l1 x5_1).f0)) || (!(((rd_T36 l0 x5_1).f1) == ((rd_T36 l1 x5_1).f1)))) = true
              · rw [if_pos c7] at H
                have c7b0 : (!(((rd_T36 l0 x5_1).f0) == ((rd_T36 l1 x5_1).f0)) || (!(((rd_T36 l0 x5_1).f1) == ((rd_T36 l1 x5_1).f1)))) = true := c7
                clear c7
                obtain rfl := Option.some.inj H
                have p122 : 0 ≤ (x5_1 : Int) := of_decide_eq_true (by first | (with_reducible assumption) | assumption)
                have q122 : x5_1 < (l0.length : Int) := of_decide_eq_true (by first | (with_reducible assumption) | assumption)
                obtain ⟨ad122, e122, hx122_0, hx122_1⟩ := at_T36 HR0.out x5_1 p122 q122
                cases e122
                replace p122 := eq_true p122
                replace q122 := eq_true q122
                have p123 : 0 ≤ (x5_1 : Int) := of_decide_eq_true (by first | (with_reducible assumption) | assumption)
                have q123 : x5_1 < (l1.length : Int) := of_decide_eq_true (by first | (with_reducible assumption) | assumption)
                obtain ⟨ad123, e123, hx123_0, hx123_1⟩ := at_T36 HR1.out x5_1 p123 q123
                cases e123
                replace p123 := eq_true p123
                replace q123 := eq_true q123
                go_wp2
                repeat (go_quiet (fail); try go_wp2)
                go_ret
                exact ⟨by first | rfl | (simp; done) | (simp [*]; done), by repeat (first | exact Drawn0.refl _ | apply Drawn0.step)⟩
              · rw [if_neg c7] at H
                have c7b0 : (!(((rd_T36 l0 x5_1).f0) == ((rd_T36 l1 x5_1).f0)) || (!(((rd_T36 l0 x5_1).f1) == ((rd_T36 l1 x5_1).f1)))) = false := by simpa using c7
                clear c7
                have H' := Aside0.mk H
                clear H
                have p122 : 0 ≤ (x5_1 : Int) := of_decide_eq_true (by first | (with_reducible assumption) | assumption)
                have q122 : x5_1 < (l0.length : Int) := of_decide_eq_true (by first | (with_reducible assumption) | assumption)
                obtain ⟨ad122, e122, hx122_0, hx122_1⟩ := at_T36 HR0.out x5_1 p122 q122
                cases e122
                replace p122 := eq_true p122
                replace q122 := eq_true q122
                have p123 : 0 ≤ (x5_1 : Int) := of_decide_eq_true (by first | (with_reducible assumption) | assumption)
                have q123 : x5_1 < (l1.length : Int) := of_decide_eq_true (by first | (with_reducible assumption) | assumption)
                obtain ⟨ad123, e123, hx123_0, hx123_1⟩ := at_T36 HR1.out x5_1 p123 q123
                cases e123
                replace p123 := eq_true p123
                replace q123 := eq_true q123
                go_wp2
                repeat (go_quiet (fail); try go_wp2)
                go_roundg k1
                case measure => have := HK1.out; omega
                case rel => exact ⟨(wrap64 (x5_1 + 1)), (by first | rfl | (simp; done) | (simp [*]; done)), H', ⟨by have := HK1.out; omega⟩, by repeat (first | exact Drawn0.refl _ | apply Drawn0.step)⟩
            · rw [if_neg c6] at H
              exact absurd H (by simp)
          · rw [if_neg c5] at H
            exact absurd H (by simp)
        · rw [if_neg c4] at H
          have c4b0 : decide (x5_1 < (l0.length : Int)) = false := decide_eq_false c4
          clear c4
          obtain rfl := Option.some.inj H
          go_wp2
          repeat (go_quiet (fail); try go_wp2)
          go_ret
          exact ⟨by first | rfl | (simp; done) | (simp [*]; done), by repeat (first | exact Drawn0.refl _ | apply Drawn0.step)⟩
  · rw [if_neg c3] at H
    have c3b0 : ((l0.length : Int) == (l1.length : Int)) = false := beq_eq_false_iff_ne.mpr c3
    have c3b1 : ((l0.length : Int) != (l1.length : Int)) = true := bne_iff_ne.mpr c3
    have c3b2 : (l0.length == l1.length) = false := by first | simpa using c3 | (simp at c3 ⊢; omega)
    obtain rfl := Option.some.inj H
    go_enter Try.func12, Try.ntmps12
    go_wp2
    repeat (go_quiet (fail); try go_wp2)
    go_ret
    exact ⟨by first | rfl | (simp; done) | (simp [*]; done), by repeat (first | exact Drawn0.refl _ | apply Drawn0.step)⟩

end Go.Proofs.Ytgljbgmphelhbaa.Q
