/- Written for this claim by a program: functions, their contracts and rows. -/
import Derived.Test.YtgljbgmphelhbaaQ0
import Derived.Test.YtgljbgmphelhbaaQ8
import Derived.Test.YtgljbgmphelhbaaHomesAll
namespace Go.Proofs.Ytgljbgmphelhbaa.Q
open Go.RowKit Go.Proofs.YtgljbgmphelhbaaW.PrintWords Go.Proofs.YtgljbgmphelhbaaW.PrintLast Go.Proofs.YtgljbgmphelhbaaW.PrintMore
attribute [local go_sem] max2_int min2_int max_two min_two max_three min_three max_four min_four   -- for this text's walks alone
set_option linter.unusedVariables false
set_option linter.unusedSimpArgs false

/-! ### selvagelaw14_AllocEnough: function 6 -/
mutual
def selvagelaw14_AllocEnough.j0 : Nat → List (S40) → List (S83) → Int → Bool → Option (Bool)
  | 0, _, _, _, _ => none
  | k + 1, x0, x1, x2, x36 => if x36 = true then (some true) else ((alloc_Homes.f x0 x1 x2).bind fun bt243 => (if bt243.2 = 0 then (selvagelaw14_AllocEnough.l0 k x0 x2 bt243.1 0) else (some true)))
def selvagelaw14_AllocEnough.l0 : Nat → List (S40) → Int → List (S36) → Int → Option (Bool)
  | 0, _, _, _, _ => none
  | k + 1, x0, x2, x7, x9 => if x9 < (x0.length : Int) then (selvagelaw14_AllocEnough.l1 k x0 x2 x7 x9 0 0) else (selvagelaw14_AllocEnough.l2 k x0 x7 0)
def selvagelaw14_AllocEnough.l1 : Nat → List (S40) → Int → List (S36) → Int → Int → Int → Option (Bool)
  | 0, _, _, _, _, _, _ => none
  | k + 1, x0, x2, x7, x9, x10, x11 => if x11 < (x7.length : Int) then ((alloc_Span.f x0 x11).bind fun bt247 => (if bt247.2.2 = true then (if bt247.1 ≤ x9 then (if x9 ≤ bt247.2.1 then (selvagelaw14_AllocEnough.l1 k x0 x2 x7 x9 (wrap64 (x10 + 1)) (wrap64 (x11 + 1))) else (selvagelaw14_AllocEnough.l1 k x0 x2 x7 x9 x10 (wrap64 (x11 + 1)))) else (selvagelaw14_AllocEnough.l1 k x0 x2 x7 x9 x10 (wrap64 (x11 + 1)))) else (selvagelaw14_AllocEnough.l1 k x0 x2 x7 x9 x10 (wrap64 (x11 + 1))))) else (if x10 > x2 then (some true) else (selvagelaw14_AllocEnough.l0 k x0 x2 x7 (wrap64 (x9 + 1))))
def selvagelaw14_AllocEnough.l2 : Nat → List (S40) → List (S36) → Int → Option (Bool)
  | 0, _, _, _ => none
  | k + 1, x0, x7, x15 => if x15 < (x7.length : Int) then ((alloc_Span.f x0 x15).bind fun bt250 => (if bt250.2.2 = true then (if 0 ≤ x15 then (if ((rd_T36 x7 x15).f0) < 0 then (some false) else (selvagelaw14_AllocEnough.l2 k x0 x7 (wrap64 (x15 + 1)))) else (none)) else (selvagelaw14_AllocEnough.l2 k x0 x7 (wrap64 (x15 + 1))))) else (some true)
end
def selvagelaw14_AllocEnough.f (k : Nat) (l0 : List (S40)) (l1 : List (S83)) (a2 : Int) : Option (Bool) := (selvagelaw14_awake.f k).bind fun t242 => (if t242 = true then (if (l0.length : Int) > 120 then (selvagelaw14_AllocEnough.j0 k l0 l1 a2 true) else (if (l1.length : Int) > 16 then (selvagelaw14_AllocEnough.j0 k l0 l1 a2 true) else (if a2 < 1 then (selvagelaw14_AllocEnough.j0 k l0 l1 a2 true) else (selvagelaw14_AllocEnough.j0 k l0 l1 a2 (decide (a2 > 8)))))) else (some false))
theorem selvagelaw14_AllocEnough.mono_l : ∀ k, (∀ y0 y1 y2 y3, LeO (selvagelaw14_AllocEnough.j0 k y0 y1 y2 y3) (selvagelaw14_AllocEnough.j0 (k + 1) y0 y1 y2 y3)) ∧ (∀ y0 y1 y2 y3, LeO (selvagelaw14_AllocEnough.l0 k y0 y1 y2 y3) (selvagelaw14_AllocEnough.l0 (k + 1) y0 y1 y2 y3)) ∧ (∀ y0 y1 y2 y3 y4 y5, LeO (selvagelaw14_AllocEnough.l1 k y0 y1 y2 y3 y4 y5) (selvagelaw14_AllocEnough.l1 (k + 1) y0 y1 y2 y3 y4 y5)) ∧ (∀ y0 y1 y2, LeO (selvagelaw14_AllocEnough.l2 k y0 y1 y2) (selvagelaw14_AllocEnough.l2 (k + 1) y0 y1 y2))
  | 0 => ⟨fun _ _ _ _ r h => by simp [selvagelaw14_AllocEnough.j0] at h, fun _ _ _ _ r h => by simp [selvagelaw14_AllocEnough.l0] at h, fun _ _ _ _ _ _ r h => by simp [selvagelaw14_AllocEnough.l1] at h, fun _ _ _ r h => by simp [selvagelaw14_AllocEnough.l2] at h⟩
  | k + 1 => by
    obtain ⟨ih0, ih1, ih2, ih3⟩ := selvagelaw14_AllocEnough.mono_l k
    refine ⟨?_, ?_, ?_, ?_⟩
    · intro y0 y1 y2 y3
      unfold selvagelaw14_AllocEnough.j0
      repeat' first
      | (with_reducible exact ih0 _ _ _ _)
      | (with_reducible exact ih1 _ _ _ _)
      | (with_reducible exact ih2 _ _ _ _ _ _)
      | (with_reducible exact ih3 _ _ _)
      | (with_reducible exact selvagelaw14_awake.mono _)
      | (with_reducible exact LeO.refl _)
      | (with_reducible exact LeO.none _)
      | (with_reducible refine LeO.ite ?_ ?_)
      | (with_reducible refine LeO.bind ?_ (fun _ => ?_))
      | exact ih0 _ _ _ _
      | exact ih1 _ _ _ _
      | exact ih2 _ _ _ _ _ _
      | exact ih3 _ _ _
      | exact selvagelaw14_awake.mono _
      | exact LeO.none _
      | refine LeO.ite ?_ ?_
      | refine LeO.bind ?_ (fun _ => ?_)
    · intro y0 y1 y2 y3
      unfold selvagelaw14_AllocEnough.l0
      repeat' first
      | (with_reducible exact ih0 _ _ _ _)
      | (with_reducible exact ih1 _ _ _ _)
      | (with_reducible exact ih2 _ _ _ _ _ _)
      | (with_reducible exact ih3 _ _ _)
      | (with_reducible exact selvagelaw14_awake.mono _)
      | (with_reducible exact LeO.refl _)
      | (with_reducible exact LeO.none _)
      | (with_reducible refine LeO.ite ?_ ?_)
      | (with_reducible refine LeO.bind ?_ (fun _ => ?_))
      | exact ih0 _ _ _ _
      | exact ih1 _ _ _ _
      | exact ih2 _ _ _ _ _ _
      | exact ih3 _ _ _
      | exact selvagelaw14_awake.mono _
      | exact LeO.none _
      | refine LeO.ite ?_ ?_
      | refine LeO.bind ?_ (fun _ => ?_)
    · intro y0 y1 y2 y3 y4 y5
      unfold selvagelaw14_AllocEnough.l1
      repeat' first
      | (with_reducible exact ih0 _ _ _ _)
      | (with_reducible exact ih1 _ _ _ _)
      | (with_reducible exact ih2 _ _ _ _ _ _)
      | (with_reducible exact ih3 _ _ _)
      | (with_reducible exact selvagelaw14_awake.mono _)
      | (with_reducible exact LeO.refl _)
      | (with_reducible exact LeO.none _)
      | (with_reducible refine LeO.ite ?_ ?_)
      | (with_reducible refine LeO.bind ?_ (fun _ => ?_))
      | exact ih0 _ _ _ _
      | exact ih1 _ _ _ _
      | exact ih2 _ _ _ _ _ _
      | exact ih3 _ _ _
      | exact selvagelaw14_awake.mono _
      | exact LeO.none _
      | refine LeO.ite ?_ ?_
      | refine LeO.bind ?_ (fun _ => ?_)
    · intro y0 y1 y2
      unfold selvagelaw14_AllocEnough.l2
      repeat' first
      | (with_reducible exact ih0 _ _ _ _)
      | (with_reducible exact ih1 _ _ _ _)
      | (with_reducible exact ih2 _ _ _ _ _ _)
      | (with_reducible exact ih3 _ _ _)
      | (with_reducible exact selvagelaw14_awake.mono _)
      | (with_reducible exact LeO.refl _)
      | (with_reducible exact LeO.none _)
      | (with_reducible refine LeO.ite ?_ ?_)
      | (with_reducible refine LeO.bind ?_ (fun _ => ?_))
      | exact ih0 _ _ _ _
      | exact ih1 _ _ _ _
      | exact ih2 _ _ _ _ _ _
      | exact ih3 _ _ _
      | exact selvagelaw14_awake.mono _
      | exact LeO.none _
      | refine LeO.ite ?_ ?_
      | refine LeO.bind ?_ (fun _ => ?_)
theorem selvagelaw14_AllocEnough.mono : ∀ a0 a1 a2 k, LeO (selvagelaw14_AllocEnough.f k a0 a1 a2) (selvagelaw14_AllocEnough.f (k + 1) a0 a1 a2) := by
  intro a0 a1 a2 k
  obtain ⟨ih0, ih1, ih2, ih3⟩ := selvagelaw14_AllocEnough.mono_l k
  unfold selvagelaw14_AllocEnough.f
  repeat' first
      | (with_reducible exact ih0 _ _ _ _)
      | (with_reducible exact ih1 _ _ _ _)
      | (with_reducible exact ih2 _ _ _ _ _ _)
      | (with_reducible exact ih3 _ _ _)
      | (with_reducible exact selvagelaw14_awake.mono _)
      | (with_reducible exact LeO.refl _)
      | (with_reducible exact LeO.none _)
      | (with_reducible refine LeO.ite ?_ ?_)
      | (with_reducible refine LeO.bind ?_ (fun _ => ?_))
      | exact ih0 _ _ _ _
      | exact ih1 _ _ _ _
      | exact ih2 _ _ _ _ _ _
      | exact ih3 _ _ _
      | exact selvagelaw14_awake.mono _
      | exact LeO.none _
      | refine LeO.ite ?_ ?_
      | refine LeO.bind ?_ (fun _ => ?_)
set_option maxHeartbeats 8000000 in
set_option maxRecDepth 100000 in
theorem selvagelaw14_AllocEnough.calls (k : Nat) (A0 : Option Addr) (c0 : Nat) (l0 : List (S40)) (A1 : Option Addr) (c1 : Nat) (l1 : List (S83)) (a2 : Int) (r : Bool) (w : World) (hr0 : Kd.C k40 w A0 l0.length l0) (hc0 : l0.length ≤ c0) (hr1 : Kd.C k83 w A1 l1.length l1) (hc1 : l1.length ≤ c1) (h : selvagelaw14_AllocEnough.f k l0 l1 a2 = some r) :
    Calls Try.prog 6 #[.slice A0 l0.length c0, .slice A1 l1.length c1, .int .i64 a2] w fun e w' => e = .returned (.bool r) ∧ Below w.heap.size w w' := by
  have HR0 := Aside0.mk hr0
  have HC0 := Aside0.mk hc0
  clear hr0 hc0
  have HR1 := Aside0.mk hr1
  have HC1 := Aside0.mk hc1
  clear hr1 hc1
  have HB := Aside0.mk (Below.refl w.heap.size w)
  have H : ((selvagelaw14_awake.f k).bind fun t242 => (if t242 = true then (if (l0.length : Int) > 120 then (selvagelaw14_AllocEnough.j0 k l0 l1 a2 true) else (if (l1.length : Int) > 16 then (selvagelaw14_AllocEnough.j0 k l0 l1 a2 true) else (if a2 < 1 then (selvagelaw14_AllocEnough.j0 k l0 l1 a2 true) else (selvagelaw14_AllocEnough.j0 k l0 l1 a2 (decide (a2 > 8)))))) else (some false))) = some r := h
  clear h
  replace H := Option.bind_eq_some_iff.mp H
  obtain ⟨t242, A40, H⟩ := H
  replace H : (if t242 = true then (if (l0.length : Int) > 120 then (selvagelaw14_AllocEnough.j0 k l0 l1 a2 true) else (if (l1.length : Int) > 16 then (selvagelaw14_AllocEnough.j0 k l0 l1 a2 true) else (if a2 < 1 then (selvagelaw14_AllocEnough.j0 k l0 l1 a2 true) else (selvagelaw14_AllocEnough.j0 k l0 l1 a2 (decide (a2 > 8)))))) else (some false)) = some r := H
  have A4 := Aside0.mk A40
  clear A40
  by_cases c5 : t242 = true
  · subst c5
    have H1 : (if (l0.length : Int) > 120 then (selvagelaw14_AllocEnough.j0 k l0 l1 a2 true) else (if (l1.length : Int) > 16 then (selvagelaw14_AllocEnough.j0 k l0 l1 a2 true) else (if a2 < 1 then (selvagelaw14_AllocEnough.j0 k l0 l1 a2 true) else (selvagelaw14_AllocEnough.j0 k l0 l1 a2 (decide (a2 > 8)))))) = some r := by rw [if_pos rfl] at H; exact H
    clear H
    have H := H1
    clear H1
    have HC6 := Aside0.mk H
    clear H
    go_enter Try.func6, Try.ntmps6
    go_upto_region 3 with (first | ((with_reducible refine gate_callee (f := 7) rfl ?_); refine goesL_ (some 19) rfl rfl Try.func7 (by kernel_rfl) rfl #[] rfl (by (try simp only [List.map_toArray, List.map_cons, List.map_nil]); first | done | rfl | (simp only [List.length_drop, List.length_take]; rfl)) ?_; (with_reducible refine (selvagelaw14_awake.calls k  true _ A4.out).mono ?_); rintro e w7 ⟨rfl, hb⟩; refine ⟨_, rfl, ?_⟩; have n0_ := Aside0.mk (below_step (by repeat (first | (with_reducible first | exact HB.out | apply below_alloc | apply pw_below_drewN | apply below_drew1) | exact HB.out)) hb); clear HB; have HB := n0_; clear n0_; (try clear hb); (try clear hb2); (try clear hk); (try clear hi)))
    (try simp only [Act.put, List.setIfInBounds_toArray, List.set_cons_zero, List.set_cons_succ])
    go_cut [36] (fun v36 wc => ∃ (kq : Nat) (x36_5 : Bool), v36 = .bool x36_5 ∧ Aside0 (selvagelaw14_AllocEnough.j0 kq l0 l1 a2 x36_5 = some r) ∧ Aside0 (kq ≤ k) ∧ Aside0 (Below w.heap.size w wc))
    case first =>
      have H := HC6.out
      clear HC6
      by_cases c8 : (l0.length : Int) > 120
      · rw [if_pos c8] at H
        have c8b0 : decide (120 < (l0.length : Int)) = true := decide_eq_true c8
        have c8b1 : decide (120 < l0.length) = true := decide_eq_true (by omega)
        clear c8
        (first | rw [c8b0] | (simp only [i64_w, i32_w]; rw [c8b0]) | skip)
        have H' := Aside0.mk H
        clear H
        go_wp2
        go_meet
        case rel => exact ⟨_, (true), (by first | rfl | (simp; done) | (simp [*]; done)), H', ⟨by first | omega | exact Nat.le_refl _⟩, ⟨by repeat (first | (with_reducible first | exact HB.out | apply below_alloc | apply pw_below_drewN | apply below_drew1) | exact HB.out)⟩⟩
      · rw [if_neg c8] at H
        have c8b0 : decide (120 < (l0.length : Int)) = false := decide_eq_false c8
        have c8b1 : decide (120 < l0.length) = false := decide_eq_false (by omega)
        clear c8
        (first | rw [c8b0] | (simp only [i64_w, i32_w]; rw [c8b0]) | skip)
        by_cases c9 : (l1.length : Int) > 16
        · rw [if_pos c9] at H
          have c9b0 : decide (16 < (l1.length : Int)) = true := decide_eq_true c9
          have c9b1 : decide (16 < l1.length) = true := decide_eq_true (by omega)
          clear c9
          have H' := Aside0.mk H
          clear H
          go_wp2
          go_meet
          case rel => exact ⟨_, (true), (by first | rfl | (simp; done) | (simp [*]; done)), H', ⟨by first | omega | exact Nat.le_refl _⟩, ⟨by repeat (first | (with_reducible first | exact HB.out | apply below_alloc | apply pw_below_drewN | apply below_drew1) | exact HB.out)⟩⟩
        · rw [if_neg c9] at H
          have c9b0 : decide (16 < (l1.length : Int)) = false := decide_eq_false c9
          have c9b1 : decide (16 < l1.length) = false := decide_eq_false (by omega)
          clear c9
          by_cases c10 : a2 < 1
          · rw [if_pos c10] at H
            have c10b0 : decide (a2 < 1) = true := decide_eq_true c10
            clear c10
            have H' := Aside0.mk H
            clear H
            go_wp2
            go_meet
            case rel => exact ⟨_, (true), (by first | rfl | (simp; done) | (simp [*]; done)), H', ⟨by first | omega | exact Nat.le_refl _⟩, ⟨by repeat (first | (with_reducible first | exact HB.out | apply below_alloc | apply pw_below_drewN | apply below_drew1) | exact HB.out)⟩⟩
          · rw [if_neg c10] at H
            have c10b0 : decide (a2 < 1) = false := decide_eq_false c10
            clear c10
            have H' := Aside0.mk H
            clear H
            go_wp2
            go_meet
            case rel => exact ⟨_, (decide (a2 > 8)), (by first | rfl | (simp; done) | (simp [*]; done)), H', ⟨by first | omega | exact Nat.le_refl _⟩, ⟨by repeat (first | (with_reducible first | exact HB.out | apply below_alloc | apply pw_below_drewN | apply below_drew1) | exact HB.out)⟩⟩
    case rest =>
      clear HC6
      try clear c1
      try clear p2
      try clear c5
      try clear c6
      try clear c7
      try clear c8
      try clear c8b0
      try clear c8b1
      try clear c9
      try clear c9b0
      try clear c9b1
      try clear c10
      try clear c10b0
      obtain ⟨kq, x36_5, rfl, HA, HJ5, HB⟩ := hcut
      cases kq with
      | zero => exact absurd HA.out (by simp [selvagelaw14_AllocEnough.j0])
      | succ kj5 =>
        have H := HA.out
        clear HA
        simp only [selvagelaw14_AllocEnough.j0] at H
        by_cases c11 : x36_5 = true
        · subst c11
          have H1 : (some true) = some r := by rw [if_pos rfl] at H; exact H
          clear H
          have H := H1
          clear H1
          obtain rfl := Option.some.inj H
          go_wp2
          go_ret
          exact ⟨by first | rfl | (simp [errW_none, errW_some] <;> rfl) | (simp [*, errW_none, errW_some] <;> rfl), by repeat (first | (with_reducible first | exact HB.out | apply below_alloc | apply pw_below_drewN | apply below_drew1) | exact HB.out)⟩
        · replace c11 := Bool.eq_false_iff.mpr c11
          subst c11
          have H1 : ((alloc_Homes.f l0 l1 a2).bind fun bt243 => (if bt243.2 = 0 then (selvagelaw14_AllocEnough.l0 kj5 l0 a2 bt243.1 0) else (some true))) = some r := by rw [if_neg (show ¬ (false = true) by decide)] at H; exact H
          clear H
          have H := H1
          clear H1
          replace H := Option.bind_eq_some_iff.mp H
          obtain ⟨⟨t243, t244⟩, A120, H⟩ := H
          replace H : (if t244 = 0 then (selvagelaw14_AllocEnough.l0 kj5 l0 a2 t243 0) else (some true)) = some r := H
          have A12 := Aside0.mk A120
          clear A120
          by_cases c13 : t244 = 0
          · rw [if_pos c13] at H
            have c13b0 : (t244 == 0) = true := beq_iff_eq.mpr c13
            have c13b1 : (t244 != 0) = false := bne_eq_false_iff_eq.mpr c13
            clear c13
            have H' := Aside0.mk H
            clear H
            go_wp2_with (first | ((with_reducible refine gate_callee (f := 10) rfl ?_); refine goesL_ (some 41) rfl rfl Try.func10 (by kernel_rfl) rfl #[.slice A0 l0.length c0, .slice A1 l1.length c1, .int .i64 a2] rfl (by (try simp only [List.map_toArray, List.map_cons, List.map_nil]); first | done | rfl | (simp only [List.length_drop, List.length_take]; rfl)) ?_; (with_reducible refine (alloc_Homes.calls _ _ l0 _ _ l1 a2 t243 t244 _ ?side1 ?side2 ?side3 ?side4 A12.out).mono ?_); (case side1 => repeat (first | exact (Kd.C_below HR0.out HB.out) | (with_reducible refine Kd.C_alloc ?_ _) | (with_reducible refine Kd.C_drewN ?_ _) | (with_reducible refine Kd.C_drew ?_))); (case side2 => exact HC0.out); (case side3 => repeat (first | exact (Kd.C_below HR1.out HB.out) | (with_reducible refine Kd.C_alloc ?_ _) | (with_reducible refine Kd.C_drewN ?_ _) | (with_reducible refine Kd.C_drew ?_))); (case side4 => exact HC1.out); rintro e w14 ⟨v245, rfl, ho0, hb⟩; refine ⟨_, rfl, ?_⟩; have n0_ := Aside0.mk (Kd.R_lower ho0 (below_size (by repeat (first | (with_reducible first | exact HB.out | apply below_alloc | apply pw_below_drewN | apply below_drew1) | exact HB.out)))); have n1_ := Aside0.mk (below_step (by repeat (first | (with_reducible first | exact HB.out | apply below_alloc | apply pw_below_drewN | apply below_drew1) | exact HB.out)) hb); clear HB; have HO246 := n0_; have HB := n1_; clear n0_ n1_; (try clear hb); (try clear hb2); (try clear hk); (try clear hi); (try clear ho0)))
            go_loopg [9] kj5 (fun kq v9 w' => ∃ (x9_2 : Int), v9 = .int .i64 x9_2 ∧ Aside0 (selvagelaw14_AllocEnough.l0 kq l0 a2 t243 x9_2 = some r) ∧ Aside0 (kq ≤ kj5) ∧ Aside0 (Kd.R k36 36 w' w.heap.size (fun _ => True) v245 t243) ∧ Aside0 (Below w.heap.size w w'))
            case atStart => exact ⟨(0), (by first | rfl | (simp; done) | (simp [*]; done)), H', ⟨Nat.le_refl _⟩, ⟨by (with_reducible repeat (first | apply Kd.R_alloc | apply Kd.R_drewN | apply Kd.R_drew)); exact HO246.out⟩, ⟨by repeat (first | (with_reducible first | exact HB.out | apply below_alloc | apply pw_below_drewN | apply below_drew1) | exact HB.out)⟩⟩
            case round =>
              clear H'
              try clear c1
              try clear p2
              try clear c5
              try clear c6
              try clear c7
              try clear c8
              try clear c8b0
              try clear c8b1
              try clear c9
              try clear c9b0
              try clear c9b1
              try clear c10
              try clear c10b0
              try clear c11
              try clear c13
              try clear c13b0
              try clear c13b1
              try clear p2
              obtain ⟨x9_2, rfl, HA, HK2, HO_7, HB⟩ := hrel
              cases gk with
              | zero => exact absurd HA.out (by simp [selvagelaw14_AllocEnough.l0])
              | succ k2 =>
                have H := HA.out
                clear HA
                simp only [selvagelaw14_AllocEnough.l0] at H
                by_cases c15 : x9_2 < (l0.length : Int)
                · rw [if_pos c15] at H
                  have c15b0 : decide (x9_2 < (l0.length : Int)) = true := decide_eq_true c15
                  clear c15
                  have H' := Aside0.mk H
                  clear H
                  go_wp2
                  go_loopg [10, 11] k2 (fun kq v10 v11 w' => ∃ (x10_3 : Int) (x11_3 : Int), v10 = .int .i64 x10_3 ∧ v11 = .int .i64 x11_3 ∧ Aside0 (selvagelaw14_AllocEnough.l1 kq l0 a2 t243 x9_2 x10_3 x11_3 = some r) ∧ Aside0 (kq ≤ k2) ∧ Aside0 (Kd.R k36 36 w' w.heap.size (fun _ => True) v245 t243) ∧ Aside0 (Below w.heap.size w w'))
                  case atStart => exact ⟨(0), (0), (by first | rfl | (simp; done) | (simp [*]; done)), (by first | rfl | (simp; done) | (simp [*]; done)), H', ⟨Nat.le_refl _⟩, ⟨by (with_reducible repeat (first | apply Kd.R_alloc | apply Kd.R_drewN | apply Kd.R_drew)); exact HO_7.out⟩, ⟨by repeat (first | (with_reducible first | exact HB.out | apply below_alloc | apply pw_below_drewN | apply below_drew1) | exact HB.out)⟩⟩
                  case round =>
                    clear H'
                    try clear c1
                    try clear p2
                    try clear c5
                    try clear c6
                    try clear c7
                    try clear c8
                    try clear c8b0
                    try clear c8b1
                    try clear c9
                    try clear c9b0
                    try clear c9b1
                    try clear c10
                    try clear c10b0
                    try clear c11
                    try clear c13
                    try clear c13b0
                    try clear c13b1
                    try clear c15
                    try clear c15b0
                    try clear p2
                    obtain ⟨x10_3, x11_3, rfl, rfl, HA, HK3, HO_7, HB⟩ := hrel
                    cases gk with
                    | zero => exact absurd HA.out (by simp [selvagelaw14_AllocEnough.l1])
                    | succ k3 =>
                      have H := HA.out
                      clear HA
                      simp only [selvagelaw14_AllocEnough.l1] at H
                      by_cases c16 : x11_3 < (t243.length : Int)
                      · rw [if_pos c16] at H
                        have c16b0 : decide (x11_3 < (t243.length : Int)) = true := decide_eq_true c16
                        clear c16
                        replace H := Option.bind_eq_some_iff.mp H
                        obtain ⟨⟨t247, t248, t249⟩, A170, H⟩ := H
                        replace H : (if t249 = true then (if t247 ≤ x9_2 then (if x9_2 ≤ t248 then (selvagelaw14_AllocEnough.l1 k3 l0 a2 t243 x9_2 (wrap64 (x10_3 + 1)) (wrap64 (x11_3 + 1))) else (selvagelaw14_AllocEnough.l1 k3 l0 a2 t243 x9_2 x10_3 (wrap64 (x11_3 + 1)))) else (selvagelaw14_AllocEnough.l1 k3 l0 a2 t243 x9_2 x10_3 (wrap64 (x11_3 + 1)))) else (selvagelaw14_AllocEnough.l1 k3 l0 a2 t243 x9_2 x10_3 (wrap64 (x11_3 + 1)))) = some r := H
                        have A17 := Aside0.mk A170
                        clear A170
                        by_cases c18 : t249 = true
                        · subst c18
                          have H1 : (if t247 ≤ x9_2 then (if x9_2 ≤ t248 then (selvagelaw14_AllocEnough.l1 k3 l0 a2 t243 x9_2 (wrap64 (x10_3 + 1)) (wrap64 (x11_3 + 1))) else (selvagelaw14_AllocEnough.l1 k3 l0 a2 t243 x9_2 x10_3 (wrap64 (x11_3 + 1)))) else (selvagelaw14_AllocEnough.l1 k3 l0 a2 t243 x9_2 x10_3 (wrap64 (x11_3 + 1)))) = some r := by rw [if_pos rfl] at H; exact H
                          clear H
                          have H := H1
                          clear H1
                          by_cases c19 : t247 ≤ x9_2
                          · rw [if_pos c19] at H
                            have c19b0 : decide (t247 ≤ x9_2) = true := decide_eq_true c19
                            clear c19
                            by_cases c20 : x9_2 ≤ t248
                            · rw [if_pos c20] at H
                              have c20b0 : decide (x9_2 ≤ t248) = true := decide_eq_true c20
                              clear c20
                              have H' := Aside0.mk H
                              clear H
                              obtain ⟨Ao21, co21, eo21⟩ := Kd.R_slice HO_7.out
                              subst eo21
                              go_wp2_with (first | ((with_reducible refine gate_callee (f := 8) rfl ?_); refine goesL_ (some 61) rfl rfl Try.func8 (by kernel_rfl) rfl #[.slice A0 l0.length c0, .int .i64 x11_3] rfl (by (try simp only [List.map_toArray, List.map_cons, List.map_nil]); first | done | rfl | (simp only [List.length_drop, List.length_take]; rfl)) ?_; (with_reducible refine (alloc_Span.calls _ _ l0 x11_3 t247 t248 true _ ?side1 ?side2 A17.out).mono ?_); (case side1 => repeat (first | exact (Kd.C_below HR0.out HB.out) | (with_reducible refine Kd.C_alloc ?_ _) | (with_reducible refine Kd.C_drewN ?_ _) | (with_reducible refine Kd.C_drew ?_))); (case side2 => exact HC0.out); rintro e w22 ⟨rfl, hb⟩; refine ⟨_, rfl, ?_⟩; have n0_ := Aside0.mk (Kd.R_below (by (with_reducible repeat (first | apply Kd.R_alloc | apply Kd.R_drewN | apply Kd.R_drew)); exact HO_7.out) hb); have n1_ := Aside0.mk (below_step (by repeat (first | (with_reducible first | exact HB.out | apply below_alloc | apply pw_below_drewN | apply below_drew1) | exact HB.out)) hb); clear HO_7; clear HB; have HO_7 := n0_; have HB := n1_; clear n0_ n1_; (try clear hb); (try clear hb2); (try clear hk); (try clear hi)))
                              go_roundg k3
                              case measure => have := HJ5.out; have := HK2.out; have := HK3.out; omega
                              case rel => exact ⟨(wrap64 (x10_3 + 1)), (wrap64 (x11_3 + 1)), (by first | rfl | (simp; done) | (simp [*]; done)), (by first | rfl | (simp; done) | (simp [*]; done)), H', ⟨by have := HJ5.out; have := HK2.out; have := HK3.out; omega⟩, ⟨by (with_reducible repeat (first | apply Kd.R_alloc | apply Kd.R_drewN | apply Kd.R_drew)); exact HO_7.out⟩, ⟨by repeat (first | (with_reducible first | exact HB.out | apply below_alloc | apply pw_below_drewN | apply below_drew1) | exact HB.out)⟩⟩
                            · rw [if_neg c20] at H
                              have c20b0 : decide (x9_2 ≤ t248) = false := decide_eq_false c20
                              clear c20
                              have H' := Aside0.mk H
                              clear H
                              obtain ⟨Ao23, co23, eo23⟩ := Kd.R_slice HO_7.out
                              subst eo23
                              go_wp2_with (first | ((with_reducible refine gate_callee (f := 8) rfl ?_); refine goesL_ (some 61) rfl rfl Try.func8 (by kernel_rfl) rfl #[.slice A0 l0.length c0, .int .i64 x11_3] rfl (by (try simp only [List.map_toArray, List.map_cons, List.map_nil]); first | done | rfl | (simp only [List.length_drop, List.length_take]; rfl)) ?_; (with_reducible refine (alloc_Span.calls _ _ l0 x11_3 t247 t248 true _ ?side1 ?side2 A17.out).mono ?_); (case side1 => repeat (first | exact (Kd.C_below HR0.out HB.out) | (with_reducible refine Kd.C_alloc ?_ _) | (with_reducible refine Kd.C_drewN ?_ _) | (with_reducible refine Kd.C_drew ?_))); (case side2 => exact HC0.out); rintro e w24 ⟨rfl, hb⟩; refine ⟨_, rfl, ?_⟩; have n0_ := Aside0.mk (Kd.R_below (by (with_reducible repeat (first | apply Kd.R_alloc | apply Kd.R_drewN | apply Kd.R_drew)); exact HO_7.out) hb); have n1_ := Aside0.mk (below_step (by repeat (first | (with_reducible first | exact HB.out | apply below_alloc | apply pw_below_drewN | apply below_drew1) | exact HB.out)) hb); clear HO_7; clear HB; have HO_7 := n0_; have HB := n1_; clear n0_ n1_; (try clear hb); (try clear hb2); (try clear hk); (try clear hi)))
                              go_roundg k3
                              case measure => have := HJ5.out; have := HK2.out; have := HK3.out; omega
                              case rel => exact ⟨(x10_3), (wrap64 (x11_3 + 1)), (by first | rfl | (simp; done) | (simp [*]; done)), (by first | rfl | (simp; done) | (simp [*]; done)), H', ⟨by have := HJ5.out; have := HK2.out; have := HK3.out; omega⟩, ⟨by (with_reducible repeat (first | apply Kd.R_alloc | apply Kd.R_drewN | apply Kd.R_drew)); exact HO_7.out⟩, ⟨by repeat (first | (with_reducible first | exact HB.out | apply below_alloc | apply pw_below_drewN | apply below_drew1) | exact HB.out)⟩⟩
                          · rw [if_neg c19] at H
                            have c19b0 : decide (t247 ≤ x9_2) = false := decide_eq_false c19
                            clear c19
                            have H' := Aside0.mk H
                            clear H
                            obtain ⟨Ao25, co25, eo25⟩ := Kd.R_slice HO_7.out
                            subst eo25
                            go_wp2_with (first | ((with_reducible refine gate_callee (f := 8) rfl ?_); refine goesL_ (some 61) rfl rfl Try.func8 (by kernel_rfl) rfl #[.slice A0 l0.length c0, .int .i64 x11_3] rfl (by (try simp only [List.map_toArray, List.map_cons, List.map_nil]); first | done | rfl | (simp only [List.length_drop, List.length_take]; rfl)) ?_; (with_reducible refine (alloc_Span.calls _ _ l0 x11_3 t247 t248 true _ ?side1 ?side2 A17.out).mono ?_); (case side1 => repeat (first | exact (Kd.C_below HR0.out HB.out) | (with_reducible refine Kd.C_alloc ?_ _) | (with_reducible refine Kd.C_drewN ?_ _) | (with_reducible refine Kd.C_drew ?_))); (case side2 => exact HC0.out); rintro e w26 ⟨rfl, hb⟩; refine ⟨_, rfl, ?_⟩; have n0_ := Aside0.mk (Kd.R_below (by (with_reducible repeat (first | apply Kd.R_alloc | apply Kd.R_drewN | apply Kd.R_drew)); exact HO_7.out) hb); have n1_ := Aside0.mk (below_step (by repeat (first | (with_reducible first | exact HB.out | apply below_alloc | apply pw_below_drewN | apply below_drew1) | exact HB.out)) hb); clear HO_7; clear HB; have HO_7 := n0_; have HB := n1_; clear n0_ n1_; (try clear hb); (try clear hb2); (try clear hk); (try clear hi)))
                            go_roundg k3
                            case measure => have := HJ5.out; have := HK2.out; have := HK3.out; omega
                            case rel => exact ⟨(x10_3), (wrap64 (x11_3 + 1)), (by first | rfl | (simp; done) | (simp [*]; done)), (by first | rfl | (simp; done) | (simp [*]; done)), H', ⟨by have := HJ5.out; have := HK2.out; have := HK3.out; omega⟩, ⟨by (with_reducible repeat (first | apply Kd.R_alloc | apply Kd.R_drewN | apply Kd.R_drew)); exact HO_7.out⟩, ⟨by repeat (first | (with_reducible first | exact HB.out | apply below_alloc | apply pw_below_drewN | apply below_drew1) | exact HB.out)⟩⟩
                        · replace c18 := Bool.eq_false_iff.mpr c18
                          subst c18
                          have H1 : (selvagelaw14_AllocEnough.l1 k3 l0 a2 t243 x9_2 x10_3 (wrap64 (x11_3 + 1))) = some r := by rw [if_neg (show ¬ (false = true) by decide)] at H; exact H
                          clear H
                          have H := H1
                          clear H1
                          have H' := Aside0.mk H
                          clear H
                          obtain ⟨Ao27, co27, eo27⟩ := Kd.R_slice HO_7.out
                          subst eo27
                          go_wp2_with (first | ((with_reducible refine gate_callee (f := 8) rfl ?_); refine goesL_ (some 61) rfl rfl Try.func8 (by kernel_rfl) rfl #[.slice A0 l0.length c0, .int .i64 x11_3] rfl (by (try simp only [List.map_toArray, List.map_cons, List.map_nil]); first | done | rfl | (simp only [List.length_drop, List.length_take]; rfl)) ?_; (with_reducible refine (alloc_Span.calls _ _ l0 x11_3 t247 t248 false _ ?side1 ?side2 A17.out).mono ?_); (case side1 => repeat (first | exact (Kd.C_below HR0.out HB.out) | (with_reducible refine Kd.C_alloc ?_ _) | (with_reducible refine Kd.C_drewN ?_ _) | (with_reducible refine Kd.C_drew ?_))); (case side2 => exact HC0.out); rintro e w28 ⟨rfl, hb⟩; refine ⟨_, rfl, ?_⟩; have n0_ := Aside0.mk (Kd.R_below (by (with_reducible repeat (first | apply Kd.R_alloc | apply Kd.R_drewN | apply Kd.R_drew)); exact HO_7.out) hb); have n1_ := Aside0.mk (below_step (by repeat (first | (with_reducible first | exact HB.out | apply below_alloc | apply pw_below_drewN | apply below_drew1) | exact HB.out)) hb); clear HO_7; clear HB; have HO_7 := n0_; have HB := n1_; clear n0_ n1_; (try clear hb); (try clear hb2); (try clear hk); (try clear hi)))
                          go_roundg k3
                          case measure => have := HJ5.out; have := HK2.out; have := HK3.out; omega
                          case rel => exact ⟨(x10_3), (wrap64 (x11_3 + 1)), (by first | rfl | (simp; done) | (simp [*]; done)), (by first | rfl | (simp; done) | (simp [*]; done)), H', ⟨by have := HJ5.out; have := HK2.out; have := HK3.out; omega⟩, ⟨by (with_reducible repeat (first | apply Kd.R_alloc | apply Kd.R_drewN | apply Kd.R_drew)); exact HO_7.out⟩, ⟨by repeat (first | (with_reducible first | exact HB.out | apply below_alloc | apply pw_below_drewN | apply below_drew1) | exact HB.out)⟩⟩
                      · rw [if_neg c16] at H
                        have c16b0 : decide (x11_3 < (t243.length : Int)) = false := decide_eq_false c16
                        clear c16
                        by_cases c29 : x10_3 > a2
                        · rw [if_pos c29] at H
                          have c29b0 : decide (a2 < x10_3) = true := decide_eq_true c29
                          clear c29
                          obtain rfl := Option.some.inj H
                          obtain ⟨Ao30, co30, eo30⟩ := Kd.R_slice HO_7.out
                          subst eo30
                          go_wp2
                          go_ret
                          exact ⟨by first | rfl | (simp [errW_none, errW_some] <;> rfl) | (simp [*, errW_none, errW_some] <;> rfl), by repeat (first | (with_reducible first | exact HB.out | apply below_alloc | apply pw_below_drewN | apply below_drew1) | exact HB.out)⟩
                        · rw [if_neg c29] at H
                          have c29b0 : decide (a2 < x10_3) = false := decide_eq_false c29
                          clear c29
                          have H' := Aside0.mk H
                          clear H
                          obtain ⟨Ao31, co31, eo31⟩ := Kd.R_slice HO_7.out
                          subst eo31
                          go_wp2
                          go_roundg k3
                          case measure => have := HJ5.out; have := HK2.out; have := HK3.out; omega
                          case rel => exact ⟨(wrap64 (x9_2 + 1)), (by first | rfl | (simp; done) | (simp [*]; done)), H', ⟨by have := HJ5.out; have := HK2.out; have := HK3.out; omega⟩, ⟨by (with_reducible repeat (first | apply Kd.R_alloc | apply Kd.R_drewN | apply Kd.R_drew)); exact HO_7.out⟩, ⟨by repeat (first | (with_reducible first | exact HB.out | apply below_alloc | apply pw_below_drewN | apply below_drew1) | exact HB.out)⟩⟩
                · rw [if_neg c15] at H
                  have c15b0 : decide (x9_2 < (l0.length : Int)) = false := decide_eq_false c15
                  clear c15
                  have H' := Aside0.mk H
                  clear H
                  go_wp2
                  go_loopg [15] k2 (fun kq v15 w' => ∃ (x15_3 : Int), v15 = .int .i64 x15_3 ∧ Aside0 (selvagelaw14_AllocEnough.l2 kq l0 t243 x15_3 = some r) ∧ Aside0 (kq ≤ k2) ∧ Aside0 (Kd.R k36 36 w' w.heap.size (fun _ => True) v245 t243) ∧ Aside0 (Below w.heap.size w w'))
                  case atStart => exact ⟨(0), (by first | rfl | (simp; done) | (simp [*]; done)), H', ⟨Nat.le_refl _⟩, ⟨by (with_reducible repeat (first | apply Kd.R_alloc | apply Kd.R_drewN | apply Kd.R_drew)); exact HO_7.out⟩, ⟨by repeat (first | (with_reducible first | exact HB.out | apply below_alloc | apply pw_below_drewN | apply below_drew1) | exact HB.out)⟩⟩
                  case round =>
                    clear H'
                    try clear c1
                    try clear c2
                    try clear p2
                    try clear c5
                    try clear c6
                    try clear p6
                    try clear c7
                    try clear c8
                    try clear c8b0
                    try clear c8b1
                    try clear c9
                    try clear c9b0
                    try clear c9b1
                    try clear c10
                    try clear c10b0
                    try clear c11
                    try clear c13
                    try clear c13b0
                    try clear c13b1
                    try clear c15
                    try clear c15b0
                    try clear c16
                    try clear c16b0
                    try clear c18
                    try clear c19
                    try clear c19b0
                    try clear c20
                    try clear c20b0
                    try clear c29
                    try clear c29b0
                    try clear p2
                    obtain ⟨x15_3, rfl, HA, HK3, HO_7, HB⟩ := hrel
                    cases gk with
                    | zero => exact absurd HA.out (by simp [selvagelaw14_AllocEnough.l2])
                    | succ k3 =>
                      have H := HA.out
                      clear HA
                      simp only [selvagelaw14_AllocEnough.l2] at H
                      by_cases c32 : x15_3 < (t243.length : Int)
                      · rw [if_pos c32] at H
                        have c32b0 : decide (x15_3 < (t243.length : Int)) = true := decide_eq_true c32
                        clear c32
                        replace H := Option.bind_eq_some_iff.mp H
                        obtain ⟨⟨t250, t251, t252⟩, A330, H⟩ := H
                        replace H : (if t252 = true then (if 0 ≤ x15_3 then (if ((rd_T36 t243 x15_3).f0) < 0 then (some false) else (selvagelaw14_AllocEnough.l2 k3 l0 t243 (wrap64 (x15_3 + 1)))) else (none)) else (selvagelaw14_AllocEnough.l2 k3 l0 t243 (wrap64 (x15_3 + 1)))) = some r := H
                        have A33 := Aside0.mk A330
                        clear A330
                        by_cases c34 : t252 = true
                        · subst c34
                          have H1 : (if 0 ≤ x15_3 then (if ((rd_T36 t243 x15_3).f0) < 0 then (some false) else (selvagelaw14_AllocEnough.l2 k3 l0 t243 (wrap64 (x15_3 + 1)))) else (none)) = some r := by rw [if_pos rfl] at H; exact H
                          clear H
                          have H := H1
                          clear H1
                          by_cases c35 : 0 ≤ x15_3
                          · rw [if_pos c35] at H
                            have c35b0 : decide (0 ≤ x15_3) = true := decide_eq_true c35
                            clear c35
                            by_cases c36 : ((rd_T36 t243 x15_3).f0) < 0
                            · rw [if_pos c36] at H
                              have c36b0 : decide (((rd_T36 t243 x15_3).f0) < 0) = true := decide_eq_true c36
                              clear c36
                              obtain rfl := Option.some.inj H
                              obtain ⟨Ao37, co37, eo37⟩ := Kd.R_slice HO_7.out
                              subst eo37
                              go_wp2_with (first | ((with_reducible refine gate_callee (f := 8) rfl ?_); refine goesL_ (some 90) rfl rfl Try.func8 (by kernel_rfl) rfl #[.slice A0 l0.length c0, .int .i64 x15_3] rfl (by (try simp only [List.map_toArray, List.map_cons, List.map_nil]); first | done | rfl | (simp only [List.length_drop, List.length_take]; rfl)) ?_; (with_reducible refine (alloc_Span.calls _ _ l0 x15_3 t250 t251 true _ ?side1 ?side2 A33.out).mono ?_); (case side1 => repeat (first | exact (Kd.C_below HR0.out HB.out) | (with_reducible refine Kd.C_alloc ?_ _) | (with_reducible refine Kd.C_drewN ?_ _) | (with_reducible refine Kd.C_drew ?_))); (case side2 => exact HC0.out); rintro e w38 ⟨rfl, hb⟩; refine ⟨_, rfl, ?_⟩; have n0_ := Aside0.mk (Kd.R_below (by (with_reducible repeat (first | apply Kd.R_alloc | apply Kd.R_drewN | apply Kd.R_drew)); exact HO_7.out) hb); have n1_ := Aside0.mk (below_step (by repeat (first | (with_reducible first | exact HB.out | apply below_alloc | apply pw_below_drewN | apply below_drew1) | exact HB.out)) hb); clear HO_7; clear HB; have HO_7 := n0_; have HB := n1_; clear n0_ n1_; (try clear hb); (try clear hb2); (try clear hk); (try clear hi); have p253 : 0 ≤ (x15_3 : Int) := of_decide_eq_true (by first | (with_reducible assumption) | assumption); have q253 : x15_3 < (t243.length : Int) := of_decide_eq_true (by first | (with_reducible assumption) | assumption); obtain ⟨ad253, e253, hx253_0, hx253_1⟩ := at_T36 (Kd.R_reads' HO_7.out).2.2 x15_3 p253 q253; cases e253; replace p253 := eq_true p253; replace q253 := eq_true q253))
                              go_ret
                              exact ⟨by first | rfl | (simp [errW_none, errW_some] <;> rfl) | (simp [*, errW_none, errW_some] <;> rfl), by repeat (first | (with_reducible first | exact HB.out | apply below_alloc | apply pw_below_drewN | apply below_drew1) | exact HB.out)⟩
                            · rw [if_neg c36] at H
                              have c36b0 : decide (((rd_T36 t243 x15_3).f0) < 0) = false := decide_eq_false c36
                              clear c36
                              have H' := Aside0.mk H
                              clear H
                              obtain ⟨Ao39, co39, eo39⟩ := Kd.R_slice HO_7.out
                              subst eo39
                              go_wp2_with (first | ((with_reducible refine gate_callee (f := 8) rfl ?_); refine goesL_ (some 90) rfl rfl Try.func8 (by kernel_rfl) rfl #[.slice A0 l0.length c0, .int .i64 x15_3] rfl (by (try simp only [List.map_toArray, List.map_cons, List.map_nil]); first | done | rfl | (simp only [List.length_drop, List.length_take]; rfl)) ?_; (with_reducible refine (alloc_Span.calls _ _ l0 x15_3 t250 t251 true _ ?side1 ?side2 A33.out).mono ?_); (case side1 => repeat (first | exact (Kd.C_below HR0.out HB.out) | (with_reducible refine Kd.C_alloc ?_ _) | (with_reducible refine Kd.C_drewN ?_ _) | (with_reducible refine Kd.C_drew ?_))); (case side2 => exact HC0.out); rintro e w40 ⟨rfl, hb⟩; refine ⟨_, rfl, ?_⟩; have n0_ := Aside0.mk (Kd.R_below (by (with_reducible repeat (first | apply Kd.R_alloc | apply Kd.R_drewN | apply Kd.R_drew)); exact HO_7.out) hb); have n1_ := Aside0.mk (below_step (by repeat (first | (with_reducible first | exact HB.out | apply below_alloc | apply pw_below_drewN | apply below_drew1) | exact HB.out)) hb); clear HO_7; clear HB; have HO_7 := n0_; have HB := n1_; clear n0_ n1_; (try clear hb); (try clear hb2); (try clear hk); (try clear hi); have p253 : 0 ≤ (x15_3 : Int) := of_decide_eq_true (by first | (with_reducible assumption) | assumption); have q253 : x15_3 < (t243.length : Int) := of_decide_eq_true (by first | (with_reducible assumption) | assumption); obtain ⟨ad253, e253, hx253_0, hx253_1⟩ := at_T36 (Kd.R_reads' HO_7.out).2.2 x15_3 p253 q253; cases e253; replace p253 := eq_true p253; replace q253 := eq_true q253))
                              go_roundg k3
                              case measure => have := HJ5.out; have := HK2.out; have := HK3.out; omega
                              case rel => exact ⟨(wrap64 (x15_3 + 1)), (by first | rfl | (simp; done) | (simp [*]; done)), H', ⟨by have := HJ5.out; have := HK2.out; have := HK3.out; omega⟩, ⟨by (with_reducible repeat (first | apply Kd.R_alloc | apply Kd.R_drewN | apply Kd.R_drew)); exact HO_7.out⟩, ⟨by repeat (first | (with_reducible first | exact HB.out | apply below_alloc | apply pw_below_drewN | apply below_drew1) | exact HB.out)⟩⟩
                          · rw [if_neg c35] at H
                            exact absurd H (by simp)
                        · replace c34 := Bool.eq_false_iff.mpr c34
                          subst c34
                          have H1 : (selvagelaw14_AllocEnough.l2 k3 l0 t243 (wrap64 (x15_3 + 1))) = some r := by rw [if_neg (show ¬ (false = true) by decide)] at H; exact H
                          clear H
                          have H := H1
                          clear H1
                          have H' := Aside0.mk H
                          clear H
                          obtain ⟨Ao41, co41, eo41⟩ := Kd.R_slice HO_7.out
                          subst eo41
                          go_wp2_with (first | ((with_reducible refine gate_callee (f := 8) rfl ?_); refine goesL_ (some 90) rfl rfl Try.func8 (by kernel_rfl) rfl #[.slice A0 l0.length c0, .int .i64 x15_3] rfl (by (try simp only [List.map_toArray, List.map_cons, List.map_nil]); first | done | rfl | (simp only [List.length_drop, List.length_take]; rfl)) ?_; (with_reducible refine (alloc_Span.calls _ _ l0 x15_3 t250 t251 false _ ?side1 ?side2 A33.out).mono ?_); (case side1 => repeat (first | exact (Kd.C_below HR0.out HB.out) | (with_reducible refine Kd.C_alloc ?_ _) | (with_reducible refine Kd.C_drewN ?_ _) | (with_reducible refine Kd.C_drew ?_))); (case side2 => exact HC0.out); rintro e w42 ⟨rfl, hb⟩; refine ⟨_, rfl, ?_⟩; have n0_ := Aside0.mk (Kd.R_below (by (with_reducible repeat (first | apply Kd.R_alloc | apply Kd.R_drewN | apply Kd.R_drew)); exact HO_7.out) hb); have n1_ := Aside0.mk (below_step (by repeat (first | (with_reducible first | exact HB.out | apply below_alloc | apply pw_below_drewN | apply below_drew1) | exact HB.out)) hb); clear HO_7; clear HB; have HO_7 := n0_; have HB := n1_; clear n0_ n1_; (try clear hb); (try clear hb2); (try clear hk); (try clear hi)))
                          go_roundg k3
                          case measure => have := HJ5.out; have := HK2.out; have := HK3.out; omega
                          case rel => exact ⟨(wrap64 (x15_3 + 1)), (by first | rfl | (simp; done) | (simp [*]; done)), H', ⟨by have := HJ5.out; have := HK2.out; have := HK3.out; omega⟩, ⟨by (with_reducible repeat (first | apply Kd.R_alloc | apply Kd.R_drewN | apply Kd.R_drew)); exact HO_7.out⟩, ⟨by repeat (first | (with_reducible first | exact HB.out | apply below_alloc | apply pw_below_drewN | apply below_drew1) | exact HB.out)⟩⟩
                      · rw [if_neg c32] at H
                        have c32b0 : decide (x15_3 < (t243.length : Int)) = false := decide_eq_false c32
                        clear c32
                        obtain rfl := Option.some.inj H
                        obtain ⟨Ao43, co43, eo43⟩ := Kd.R_slice HO_7.out
                        subst eo43
                        go_wp2
                        go_ret
                        exact ⟨by first | rfl | (simp [errW_none, errW_some] <;> rfl) | (simp [*, errW_none, errW_some] <;> rfl), by repeat (first | (with_reducible first | exact HB.out | apply below_alloc | apply pw_below_drewN | apply below_drew1) | exact HB.out)⟩
          · rw [if_neg c13] at H
            have c13b0 : (t244 == 0) = false := beq_eq_false_iff_ne.mpr c13
            have c13b1 : (t244 != 0) = true := bne_iff_ne.mpr c13
            obtain rfl := Option.some.inj H
            go_wp2_with (first | ((with_reducible refine gate_callee (f := 10) rfl ?_); refine goesL_ (some 41) rfl rfl Try.func10 (by kernel_rfl) rfl #[.slice A0 l0.length c0, .slice A1 l1.length c1, .int .i64 a2] rfl (by (try simp only [List.map_toArray, List.map_cons, List.map_nil]); first | done | rfl | (simp only [List.length_drop, List.length_take]; rfl)) ?_; (with_reducible refine (alloc_Homes.calls _ _ l0 _ _ l1 a2 t243 t244 _ ?side1 ?side2 ?side3 ?side4 A12.out).mono ?_); (case side1 => repeat (first | exact (Kd.C_below HR0.out HB.out) | (with_reducible refine Kd.C_alloc ?_ _) | (with_reducible refine Kd.C_drewN ?_ _) | (with_reducible refine Kd.C_drew ?_))); (case side2 => exact HC0.out); (case side3 => repeat (first | exact (Kd.C_below HR1.out HB.out) | (with_reducible refine Kd.C_alloc ?_ _) | (with_reducible refine Kd.C_drewN ?_ _) | (with_reducible refine Kd.C_drew ?_))); (case side4 => exact HC1.out); rintro e w44 ⟨v245, rfl, ho0, hb⟩; refine ⟨_, rfl, ?_⟩; have n0_ := Aside0.mk (Kd.R_lower ho0 (below_size (by repeat (first | (with_reducible first | exact HB.out | apply below_alloc | apply pw_below_drewN | apply below_drew1) | exact HB.out)))); have n1_ := Aside0.mk (below_step (by repeat (first | (with_reducible first | exact HB.out | apply below_alloc | apply pw_below_drewN | apply below_drew1) | exact HB.out)) hb); clear HB; have HO246 := n0_; have HB := n1_; clear n0_ n1_; (try clear hb); (try clear hb2); (try clear hk); (try clear hi); (try clear ho0)))
            go_ret
            exact ⟨by first | rfl | (simp [errW_none, errW_some] <;> rfl) | (simp [*, errW_none, errW_some] <;> rfl), by repeat (first | (with_reducible first | exact HB.out | apply below_alloc | apply pw_below_drewN | apply below_drew1) | exact HB.out)⟩
  · replace c5 := Bool.eq_false_iff.mpr c5
    subst c5
    have H1 : (some false) = some r := by rw [if_neg (show ¬ (false = true) by decide)] at H; exact H
    clear H
    have H := H1
    clear H1
    obtain rfl := Option.some.inj H
    go_enter Try.func6, Try.ntmps6
    go_wp2_with (first | ((with_reducible refine gate_callee (f := 7) rfl ?_); refine goesL_ (some 19) rfl rfl Try.func7 (by kernel_rfl) rfl #[] rfl (by (try simp only [List.map_toArray, List.map_cons, List.map_nil]); first | done | rfl | (simp only [List.length_drop, List.length_take]; rfl)) ?_; (with_reducible refine (selvagelaw14_awake.calls k  false _ A4.out).mono ?_); rintro e w45 ⟨rfl, hb⟩; refine ⟨_, rfl, ?_⟩; have n0_ := Aside0.mk (below_step (by repeat (first | (with_reducible first | exact HB.out | apply below_alloc | apply pw_below_drewN | apply below_drew1) | exact HB.out)) hb); clear HB; have HB := n0_; clear n0_; (try clear hb); (try clear hb2); (try clear hk); (try clear hi)))
    go_ret
    exact ⟨by first | rfl | (simp [errW_none, errW_some] <;> rfl) | (simp [*, errW_none, errW_some] <;> rfl), by repeat (first | (with_reducible first | exact HB.out | apply below_alloc | apply pw_below_drewN | apply below_drew1) | exact HB.out)⟩

end Go.Proofs.Ytgljbgmphelhbaa.Q
