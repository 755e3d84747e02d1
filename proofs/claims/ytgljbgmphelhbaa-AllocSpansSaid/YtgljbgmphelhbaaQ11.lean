/- Written for this claim by a program: functions, their contracts and rows. -/
import Derived.Test.YtgljbgmphelhbaaQ0
import Derived.Test.YtgljbgmphelhbaaQ5
import Derived.Test.YtgljbgmphelhbaaQ6
import Derived.Test.YtgljbgmphelhbaaQ8
import Derived.Test.YtgljbgmphelhbaaRefRightAll
namespace Go.Proofs.Ytgljbgmphelhbaa.Q
open Go.RowKit Go.Proofs.YtgljbgmphelhbaaW.PrintWords Go.Proofs.YtgljbgmphelhbaaW.PrintLast Go.Proofs.YtgljbgmphelhbaaW.PrintMore
attribute [local go_sem] max2_int min2_int max_two min_two max_three min_three max_four min_four   -- for this text's walks alone
set_option linter.unusedVariables false
set_option linter.unusedSimpArgs false

/-! ### selvagelaw14_AllocSpans: function 5 -/
mutual
def selvagelaw14_AllocSpans.j0 : Nat → List (S40) → Bool → Option (Bool)
  | 0, _, _ => none
  | k + 1, x0, x26 => if x26 = true then (some true) else (selvagelaw14_AllocSpans.l0 k x0 0)
def selvagelaw14_AllocSpans.l0 : Nat → List (S40) → Int → Option (Bool)
  | 0, _, _ => none
  | k + 1, x0, x5 => if x5 < (x0.length : Int) then (if 0 ≤ x5 then (selvagelaw14_AllocSpans.l1 k x0 x5 0 ((rd_T40 x0 x5).f0) ((rd_T40 x0 x5).f1) ((rd_T40 x0 x5).f2) ((rd_T40 x0 x5).f3) ((rd_T40 x0 x5).f4) ((rd_T40 x0 x5).f5) ((rd_T40 x0 x5).f6) ((rd_T40 x0 x5).f7)) else (none)) else (some true)
def selvagelaw14_AllocSpans.l1 : Nat → List (S40) → Int → Int → Int → Int → Int → Int → Int → Int → Int → Int → Option (Bool)
  | 0, _, _, _, _, _, _, _, _, _, _, _ => none
  | k + 1, x0, x5, x7, x209000, x209001, x209002, x209003, x209004, x209005, x209006, x209007 => if x7 < 400 then ((selvageref14_Uses.f k x209000 x209001 x209002 x209003 x209004 x209005 x209006 x209007 x7).bind fun t209 => (if t209 = true then (selvagelaw14_AllocSpans.j3 k x0 x5 x7 false x209000 x209001 x209002 x209003 x209004 x209005 x209006 x209007) else ((selvageref10_Has.f k x209000 100).bind fun t210 => (if t210 = true then (selvagelaw14_AllocSpans.j3 k x0 x5 x7 (x209001 != x7) x209000 x209001 x209002 x209003 x209004 x209005 x209006 x209007) else (selvagelaw14_AllocSpans.j3 k x0 x5 x7 true x209000 x209001 x209002 x209003 x209004 x209005 x209006 x209007))))) else (selvagelaw14_AllocSpans.l0 k x0 (wrap64 (x5 + 1)))
def selvagelaw14_AllocSpans.j3 : Nat → List (S40) → Int → Int → Bool → Int → Int → Int → Int → Int → Int → Int → Int → Option (Bool)
  | 0, _, _, _, _, _, _, _, _, _, _, _, _ => none
  | k + 1, x0, x5, x7, x56, x209000, x209001, x209002, x209003, x209004, x209005, x209006, x209007 => if x56 = true then (selvagelaw14_AllocSpans.l1 k x0 x5 (wrap64 (x7 + 1)) x209000 x209001 x209002 x209003 x209004 x209005 x209006 x209007) else ((alloc_Span.f x0 x7).bind fun bt211 => (if bt211.2.2 = true then (if x5 < bt211.1 then (some false) else (if x5 > bt211.2.1 then (some false) else (selvagelaw14_AllocSpans.l1 k x0 x5 (wrap64 (x7 + 1)) x209000 x209001 x209002 x209003 x209004 x209005 x209006 x209007))) else (some false)))
end
def selvagelaw14_AllocSpans.f (k : Nat) (l0 : List (S40)) (l1 : List (S83)) : Option (Bool) := (selvagelaw14_awake.f k).bind fun t205 => (if t205 = true then (if (l0.length : Int) > 200 then (selvagelaw14_AllocSpans.j0 k l0 true) else (if (l1.length : Int) > 16 then (selvagelaw14_AllocSpans.j0 k l0 true) else ((selvageref10_Right.f l0 l1).bind fun t206 => (selvagelaw14_AllocSpans.j0 k l0 (!t206))))) else (some false))
theorem selvagelaw14_AllocSpans.mono_l : ∀ k, (∀ y0 y1, LeO (selvagelaw14_AllocSpans.j0 k y0 y1) (selvagelaw14_AllocSpans.j0 (k + 1) y0 y1)) ∧ (∀ y0 y1, LeO (selvagelaw14_AllocSpans.l0 k y0 y1) (selvagelaw14_AllocSpans.l0 (k + 1) y0 y1)) ∧ (∀ y0 y1 y2 y3 y4 y5 y6 y7 y8 y9 y10, LeO (selvagelaw14_AllocSpans.l1 k y0 y1 y2 y3 y4 y5 y6 y7 y8 y9 y10) (selvagelaw14_AllocSpans.l1 (k + 1) y0 y1 y2 y3 y4 y5 y6 y7 y8 y9 y10)) ∧ (∀ y0 y1 y2 y3 y4 y5 y6 y7 y8 y9 y10 y11, LeO (selvagelaw14_AllocSpans.j3 k y0 y1 y2 y3 y4 y5 y6 y7 y8 y9 y10 y11) (selvagelaw14_AllocSpans.j3 (k + 1) y0 y1 y2 y3 y4 y5 y6 y7 y8 y9 y10 y11))
  | 0 => ⟨fun _ _ r h => by simp [selvagelaw14_AllocSpans.j0] at h, fun _ _ r h => by simp [selvagelaw14_AllocSpans.l0] at h, fun _ _ _ _ _ _ _ _ _ _ _ r h => by simp [selvagelaw14_AllocSpans.l1] at h, fun _ _ _ _ _ _ _ _ _ _ _ _ r h => by simp [selvagelaw14_AllocSpans.j3] at h⟩
  | k + 1 => by
    obtain ⟨ih0, ih1, ih2, ih3⟩ := selvagelaw14_AllocSpans.mono_l k
    refine ⟨?_, ?_, ?_, ?_⟩
    · intro y0 y1
      unfold selvagelaw14_AllocSpans.j0
      repeat' first
      | (with_reducible exact ih0 _ _)
      | (with_reducible exact ih1 _ _)
      | (with_reducible exact ih2 _ _ _ _ _ _ _ _ _ _ _)
      | (with_reducible exact ih3 _ _ _ _ _ _ _ _ _ _ _ _)
      | (with_reducible exact selvagelaw14_awake.mono _)
      | (with_reducible exact selvageref10_Has.mono _ _ _)
      | (with_reducible exact selvageref14_Uses.mono _ _ _ _ _ _ _ _ _ _)
      | (with_reducible exact LeO.refl _)
      | (with_reducible exact LeO.none _)
      | (with_reducible refine LeO.ite ?_ ?_)
      | (with_reducible refine LeO.bind ?_ (fun _ => ?_))
      | exact ih0 _ _
      | exact ih1 _ _
      | exact ih2 _ _ _ _ _ _ _ _ _ _ _
      | exact ih3 _ _ _ _ _ _ _ _ _ _ _ _
      | exact selvagelaw14_awake.mono _
      | exact selvageref10_Has.mono _ _ _
      | exact selvageref14_Uses.mono _ _ _ _ _ _ _ _ _ _
      | exact LeO.none _
      | refine LeO.ite ?_ ?_
      | refine LeO.bind ?_ (fun _ => ?_)
    · intro y0 y1
      unfold selvagelaw14_AllocSpans.l0
      repeat' first
      | (with_reducible exact ih0 _ _)
      | (with_reducible exact ih1 _ _)
      | (with_reducible exact ih2 _ _ _ _ _ _ _ _ _ _ _)
      | (with_reducible exact ih3 _ _ _ _ _ _ _ _ _ _ _ _)
      | (with_reducible exact selvagelaw14_awake.mono _)
      | (with_reducible exact selvageref10_Has.mono _ _ _)
      | (with_reducible exact selvageref14_Uses.mono _ _ _ _ _ _ _ _ _ _)
      | (with_reducible exact LeO.refl _)
      | (with_reducible exact LeO.none _)
      | (with_reducible refine LeO.ite ?_ ?_)
      | (with_reducible refine LeO.bind ?_ (fun _ => ?_))
      | exact ih0 _ _
      | exact ih1 _ _
      | exact ih2 _ _ _ _ _ _ _ _ _ _ _
      | exact ih3 _ _ _ _ _ _ _ _ _ _ _ _
      | exact selvagelaw14_awake.mono _
      | exact selvageref10_Has.mono _ _ _
      | exact selvageref14_Uses.mono _ _ _ _ _ _ _ _ _ _
      | exact LeO.none _
      | refine LeO.ite ?_ ?_
      | refine LeO.bind ?_ (fun _ => ?_)
    · intro y0 y1 y2 y3 y4 y5 y6 y7 y8 y9 y10
      unfold selvagelaw14_AllocSpans.l1
      repeat' first
      | (with_reducible exact ih0 _ _)
      | (with_reducible exact ih1 _ _)
      | (with_reducible exact ih2 _ _ _ _ _ _ _ _ _ _ _)
      | (with_reducible exact ih3 _ _ _ _ _ _ _ _ _ _ _ _)
      | (with_reducible exact selvagelaw14_awake.mono _)
      | (with_reducible exact selvageref10_Has.mono _ _ _)
      | (with_reducible exact selvageref14_Uses.mono _ _ _ _ _ _ _ _ _ _)
      | (with_reducible exact LeO.refl _)
      | (with_reducible exact LeO.none _)
      | (with_reducible refine LeO.ite ?_ ?_)
      | (with_reducible refine LeO.bind ?_ (fun _ => ?_))
      | exact ih0 _ _
      | exact ih1 _ _
      | exact ih2 _ _ _ _ _ _ _ _ _ _ _
      | exact ih3 _ _ _ _ _ _ _ _ _ _ _ _
      | exact selvagelaw14_awake.mono _
      | exact selvageref10_Has.mono _ _ _
      | exact selvageref14_Uses.mono _ _ _ _ _ _ _ _ _ _
      | exact LeO.none _
      | refine LeO.ite ?_ ?_
      | refine LeO.bind ?_ (fun _ => ?_)
    · intro y0 y1 y2 y3 y4 y5 y6 y7 y8 y9 y10 y11
      unfold selvagelaw14_AllocSpans.j3
      repeat' first
      | (with_reducible exact ih0 _ _)
      | (with_reducible exact ih1 _ _)
      | (with_reducible exact ih2 _ _ _ _ _ _ _ _ _ _ _)
      | (with_reducible exact ih3 _ _ _ _ _ _ _ _ _ _ _ _)
      | (with_reducible exact selvagelaw14_awake.mono _)
      | (with_reducible exact selvageref10_Has.mono _ _ _)
      | (with_reducible exact selvageref14_Uses.mono _ _ _ _ _ _ _ _ _ _)
      | (with_reducible exact LeO.refl _)
      | (with_reducible exact LeO.none _)
      | (with_reducible refine LeO.ite ?_ ?_)
      | (with_reducible refine LeO.bind ?_ (fun _ => ?_))
      | exact ih0 _ _
      | exact ih1 _ _
      | exact ih2 _ _ _ _ _ _ _ _ _ _ _
      | exact ih3 _ _ _ _ _ _ _ _ _ _ _ _
      | exact selvagelaw14_awake.mono _
      | exact selvageref10_Has.mono _ _ _
      | exact selvageref14_Uses.mono _ _ _ _ _ _ _ _ _ _
      | exact LeO.none _
      | refine LeO.ite ?_ ?_
      | refine LeO.bind ?_ (fun _ => ?_)
theorem selvagelaw14_AllocSpans.mono : ∀ a0 a1 k, LeO (selvagelaw14_AllocSpans.f k a0 a1) (selvagelaw14_AllocSpans.f (k + 1) a0 a1) := by
  intro a0 a1 k
  obtain ⟨ih0, ih1, ih2, ih3⟩ := selvagelaw14_AllocSpans.mono_l k
  unfold selvagelaw14_AllocSpans.f
  repeat' first
      | (with_reducible exact ih0 _ _)
      | (with_reducible exact ih1 _ _)
      | (with_reducible exact ih2 _ _ _ _ _ _ _ _ _ _ _)
      | (with_reducible exact ih3 _ _ _ _ _ _ _ _ _ _ _ _)
      | (with_reducible exact selvagelaw14_awake.mono _)
      | (with_reducible exact selvageref10_Has.mono _ _ _)
      | (with_reducible exact selvageref14_Uses.mono _ _ _ _ _ _ _ _ _ _)
      | (with_reducible exact LeO.refl _)
      | (with_reducible exact LeO.none _)
      | (with_reducible refine LeO.ite ?_ ?_)
      | (with_reducible refine LeO.bind ?_ (fun _ => ?_))
      | exact ih0 _ _
      | exact ih1 _ _
      | exact ih2 _ _ _ _ _ _ _ _ _ _ _
      | exact ih3 _ _ _ _ _ _ _ _ _ _ _ _
      | exact selvagelaw14_awake.mono _
      | exact selvageref10_Has.mono _ _ _
      | exact selvageref14_Uses.mono _ _ _ _ _ _ _ _ _ _
      | exact LeO.none _
      | refine LeO.ite ?_ ?_
      | refine LeO.bind ?_ (fun _ => ?_)
set_option maxHeartbeats 8000000 in
set_option maxRecDepth 100000 in
theorem selvagelaw14_AllocSpans.calls (k : Nat) (A0 : Option Addr) (c0 : Nat) (l0 : List (S40)) (A1 : Option Addr) (c1 : Nat) (l1 : List (S83)) (r : Bool) (w : World) (hr0 : Kd.C k40 w A0 l0.length l0) (hc0 : l0.length ≤ c0) (hr1 : Kd.C k83 w A1 l1.length l1) (hc1 : l1.length ≤ c1) (h : selvagelaw14_AllocSpans.f k l0 l1 = some r) :
    Calls Try.prog 5 #[.slice A0 l0.length c0, .slice A1 l1.length c1] w fun e w' => e = .returned (.bool r) ∧ Below w.heap.size w w' := by
  have hu40 := Try.underlying40
  have HR0 := Aside0.mk hr0
  have HC0 := Aside0.mk hc0
  clear hr0 hc0
  have HR1 := Aside0.mk hr1
  have HC1 := Aside0.mk hc1
  clear hr1 hc1
  have HB := Aside0.mk (Below.refl w.heap.size w)
  have H : ((selvagelaw14_awake.f k).bind fun t205 => (if t205 = true then (if (l0.length : Int) > 200 then (selvagelaw14_AllocSpans.j0 k l0 true) else (if (l1.length : Int) > 16 then (selvagelaw14_AllocSpans.j0 k l0 true) else ((selvageref10_Right.f l0 l1).bind fun t206 => (selvagelaw14_AllocSpans.j0 k l0 (!t206))))) else (some false))) = some r := h
  clear h
  replace H := Option.bind_eq_some_iff.mp H
  obtain ⟨t205, A30, H⟩ := H
  replace H : (if t205 = true then (if (l0.length : Int) > 200 then (selvagelaw14_AllocSpans.j0 k l0 true) else (if (l1.length : Int) > 16 then (selvagelaw14_AllocSpans.j0 k l0 true) else ((selvageref10_Right.f l0 l1).bind fun t206 => (selvagelaw14_AllocSpans.j0 k l0 (!t206))))) else (some false)) = some r := H
  have A3 := Aside0.mk A30
  clear A30
  by_cases c4 : t205 = true
  · subst c4
    have H1 : (if (l0.length : Int) > 200 then (selvagelaw14_AllocSpans.j0 k l0 true) else (if (l1.length : Int) > 16 then (selvagelaw14_AllocSpans.j0 k l0 true) else ((selvageref10_Right.f l0 l1).bind fun t206 => (selvagelaw14_AllocSpans.j0 k l0 (!t206))))) = some r := by rw [if_pos rfl] at H; exact H
    clear H
    have H := H1
    clear H1
    have HC5 := Aside0.mk H
    clear H
    go_enter Try.func5, Try.ntmps5
    go_upto_region 3 with (first | ((with_reducible refine gate_callee (f := 7) rfl ?_); refine goesL_ (some 11) rfl rfl Try.func7 (by kernel_rfl) rfl #[] rfl (by (try simp only [List.map_toArray, List.map_cons, List.map_nil]); first | done | rfl | (simp only [List.length_drop, List.length_take]; rfl)) ?_; (with_reducible refine (selvagelaw14_awake.calls k  true _ A3.out).mono ?_); rintro e w6 ⟨rfl, hb⟩; refine ⟨_, rfl, ?_⟩; have n0_ := Aside0.mk (below_step (by repeat (first | (with_reducible first | exact HB.out | apply below_alloc | apply pw_below_drewN | apply below_drew1) | exact HB.out)) hb); clear HB; have HB := n0_; clear n0_; (try clear hb); (try clear hb2); (try clear hk); (try clear hi)))
    (try simp only [Act.put, List.setIfInBounds_toArray, List.set_cons_zero, List.set_cons_succ])
    go_cut [26] (fun v26 wc => ∃ (kq : Nat) (x26_4 : Bool), v26 = .bool x26_4 ∧ Aside0 (selvagelaw14_AllocSpans.j0 kq l0 x26_4 = some r) ∧ Aside0 (kq ≤ k) ∧ Aside0 (Below w.heap.size w wc))
    case first =>
      have H := HC5.out
      clear HC5
      by_cases c7 : (l0.length : Int) > 200
      · rw [if_pos c7] at H
        have c7b0 : decide (200 < (l0.length : Int)) = true := decide_eq_true c7
        have c7b1 : decide (200 < l0.length) = true := decide_eq_true (by omega)
        clear c7
        (first | rw [c7b0] | (simp only [i64_w, i32_w]; rw [c7b0]) | skip)
        have H' := Aside0.mk H
        clear H
        go_wp2
        go_meet
        case rel => exact ⟨_, (true), (by first | rfl | (simp; done) | (simp [*]; done)), H', ⟨by first | omega | exact Nat.le_refl _⟩, ⟨by repeat (first | (with_reducible first | exact HB.out | apply below_alloc | apply pw_below_drewN | apply below_drew1) | exact HB.out)⟩⟩
      · rw [if_neg c7] at H
        have c7b0 : decide (200 < (l0.length : Int)) = false := decide_eq_false c7
        have c7b1 : decide (200 < l0.length) = false := decide_eq_false (by omega)
        clear c7
        (first | rw [c7b0] | (simp only [i64_w, i32_w]; rw [c7b0]) | skip)
        by_cases c8 : (l1.length : Int) > 16
        · rw [if_pos c8] at H
          have c8b0 : decide (16 < (l1.length : Int)) = true := decide_eq_true c8
          have c8b1 : decide (16 < l1.length) = true := decide_eq_true (by omega)
          clear c8
          have H' := Aside0.mk H
          clear H
          go_wp2
          go_meet
          case rel => exact ⟨_, (true), (by first | rfl | (simp; done) | (simp [*]; done)), H', ⟨by first | omega | exact Nat.le_refl _⟩, ⟨by repeat (first | (with_reducible first | exact HB.out | apply below_alloc | apply pw_below_drewN | apply below_drew1) | exact HB.out)⟩⟩
        · rw [if_neg c8] at H
          have c8b0 : decide (16 < (l1.length : Int)) = false := decide_eq_false c8
          have c8b1 : decide (16 < l1.length) = false := decide_eq_false (by omega)
          clear c8
          replace H := Option.bind_eq_some_iff.mp H
          obtain ⟨t206, A90, H⟩ := H
          replace H : (selvagelaw14_AllocSpans.j0 k l0 (!t206)) = some r := H
          have A9 := Aside0.mk A90
          clear A90
          have H' := Aside0.mk H
          clear H
          go_wp2_with (first | (go_at_call 13; (with_reducible refine (selvageref10_Right.calls _ _ l0 _ _ l1 t206 _ ?side1 ?side2 ?side3 ?side4 A9.out).mono ?_); (case side1 => repeat (first | exact (Kd.C_below HR0.out HB.out) | (with_reducible refine Kd.C_alloc ?_ _) | (with_reducible refine Kd.C_drewN ?_ _) | (with_reducible refine Kd.C_drew ?_))); (case side2 => exact HC0.out); (case side3 => repeat (first | exact (Kd.C_below HR1.out HB.out) | (with_reducible refine Kd.C_alloc ?_ _) | (with_reducible refine Kd.C_drewN ?_ _) | (with_reducible refine Kd.C_drew ?_))); (case side4 => exact HC1.out); rintro e w10 ⟨rfl, hb⟩; have n0_ := Aside0.mk (below_step (by repeat (first | (with_reducible first | exact HB.out | apply below_alloc | apply pw_below_drewN | apply below_drew1) | exact HB.out)) hb); clear HB; have HB := n0_; clear n0_; (try clear hb); (try clear hb2); (try clear hk); (try clear hi)))
          go_meet
          case rel => exact ⟨_, (!t206), (by first | rfl | (simp; done) | (simp [*]; done)), H', ⟨by first | omega | exact Nat.le_refl _⟩, ⟨by repeat (first | (with_reducible first | exact HB.out | apply below_alloc | apply pw_below_drewN | apply below_drew1) | exact HB.out)⟩⟩
    case rest =>
      clear HC5
      try clear c1
      try clear p2
      try clear c4
      try clear c5
      try clear c7
      try clear c7b0
      try clear c7b1
      try clear c8
      try clear c8b0
      try clear c8b1
      obtain ⟨kq, x26_4, rfl, HA, HJ4, HB⟩ := hcut
      cases kq with
      | zero => exact absurd HA.out (by simp [selvagelaw14_AllocSpans.j0])
      | succ kj4 =>
        have H := HA.out
        clear HA
        simp only [selvagelaw14_AllocSpans.j0] at H
        by_cases c11 : x26_4 = true
        · subst c11
          have H1 : (some true) = some r := by rw [if_pos rfl] at H; exact H
          clear H
          have H := H1
          clear H1
          obtain rfl := Option.some.inj H
          go_wp2
          go_ret
          exact ⟨by first | rfl | (simp [errW_none, errW_some] <;> rfl) | (simp [*, errW_none, errW_some] <;> rfl), by repeat (first | (with_reducible first | exact HB.out | apply below_alloc | apply pw_below_drewN | apply below_drew1) | exact HB.out)⟩
        · replace c11 := Bool.eq_false_iff.mpr c11
          subst c11
          have H1 : (selvagelaw14_AllocSpans.l0 kj4 l0 0) = some r := by rw [if_neg (show ¬ (false = true) by decide)] at H; exact H
          clear H
          have H := H1
          clear H1
          have H' := Aside0.mk H
          clear H
          go_wp2
          go_loopg [5] kj4 (fun kq v5 w' => ∃ (x5_2 : Int), v5 = .int .i64 x5_2 ∧ Aside0 (selvagelaw14_AllocSpans.l0 kq l0 x5_2 = some r) ∧ Aside0 (kq ≤ kj4) ∧ Aside0 (Below w.heap.size w w'))
          case atStart => exact ⟨(0), (by first | rfl | (simp; done) | (simp [*]; done)), H', ⟨Nat.le_refl _⟩, ⟨by repeat (first | (with_reducible first | exact HB.out | apply below_alloc | apply pw_below_drewN | apply below_drew1) | exact HB.out)⟩⟩
          case round =>
            clear H'
            try clear c1
            try clear p2
            try clear c4
            try clear c5
            try clear c7
            try clear c7b0
            try clear c7b1
            try clear c8
            try clear c8b0
            try clear c8b1
            try clear c11
            try clear p2
            obtain ⟨x5_2, rfl, HA, HK2, HB⟩ := hrel
            cases gk with
            | zero => exact absurd HA.out (by simp [selvagelaw14_AllocSpans.l0])
            | succ k2 =>
              have H := HA.out
              clear HA
              simp only [selvagelaw14_AllocSpans.l0] at H
              by_cases c12 : x5_2 < (l0.length : Int)
              · rw [if_pos c12] at H
                have c12b0 : decide (x5_2 < (l0.length : Int)) = true := decide_eq_true c12
                clear c12
                by_cases c13 : 0 ≤ x5_2
                · rw [if_pos c13] at H
                  have c13b0 : decide (0 ≤ x5_2) = true := decide_eq_true c13
                  clear c13
                  have H' := Aside0.mk H
                  clear H
                  have p207 : 0 ≤ (x5_2 : Int) := of_decide_eq_true (by first | (with_reducible assumption) | assumption)
                  have q207 : x5_2 < (l0.length : Int) := of_decide_eq_true (by first | (with_reducible assumption) | assumption)
                  obtain ⟨ad207, e207, hx207_0, hx207_1, hx207_2, hx207_3, hx207_4, hx207_5, hx207_6, hx207_7⟩ := at_T40 HR0.out x5_2 p207 q207
                  cases e207
                  replace hx207_0 := (HB.out.cell (World.block_lt_of_cell? w _ hx207_0)).trans hx207_0
                  replace hx207_1 := (HB.out.cell (World.block_lt_of_cell? w _ hx207_1)).trans hx207_1
                  replace hx207_2 := (HB.out.cell (World.block_lt_of_cell? w _ hx207_2)).trans hx207_2
                  replace hx207_3 := (HB.out.cell (World.block_lt_of_cell? w _ hx207_3)).trans hx207_3
                  replace hx207_4 := (HB.out.cell (World.block_lt_of_cell? w _ hx207_4)).trans hx207_4
                  replace hx207_5 := (HB.out.cell (World.block_lt_of_cell? w _ hx207_5)).trans hx207_5
                  replace hx207_6 := (HB.out.cell (World.block_lt_of_cell? w _ hx207_6)).trans hx207_6
                  replace hx207_7 := (HB.out.cell (World.block_lt_of_cell? w _ hx207_7)).trans hx207_7
                  replace p207 := eq_true p207
                  replace q207 := eq_true q207
                  go_wp2_with (first | ((with_reducible refine gate_dst (N := 6) rfl ?_); (try (refine gate_guard (by rfl) ?_; dsimp only)); refine box_event ?hg (N := 6) ?hd (cs := #[.int .i64 0, .int .i64 0, .int .i64 0, .int .i64 0, .int .i64 0, .int .i64 0, .int .i64 0, .int .i64 0]) (t := 40) ?hr ?_; (case hd => rfl); (case hg => rfl); (case hr => first | (go_simp; done) | (go_simp; rfl)); intro gb208 hg w14 hbox hb; have n0_ := Aside0.mk (below_step (by repeat (first | (with_reducible first | exact HB.out | apply below_alloc | apply pw_below_drewN | apply below_drew1) | exact HB.out)) hb); have n1_ := Aside0.mk (hbox); have n2_ := Aside0.mk ((by rw [hg]; exact (below_size (by repeat (first | (with_reducible first | exact HB.out | apply below_alloc | apply pw_below_drewN | apply below_drew1) | exact HB.out))) : w.heap.size ≤ gb208)); have n3_ := Aside0.mk ((by rw [hg]; exact (below_size (by repeat (first | (with_reducible first | exact HB.out | apply below_alloc | apply pw_below_drewN | apply below_drew1) | exact HB.out))) : w.heap.size ≤ gb208)); clear HB; have HB := n0_; have BK208 := n1_; have GW208 := n2_; have GE208 := n3_; clear n0_ n1_ n2_ n3_; clear hb hbox hg; have hcz15_0 : w14.cell? ⟨gb208, 0, none⟩ = some (.int .i64 0) := (blk_cell BK208.out 0).trans rfl; have hcz15_1 : w14.cell? ⟨gb208, 1, none⟩ = some (.int .i64 0) := (blk_cell BK208.out 1).trans rfl; have hcz15_2 : w14.cell? ⟨gb208, 2, none⟩ = some (.int .i64 0) := (blk_cell BK208.out 2).trans rfl; have hcz15_3 : w14.cell? ⟨gb208, 3, none⟩ = some (.int .i64 0) := (blk_cell BK208.out 3).trans rfl; have hcz15_4 : w14.cell? ⟨gb208, 4, none⟩ = some (.int .i64 0) := (blk_cell BK208.out 4).trans rfl; have hcz15_5 : w14.cell? ⟨gb208, 5, none⟩ = some (.int .i64 0) := (blk_cell BK208.out 5).trans rfl; have hcz15_6 : w14.cell? ⟨gb208, 6, none⟩ = some (.int .i64 0) := (blk_cell BK208.out 6).trans rfl; have hcz15_7 : w14.cell? ⟨gb208, 7, none⟩ = some (.int .i64 0) := (blk_cell BK208.out 7).trans rfl; have hfz15_0 := blk_frozen BK208.out 0; have hfz15_1 := blk_frozen BK208.out 1; have hfz15_2 := blk_frozen BK208.out 2; have hfz15_3 := blk_frozen BK208.out 3; have hfz15_4 := blk_frozen BK208.out 4; have hfz15_5 := blk_frozen BK208.out 5; have hfz15_6 := blk_frozen BK208.out 6; have hfz15_7 := blk_frozen BK208.out 7))
                  go_loopg [7] k2 (fun kq v7 w' => ∃ (x7_3 : Int), v7 = .int .i64 x7_3 ∧ Aside0 (selvagelaw14_AllocSpans.l1 kq l0 x5_2 x7_3 ((rd_T40 l0 x5_2).f0) ((rd_T40 l0 x5_2).f1) ((rd_T40 l0 x5_2).f2) ((rd_T40 l0 x5_2).f3) ((rd_T40 l0 x5_2).f4) ((rd_T40 l0 x5_2).f5) ((rd_T40 l0 x5_2).f6) ((rd_T40 l0 x5_2).f7) = some r) ∧ Aside0 (kq ≤ k2) ∧ Aside0 (w'.heap[gb208]? = some (.cells #[.int .i64 ((rd_T40 l0 x5_2).f0), .int .i64 ((rd_T40 l0 x5_2).f1), .int .i64 ((rd_T40 l0 x5_2).f2), .int .i64 ((rd_T40 l0 x5_2).f3), .int .i64 ((rd_T40 l0 x5_2).f4), .int .i64 ((rd_T40 l0 x5_2).f5), .int .i64 ((rd_T40 l0 x5_2).f6), .int .i64 ((rd_T40 l0 x5_2).f7)] 40 (0, 0))) ∧ Aside0 (Below w.heap.size w w'))
                  case atStart => exact ⟨(0), (by first | rfl | (simp; done) | (simp [*]; done)), H', ⟨Nat.le_refl _⟩, ⟨by (with_reducible repeat (first | refine blk_drewN ?_ _ | refine blk_drew ?_ | refine blk_alloc ?_ _)); refine blk_put (cs := #[.int .i64 ((rd_T40 l0 x5_2).f0), .int .i64 ((rd_T40 l0 x5_2).f1), .int .i64 ((rd_T40 l0 x5_2).f2), .int .i64 ((rd_T40 l0 x5_2).f3), .int .i64 ((rd_T40 l0 x5_2).f4), .int .i64 ((rd_T40 l0 x5_2).f5), .int .i64 ((rd_T40 l0 x5_2).f6), .int .i64 0]) ?_ 7 _ rfl; (with_reducible repeat (first | refine blk_drewN ?_ _ | refine blk_drew ?_ | refine blk_alloc ?_ _)); refine blk_put (cs := #[.int .i64 ((rd_T40 l0 x5_2).f0), .int .i64 ((rd_T40 l0 x5_2).f1), .int .i64 ((rd_T40 l0 x5_2).f2), .int .i64 ((rd_T40 l0 x5_2).f3), .int .i64 ((rd_T40 l0 x5_2).f4), .int .i64 ((rd_T40 l0 x5_2).f5), .int .i64 0, .int .i64 0]) ?_ 6 _ rfl; (with_reducible repeat (first | refine blk_drewN ?_ _ | refine blk_drew ?_ | refine blk_alloc ?_ _)); refine blk_put (cs := #[.int .i64 ((rd_T40 l0 x5_2).f0), .int .i64 ((rd_T40 l0 x5_2).f1), .int .i64 ((rd_T40 l0 x5_2).f2), .int .i64 ((rd_T40 l0 x5_2).f3), .int .i64 ((rd_T40 l0 x5_2).f4), .int .i64 0, .int .i64 0, .int .i64 0]) ?_ 5 _ rfl; (with_reducible repeat (first | refine blk_drewN ?_ _ | refine blk_drew ?_ | refine blk_alloc ?_ _)); refine blk_put (cs := #[.int .i64 ((rd_T40 l0 x5_2).f0), .int .i64 ((rd_T40 l0 x5_2).f1), .int .i64 ((rd_T40 l0 x5_2).f2), .int .i64 ((rd_T40 l0 x5_2).f3), .int .i64 0, .int .i64 0, .int .i64 0, .int .i64 0]) ?_ 4 _ rfl; (with_reducible repeat (first | refine blk_drewN ?_ _ | refine blk_drew ?_ | refine blk_alloc ?_ _)); refine blk_put (cs := #[.int .i64 ((rd_T40 l0 x5_2).f0), .int .i64 ((rd_T40 l0 x5_2).f1), .int .i64 ((rd_T40 l0 x5_2).f2), .int .i64 0, .int .i64 0, .int .i64 0, .int .i64 0, .int .i64 0]) ?_ 3 _ rfl; (with_reducible repeat (first | refine blk_drewN ?_ _ | refine blk_drew ?_ | refine blk_alloc ?_ _)); refine blk_put (cs := #[.int .i64 ((rd_T40 l0 x5_2).f0), .int .i64 ((rd_T40 l0 x5_2).f1), .int .i64 0, .int .i64 0, .int .i64 0, .int .i64 0, .int .i64 0, .int .i64 0]) ?_ 2 _ rfl; (with_reducible repeat (first | refine blk_drewN ?_ _ | refine blk_drew ?_ | refine blk_alloc ?_ _)); refine blk_put (cs := #[.int .i64 ((rd_T40 l0 x5_2).f0), .int .i64 0, .int .i64 0, .int .i64 0, .int .i64 0, .int .i64 0, .int .i64 0, .int .i64 0]) ?_ 1 _ rfl; (with_reducible repeat (first | refine blk_drewN ?_ _ | refine blk_drew ?_ | refine blk_alloc ?_ _)); refine blk_put (cs := #[.int .i64 0, .int .i64 0, .int .i64 0, .int .i64 0, .int .i64 0, .int .i64 0, .int .i64 0, .int .i64 0]) ?_ 0 _ rfl; (with_reducible repeat (first | refine blk_drewN ?_ _ | refine blk_drew ?_ | refine blk_alloc ?_ _)); exact BK208.out⟩, ⟨by repeat (first | (with_reducible first | exact HB.out | apply below_alloc | apply pw_below_drewN | apply below_drew1 | refine below_set ?_ GE208.out) | exact HB.out)⟩⟩
                  case round =>
                    clear H'
                    try clear c1
                    try clear p2
                    try clear q2
                    try clear hx2
                    try clear c4
                    try clear c5
                    try clear c7
                    try clear c7b0
                    try clear c7b1
                    try clear c8
                    try clear c8b0
                    try clear c8b1
                    try clear c11
                    try clear c12
                    try clear c12b0
                    try clear c13
                    try clear c13b0
                    try clear hcz15_0
                    try clear hcz15_1
                    try clear hcz15_2
                    try clear hcz15_3
                    try clear hcz15_4
                    try clear hcz15_5
                    try clear hcz15_6
                    try clear hcz15_7
                    try clear hfz15_0
                    try clear hfz15_1
                    try clear hfz15_2
                    try clear hfz15_3
                    try clear hfz15_4
                    try clear hfz15_5
                    try clear hfz15_6
                    try clear hfz15_7
                    try clear hx207_0
                    try clear hx207_1
                    try clear hx207_2
                    try clear hx207_3
                    try clear hx207_4
                    try clear hx207_5
                    try clear hx207_6
                    try clear hx207_7
                    try clear p2
                    try clear p207
                    try clear q207
                    obtain ⟨x7_3, rfl, HA, HK3, BK208, HB⟩ := hrel
                    cases gk with
                    | zero => exact absurd HA.out (by simp [selvagelaw14_AllocSpans.l1])
                    | succ k3 =>
                      have H := HA.out
                      clear HA
                      simp only [selvagelaw14_AllocSpans.l1] at H
                      by_cases c16 : x7_3 < 400
                      · rw [if_pos c16] at H
                        have c16b0 : decide (x7_3 < 400) = true := decide_eq_true c16
                        clear c16
                        have HC17 := Aside0.mk H
                        clear H
                        go_upto_region 12 with (fail)
                        go_cut [56] (fun v56 wc => ∃ (kq : Nat) (x56_16 : Bool), v56 = .bool x56_16 ∧ Aside0 (selvagelaw14_AllocSpans.j3 kq l0 x5_2 x7_3 x56_16 ((rd_T40 l0 x5_2).f0) ((rd_T40 l0 x5_2).f1) ((rd_T40 l0 x5_2).f2) ((rd_T40 l0 x5_2).f3) ((rd_T40 l0 x5_2).f4) ((rd_T40 l0 x5_2).f5) ((rd_T40 l0 x5_2).f6) ((rd_T40 l0 x5_2).f7) = some r) ∧ Aside0 (kq ≤ k3) ∧ Aside0 (wc.heap[gb208]? = some (.cells #[.int .i64 ((rd_T40 l0 x5_2).f0), .int .i64 ((rd_T40 l0 x5_2).f1), .int .i64 ((rd_T40 l0 x5_2).f2), .int .i64 ((rd_T40 l0 x5_2).f3), .int .i64 ((rd_T40 l0 x5_2).f4), .int .i64 ((rd_T40 l0 x5_2).f5), .int .i64 ((rd_T40 l0 x5_2).f6), .int .i64 ((rd_T40 l0 x5_2).f7)] 40 (0, 0))) ∧ Aside0 (Below w.heap.size w wc))
                        case first =>
                          have H := HC17.out
                          clear HC17
                          replace H := Option.bind_eq_some_iff.mp H
                          obtain ⟨t209, A180, H⟩ := H
                          replace H : (if t209 = true then (selvagelaw14_AllocSpans.j3 k3 l0 x5_2 x7_3 false ((rd_T40 l0 x5_2).f0) ((rd_T40 l0 x5_2).f1) ((rd_T40 l0 x5_2).f2) ((rd_T40 l0 x5_2).f3) ((rd_T40 l0 x5_2).f4) ((rd_T40 l0 x5_2).f5) ((rd_T40 l0 x5_2).f6) ((rd_T40 l0 x5_2).f7)) else ((selvageref10_Has.f k3 ((rd_T40 l0 x5_2).f0) 100).bind fun t210 => (if t210 = true then (selvagelaw14_AllocSpans.j3 k3 l0 x5_2 x7_3 (((rd_T40 l0 x5_2).f1) != x7_3) ((rd_T40 l0 x5_2).f0) ((rd_T40 l0 x5_2).f1) ((rd_T40 l0 x5_2).f2) ((rd_T40 l0 x5_2).f3) ((rd_T40 l0 x5_2).f4) ((rd_T40 l0 x5_2).f5) ((rd_T40 l0 x5_2).f6) ((rd_T40 l0 x5_2).f7)) else (selvagelaw14_AllocSpans.j3 k3 l0 x5_2 x7_3 true ((rd_T40 l0 x5_2).f0) ((rd_T40 l0 x5_2).f1) ((rd_T40 l0 x5_2).f2) ((rd_T40 l0 x5_2).f3) ((rd_T40 l0 x5_2).f4) ((rd_T40 l0 x5_2).f5) ((rd_T40 l0 x5_2).f6) ((rd_T40 l0 x5_2).f7))))) = some r := H
                          have A18 := Aside0.mk A180
                          clear A180
                          by_cases c19 : t209 = true
                          · subst c19
                            have H1 : (selvagelaw14_AllocSpans.j3 k3 l0 x5_2 x7_3 false ((rd_T40 l0 x5_2).f0) ((rd_T40 l0 x5_2).f1) ((rd_T40 l0 x5_2).f2) ((rd_T40 l0 x5_2).f3) ((rd_T40 l0 x5_2).f4) ((rd_T40 l0 x5_2).f5) ((rd_T40 l0 x5_2).f6) ((rd_T40 l0 x5_2).f7)) = some r := by rw [if_pos rfl] at H; exact H
                            clear H
                            have H := H1
                            clear H1
                            have H' := Aside0.mk H
                            clear H
                            have hcz20_0 : wr.cell? ⟨gb208, 0, none⟩ = some (.int .i64 ((rd_T40 l0 x5_2).f0)) := (blk_cell BK208.out 0).trans rfl
                            have hcz20_1 : wr.cell? ⟨gb208, 1, none⟩ = some (.int .i64 ((rd_T40 l0 x5_2).f1)) := (blk_cell BK208.out 1).trans rfl
                            have hcz20_2 : wr.cell? ⟨gb208, 2, none⟩ = some (.int .i64 ((rd_T40 l0 x5_2).f2)) := (blk_cell BK208.out 2).trans rfl
                            have hcz20_3 : wr.cell? ⟨gb208, 3, none⟩ = some (.int .i64 ((rd_T40 l0 x5_2).f3)) := (blk_cell BK208.out 3).trans rfl
                            have hcz20_4 : wr.cell? ⟨gb208, 4, none⟩ = some (.int .i64 ((rd_T40 l0 x5_2).f4)) := (blk_cell BK208.out 4).trans rfl
                            have hcz20_5 : wr.cell? ⟨gb208, 5, none⟩ = some (.int .i64 ((rd_T40 l0 x5_2).f5)) := (blk_cell BK208.out 5).trans rfl
                            have hcz20_6 : wr.cell? ⟨gb208, 6, none⟩ = some (.int .i64 ((rd_T40 l0 x5_2).f6)) := (blk_cell BK208.out 6).trans rfl
                            have hcz20_7 : wr.cell? ⟨gb208, 7, none⟩ = some (.int .i64 ((rd_T40 l0 x5_2).f7)) := (blk_cell BK208.out 7).trans rfl
                            have hfz20_0 := blk_frozen BK208.out 0
                            have hfz20_1 := blk_frozen BK208.out 1
                            have hfz20_2 := blk_frozen BK208.out 2
                            have hfz20_3 := blk_frozen BK208.out 3
                            have hfz20_4 := blk_frozen BK208.out 4
                            have hfz20_5 := blk_frozen BK208.out 5
                            have hfz20_6 := blk_frozen BK208.out 6
                            have hfz20_7 := blk_frozen BK208.out 7
                            go_wp2_with (first | ((with_reducible refine gate_callee (f := 14) rfl ?_); refine goesL_ (some 43) rfl rfl Try.func14 (by kernel_rfl) rfl #[.agg #[.int .i64 ((rd_T40 l0 x5_2).f0), .int .i64 ((rd_T40 l0 x5_2).f1), .int .i64 ((rd_T40 l0 x5_2).f2), .int .i64 ((rd_T40 l0 x5_2).f3), .int .i64 ((rd_T40 l0 x5_2).f4), .int .i64 ((rd_T40 l0 x5_2).f5), .int .i64 ((rd_T40 l0 x5_2).f6), .int .i64 ((rd_T40 l0 x5_2).f7)], .int .i64 x7_3] rfl (by (try simp only [List.map_toArray, List.map_cons, List.map_nil]); first | done | rfl | (simp only [List.length_drop, List.length_take]; rfl)) ?_; (with_reducible refine (selvageref14_Uses.calls k3 ((rd_T40 l0 x5_2).f0) ((rd_T40 l0 x5_2).f1) ((rd_T40 l0 x5_2).f2) ((rd_T40 l0 x5_2).f3) ((rd_T40 l0 x5_2).f4) ((rd_T40 l0 x5_2).f5) ((rd_T40 l0 x5_2).f6) ((rd_T40 l0 x5_2).f7) x7_3 true _ A18.out).mono ?_); rintro e w21 ⟨rfl, hb⟩; refine ⟨_, rfl, ?_⟩; have n0_ := Aside0.mk (blk_below (g := gb208) (o := .cells #[.int .i64 ((rd_T40 l0 x5_2).f0), .int .i64 ((rd_T40 l0 x5_2).f1), .int .i64 ((rd_T40 l0 x5_2).f2), .int .i64 ((rd_T40 l0 x5_2).f3), .int .i64 ((rd_T40 l0 x5_2).f4), .int .i64 ((rd_T40 l0 x5_2).f5), .int .i64 ((rd_T40 l0 x5_2).f6), .int .i64 ((rd_T40 l0 x5_2).f7)] 40 (0, 0)) (by (with_reducible repeat (first | refine blk_drewN ?_ _ | refine blk_drew ?_ | refine blk_alloc ?_ _)); exact BK208.out) hb); have n1_ := Aside0.mk (below_step (by repeat (first | (with_reducible first | exact HB.out | apply below_alloc | apply pw_below_drewN | apply below_drew1 | refine below_set ?_ GE208.out) | exact HB.out)) hb); clear BK208; clear HB; have BK208 := n0_; have HB := n1_; clear n0_ n1_; (try clear hb); (try clear hb2); (try clear hk); (try clear hi)))
                            go_meet
                            case rel => exact ⟨_, (false), (by first | rfl | (simp; done) | (simp [*]; done)), H', ⟨by have := HJ4.out; have := HK2.out; have := HK3.out; first | omega | exact Nat.le_refl _⟩, ⟨by (with_reducible repeat (first | refine blk_drewN ?_ _ | refine blk_drew ?_ | refine blk_alloc ?_ _)); exact BK208.out⟩, ⟨by repeat (first | (with_reducible first | exact HB.out | apply below_alloc | apply pw_below_drewN | apply below_drew1 | refine below_set ?_ GE208.out) | exact HB.out)⟩⟩
                          · replace c19 := Bool.eq_false_iff.mpr c19
                            subst c19
                            have H1 : ((selvageref10_Has.f k3 ((rd_T40 l0 x5_2).f0) 100).bind fun t210 => (if t210 = true then (selvagelaw14_AllocSpans.j3 k3 l0 x5_2 x7_3 (((rd_T40 l0 x5_2).f1) != x7_3) ((rd_T40 l0 x5_2).f0) ((rd_T40 l0 x5_2).f1) ((rd_T40 l0 x5_2).f2) ((rd_T40 l0 x5_2).f3) ((rd_T40 l0 x5_2).f4) ((rd_T40 l0 x5_2).f5) ((rd_T40 l0 x5_2).f6) ((rd_T40 l0 x5_2).f7)) else (selvagelaw14_AllocSpans.j3 k3 l0 x5_2 x7_3 true ((rd_T40 l0 x5_2).f0) ((rd_T40 l0 x5_2).f1) ((rd_T40 l0 x5_2).f2) ((rd_T40 l0 x5_2).f3) ((rd_T40 l0 x5_2).f4) ((rd_T40 l0 x5_2).f5) ((rd_T40 l0 x5_2).f6) ((rd_T40 l0 x5_2).f7)))) = some r := by rw [if_neg (show ¬ (false = true) by decide)] at H; exact H
                            clear H
                            have H := H1
                            clear H1
                            replace H := Option.bind_eq_some_iff.mp H
                            obtain ⟨t210, A220, H⟩ := H
                            replace H : (if t210 = true then (selvagelaw14_AllocSpans.j3 k3 l0 x5_2 x7_3 (((rd_T40 l0 x5_2).f1) != x7_3) ((rd_T40 l0 x5_2).f0) ((rd_T40 l0 x5_2).f1) ((rd_T40 l0 x5_2).f2) ((rd_T40 l0 x5_2).f3) ((rd_T40 l0 x5_2).f4) ((rd_T40 l0 x5_2).f5) ((rd_T40 l0 x5_2).f6) ((rd_T40 l0 x5_2).f7)) else (selvagelaw14_AllocSpans.j3 k3 l0 x5_2 x7_3 true ((rd_T40 l0 x5_2).f0) ((rd_T40 l0 x5_2).f1) ((rd_T40 l0 x5_2).f2) ((rd_T40 l0 x5_2).f3) ((rd_T40 l0 x5_2).f4) ((rd_T40 l0 x5_2).f5) ((rd_T40 l0 x5_2).f6) ((rd_T40 l0 x5_2).f7))) = some r := H
                            have A22 := Aside0.mk A220
                            clear A220
                            by_cases c23 : t210 = true
                            · subst c23
                              have H1 : (selvagelaw14_AllocSpans.j3 k3 l0 x5_2 x7_3 (((rd_T40 l0 x5_2).f1) != x7_3) ((rd_T40 l0 x5_2).f0) ((rd_T40 l0 x5_2).f1) ((rd_T40 l0 x5_2).f2) ((rd_T40 l0 x5_2).f3) ((rd_T40 l0 x5_2).f4) ((rd_T40 l0 x5_2).f5) ((rd_T40 l0 x5_2).f6) ((rd_T40 l0 x5_2).f7)) = some r := by rw [if_pos rfl] at H; exact H
                              clear H
                              have H := H1
                              clear H1
                              have H' := Aside0.mk H
                              clear H
                              have hcz24_0 : wr.cell? ⟨gb208, 0, none⟩ = some (.int .i64 ((rd_T40 l0 x5_2).f0)) := (blk_cell BK208.out 0).trans rfl
                              have hcz24_1 : wr.cell? ⟨gb208, 1, none⟩ = some (.int .i64 ((rd_T40 l0 x5_2).f1)) := (blk_cell BK208.out 1).trans rfl
                              have hcz24_2 : wr.cell? ⟨gb208, 2, none⟩ = some (.int .i64 ((rd_T40 l0 x5_2).f2)) := (blk_cell BK208.out 2).trans rfl
                              have hcz24_3 : wr.cell? ⟨gb208, 3, none⟩ = some (.int .i64 ((rd_T40 l0 x5_2).f3)) := (blk_cell BK208.out 3).trans rfl
                              have hcz24_4 : wr.cell? ⟨gb208, 4, none⟩ = some (.int .i64 ((rd_T40 l0 x5_2).f4)) := (blk_cell BK208.out 4).trans rfl
                              have hcz24_5 : wr.cell? ⟨gb208, 5, none⟩ = some (.int .i64 ((rd_T40 l0 x5_2).f5)) := (blk_cell BK208.out 5).trans rfl
                              have hcz24_6 : wr.cell? ⟨gb208, 6, none⟩ = some (.int .i64 ((rd_T40 l0 x5_2).f6)) := (blk_cell BK208.out 6).trans rfl
                              have hcz24_7 : wr.cell? ⟨gb208, 7, none⟩ = some (.int .i64 ((rd_T40 l0 x5_2).f7)) := (blk_cell BK208.out 7).trans rfl
                              have hfz24_0 := blk_frozen BK208.out 0
                              have hfz24_1 := blk_frozen BK208.out 1
                              have hfz24_2 := blk_frozen BK208.out 2
                              have hfz24_3 := blk_frozen BK208.out 3
                              have hfz24_4 := blk_frozen BK208.out 4
                              have hfz24_5 := blk_frozen BK208.out 5
                              have hfz24_6 := blk_frozen BK208.out 6
                              have hfz24_7 := blk_frozen BK208.out 7
                              go_wp2_with (first | ((with_reducible refine gate_callee (f := 14) rfl ?_); refine goesL_ (some 43) rfl rfl Try.func14 (by kernel_rfl) rfl #[.agg #[.int .i64 ((rd_T40 l0 x5_2).f0), .int .i64 ((rd_T40 l0 x5_2).f1), .int .i64 ((rd_T40 l0 x5_2).f2), .int .i64 ((rd_T40 l0 x5_2).f3), .int .i64 ((rd_T40 l0 x5_2).f4), .int .i64 ((rd_T40 l0 x5_2).f5), .int .i64 ((rd_T40 l0 x5_2).f6), .int .i64 ((rd_T40 l0 x5_2).f7)], .int .i64 x7_3] rfl (by (try simp only [List.map_toArray, List.map_cons, List.map_nil]); first | done | rfl | (simp only [List.length_drop, List.length_take]; rfl)) ?_; (with_reducible refine (selvageref14_Uses.calls k3 ((rd_T40 l0 x5_2).f0) ((rd_T40 l0 x5_2).f1) ((rd_T40 l0 x5_2).f2) ((rd_T40 l0 x5_2).f3) ((rd_T40 l0 x5_2).f4) ((rd_T40 l0 x5_2).f5) ((rd_T40 l0 x5_2).f6) ((rd_T40 l0 x5_2).f7) x7_3 false _ A18.out).mono ?_); rintro e w25 ⟨rfl, hb⟩; refine ⟨_, rfl, ?_⟩; have n0_ := Aside0.mk (blk_below (g := gb208) (o := .cells #[.int .i64 ((rd_T40 l0 x5_2).f0), .int .i64 ((rd_T40 l0 x5_2).f1), .int .i64 ((rd_T40 l0 x5_2).f2), .int .i64 ((rd_T40 l0 x5_2).f3), .int .i64 ((rd_T40 l0 x5_2).f4), .int .i64 ((rd_T40 l0 x5_2).f5), .int .i64 ((rd_T40 l0 x5_2).f6), .int .i64 ((rd_T40 l0 x5_2).f7)] 40 (0, 0)) (by (with_reducible repeat (first | refine blk_drewN ?_ _ | refine blk_drew ?_ | refine blk_alloc ?_ _)); exact BK208.out) hb); have n1_ := Aside0.mk (below_step (by repeat (first | (with_reducible first | exact HB.out | apply below_alloc | apply pw_below_drewN | apply below_drew1 | refine below_set ?_ GE208.out) | exact HB.out)) hb); clear BK208; clear HB; have BK208 := n0_; have HB := n1_; clear n0_ n1_; (try clear hb); (try clear hb2); (try clear hk); (try clear hi); have hcz26_0 : w25.cell? ⟨gb208, 0, none⟩ = some (.int .i64 ((rd_T40 l0 x5_2).f0)) := (blk_cell BK208.out 0).trans rfl; have hcz26_1 : w25.cell? ⟨gb208, 1, none⟩ = some (.int .i64 ((rd_T40 l0 x5_2).f1)) := (blk_cell BK208.out 1).trans rfl; have hcz26_2 : w25.cell? ⟨gb208, 2, none⟩ = some (.int .i64 ((rd_T40 l0 x5_2).f2)) := (blk_cell BK208.out 2).trans rfl; have hcz26_3 : w25.cell? ⟨gb208, 3, none⟩ = some (.int .i64 ((rd_T40 l0 x5_2).f3)) := (blk_cell BK208.out 3).trans rfl; have hcz26_4 : w25.cell? ⟨gb208, 4, none⟩ = some (.int .i64 ((rd_T40 l0 x5_2).f4)) := (blk_cell BK208.out 4).trans rfl; have hcz26_5 : w25.cell? ⟨gb208, 5, none⟩ = some (.int .i64 ((rd_T40 l0 x5_2).f5)) := (blk_cell BK208.out 5).trans rfl; have hcz26_6 : w25.cell? ⟨gb208, 6, none⟩ = some (.int .i64 ((rd_T40 l0 x5_2).f6)) := (blk_cell BK208.out 6).trans rfl; have hcz26_7 : w25.cell? ⟨gb208, 7, none⟩ = some (.int .i64 ((rd_T40 l0 x5_2).f7)) := (blk_cell BK208.out 7).trans rfl; have hfz26_0 := blk_frozen BK208.out 0; have hfz26_1 := blk_frozen BK208.out 1; have hfz26_2 := blk_frozen BK208.out 2; have hfz26_3 := blk_frozen BK208.out 3; have hfz26_4 := blk_frozen BK208.out 4; have hfz26_5 := blk_frozen BK208.out 5; have hfz26_6 := blk_frozen BK208.out 6; have hfz26_7 := blk_frozen BK208.out 7) | (go_at_call 15; (with_reducible refine (selvageref10_Has.calls k3 ((rd_T40 l0 x5_2).f0) 100 true _ A22.out).mono ?_); rintro e w' ⟨rfl, ⟨nd, rfl⟩⟩))
                              go_meet
                              case rel => exact ⟨_, ((((rd_T40 l0 x5_2).f1) != x7_3)), (by first | rfl | (simp; done) | (simp [*]; done)), H', ⟨by have := HJ4.out; have := HK2.out; have := HK3.out; first | omega | exact Nat.le_refl _⟩, ⟨by (with_reducible repeat (first | refine blk_drewN ?_ _ | refine blk_drew ?_ | refine blk_alloc ?_ _)); exact BK208.out⟩, ⟨by repeat (first | (with_reducible first | exact HB.out | apply below_alloc | apply pw_below_drewN | apply below_drew1 | refine below_set ?_ GE208.out) | exact HB.out)⟩⟩
                            · replace c23 := Bool.eq_false_iff.mpr c23
                              subst c23
                              have H1 : (selvagelaw14_AllocSpans.j3 k3 l0 x5_2 x7_3 true ((rd_T40 l0 x5_2).f0) ((rd_T40 l0 x5_2).f1) ((rd_T40 l0 x5_2).f2) ((rd_T40 l0 x5_2).f3) ((rd_T40 l0 x5_2).f4) ((rd_T40 l0 x5_2).f5) ((rd_T40 l0 x5_2).f6) ((rd_T40 l0 x5_2).f7)) = some r := by rw [if_neg (show ¬ (false = true) by decide)] at H; exact H
                              clear H
                              have H := H1
                              clear H1
                              have H' := Aside0.mk H
                              clear H
                              have hcz27_0 : wr.cell? ⟨gb208, 0, none⟩ = some (.int .i64 ((rd_T40 l0 x5_2).f0)) := (blk_cell BK208.out 0).trans rfl
                              have hcz27_1 : wr.cell? ⟨gb208, 1, none⟩ = some (.int .i64 ((rd_T40 l0 x5_2).f1)) := (blk_cell BK208.out 1).trans rfl
                              have hcz27_2 : wr.cell? ⟨gb208, 2, none⟩ = some (.int .i64 ((rd_T40 l0 x5_2).f2)) := (blk_cell BK208.out 2).trans rfl
                              have hcz27_3 : wr.cell? ⟨gb208, 3, none⟩ = some (.int .i64 ((rd_T40 l0 x5_2).f3)) := (blk_cell BK208.out 3).trans rfl
                              have hcz27_4 : wr.cell? ⟨gb208, 4, none⟩ = some (.int .i64 ((rd_T40 l0 x5_2).f4)) := (blk_cell BK208.out 4).trans rfl
                              have hcz27_5 : wr.cell? ⟨gb208, 5, none⟩ = some (.int .i64 ((rd_T40 l0 x5_2).f5)) := (blk_cell BK208.out 5).trans rfl
                              have hcz27_6 : wr.cell? ⟨gb208, 6, none⟩ = some (.int .i64 ((rd_T40 l0 x5_2).f6)) := (blk_cell BK208.out 6).trans rfl
                              have hcz27_7 : wr.cell? ⟨gb208, 7, none⟩ = some (.int .i64 ((rd_T40 l0 x5_2).f7)) := (blk_cell BK208.out 7).trans rfl
                              have hfz27_0 := blk_frozen BK208.out 0
                              have hfz27_1 := blk_frozen BK208.out 1
                              have hfz27_2 := blk_frozen BK208.out 2
                              have hfz27_3 := blk_frozen BK208.out 3
                              have hfz27_4 := blk_frozen BK208.out 4
                              have hfz27_5 := blk_frozen BK208.out 5
                              have hfz27_6 := blk_frozen BK208.out 6
                              have hfz27_7 := blk_frozen BK208.out 7
                              go_wp2_with (first | ((with_reducible refine gate_callee (f := 14) rfl ?_); refine goesL_ (some 43) rfl rfl Try.func14 (by kernel_rfl) rfl #[.agg #[.int .i64 ((rd_T40 l0 x5_2).f0), .int .i64 ((rd_T40 l0 x5_2).f1), .int .i64 ((rd_T40 l0 x5_2).f2), .int .i64 ((rd_T40 l0 x5_2).f3), .int .i64 ((rd_T40 l0 x5_2).f4), .int .i64 ((rd_T40 l0 x5_2).f5), .int .i64 ((rd_T40 l0 x5_2).f6), .int .i64 ((rd_T40 l0 x5_2).f7)], .int .i64 x7_3] rfl (by (try simp only [List.map_toArray, List.map_cons, List.map_nil]); first | done | rfl | (simp only [List.length_drop, List.length_take]; rfl)) ?_; (with_reducible refine (selvageref14_Uses.calls k3 ((rd_T40 l0 x5_2).f0) ((rd_T40 l0 x5_2).f1) ((rd_T40 l0 x5_2).f2) ((rd_T40 l0 x5_2).f3) ((rd_T40 l0 x5_2).f4) ((rd_T40 l0 x5_2).f5) ((rd_T40 l0 x5_2).f6) ((rd_T40 l0 x5_2).f7) x7_3 false _ A18.out).mono ?_); rintro e w28 ⟨rfl, hb⟩; refine ⟨_, rfl, ?_⟩; have n0_ := Aside0.mk (blk_below (g := gb208) (o := .cells #[.int .i64 ((rd_T40 l0 x5_2).f0), .int .i64 ((rd_T40 l0 x5_2).f1), .int .i64 ((rd_T40 l0 x5_2).f2), .int .i64 ((rd_T40 l0 x5_2).f3), .int .i64 ((rd_T40 l0 x5_2).f4), .int .i64 ((rd_T40 l0 x5_2).f5), .int .i64 ((rd_T40 l0 x5_2).f6), .int .i64 ((rd_T40 l0 x5_2).f7)] 40 (0, 0)) (by (with_reducible repeat (first | refine blk_drewN ?_ _ | refine blk_drew ?_ | refine blk_alloc ?_ _)); exact BK208.out) hb); have n1_ := Aside0.mk (below_step (by repeat (first | (with_reducible first | exact HB.out | apply below_alloc | apply pw_below_drewN | apply below_drew1 | refine below_set ?_ GE208.out) | exact HB.out)) hb); clear BK208; clear HB; have BK208 := n0_; have HB := n1_; clear n0_ n1_; (try clear hb); (try clear hb2); (try clear hk); (try clear hi); have hcz29_0 : w28.cell? ⟨gb208, 0, none⟩ = some (.int .i64 ((rd_T40 l0 x5_2).f0)) := (blk_cell BK208.out 0).trans rfl; have hcz29_1 : w28.cell? ⟨gb208, 1, none⟩ = some (.int .i64 ((rd_T40 l0 x5_2).f1)) := (blk_cell BK208.out 1).trans rfl; have hcz29_2 : w28.cell? ⟨gb208, 2, none⟩ = some (.int .i64 ((rd_T40 l0 x5_2).f2)) := (blk_cell BK208.out 2).trans rfl; have hcz29_3 : w28.cell? ⟨gb208, 3, none⟩ = some (.int .i64 ((rd_T40 l0 x5_2).f3)) := (blk_cell BK208.out 3).trans rfl; have hcz29_4 : w28.cell? ⟨gb208, 4, none⟩ = some (.int .i64 ((rd_T40 l0 x5_2).f4)) := (blk_cell BK208.out 4).trans rfl; have hcz29_5 : w28.cell? ⟨gb208, 5, none⟩ = some (.int .i64 ((rd_T40 l0 x5_2).f5)) := (blk_cell BK208.out 5).trans rfl; have hcz29_6 : w28.cell? ⟨gb208, 6, none⟩ = some (.int .i64 ((rd_T40 l0 x5_2).f6)) := (blk_cell BK208.out 6).trans rfl; have hcz29_7 : w28.cell? ⟨gb208, 7, none⟩ = some (.int .i64 ((rd_T40 l0 x5_2).f7)) := (blk_cell BK208.out 7).trans rfl; have hfz29_0 := blk_frozen BK208.out 0; have hfz29_1 := blk_frozen BK208.out 1; have hfz29_2 := blk_frozen BK208.out 2; have hfz29_3 := blk_frozen BK208.out 3; have hfz29_4 := blk_frozen BK208.out 4; have hfz29_5 := blk_frozen BK208.out 5; have hfz29_6 := blk_frozen BK208.out 6; have hfz29_7 := blk_frozen BK208.out 7) | (go_at_call 15; (with_reducible refine (selvageref10_Has.calls k3 ((rd_T40 l0 x5_2).f0) 100 false _ A22.out).mono ?_); rintro e w' ⟨rfl, ⟨nd, rfl⟩⟩))
                              go_meet
                              case rel => exact ⟨_, (true), (by first | rfl | (simp; done) | (simp [*]; done)), H', ⟨by have := HJ4.out; have := HK2.out; have := HK3.out; first | omega | exact Nat.le_refl _⟩, ⟨by (with_reducible repeat (first | refine blk_drewN ?_ _ | refine blk_drew ?_ | refine blk_alloc ?_ _)); exact BK208.out⟩, ⟨by repeat (first | (with_reducible first | exact HB.out | apply below_alloc | apply pw_below_drewN | apply below_drew1 | refine below_set ?_ GE208.out) | exact HB.out)⟩⟩
                        case rest =>
                          clear HC17
                          try clear c1
                          try clear c2
                          try clear p2
                          try clear q2
                          try clear hx2
                          try clear c4
                          try clear c5
                          try clear c7
                          try clear c7b0
                          try clear c7b1
                          try clear c8
                          try clear c8b0
                          try clear c8b1
                          try clear c11
                          try clear c12
                          try clear c12b0
                          try clear c13
                          try clear c13b0
                          try clear c14
                          try clear c16
                          try clear c16b0
                          try clear c19
                          try clear p20
                          try clear q20
                          try clear hx20
                          try clear c23
                          try clear hcz15_0
                          try clear hcz15_1
                          try clear hcz15_2
                          try clear hcz15_3
                          try clear hcz15_4
                          try clear hcz15_5
                          try clear hcz15_6
                          try clear hcz15_7
                          try clear hcz20_0
                          try clear hcz20_1
                          try clear hcz20_2
                          try clear hcz20_3
                          try clear hcz20_4
                          try clear hcz20_5
                          try clear hcz20_6
                          try clear hcz20_7
                          try clear hcz24_0
                          try clear hcz24_1
                          try clear hcz24_2
                          try clear hcz24_3
                          try clear hcz24_4
                          try clear hcz24_5
                          try clear hcz24_6
                          try clear hcz24_7
                          try clear hcz26_0
                          try clear hcz26_1
                          try clear hcz26_2
                          try clear hcz26_3
                          try clear hcz26_4
                          try clear hcz26_5
                          try clear hcz26_6
                          try clear hcz26_7
                          try clear hcz27_0
                          try clear hcz27_1
                          try clear hcz27_2
                          try clear hcz27_3
                          try clear hcz27_4
                          try clear hcz27_5
                          try clear hcz27_6
                          try clear hcz27_7
                          try clear hcz29_0
                          try clear hcz29_1
                          try clear hcz29_2
                          try clear hcz29_3
                          try clear hcz29_4
                          try clear hcz29_5
                          try clear hcz29_6
                          try clear hcz29_7
                          try clear hfz15_0
                          try clear hfz15_1
                          try clear hfz15_2
                          try clear hfz15_3
                          try clear hfz15_4
                          try clear hfz15_5
                          try clear hfz15_6
                          try clear hfz15_7
                          try clear hfz20_0
                          try clear hfz20_1
                          try clear hfz20_2
                          try clear hfz20_3
                          try clear hfz20_4
                          try clear hfz20_5
                          try clear hfz20_6
                          try clear hfz20_7
                          try clear hfz24_0
                          try clear hfz24_1
                          try clear hfz24_2
                          try clear hfz24_3
                          try clear hfz24_4
                          try clear hfz24_5
                          try clear hfz24_6
                          try clear hfz24_7
                          try clear hfz26_0
                          try clear hfz26_1
                          try clear hfz26_2
                          try clear hfz26_3
                          try clear hfz26_4
                          try clear hfz26_5
                          try clear hfz26_6
                          try clear hfz26_7
                          try clear hfz27_0
                          try clear hfz27_1
                          try clear hfz27_2
                          try clear hfz27_3
                          try clear hfz27_4
                          try clear hfz27_5
                          try clear hfz27_6
                          try clear hfz27_7
                          try clear hfz29_0
                          try clear hfz29_1
                          try clear hfz29_2
                          try clear hfz29_3
                          try clear hfz29_4
                          try clear hfz29_5
                          try clear hfz29_6
                          try clear hfz29_7
                          try clear hx207_0
                          try clear hx207_1
                          try clear hx207_2
                          try clear hx207_3
                          try clear hx207_4
                          try clear hx207_5
                          try clear hx207_6
                          try clear hx207_7
                          try clear p2
                          try clear p207
                          try clear q2
                          try clear q207
                          obtain ⟨kq, x56_16, rfl, HA, HJ16, BK208, HB⟩ := hcut
                          cases kq with
                          | zero => exact absurd HA.out (by simp [selvagelaw14_AllocSpans.j3])
                          | succ kj16 =>
                            have H := HA.out
                            clear HA
                            simp only [selvagelaw14_AllocSpans.j3] at H
                            by_cases c30 : x56_16 = true
                            · subst c30
                              have H1 : (selvagelaw14_AllocSpans.l1 kj16 l0 x5_2 (wrap64 (x7_3 + 1)) ((rd_T40 l0 x5_2).f0) ((rd_T40 l0 x5_2).f1) ((rd_T40 l0 x5_2).f2) ((rd_T40 l0 x5_2).f3) ((rd_T40 l0 x5_2).f4) ((rd_T40 l0 x5_2).f5) ((rd_T40 l0 x5_2).f6) ((rd_T40 l0 x5_2).f7)) = some r := by rw [if_pos rfl] at H; exact H
                              clear H
                              have H := H1
                              clear H1
                              have H' := Aside0.mk H
                              clear H
                              go_wp2
                              go_roundg kj16
                              case measure => have := HJ4.out; have := HK2.out; have := HK3.out; have := HJ16.out; omega
                              case rel => exact ⟨(wrap64 (x7_3 + 1)), (by first | rfl | (simp; done) | (simp [*]; done)), H', ⟨by have := HJ4.out; have := HK2.out; have := HK3.out; have := HJ16.out; omega⟩, ⟨by (with_reducible repeat (first | refine blk_drewN ?_ _ | refine blk_drew ?_ | refine blk_alloc ?_ _)); exact BK208.out⟩, ⟨by repeat (first | (with_reducible first | exact HB.out | apply below_alloc | apply pw_below_drewN | apply below_drew1 | refine below_set ?_ GE208.out) | exact HB.out)⟩⟩
                            · replace c30 := Bool.eq_false_iff.mpr c30
                              subst c30
                              have H1 : ((alloc_Span.f l0 x7_3).bind fun bt211 => (if bt211.2.2 = true then (if x5_2 < bt211.1 then (some false) else (if x5_2 > bt211.2.1 then (some false) else (selvagelaw14_AllocSpans.l1 kj16 l0 x5_2 (wrap64 (x7_3 + 1)) ((rd_T40 l0 x5_2).f0) ((rd_T40 l0 x5_2).f1) ((rd_T40 l0 x5_2).f2) ((rd_T40 l0 x5_2).f3) ((rd_T40 l0 x5_2).f4) ((rd_T40 l0 x5_2).f5) ((rd_T40 l0 x5_2).f6) ((rd_T40 l0 x5_2).f7)))) else (some false))) = some r := by rw [if_neg (show ¬ (false = true) by decide)] at H; exact H
                              clear H
                              have H := H1
                              clear H1
                              replace H := Option.bind_eq_some_iff.mp H
                              obtain ⟨⟨t211, t212, t213⟩, A310, H⟩ := H
                              replace H : (if t213 = true then (if x5_2 < t211 then (some false) else (if x5_2 > t212 then (some false) else (selvagelaw14_AllocSpans.l1 kj16 l0 x5_2 (wrap64 (x7_3 + 1)) ((rd_T40 l0 x5_2).f0) ((rd_T40 l0 x5_2).f1) ((rd_T40 l0 x5_2).f2) ((rd_T40 l0 x5_2).f3) ((rd_T40 l0 x5_2).f4) ((rd_T40 l0 x5_2).f5) ((rd_T40 l0 x5_2).f6) ((rd_T40 l0 x5_2).f7)))) else (some false)) = some r := H
                              have A31 := Aside0.mk A310
                              clear A310
                              by_cases c32 : t213 = true
                              · subst c32
                                have H1 : (if x5_2 < t211 then (some false) else (if x5_2 > t212 then (some false) else (selvagelaw14_AllocSpans.l1 kj16 l0 x5_2 (wrap64 (x7_3 + 1)) ((rd_T40 l0 x5_2).f0) ((rd_T40 l0 x5_2).f1) ((rd_T40 l0 x5_2).f2) ((rd_T40 l0 x5_2).f3) ((rd_T40 l0 x5_2).f4) ((rd_T40 l0 x5_2).f5) ((rd_T40 l0 x5_2).f6) ((rd_T40 l0 x5_2).f7)))) = some r := by rw [if_pos rfl] at H; exact H
                                clear H
                                have H := H1
                                clear H1
                                by_cases c33 : x5_2 < t211
                                · rw [if_pos c33] at H
                                  have c33b0 : decide (x5_2 < t211) = true := decide_eq_true c33
                                  clear c33
                                  obtain rfl := Option.some.inj H
                                  go_wp2_with (first | ((with_reducible refine gate_callee (f := 8) rfl ?_); refine goesL_ (some 60) rfl rfl Try.func8 (by kernel_rfl) rfl #[.slice (some ad207) l0.length c0, .int .i64 x7_3] rfl (by (try simp only [List.map_toArray, List.map_cons, List.map_nil]); first | done | rfl | (simp only [List.length_drop, List.length_take]; rfl)) ?_; (with_reducible refine (alloc_Span.calls _ _ l0 x7_3 t211 t212 true _ ?side1 ?side2 A31.out).mono ?_); (case side1 => repeat (first | exact (Kd.C_below HR0.out HB.out) | (with_reducible refine Kd.C_alloc ?_ _) | (with_reducible refine Kd.C_drewN ?_ _) | (with_reducible refine Kd.C_drew ?_))); (case side2 => exact HC0.out); rintro e w34 ⟨rfl, hb⟩; refine ⟨_, rfl, ?_⟩; have n0_ := Aside0.mk (blk_below (g := gb208) (o := .cells #[.int .i64 ((rd_T40 l0 x5_2).f0), .int .i64 ((rd_T40 l0 x5_2).f1), .int .i64 ((rd_T40 l0 x5_2).f2), .int .i64 ((rd_T40 l0 x5_2).f3), .int .i64 ((rd_T40 l0 x5_2).f4), .int .i64 ((rd_T40 l0 x5_2).f5), .int .i64 ((rd_T40 l0 x5_2).f6), .int .i64 ((rd_T40 l0 x5_2).f7)] 40 (0, 0)) (by (with_reducible repeat (first | refine blk_drewN ?_ _ | refine blk_drew ?_ | refine blk_alloc ?_ _)); exact BK208.out) hb); have n1_ := Aside0.mk (below_step (by repeat (first | (with_reducible first | exact HB.out | apply below_alloc | apply pw_below_drewN | apply below_drew1 | refine below_set ?_ GE208.out) | exact HB.out)) hb); clear BK208; clear HB; have BK208 := n0_; have HB := n1_; clear n0_ n1_; (try clear hb); (try clear hb2); (try clear hk); (try clear hi)))
                                  go_ret
                                  exact ⟨by first | rfl | (simp [errW_none, errW_some] <;> rfl) | (simp [*, errW_none, errW_some] <;> rfl), by repeat (first | (with_reducible first | exact HB.out | apply below_alloc | apply pw_below_drewN | apply below_drew1 | refine below_set ?_ GE208.out) | exact HB.out)⟩
                                · rw [if_neg c33] at H
                                  have c33b0 : decide (x5_2 < t211) = false := decide_eq_false c33
                                  clear c33
                                  by_cases c35 : x5_2 > t212
                                  · rw [if_pos c35] at H
                                    have c35b0 : decide (t212 < x5_2) = true := decide_eq_true c35
                                    clear c35
                                    obtain rfl := Option.some.inj H
                                    go_wp2_with (first | ((with_reducible refine gate_callee (f := 8) rfl ?_); refine goesL_ (some 60) rfl rfl Try.func8 (by kernel_rfl) rfl #[.slice (some ad207) l0.length c0, .int .i64 x7_3] rfl (by (try simp only [List.map_toArray, List.map_cons, List.map_nil]); first | done | rfl | (simp only [List.length_drop, List.length_take]; rfl)) ?_; (with_reducible refine (alloc_Span.calls _ _ l0 x7_3 t211 t212 true _ ?side1 ?side2 A31.out).mono ?_); (case side1 => repeat (first | exact (Kd.C_below HR0.out HB.out) | (with_reducible refine Kd.C_alloc ?_ _) | (with_reducible refine Kd.C_drewN ?_ _) | (with_reducible refine Kd.C_drew ?_))); (case side2 => exact HC0.out); rintro e w36 ⟨rfl, hb⟩; refine ⟨_, rfl, ?_⟩; have n0_ := Aside0.mk (blk_below (g := gb208) (o := .cells #[.int .i64 ((rd_T40 l0 x5_2).f0), .int .i64 ((rd_T40 l0 x5_2).f1), .int .i64 ((rd_T40 l0 x5_2).f2), .int .i64 ((rd_T40 l0 x5_2).f3), .int .i64 ((rd_T40 l0 x5_2).f4), .int .i64 ((rd_T40 l0 x5_2).f5), .int .i64 ((rd_T40 l0 x5_2).f6), .int .i64 ((rd_T40 l0 x5_2).f7)] 40 (0, 0)) (by (with_reducible repeat (first | refine blk_drewN ?_ _ | refine blk_drew ?_ | refine blk_alloc ?_ _)); exact BK208.out) hb); have n1_ := Aside0.mk (below_step (by repeat (first | (with_reducible first | exact HB.out | apply below_alloc | apply pw_below_drewN | apply below_drew1 | refine below_set ?_ GE208.out) | exact HB.out)) hb); clear BK208; clear HB; have BK208 := n0_; have HB := n1_; clear n0_ n1_; (try clear hb); (try clear hb2); (try clear hk); (try clear hi)))
                                    go_ret
                                    exact ⟨by first | rfl | (simp [errW_none, errW_some] <;> rfl) | (simp [*, errW_none, errW_some] <;> rfl), by repeat (first | (with_reducible first | exact HB.out | apply below_alloc | apply pw_below_drewN | apply below_drew1 | refine below_set ?_ GE208.out) | exact HB.out)⟩
                                  · rw [if_neg c35] at H
                                    have c35b0 : decide (t212 < x5_2) = false := decide_eq_false c35
                                    clear c35
                                    have H' := Aside0.mk H
                                    clear H
                                    go_wp2_with (first | ((with_reducible refine gate_callee (f := 8) rfl ?_); refine goesL_ (some 60) rfl rfl Try.func8 (by kernel_rfl) rfl #[.slice (some ad207) l0.length c0, .int .i64 x7_3] rfl (by (try simp only [List.map_toArray, List.map_cons, List.map_nil]); first | done | rfl | (simp only [List.length_drop, List.length_take]; rfl)) ?_; (with_reducible refine (alloc_Span.calls _ _ l0 x7_3 t211 t212 true _ ?side1 ?side2 A31.out).mono ?_); (case side1 => repeat (first | exact (Kd.C_below HR0.out HB.out) | (with_reducible refine Kd.C_alloc ?_ _) | (with_reducible refine Kd.C_drewN ?_ _) | (with_reducible refine Kd.C_drew ?_))); (case side2 => exact HC0.out); rintro e w37 ⟨rfl, hb⟩; refine ⟨_, rfl, ?_⟩; have n0_ := Aside0.mk (blk_below (g := gb208) (o := .cells #[.int .i64 ((rd_T40 l0 x5_2).f0), .int .i64 ((rd_T40 l0 x5_2).f1), .int .i64 ((rd_T40 l0 x5_2).f2), .int .i64 ((rd_T40 l0 x5_2).f3), .int .i64 ((rd_T40 l0 x5_2).f4), .int .i64 ((rd_T40 l0 x5_2).f5), .int .i64 ((rd_T40 l0 x5_2).f6), .int .i64 ((rd_T40 l0 x5_2).f7)] 40 (0, 0)) (by (with_reducible repeat (first | refine blk_drewN ?_ _ | refine blk_drew ?_ | refine blk_alloc ?_ _)); exact BK208.out) hb); have n1_ := Aside0.mk (below_step (by repeat (first | (with_reducible first | exact HB.out | apply below_alloc | apply pw_below_drewN | apply below_drew1 | refine below_set ?_ GE208.out) | exact HB.out)) hb); clear BK208; clear HB; have BK208 := n0_; have HB := n1_; clear n0_ n1_; (try clear hb); (try clear hb2); (try clear hk); (try clear hi)))
                                    go_roundg kj16
                                    case measure => have := HJ4.out; have := HK2.out; have := HK3.out; have := HJ16.out; omega
                                    case rel => exact ⟨(wrap64 (x7_3 + 1)), (by first | rfl | (simp; done) | (simp [*]; done)), H', ⟨by have := HJ4.out; have := HK2.out; have := HK3.out; have := HJ16.out; omega⟩, ⟨by (with_reducible repeat (first | refine blk_drewN ?_ _ | refine blk_drew ?_ | refine blk_alloc ?_ _)); exact BK208.out⟩, ⟨by repeat (first | (with_reducible first | exact HB.out | apply below_alloc | apply pw_below_drewN | apply below_drew1 | refine below_set ?_ GE208.out) | exact HB.out)⟩⟩
                              · replace c32 := Bool.eq_false_iff.mpr c32
                                subst c32
                                have H1 : (some false) = some r := by rw [if_neg (show ¬ (false = true) by decide)] at H; exact H
                                clear H
                                have H := H1
                                clear H1
                                obtain rfl := Option.some.inj H
                                go_wp2_with (first | ((with_reducible refine gate_callee (f := 8) rfl ?_); refine goesL_ (some 60) rfl rfl Try.func8 (by kernel_rfl) rfl #[.slice (some ad207) l0.length c0, .int .i64 x7_3] rfl (by (try simp only [List.map_toArray, List.map_cons, List.map_nil]); first | done | rfl | (simp only [List.length_drop, List.length_take]; rfl)) ?_; (with_reducible refine (alloc_Span.calls _ _ l0 x7_3 t211 t212 false _ ?side1 ?side2 A31.out).mono ?_); (case side1 => repeat (first | exact (Kd.C_below HR0.out HB.out) | (with_reducible refine Kd.C_alloc ?_ _) | (with_reducible refine Kd.C_drewN ?_ _) | (with_reducible refine Kd.C_drew ?_))); (case side2 => exact HC0.out); rintro e w38 ⟨rfl, hb⟩; refine ⟨_, rfl, ?_⟩; have n0_ := Aside0.mk (blk_below (g := gb208) (o := .cells #[.int .i64 ((rd_T40 l0 x5_2).f0), .int .i64 ((rd_T40 l0 x5_2).f1), .int .i64 ((rd_T40 l0 x5_2).f2), .int .i64 ((rd_T40 l0 x5_2).f3), .int .i64 ((rd_T40 l0 x5_2).f4), .int .i64 ((rd_T40 l0 x5_2).f5), .int .i64 ((rd_T40 l0 x5_2).f6), .int .i64 ((rd_T40 l0 x5_2).f7)] 40 (0, 0)) (by (with_reducible repeat (first | refine blk_drewN ?_ _ | refine blk_drew ?_ | refine blk_alloc ?_ _)); exact BK208.out) hb); have n1_ := Aside0.mk (below_step (by repeat (first | (with_reducible first | exact HB.out | apply below_alloc | apply pw_below_drewN | apply below_drew1 | refine below_set ?_ GE208.out) | exact HB.out)) hb); clear BK208; clear HB; have BK208 := n0_; have HB := n1_; clear n0_ n1_; (try clear hb); (try clear hb2); (try clear hk); (try clear hi)))
                                go_ret
                                exact ⟨by first | rfl | (simp [errW_none, errW_some] <;> rfl) | (simp [*, errW_none, errW_some] <;> rfl), by repeat (first | (with_reducible first | exact HB.out | apply below_alloc | apply pw_below_drewN | apply below_drew1 | refine below_set ?_ GE208.out) | exact HB.out)⟩
                      · rw [if_neg c16] at H
                        have c16b0 : decide (x7_3 < 400) = false := decide_eq_false c16
                        clear c16
                        have H' := Aside0.mk H
                        clear H
                        go_wp2
                        go_roundg k3
                        case measure => have := HJ4.out; have := HK2.out; have := HK3.out; omega
                        case rel => exact ⟨(wrap64 (x5_2 + 1)), (by first | rfl | (simp; done) | (simp [*]; done)), H', ⟨by have := HJ4.out; have := HK2.out; have := HK3.out; omega⟩, ⟨by repeat (first | (with_reducible first | exact HB.out | apply below_alloc | apply pw_below_drewN | apply below_drew1 | refine below_set ?_ GE208.out) | exact HB.out)⟩⟩
                · rw [if_neg c13] at H
                  exact absurd H (by simp)
              · rw [if_neg c12] at H
                have c12b0 : decide (x5_2 < (l0.length : Int)) = false := decide_eq_false c12
                clear c12
                obtain rfl := Option.some.inj H
                go_wp2
                go_ret
                exact ⟨by first | rfl | (simp [errW_none, errW_some] <;> rfl) | (simp [*, errW_none, errW_some] <;> rfl), by repeat (first | (with_reducible first | exact HB.out | apply below_alloc | apply pw_below_drewN | apply below_drew1) | exact HB.out)⟩
  · replace c4 := Bool.eq_false_iff.mpr c4
    subst c4
    have H1 : (some false) = some r := by rw [if_neg (show ¬ (false = true) by decide)] at H; exact H
    clear H
    have H := H1
    clear H1
    obtain rfl := Option.some.inj H
    go_enter Try.func5, Try.ntmps5
    go_wp2_with (first | ((with_reducible refine gate_callee (f := 7) rfl ?_); refine goesL_ (some 11) rfl rfl Try.func7 (by kernel_rfl) rfl #[] rfl (by (try simp only [List.map_toArray, List.map_cons, List.map_nil]); first | done | rfl | (simp only [List.length_drop, List.length_take]; rfl)) ?_; (with_reducible refine (selvagelaw14_awake.calls k  false _ A3.out).mono ?_); rintro e w39 ⟨rfl, hb⟩; refine ⟨_, rfl, ?_⟩; have n0_ := Aside0.mk (below_step (by repeat (first | (with_reducible first | exact HB.out | apply below_alloc | apply pw_below_drewN | apply below_drew1) | exact HB.out)) hb); clear HB; have HB := n0_; clear n0_; (try clear hb); (try clear hb2); (try clear hk); (try clear hi)))
    go_ret
    exact ⟨by first | rfl | (simp [errW_none, errW_some] <;> rfl) | (simp [*, errW_none, errW_some] <;> rfl), by repeat (first | (with_reducible first | exact HB.out | apply below_alloc | apply pw_below_drewN | apply below_drew1) | exact HB.out)⟩

end Go.Proofs.Ytgljbgmphelhbaa.Q
