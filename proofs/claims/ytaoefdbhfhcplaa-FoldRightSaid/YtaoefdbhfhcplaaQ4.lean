/- Written for this claim by a program: functions, their contracts and rows. -/
import Derived.Test.YtaoefdbhfhcplaaQ0
namespace Go.Proofs.Ytaoefdbhfhcplaa.Q
open Go.RowKit Go.Proofs.YtaoefdbhfhcplaaW.PrintWords Go.Proofs.YtaoefdbhfhcplaaW.PrintLast Go.Proofs.YtaoefdbhfhcplaaW.PrintMore
attribute [local go_sem] max2_int min2_int max_two min_two max_three min_three max_four min_four   -- for this text's walks alone
set_option linter.unusedVariables false
set_option linter.unusedSimpArgs false

/-! ### tree_temp: function 28 -/
def tree_temp.f (a0 : Bool) (a1 : Int) : Option (Bool) := if a0 = true then (if a1 ≥ 0 then (if a1 < 400 then (some true) else (some false)) else (some false)) else (some (a1 == 0))
set_option maxHeartbeats 8000000 in
set_option maxRecDepth 100000 in
theorem tree_temp.calls (a0 : Bool) (a1 : Int) (r : Bool) (w : World) (h : tree_temp.f a0 a1 = some r) :
    Calls Try.prog 28 #[.bool a0, .int .i64 a1] w fun e w' => e = .returned (.bool r) ∧ Drawn0 w w' := by
  have H : (if a0 = true then (if a1 ≥ 0 then (if a1 < 400 then (some true) else (some false)) else (some false)) else (some (a1 == 0))) = some r := h
  clear h
  by_cases c3 : a0 = true
  · subst c3
    have H1 : (if a1 ≥ 0 then (if a1 < 400 then (some true) else (some false)) else (some false)) = some r := by rw [if_pos rfl] at H; exact H
    clear H
    have H := H1
    clear H1
    by_cases c4 : a1 ≥ 0
    · rw [if_pos c4] at H
      have c4b0 : decide (0 ≤ a1) = true := decide_eq_true c4
      clear c4
      by_cases c5 : a1 < 400
      · rw [if_pos c5] at H
        have c5b0 : decide (a1 < 400) = true := decide_eq_true c5
        clear c5
        obtain rfl := Option.some.inj H
        go_enter Try.func28, Try.ntmps28
        go_wp2
        go_ret
        exact ⟨by first | rfl | (simp; done) | (simp [*]; done), by repeat (first | exact Drawn0.refl _ | apply Drawn0.step)⟩
      · rw [if_neg c5] at H
        have c5b0 : decide (a1 < 400) = false := decide_eq_false c5
        clear c5
        obtain rfl := Option.some.inj H
        go_enter Try.func28, Try.ntmps28
        go_wp2
        go_ret
        exact ⟨by first | rfl | (simp; done) | (simp [*]; done), by repeat (first | exact Drawn0.refl _ | apply Drawn0.step)⟩
    · rw [if_neg c4] at H
      have c4b0 : decide (0 ≤ a1) = false := decide_eq_false c4
      clear c4
      obtain rfl := Option.some.inj H
      go_enter Try.func28, Try.ntmps28
      go_wp2
      go_ret
      exact ⟨by first | rfl | (simp; done) | (simp [*]; done), by repeat (first | exact Drawn0.refl _ | apply Drawn0.step)⟩
  · replace c3 := Bool.eq_false_iff.mpr c3
    subst c3
    have H1 : (some (a1 == 0)) = some r := by rw [if_neg (show ¬ (false = true) by decide)] at H; exact H
    clear H
    have H := H1
    clear H1
    obtain rfl := Option.some.inj H
    go_enter Try.func28, Try.ntmps28
    go_wp2
    go_ret
    exact ⟨by first | rfl | (simp; done) | (simp [*]; done), by repeat (first | exact Drawn0.refl _ | apply Drawn0.step)⟩

/-! ### tree_places: function 29 -/
mutual
def tree_places.j0 : Nat → List (S80) → Int → Bool → Bool → Bool → Bool → Bool → Bool → Bool → Bool → Int → Int → Int → Int → Int → Int → Int → Int → Option (Bool)
  | 0, _, _, _, _, _, _, _, _, _, _, _, _, _, _, _, _, _, _ => none
  | k + 1, x2, x7, x103000, x103001, x103002, x103003, x103004, x103005, x103006, x103007, x104000, x104001, x104002, x104003, x104004, x104005, x104006, x104007 => if x7 < 1 then (tree_places.j1 k x2 x7 true x103000 x103001 x103002 x103003 x103004 x103005 x103006 x103007 x104000 x104001 x104002 x104003 x104004 x104005 x104006 x104007) else (if x7 > (x2.length : Int) then (tree_places.j1 k x2 x7 true x103000 x103001 x103002 x103003 x103004 x103005 x103006 x103007 x104000 x104001 x104002 x104003 x104004 x104005 x104006 x104007) else (if x104004 < 0 then (tree_places.j1 k x2 x7 true x103000 x103001 x103002 x103003 x103004 x103005 x103006 x103007 x104000 x104001 x104002 x104003 x104004 x104005 x104006 x104007) else (tree_places.j1 k x2 x7 (decide (x104004 > (wrap64 ((x2.length : Int) - x7)))) x103000 x103001 x103002 x103003 x103004 x103005 x103006 x103007 x104000 x104001 x104002 x104003 x104004 x104005 x104006 x104007)))
def tree_places.j1 : Nat → List (S80) → Int → Bool → Bool → Bool → Bool → Bool → Bool → Bool → Bool → Bool → Int → Int → Int → Int → Int → Int → Int → Int → Option (Bool)
  | 0, _, _, _, _, _, _, _, _, _, _, _, _, _, _, _, _, _, _, _ => none
  | k + 1, x2, x7, x49, x103000, x103001, x103002, x103003, x103004, x103005, x103006, x103007, x104000, x104001, x104002, x104003, x104004, x104005, x104006, x104007 => if x49 = true then (some false) else (if 0 ≤ x104004 then (if x104004 ≤ (wrap64 (x104004 + x7)) then (if (wrap64 (x104004 + x7)) ≤ (x2.length : Int) then ((some ((x2.take ((wrap64 (x104004 + x7)) : Int).toNat).drop (x104004 : Int).toNat : List (S80))).bind fun y104 => (tree_places.l0 k y104 (y104.length : Int) 0 x103000 x103001 x103002 x103003 x103004 x103005 x103006 x103007)) else (none)) else (none)) else (none))
def tree_places.l0 : Nat → List (S80) → Int → Int → Bool → Bool → Bool → Bool → Bool → Bool → Bool → Bool → Option (Bool)
  | 0, _, _, _, _, _, _, _, _, _, _, _ => none
  | k + 1, x57, x58, x59, x103000, x103001, x103002, x103003, x103004, x103005, x103006, x103007 => if x59 < x58 then (if 0 ≤ x59 then (if x59 < (x57.length : Int) then (if (((rd_T80 x57 x59).f0) != x103007) = true then (some false) else (tree_places.l0 k x57 x58 (wrap64 (x59 + 1)) x103000 x103001 x103002 x103003 x103004 x103005 x103006 x103007)) else (none)) else (none)) else (some true)
end
def tree_places.f (k : Nat) (a0_0 : Bool) (a0_1 : Bool) (a0_2 : Bool) (a0_3 : Bool) (a0_4 : Bool) (a0_5 : Bool) (a0_6 : Bool) (a0_7 : Bool) (a1_0 : Int) (a1_1 : Int) (a1_2 : Int) (a1_3 : Int) (a1_4 : Int) (a1_5 : Int) (a1_6 : Int) (a1_7 : Int) (l2 : List (S80)) : Option (Bool) := if a0_5 = true then (if a0_6 = true then (tree_places.j0 k l2 a1_5 a0_0 a0_1 a0_2 a0_3 a0_4 a0_5 a0_6 a0_7 a1_0 a1_1 a1_2 a1_3 a1_4 a1_5 a1_6 a1_7) else (if a1_5 = 0 then (tree_places.j0 k l2 1 a0_0 a0_1 a0_2 a0_3 a0_4 a0_5 a0_6 a0_7 a1_0 a1_1 a1_2 a1_3 a1_4 a1_5 a1_6 a1_7) else (some false))) else (if a1_4 = 0 then (some (a1_5 == 0)) else (some false))
theorem tree_places.mono_l : ∀ k, (∀ y0 y1 y2 y3 y4 y5 y6 y7 y8 y9 y10 y11 y12 y13 y14 y15 y16 y17, LeO (tree_places.j0 k y0 y1 y2 y3 y4 y5 y6 y7 y8 y9 y10 y11 y12 y13 y14 y15 y16 y17) (tree_places.j0 (k + 1) y0 y1 y2 y3 y4 y5 y6 y7 y8 y9 y10 y11 y12 y13 y14 y15 y16 y17)) ∧ (∀ y0 y1 y2 y3 y4 y5 y6 y7 y8 y9 y10 y11 y12 y13 y14 y15 y16 y17 y18, LeO (tree_places.j1 k y0 y1 y2 y3 y4 y5 y6 y7 y8 y9 y10 y11 y12 y13 y14 y15 y16 y17 y18) (tree_places.j1 (k + 1) y0 y1 y2 y3 y4 y5 y6 y7 y8 y9 y10 y11 y12 y13 y14 y15 y16 y17 y18)) ∧ (∀ y0 y1 y2 y3 y4 y5 y6 y7 y8 y9 y10, LeO (tree_places.l0 k y0 y1 y2 y3 y4 y5 y6 y7 y8 y9 y10) (tree_places.l0 (k + 1) y0 y1 y2 y3 y4 y5 y6 y7 y8 y9 y10))
  | 0 => ⟨fun _ _ _ _ _ _ _ _ _ _ _ _ _ _ _ _ _ _ r h => by simp [tree_places.j0] at h, fun _ _ _ _ _ _ _ _ _ _ _ _ _ _ _ _ _ _ _ r h => by simp [tree_places.j1] at h, fun _ _ _ _ _ _ _ _ _ _ _ r h => by simp [tree_places.l0] at h⟩
  | k + 1 => by
    obtain ⟨ih0, ih1, ih2⟩ := tree_places.mono_l k
    refine ⟨?_, ?_, ?_⟩
    · intro y0 y1 y2 y3 y4 y5 y6 y7 y8 y9 y10 y11 y12 y13 y14 y15 y16 y17
      unfold tree_places.j0
      repeat' first
      | (with_reducible exact ih0 _ _ _ _ _ _ _ _ _ _ _ _ _ _ _ _ _ _)
      | (with_reducible exact ih1 _ _ _ _ _ _ _ _ _ _ _ _ _ _ _ _ _ _ _)
      | (with_reducible exact ih2 _ _ _ _ _ _ _ _ _ _ _)
      | (with_reducible exact LeO.refl _)
      | (with_reducible exact LeO.none _)
      | (with_reducible refine LeO.ite ?_ ?_)
      | (with_reducible refine LeO.bind ?_ (fun _ => ?_))
      | exact ih0 _ _ _ _ _ _ _ _ _ _ _ _ _ _ _ _ _ _
      | exact ih1 _ _ _ _ _ _ _ _ _ _ _ _ _ _ _ _ _ _ _
      | exact ih2 _ _ _ _ _ _ _ _ _ _ _
      | exact LeO.none _
      | refine LeO.ite ?_ ?_
      | refine LeO.bind ?_ (fun _ => ?_)
    · intro y0 y1 y2 y3 y4 y5 y6 y7 y8 y9 y10 y11 y12 y13 y14 y15 y16 y17 y18
      unfold tree_places.j1
      repeat' first
      | (with_reducible exact ih0 _ _ _ _ _ _ _ _ _ _ _ _ _ _ _ _ _ _)
      | (with_reducible exact ih1 _ _ _ _ _ _ _ _ _ _ _ _ _ _ _ _ _ _ _)
      | (with_reducible exact ih2 _ _ _ _ _ _ _ _ _ _ _)
      | (with_reducible exact LeO.refl _)
      | (with_reducible exact LeO.none _)
      | (with_reducible refine LeO.ite ?_ ?_)
      | (with_reducible refine LeO.bind ?_ (fun _ => ?_))
      | exact ih0 _ _ _ _ _ _ _ _ _ _ _ _ _ _ _ _ _ _
      | exact ih1 _ _ _ _ _ _ _ _ _ _ _ _ _ _ _ _ _ _ _
      | exact ih2 _ _ _ _ _ _ _ _ _ _ _
      | exact LeO.none _
      | refine LeO.ite ?_ ?_
      | refine LeO.bind ?_ (fun _ => ?_)
    · intro y0 y1 y2 y3 y4 y5 y6 y7 y8 y9 y10
      unfold tree_places.l0
      repeat' first
      | (with_reducible exact ih0 _ _ _ _ _ _ _ _ _ _ _ _ _ _ _ _ _ _)
      | (with_reducible exact ih1 _ _ _ _ _ _ _ _ _ _ _ _ _ _ _ _ _ _ _)
      | (with_reducible exact ih2 _ _ _ _ _ _ _ _ _ _ _)
      | (with_reducible exact LeO.refl _)
      | (with_reducible exact LeO.none _)
      | (with_reducible refine LeO.ite ?_ ?_)
      | (with_reducible refine LeO.bind ?_ (fun _ => ?_))
      | exact ih0 _ _ _ _ _ _ _ _ _ _ _ _ _ _ _ _ _ _
      | exact ih1 _ _ _ _ _ _ _ _ _ _ _ _ _ _ _ _ _ _ _
      | exact ih2 _ _ _ _ _ _ _ _ _ _ _
      | exact LeO.none _
      | refine LeO.ite ?_ ?_
      | refine LeO.bind ?_ (fun _ => ?_)
theorem tree_places.mono : ∀ a0 a1 a2 a3 a4 a5 a6 a7 a8 a9 a10 a11 a12 a13 a14 a15 a16 k, LeO (tree_places.f k a0 a1 a2 a3 a4 a5 a6 a7 a8 a9 a10 a11 a12 a13 a14 a15 a16) (tree_places.f (k + 1) a0 a1 a2 a3 a4 a5 a6 a7 a8 a9 a10 a11 a12 a13 a14 a15 a16) := by
  intro a0 a1 a2 a3 a4 a5 a6 a7 a8 a9 a10 a11 a12 a13 a14 a15 a16 k
  obtain ⟨ih0, ih1, ih2⟩ := tree_places.mono_l k
  unfold tree_places.f
  repeat' first
      | (with_reducible exact ih0 _ _ _ _ _ _ _ _ _ _ _ _ _ _ _ _ _ _)
      | (with_reducible exact ih1 _ _ _ _ _ _ _ _ _ _ _ _ _ _ _ _ _ _ _)
      | (with_reducible exact ih2 _ _ _ _ _ _ _ _ _ _ _)
      | (with_reducible exact LeO.refl _)
      | (with_reducible exact LeO.none _)
      | (with_reducible refine LeO.ite ?_ ?_)
      | (with_reducible refine LeO.bind ?_ (fun _ => ?_))
      | exact ih0 _ _ _ _ _ _ _ _ _ _ _ _ _ _ _ _ _ _
      | exact ih1 _ _ _ _ _ _ _ _ _ _ _ _ _ _ _ _ _ _ _
      | exact ih2 _ _ _ _ _ _ _ _ _ _ _
      | exact LeO.none _
      | refine LeO.ite ?_ ?_
      | refine LeO.bind ?_ (fun _ => ?_)
set_option maxHeartbeats 8000000 in
set_option maxRecDepth 100000 in
theorem tree_places.calls (k : Nat) (a0_0 : Bool) (a0_1 : Bool) (a0_2 : Bool) (a0_3 : Bool) (a0_4 : Bool) (a0_5 : Bool) (a0_6 : Bool) (a0_7 : Bool) (a1_0 : Int) (a1_1 : Int) (a1_2 : Int) (a1_3 : Int) (a1_4 : Int) (a1_5 : Int) (a1_6 : Int) (a1_7 : Int) (A2 : Option Addr) (c2 : Nat) (l2 : List (S80)) (r : Bool) (w : World) (hr2 : Kd.C k80 w A2 l2.length l2) (hc2 : l2.length ≤ c2) (h : tree_places.f k a0_0 a0_1 a0_2 a0_3 a0_4 a0_5 a0_6 a0_7 a1_0 a1_1 a1_2 a1_3 a1_4 a1_5 a1_6 a1_7 l2 = some r) :
    Calls Try.prog 29 #[.agg #[.bool a0_0, .bool a0_1, .bool a0_2, .bool a0_3, .bool a0_4, .bool a0_5, .bool a0_6, .bool a0_7], .agg #[.int .i64 a1_0, .int .i64 a1_1, .int .i64 a1_2, .int .i64 a1_3, .int .i64 a1_4, .int .i64 a1_5, .int .i64 a1_6, .int .i64 a1_7], .slice A2 l2.length c2] w fun e w' => e = .returned (.bool r) ∧ Below w.heap.size w w' := by
  have hu66 := Try.underlying66
  have hu39 := Try.underlying39
  have hu80 := Try.underlying80
  have HR2 := Aside0.mk hr2
  have HC2 := Aside0.mk hc2
  clear hr2 hc2
  have HB := Aside0.mk (Below.refl w.heap.size w)
  have H : (if a0_5 = true then (if a0_6 = true then (tree_places.j0 k l2 a1_5 a0_0 a0_1 a0_2 a0_3 a0_4 a0_5 a0_6 a0_7 a1_0 a1_1 a1_2 a1_3 a1_4 a1_5 a1_6 a1_7) else (if a1_5 = 0 then (tree_places.j0 k l2 1 a0_0 a0_1 a0_2 a0_3 a0_4 a0_5 a0_6 a0_7 a1_0 a1_1 a1_2 a1_3 a1_4 a1_5 a1_6 a1_7) else (some false))) else (if a1_4 = 0 then (some (a1_5 == 0)) else (some false))) = some r := h
  clear h
  by_cases c4 : a0_5 = true
  · subst c4
    have H1 : (if a0_6 = true then (tree_places.j0 k l2 a1_5 a0_0 a0_1 a0_2 a0_3 a0_4 true a0_6 a0_7 a1_0 a1_1 a1_2 a1_3 a1_4 a1_5 a1_6 a1_7) else (if a1_5 = 0 then (tree_places.j0 k l2 1 a0_0 a0_1 a0_2 a0_3 a0_4 true a0_6 a0_7 a1_0 a1_1 a1_2 a1_3 a1_4 a1_5 a1_6 a1_7) else (some false))) = some r := by rw [if_pos rfl] at H; exact H
    clear H
    have H := H1
    clear H1
    have HC5 := Aside0.mk H
    clear H
    go_enter Try.func29, Try.ntmps29
    go_upto_if 22 with (first | ((with_reducible refine gate_dst (N := 3) rfl ?_); (try (refine gate_guard (by rfl) ?_; dsimp only)); refine box_event ?hg (N := 3) ?hd (cs := #[.bool a0_0, .bool a0_1, .bool a0_2, .bool a0_3, .bool a0_4, .bool true, .bool a0_6, .bool a0_7]) (t := 66) ?hr ?_; (case hd => rfl); (case hg => rfl); (case hr => first | (go_simp; done) | (go_simp; rfl)); intro gb102 hg w6 hbox hb; have n0_ := Aside0.mk (below_step (by repeat (first | (with_reducible first | exact HB.out | apply below_alloc | apply pw_below_drewN | apply below_drew1) | exact HB.out)) hb); have n1_ := Aside0.mk (hbox); have n2_ := Aside0.mk ((by rw [hg]; exact (below_size (by repeat (first | (with_reducible first | exact HB.out | apply below_alloc | apply pw_below_drewN | apply below_drew1) | exact HB.out))) : w.heap.size ≤ gb102)); have n3_ := Aside0.mk ((by rw [hg]; exact (below_size (by repeat (first | (with_reducible first | exact HB.out | apply below_alloc | apply pw_below_drewN | apply below_drew1) | exact HB.out))) : w.heap.size ≤ gb102)); clear HB; have HB := n0_; have BK102 := n1_; have GW102 := n2_; have GE102 := n3_; clear n0_ n1_ n2_ n3_; clear hb hbox hg) | ((with_reducible refine gate_dst (N := 4) rfl ?_); (try (refine gate_guard (by rfl) ?_; dsimp only)); refine box_event ?hg (N := 4) ?hd (cs := #[.int .i64 a1_0, .int .i64 a1_1, .int .i64 a1_2, .int .i64 a1_3, .int .i64 a1_4, .int .i64 a1_5, .int .i64 a1_6, .int .i64 a1_7]) (t := 39) ?hr ?_; (case hd => rfl); (case hg => rfl); (case hr => first | (go_simp; done) | (go_simp; rfl)); intro gb103 hg w7 hbox hb; have n0_ := Aside0.mk (blk_below (g := gb102) (o := .cells #[.bool a0_0, .bool a0_1, .bool a0_2, .bool a0_3, .bool a0_4, .bool true, .bool a0_6, .bool a0_7] 66 (0, 0)) (by (with_reducible repeat (first | refine blk_drewN ?_ _ | refine blk_drew ?_ | refine blk_alloc ?_ _)); exact BK102.out) hb); have n1_ := Aside0.mk (below_step (by repeat (first | (with_reducible first | exact HB.out | apply below_alloc | apply pw_below_drewN | apply below_drew1 | refine below_set ?_ GE102.out) | exact HB.out)) hb); have n2_ := Aside0.mk (hbox); have n3_ := Aside0.mk ((by rw [hg]; exact (below_size (by repeat (first | (with_reducible first | exact HB.out | apply below_alloc | apply pw_below_drewN | apply below_drew1 | refine below_set ?_ GE102.out) | exact HB.out))) : w.heap.size ≤ gb103)); have n4_ := Aside0.mk ((by rw [hg]; exact (below_size (by repeat (first | (with_reducible first | exact HB.out | apply below_alloc | apply pw_below_drewN | apply below_drew1 | refine below_set ?_ GE102.out) | exact HB.out))) : w.heap.size ≤ gb103)); have n5_ := Aside0.mk ((by rw [hg]; exact Nat.ne_of_lt (blk_lt (g := gb102) (o := .cells #[.bool a0_0, .bool a0_1, .bool a0_2, .bool a0_3, .bool a0_4, .bool true, .bool a0_6, .bool a0_7] 66 (0, 0)) (by (with_reducible repeat (first | refine blk_drewN ?_ _ | refine blk_drew ?_ | refine blk_alloc ?_ _)); exact BK102.out)) : gb102 ≠ gb103)); have n6_ := Aside0.mk ((by rw [hg]; exact Nat.ne_of_gt (blk_lt (g := gb102) (o := .cells #[.bool a0_0, .bool a0_1, .bool a0_2, .bool a0_3, .bool a0_4, .bool true, .bool a0_6, .bool a0_7] 66 (0, 0)) (by (with_reducible repeat (first | refine blk_drewN ?_ _ | refine blk_drew ?_ | refine blk_alloc ?_ _)); exact BK102.out)) : gb103 ≠ gb102)); clear BK102; clear HB; have BK102 := n0_; have HB := n1_; have BK103 := n2_; have GW103 := n3_; have GE103 := n4_; have NB102_103 := n5_; have NB103_102 := n6_; clear n0_ n1_ n2_ n3_ n4_ n5_ n6_; clear hb hbox hg; have hnb8 := NB102_103.out; have hnc8 := NB103_102.out; have hcz9_0 : w7.cell? ⟨gb102, 0, none⟩ = some (.bool a0_0) := (blk_cell BK102.out 0).trans rfl; have hcz9_1 : w7.cell? ⟨gb102, 1, none⟩ = some (.bool a0_1) := (blk_cell BK102.out 1).trans rfl; have hcz9_2 : w7.cell? ⟨gb102, 2, none⟩ = some (.bool a0_2) := (blk_cell BK102.out 2).trans rfl; have hcz9_3 : w7.cell? ⟨gb102, 3, none⟩ = some (.bool a0_3) := (blk_cell BK102.out 3).trans rfl; have hcz9_4 : w7.cell? ⟨gb102, 4, none⟩ = some (.bool a0_4) := (blk_cell BK102.out 4).trans rfl; have hcz9_5 : w7.cell? ⟨gb102, 5, none⟩ = some (.bool true) := (blk_cell BK102.out 5).trans rfl; have hcz9_6 : w7.cell? ⟨gb102, 6, none⟩ = some (.bool a0_6) := (blk_cell BK102.out 6).trans rfl; have hcz9_7 : w7.cell? ⟨gb102, 7, none⟩ = some (.bool a0_7) := (blk_cell BK102.out 7).trans rfl; have hfz9_0 := blk_frozen BK102.out 0; have hfz9_1 := blk_frozen BK102.out 1; have hfz9_2 := blk_frozen BK102.out 2; have hfz9_3 := blk_frozen BK102.out 3; have hfz9_4 := blk_frozen BK102.out 4; have hfz9_5 := blk_frozen BK102.out 5; have hfz9_6 := blk_frozen BK102.out 6; have hfz9_7 := blk_frozen BK102.out 7))
    (try simp only [Act.put, List.setIfInBounds_toArray, List.set_cons_zero, List.set_cons_succ])
    go_cut [7] (fun v7 wc => ∃ (kq : Nat) (x7_4 : Int), v7 = .int .i64 x7_4 ∧ Aside0 (tree_places.j0 kq l2 x7_4 a0_0 a0_1 a0_2 a0_3 a0_4 true a0_6 a0_7 a1_0 a1_1 a1_2 a1_3 a1_4 a1_5 a1_6 a1_7 = some r) ∧ Aside0 (kq ≤ k) ∧ Aside0 (wc.heap[gb102]? = some (.cells #[.bool a0_0, .bool a0_1, .bool a0_2, .bool a0_3, .bool a0_4, .bool true, .bool a0_6, .bool a0_7] 66 (0, 0))) ∧ Aside0 (wc.heap[gb103]? = some (.cells #[.int .i64 a1_0, .int .i64 a1_1, .int .i64 a1_2, .int .i64 a1_3, .int .i64 a1_4, .int .i64 a1_5, .int .i64 a1_6, .int .i64 a1_7] 39 (0, 0))) ∧ Aside0 (Below w.heap.size w wc))
    case first =>
      have H := HC5.out
      clear HC5
      by_cases c10 : a0_6 = true
      · subst c10
        have H1 : (tree_places.j0 k l2 a1_5 a0_0 a0_1 a0_2 a0_3 a0_4 true true a0_7 a1_0 a1_1 a1_2 a1_3 a1_4 a1_5 a1_6 a1_7) = some r := by rw [if_pos rfl] at H; exact H
        clear H
        have H := H1
        clear H1
        have H' := Aside0.mk H
        clear H
        have hnb11 := NB103_102.out
        have hnc11 := NB102_103.out
        have hcz12_0 : w7.cell? ⟨gb103, 0, none⟩ = some (.int .i64 a1_0) := (blk_cell BK103.out 0).trans rfl
        have hcz12_1 : w7.cell? ⟨gb103, 1, none⟩ = some (.int .i64 a1_1) := (blk_cell BK103.out 1).trans rfl
        have hcz12_2 : w7.cell? ⟨gb103, 2, none⟩ = some (.int .i64 a1_2) := (blk_cell BK103.out 2).trans rfl
        have hcz12_3 : w7.cell? ⟨gb103, 3, none⟩ = some (.int .i64 a1_3) := (blk_cell BK103.out 3).trans rfl
        have hcz12_4 : w7.cell? ⟨gb103, 4, none⟩ = some (.int .i64 a1_4) := (blk_cell BK103.out 4).trans rfl
        have hcz12_5 : w7.cell? ⟨gb103, 5, none⟩ = some (.int .i64 a1_5) := (blk_cell BK103.out 5).trans rfl
        have hcz12_6 : w7.cell? ⟨gb103, 6, none⟩ = some (.int .i64 a1_6) := (blk_cell BK103.out 6).trans rfl
        have hcz12_7 : w7.cell? ⟨gb103, 7, none⟩ = some (.int .i64 a1_7) := (blk_cell BK103.out 7).trans rfl
        have hfz12_0 := blk_frozen BK103.out 0
        have hfz12_1 := blk_frozen BK103.out 1
        have hfz12_2 := blk_frozen BK103.out 2
        have hfz12_3 := blk_frozen BK103.out 3
        have hfz12_4 := blk_frozen BK103.out 4
        have hfz12_5 := blk_frozen BK103.out 5
        have hfz12_6 := blk_frozen BK103.out 6
        have hfz12_7 := blk_frozen BK103.out 7
        go_wp2
        go_meet
        case rel => exact ⟨_, (a1_5), (by first | rfl | (simp; done) | (simp [*]; done)), H', ⟨by first | omega | exact Nat.le_refl _⟩, ⟨by (with_reducible repeat (first | refine blk_drewN ?_ _ | refine blk_drew ?_ | refine blk_alloc ?_ _)); exact BK102.out⟩, ⟨by (with_reducible repeat (first | refine blk_drewN ?_ _ | refine blk_drew ?_ | refine blk_alloc ?_ _)); exact BK103.out⟩, ⟨by repeat (first | (with_reducible first | exact HB.out | apply below_alloc | apply pw_below_drewN | apply below_drew1 | refine below_set ?_ GE102.out | refine below_set ?_ GE103.out) | exact HB.out)⟩⟩
      · replace c10 := Bool.eq_false_iff.mpr c10
        subst c10
        have H1 : (if a1_5 = 0 then (tree_places.j0 k l2 1 a0_0 a0_1 a0_2 a0_3 a0_4 true false a0_7 a1_0 a1_1 a1_2 a1_3 a1_4 a1_5 a1_6 a1_7) else (some false)) = some r := by rw [if_neg (show ¬ (false = true) by decide)] at H; exact H
        clear H
        have H := H1
        clear H1
        by_cases c13 : a1_5 = 0
        · rw [if_pos c13] at H
          have c13b0 : (a1_5 == 0) = true := beq_iff_eq.mpr c13
          have c13b1 : (a1_5 != 0) = false := bne_eq_false_iff_eq.mpr c13
          clear c13
          (first | rw [c13b0] | (simp only [i64_w, i32_w]; rw [c13b0]) | skip)
          have H' := Aside0.mk H
          clear H
          have hnb14 := NB103_102.out
          have hnc14 := NB102_103.out
          have hcz15_0 : w7.cell? ⟨gb103, 0, none⟩ = some (.int .i64 a1_0) := (blk_cell BK103.out 0).trans rfl
          have hcz15_1 : w7.cell? ⟨gb103, 1, none⟩ = some (.int .i64 a1_1) := (blk_cell BK103.out 1).trans rfl
          have hcz15_2 : w7.cell? ⟨gb103, 2, none⟩ = some (.int .i64 a1_2) := (blk_cell BK103.out 2).trans rfl
          have hcz15_3 : w7.cell? ⟨gb103, 3, none⟩ = some (.int .i64 a1_3) := (blk_cell BK103.out 3).trans rfl
          have hcz15_4 : w7.cell? ⟨gb103, 4, none⟩ = some (.int .i64 a1_4) := (blk_cell BK103.out 4).trans rfl
          have hcz15_5 : w7.cell? ⟨gb103, 5, none⟩ = some (.int .i64 a1_5) := (blk_cell BK103.out 5).trans rfl
          have hcz15_6 : w7.cell? ⟨gb103, 6, none⟩ = some (.int .i64 a1_6) := (blk_cell BK103.out 6).trans rfl
          have hcz15_7 : w7.cell? ⟨gb103, 7, none⟩ = some (.int .i64 a1_7) := (blk_cell BK103.out 7).trans rfl
          have hfz15_0 := blk_frozen BK103.out 0
          have hfz15_1 := blk_frozen BK103.out 1
          have hfz15_2 := blk_frozen BK103.out 2
          have hfz15_3 := blk_frozen BK103.out 3
          have hfz15_4 := blk_frozen BK103.out 4
          have hfz15_5 := blk_frozen BK103.out 5
          have hfz15_6 := blk_frozen BK103.out 6
          have hfz15_7 := blk_frozen BK103.out 7
          go_wp2
          go_meet
          case rel => exact ⟨_, (1), (by first | rfl | (simp; done) | (simp [*]; done)), H', ⟨by first | omega | exact Nat.le_refl _⟩, ⟨by (with_reducible repeat (first | refine blk_drewN ?_ _ | refine blk_drew ?_ | refine blk_alloc ?_ _)); exact BK102.out⟩, ⟨by (with_reducible repeat (first | refine blk_drewN ?_ _ | refine blk_drew ?_ | refine blk_alloc ?_ _)); exact BK103.out⟩, ⟨by repeat (first | (with_reducible first | exact HB.out | apply below_alloc | apply pw_below_drewN | apply below_drew1 | refine below_set ?_ GE102.out | refine below_set ?_ GE103.out) | exact HB.out)⟩⟩
        · rw [if_neg c13] at H
          have c13b0 : (a1_5 == 0) = false := beq_eq_false_iff_ne.mpr c13
          have c13b1 : (a1_5 != 0) = true := bne_iff_ne.mpr c13
          (first | rw [c13b0] | (simp only [i64_w, i32_w]; rw [c13b0]) | skip)
          obtain rfl := Option.some.inj H
          have hnb16 := NB103_102.out
          have hnc16 := NB102_103.out
          have hcz17_0 : w7.cell? ⟨gb103, 0, none⟩ = some (.int .i64 a1_0) := (blk_cell BK103.out 0).trans rfl
          have hcz17_1 : w7.cell? ⟨gb103, 1, none⟩ = some (.int .i64 a1_1) := (blk_cell BK103.out 1).trans rfl
          have hcz17_2 : w7.cell? ⟨gb103, 2, none⟩ = some (.int .i64 a1_2) := (blk_cell BK103.out 2).trans rfl
          have hcz17_3 : w7.cell? ⟨gb103, 3, none⟩ = some (.int .i64 a1_3) := (blk_cell BK103.out 3).trans rfl
          have hcz17_4 : w7.cell? ⟨gb103, 4, none⟩ = some (.int .i64 a1_4) := (blk_cell BK103.out 4).trans rfl
          have hcz17_5 : w7.cell? ⟨gb103, 5, none⟩ = some (.int .i64 a1_5) := (blk_cell BK103.out 5).trans rfl
          have hcz17_6 : w7.cell? ⟨gb103, 6, none⟩ = some (.int .i64 a1_6) := (blk_cell BK103.out 6).trans rfl
          have hcz17_7 : w7.cell? ⟨gb103, 7, none⟩ = some (.int .i64 a1_7) := (blk_cell BK103.out 7).trans rfl
          have hfz17_0 := blk_frozen BK103.out 0
          have hfz17_1 := blk_frozen BK103.out 1
          have hfz17_2 := blk_frozen BK103.out 2
          have hfz17_3 := blk_frozen BK103.out 3
          have hfz17_4 := blk_frozen BK103.out 4
          have hfz17_5 := blk_frozen BK103.out 5
          have hfz17_6 := blk_frozen BK103.out 6
          have hfz17_7 := blk_frozen BK103.out 7
          go_wp2
          go_ret
          exact ⟨by first | rfl | (simp [errW_none, errW_some] <;> rfl) | (simp [*, errW_none, errW_some] <;> rfl), by repeat (first | (with_reducible first | exact HB.out | apply below_alloc | apply pw_below_drewN | apply below_drew1 | refine below_set ?_ GE102.out | refine below_set ?_ GE103.out) | exact HB.out)⟩
    case rest =>
      clear HC5
      try clear c1
      try clear c2
      try clear p2
      try clear c4
      try clear c8
      try clear c10
      try clear c11
      try clear c13
      try clear c13b0
      try clear c13b1
      try clear c14
      try clear c16
      try clear hcz12_0
      try clear hcz12_1
      try clear hcz12_2
      try clear hcz12_3
      try clear hcz12_4
      try clear hcz12_5
      try clear hcz12_6
      try clear hcz12_7
      try clear hcz15_0
      try clear hcz15_1
      try clear hcz15_2
      try clear hcz15_3
      try clear hcz15_4
      try clear hcz15_5
      try clear hcz15_6
      try clear hcz15_7
      try clear hcz17_0
      try clear hcz17_1
      try clear hcz17_2
      try clear hcz17_3
      try clear hcz17_4
      try clear hcz17_5
      try clear hcz17_6
      try clear hcz17_7
      try clear hcz9_0
      try clear hcz9_1
      try clear hcz9_2
      try clear hcz9_3
      try clear hcz9_4
      try clear hcz9_5
      try clear hcz9_6
      try clear hcz9_7
      try clear hfz12_0
      try clear hfz12_1
      try clear hfz12_2
      try clear hfz12_3
      try clear hfz12_4
      try clear hfz12_5
      try clear hfz12_6
      try clear hfz12_7
      try clear hfz15_0
      try clear hfz15_1
      try clear hfz15_2
      try clear hfz15_3
      try clear hfz15_4
      try clear hfz15_5
      try clear hfz15_6
      try clear hfz15_7
      try clear hfz17_0
      try clear hfz17_1
      try clear hfz17_2
      try clear hfz17_3
      try clear hfz17_4
      try clear hfz17_5
      try clear hfz17_6
      try clear hfz17_7
      try clear hfz9_0
      try clear hfz9_1
      try clear hfz9_2
      try clear hfz9_3
      try clear hfz9_4
      try clear hfz9_5
      try clear hfz9_6
      try clear hfz9_7
      obtain ⟨kq, x7_4, rfl, HA, HJ4, BK102, BK103, HB⟩ := hcut
      cases kq with
      | zero => exact absurd HA.out (by simp [tree_places.j0])
      | succ kj4 =>
        have H := HA.out
        clear HA
        simp only [tree_places.j0] at H
        have HC18 := Aside0.mk H
        clear H
        go_upto_region 8 with (fail)
        go_cut [49] (fun v49 wc => ∃ (kq : Nat) (x49_17 : Bool), v49 = .bool x49_17 ∧ Aside0 (tree_places.j1 kq l2 x7_4 x49_17 a0_0 a0_1 a0_2 a0_3 a0_4 true a0_6 a0_7 a1_0 a1_1 a1_2 a1_3 a1_4 a1_5 a1_6 a1_7 = some r) ∧ Aside0 (kq ≤ kj4) ∧ Aside0 (wc.heap[gb102]? = some (.cells #[.bool a0_0, .bool a0_1, .bool a0_2, .bool a0_3, .bool a0_4, .bool true, .bool a0_6, .bool a0_7] 66 (0, 0))) ∧ Aside0 (wc.heap[gb103]? = some (.cells #[.int .i64 a1_0, .int .i64 a1_1, .int .i64 a1_2, .int .i64 a1_3, .int .i64 a1_4, .int .i64 a1_5, .int .i64 a1_6, .int .i64 a1_7] 39 (0, 0))) ∧ Aside0 (Below w.heap.size w wc))
        case first =>
          have H := HC18.out
          clear HC18
          by_cases c19 : x7_4 < 1
          · rw [if_pos c19] at H
            have c19b0 : decide (x7_4 < 1) = true := decide_eq_true c19
            clear c19
            (first | rw [c19b0] | (simp only [i64_w, i32_w]; rw [c19b0]) | skip)
            have H' := Aside0.mk H
            clear H
            go_wp2
            go_meet
            case rel => exact ⟨_, (true), (by first | rfl | (simp; done) | (simp [*]; done)), H', ⟨by have := HJ4.out; first | omega | exact Nat.le_refl _⟩, ⟨by (with_reducible repeat (first | refine blk_drewN ?_ _ | refine blk_drew ?_ | refine blk_alloc ?_ _)); exact BK102.out⟩, ⟨by (with_reducible repeat (first | refine blk_drewN ?_ _ | refine blk_drew ?_ | refine blk_alloc ?_ _)); exact BK103.out⟩, ⟨by repeat (first | (with_reducible first | exact HB.out | apply below_alloc | apply pw_below_drewN | apply below_drew1 | refine below_set ?_ GE102.out | refine below_set ?_ GE103.out) | exact HB.out)⟩⟩
          · rw [if_neg c19] at H
            have c19b0 : decide (x7_4 < 1) = false := decide_eq_false c19
            clear c19
            (first | rw [c19b0] | (simp only [i64_w, i32_w]; rw [c19b0]) | skip)
            by_cases c20 : x7_4 > (l2.length : Int)
            · rw [if_pos c20] at H
              have c20b0 : decide ((l2.length : Int) < x7_4) = true := decide_eq_true c20
              clear c20
              have H' := Aside0.mk H
              clear H
              go_wp2
              go_meet
              case rel => exact ⟨_, (true), (by first | rfl | (simp; done) | (simp [*]; done)), H', ⟨by have := HJ4.out; first | omega | exact Nat.le_refl _⟩, ⟨by (with_reducible repeat (first | refine blk_drewN ?_ _ | refine blk_drew ?_ | refine blk_alloc ?_ _)); exact BK102.out⟩, ⟨by (with_reducible repeat (first | refine blk_drewN ?_ _ | refine blk_drew ?_ | refine blk_alloc ?_ _)); exact BK103.out⟩, ⟨by repeat (first | (with_reducible first | exact HB.out | apply below_alloc | apply pw_below_drewN | apply below_drew1 | refine below_set ?_ GE102.out | refine below_set ?_ GE103.out) | exact HB.out)⟩⟩
            · rw [if_neg c20] at H
              have c20b0 : decide ((l2.length : Int) < x7_4) = false := decide_eq_false c20
              clear c20
              by_cases c21 : a1_4 < 0
              · rw [if_pos c21] at H
                have c21b0 : decide (a1_4 < 0) = true := decide_eq_true c21
                clear c21
                have H' := Aside0.mk H
                clear H
                have hnb22 := NB103_102.out
                have hnc22 := NB102_103.out
                have hcz23_0 : wc.cell? ⟨gb103, 0, none⟩ = some (.int .i64 a1_0) := (blk_cell BK103.out 0).trans rfl
                have hcz23_1 : wc.cell? ⟨gb103, 1, none⟩ = some (.int .i64 a1_1) := (blk_cell BK103.out 1).trans rfl
                have hcz23_2 : wc.cell? ⟨gb103, 2, none⟩ = some (.int .i64 a1_2) := (blk_cell BK103.out 2).trans rfl
                have hcz23_3 : wc.cell? ⟨gb103, 3, none⟩ = some (.int .i64 a1_3) := (blk_cell BK103.out 3).trans rfl
                have hcz23_4 : wc.cell? ⟨gb103, 4, none⟩ = some (.int .i64 a1_4) := (blk_cell BK103.out 4).trans rfl
                have hcz23_5 : wc.cell? ⟨gb103, 5, none⟩ = some (.int .i64 a1_5) := (blk_cell BK103.out 5).trans rfl
                have hcz23_6 : wc.cell? ⟨gb103, 6, none⟩ = some (.int .i64 a1_6) := (blk_cell BK103.out 6).trans rfl
                have hcz23_7 : wc.cell? ⟨gb103, 7, none⟩ = some (.int .i64 a1_7) := (blk_cell BK103.out 7).trans rfl
                have hfz23_0 := blk_frozen BK103.out 0
                have hfz23_1 := blk_frozen BK103.out 1
                have hfz23_2 := blk_frozen BK103.out 2
                have hfz23_3 := blk_frozen BK103.out 3
                have hfz23_4 := blk_frozen BK103.out 4
                have hfz23_5 := blk_frozen BK103.out 5
                have hfz23_6 := blk_frozen BK103.out 6
                have hfz23_7 := blk_frozen BK103.out 7
                go_wp2
                go_meet
                case rel => exact ⟨_, (true), (by first | rfl | (simp; done) | (simp [*]; done)), H', ⟨by have := HJ4.out; first | omega | exact Nat.le_refl _⟩, ⟨by (with_reducible repeat (first | refine blk_drewN ?_ _ | refine blk_drew ?_ | refine blk_alloc ?_ _)); exact BK102.out⟩, ⟨by (with_reducible repeat (first | refine blk_drewN ?_ _ | refine blk_drew ?_ | refine blk_alloc ?_ _)); exact BK103.out⟩, ⟨by repeat (first | (with_reducible first | exact HB.out | apply below_alloc | apply pw_below_drewN | apply below_drew1 | refine below_set ?_ GE102.out | refine below_set ?_ GE103.out) | exact HB.out)⟩⟩
              · rw [if_neg c21] at H
                have c21b0 : decide (a1_4 < 0) = false := decide_eq_false c21
                clear c21
                have H' := Aside0.mk H
                clear H
                have hnb24 := NB103_102.out
                have hnc24 := NB102_103.out
                have hcz25_0 : wc.cell? ⟨gb103, 0, none⟩ = some (.int .i64 a1_0) := (blk_cell BK103.out 0).trans rfl
                have hcz25_1 : wc.cell? ⟨gb103, 1, none⟩ = some (.int .i64 a1_1) := (blk_cell BK103.out 1).trans rfl
                have hcz25_2 : wc.cell? ⟨gb103, 2, none⟩ = some (.int .i64 a1_2) := (blk_cell BK103.out 2).trans rfl
                have hcz25_3 : wc.cell? ⟨gb103, 3, none⟩ = some (.int .i64 a1_3) := (blk_cell BK103.out 3).trans rfl
                have hcz25_4 : wc.cell? ⟨gb103, 4, none⟩ = some (.int .i64 a1_4) := (blk_cell BK103.out 4).trans rfl
                have hcz25_5 : wc.cell? ⟨gb103, 5, none⟩ = some (.int .i64 a1_5) := (blk_cell BK103.out 5).trans rfl
                have hcz25_6 : wc.cell? ⟨gb103, 6, none⟩ = some (.int .i64 a1_6) := (blk_cell BK103.out 6).trans rfl
                have hcz25_7 : wc.cell? ⟨gb103, 7, none⟩ = some (.int .i64 a1_7) := (blk_cell BK103.out 7).trans rfl
                have hfz25_0 := blk_frozen BK103.out 0
                have hfz25_1 := blk_frozen BK103.out 1
                have hfz25_2 := blk_frozen BK103.out 2
                have hfz25_3 := blk_frozen BK103.out 3
                have hfz25_4 := blk_frozen BK103.out 4
                have hfz25_5 := blk_frozen BK103.out 5
                have hfz25_6 := blk_frozen BK103.out 6
                have hfz25_7 := blk_frozen BK103.out 7
                go_wp2
                go_meet
                case rel => exact ⟨_, (decide (a1_4 > (wrap64 ((l2.length : Int) - x7_4)))), (by first | rfl | (simp; done) | (simp [*]; done)), H', ⟨by have := HJ4.out; first | omega | exact Nat.le_refl _⟩, ⟨by (with_reducible repeat (first | refine blk_drewN ?_ _ | refine blk_drew ?_ | refine blk_alloc ?_ _)); exact BK102.out⟩, ⟨by (with_reducible repeat (first | refine blk_drewN ?_ _ | refine blk_drew ?_ | refine blk_alloc ?_ _)); exact BK103.out⟩, ⟨by repeat (first | (with_reducible first | exact HB.out | apply below_alloc | apply pw_below_drewN | apply below_drew1 | refine below_set ?_ GE102.out | refine below_set ?_ GE103.out) | exact HB.out)⟩⟩
        case rest =>
          clear HC18
          try clear c1
          try clear c2
          try clear p2
          try clear c4
          try clear p6
          try clear c8
          try clear c10
          try clear c11
          try clear c13
          try clear c13b0
          try clear c13b1
          try clear c14
          try clear c16
          try clear c19
          try clear c19b0
          try clear c20
          try clear c20b0
          try clear c21
          try clear c21b0
          try clear c22
          try clear c24
          try clear hcz12_0
          try clear hcz12_1
          try clear hcz12_2
          try clear hcz12_3
          try clear hcz12_4
          try clear hcz12_5
          try clear hcz12_6
          try clear hcz12_7
          try clear hcz15_0
          try clear hcz15_1
          try clear hcz15_2
          try clear hcz15_3
          try clear hcz15_4
          try clear hcz15_5
          try clear hcz15_6
          try clear hcz15_7
          try clear hcz17_0
          try clear hcz17_1
          try clear hcz17_2
          try clear hcz17_3
          try clear hcz17_4
          try clear hcz17_5
          try clear hcz17_6
          try clear hcz17_7
          try clear hcz23_0
          try clear hcz23_1
          try clear hcz23_2
          try clear hcz23_3
          try clear hcz23_4
          try clear hcz23_5
          try clear hcz23_6
          try clear hcz23_7
          try clear hcz25_0
          try clear hcz25_1
          try clear hcz25_2
          try clear hcz25_3
          try clear hcz25_4
          try clear hcz25_5
          try clear hcz25_6
          try clear hcz25_7
          try clear hcz9_0
          try clear hcz9_1
          try clear hcz9_2
          try clear hcz9_3
          try clear hcz9_4
          try clear hcz9_5
          try clear hcz9_6
          try clear hcz9_7
          try clear hfz12_0
          try clear hfz12_1
          try clear hfz12_2
          try clear hfz12_3
          try clear hfz12_4
          try clear hfz12_5
          try clear hfz12_6
          try clear hfz12_7
          try clear hfz15_0
          try clear hfz15_1
          try clear hfz15_2
          try clear hfz15_3
          try clear hfz15_4
          try clear hfz15_5
          try clear hfz15_6
          try clear hfz15_7
          try clear hfz17_0
          try clear hfz17_1
          try clear hfz17_2
          try clear hfz17_3
          try clear hfz17_4
          try clear hfz17_5
          try clear hfz17_6
          try clear hfz17_7
          try clear hfz23_0
          try clear hfz23_1
          try clear hfz23_2
          try clear hfz23_3
          try clear hfz23_4
          try clear hfz23_5
          try clear hfz23_6
          try clear hfz23_7
          try clear hfz25_0
          try clear hfz25_1
          try clear hfz25_2
          try clear hfz25_3
          try clear hfz25_4
          try clear hfz25_5
          try clear hfz25_6
          try clear hfz25_7
          try clear hfz9_0
          try clear hfz9_1
          try clear hfz9_2
          try clear hfz9_3
          try clear hfz9_4
          try clear hfz9_5
          try clear hfz9_6
          try clear hfz9_7
          try clear p2
          obtain ⟨kq, x49_17, rfl, HA, HJ17, BK102, BK103, HB⟩ := hcut
          cases kq with
          | zero => exact absurd HA.out (by simp [tree_places.j1])
          | succ kj17 =>
            have H := HA.out
            clear HA
            simp only [tree_places.j1] at H
            by_cases c26 : x49_17 = true
            · subst c26
              have H1 : (some false) = some r := by rw [if_pos rfl] at H; exact H
              clear H
              have H := H1
              clear H1
              obtain rfl := Option.some.inj H
              go_wp2
              go_ret
              exact ⟨by first | rfl | (simp [errW_none, errW_some] <;> rfl) | (simp [*, errW_none, errW_some] <;> rfl), by repeat (first | (with_reducible first | exact HB.out | apply below_alloc | apply pw_below_drewN | apply below_drew1 | refine below_set ?_ GE102.out | refine below_set ?_ GE103.out) | exact HB.out)⟩
            · replace c26 := Bool.eq_false_iff.mpr c26
              subst c26
              have H1 : (if 0 ≤ a1_4 then (if a1_4 ≤ (wrap64 (a1_4 + x7_4)) then (if (wrap64 (a1_4 + x7_4)) ≤ (l2.length : Int) then ((some ((l2.take ((wrap64 (a1_4 + x7_4)) : Int).toNat).drop (a1_4 : Int).toNat : List (S80))).bind fun y104 => (tree_places.l0 kj17 y104 (y104.length : Int) 0 a0_0 a0_1 a0_2 a0_3 a0_4 true a0_6 a0_7)) else (none)) else (none)) else (none)) = some r := by rw [if_neg (show ¬ (false = true) by decide)] at H; exact H
              clear H
              have H := H1
              clear H1
              by_cases c27 : 0 ≤ a1_4
              · rw [if_pos c27] at H
                have c27b0 := eq_true c27
                have c27b1 : decide (0 ≤ a1_4) = true := decide_eq_true c27
                clear c27
                by_cases c28 : a1_4 ≤ (wrap64 (a1_4 + x7_4))
                · rw [if_pos c28] at H
                  have c28b0 := eq_true c28
                  have c28b1 : decide (a1_4 ≤ (wrap64 (a1_4 + x7_4))) = true := decide_eq_true c28
                  by_cases c29 : (wrap64 (a1_4 + x7_4)) ≤ (l2.length : Int)
                  · rw [if_pos c29] at H
                    have c29b0 := eq_true c29
                    have c29b1 : decide ((wrap64 (a1_4 + x7_4)) ≤ (l2.length : Int)) = true := decide_eq_true c29
                    obtain ⟨y104, hy104⟩ : ∃ y_ : List (S80), y_ = ((l2.take ((wrap64 (a1_4 + x7_4)) : Int).toNat).drop (a1_4 : Int).toNat) := ⟨_, rfl⟩
                    replace H : (tree_places.l0 kj17 y104 (y104.length : Int) 0 a0_0 a0_1 a0_2 a0_3 a0_4 true a0_6 a0_7) = some r := by first | (rw [hy104]; with_reducible exact H) | (have H2_ := (Option.bind_some _ _).symm.trans H; rw [hy104]; with_reducible exact H2_) | (have H2_ := (Option.bind_some _ _).symm.trans H; with_reducible exact H2_) | with_reducible exact H | (rw [hy104]; exact H) | exact H
                    have Ny104 := Aside0.mk hy104
                    clear hy104
                    have H' := Aside0.mk H
                    clear H
                    have hnb30 := NB103_102.out
                    have hnc30 := NB102_103.out
                    have hcz31_0 : wc.cell? ⟨gb103, 0, none⟩ = some (.int .i64 a1_0) := (blk_cell BK103.out 0).trans rfl
                    have hcz31_1 : wc.cell? ⟨gb103, 1, none⟩ = some (.int .i64 a1_1) := (blk_cell BK103.out 1).trans rfl
                    have hcz31_2 : wc.cell? ⟨gb103, 2, none⟩ = some (.int .i64 a1_2) := (blk_cell BK103.out 2).trans rfl
                    have hcz31_3 : wc.cell? ⟨gb103, 3, none⟩ = some (.int .i64 a1_3) := (blk_cell BK103.out 3).trans rfl
                    have hcz31_4 : wc.cell? ⟨gb103, 4, none⟩ = some (.int .i64 a1_4) := (blk_cell BK103.out 4).trans rfl
                    have hcz31_5 : wc.cell? ⟨gb103, 5, none⟩ = some (.int .i64 a1_5) := (blk_cell BK103.out 5).trans rfl
                    have hcz31_6 : wc.cell? ⟨gb103, 6, none⟩ = some (.int .i64 a1_6) := (blk_cell BK103.out 6).trans rfl
                    have hcz31_7 : wc.cell? ⟨gb103, 7, none⟩ = some (.int .i64 a1_7) := (blk_cell BK103.out 7).trans rfl
                    have hfz31_0 := blk_frozen BK103.out 0
                    have hfz31_1 := blk_frozen BK103.out 1
                    have hfz31_2 := blk_frozen BK103.out 2
                    have hfz31_3 := blk_frozen BK103.out 3
                    have hfz31_4 := blk_frozen BK103.out 4
                    have hfz31_5 := blk_frozen BK103.out 5
                    have hfz31_6 := blk_frozen BK103.out 6
                    have hfz31_7 := blk_frozen BK103.out 7
                    have q32 : ((wrap64 (a1_4 + x7_4)) : Int) ≤ ((l2.length : Int) : Int) := of_decide_eq_true (by first | (with_reducible assumption) | assumption)
                    obtain ⟨i032, hi032, _, hsz32, _⟩ := info_parts info80
                    have hroom32 : l2.length ≤ c2 := HC2.out
                    have hC32 : Kd.C k80 _ A2 l2.length l2 := HR2.out
                    have ql32 : (a1_4 : Int) ≤ ((wrap64 (a1_4 + x7_4)) : Int) := of_decide_eq_true (by first | (with_reducible assumption) | assumption)
                    have q032 : (0 : Int) ≤ (a1_4 : Int) := of_decide_eq_true (by first | (with_reducible assumption) | assumption)
                    have hcut32 := cut_mid (P := Try.prog) 23 80 .i64 .i64 Try.underlying23 hi032 2 hsz32 A2 l2.length c2 a1_4 (wrap64 (a1_4 + x7_4)) q032 ql32 q32 hroom32
                    have hr32 := Kd.C_mid (lo := (a1_4 : Int).toNat) (hi := ((wrap64 (a1_4 + x7_4)) : Int).toNat) (c := c2) hC32 (by omega) (by omega) hroom32
                    obtain ⟨A32, hA32⟩ : ∃ A1, A1 = (if c2 = (a1_4 : Int).toNat then A2 else (A2 : Option Addr).map (·.add ((a1_4 : Int).toNat * 2))) := ⟨_, rfl⟩
                    obtain ⟨c32, hc32⟩ : ∃ c1, c1 = c2 - (a1_4 : Int).toNat := ⟨_, rfl⟩
                    have hy32 : y104.length = ((wrap64 (a1_4 + x7_4)) : Int).toNat - (a1_4 : Int).toNat := (by rw [Ny104.out, List.length_drop, List.length_take] <;> omega)
                    rw [show ((l2).take ((wrap64 (a1_4 + x7_4)) : Int).toNat).drop (a1_4 : Int).toNat = y104 from Ny104.out.symm] at hr32
                    replace hr32 : Kd.C k80 _ A32 y104.length y104 := (by rw [hA32]; exact hr32)
                    rw [← hy32, ← hA32, ← hc32] at hcut32
                    have HR107 := Aside0.mk hr32
                    have HC107 := Aside0.mk (show y104.length ≤ c32 from by rw [hy32, hc32]; exact Nat.sub_le_sub_right (Nat.le_trans (by omega) hroom32) _)
                    clear hr32 hC32 hroom32 hi032 hsz32 hc32
                    have KY32 := Aside0.mk hy32
                    have KA32 := Aside0.mk hA32
                    clear hy32 hA32
                    replace q32 := eq_true q32
                    go_wp2
                    go_loopg [59] kj17 (fun kq v59 w' => ∃ (x59_3 : Int), v59 = .int .i64 x59_3 ∧ Aside0 (tree_places.l0 kq y104 (y104.length : Int) x59_3 a0_0 a0_1 a0_2 a0_3 a0_4 true a0_6 a0_7 = some r) ∧ Aside0 (kq ≤ kj17) ∧ Aside0 (w'.heap[gb102]? = some (.cells #[.bool a0_0, .bool a0_1, .bool a0_2, .bool a0_3, .bool a0_4, .bool true, .bool a0_6, .bool a0_7] 66 (0, 0))) ∧ Aside0 (w'.heap[gb103]? = some (.cells #[.int .i64 a1_0, .int .i64 a1_1, .int .i64 a1_2, .int .i64 a1_3, .int .i64 a1_4, .int .i64 a1_5, .int .i64 a1_6, .int .i64 a1_7] 39 (0, 0))) ∧ Aside0 (Below w.heap.size w w'))
                    case atStart => exact ⟨(0), (by first | rfl | (simp; done) | (simp [*]; done)), H', ⟨Nat.le_refl _⟩, ⟨by (with_reducible repeat (first | refine blk_drewN ?_ _ | refine blk_drew ?_ | refine blk_alloc ?_ _)); exact BK102.out⟩, ⟨by (with_reducible repeat (first | refine blk_drewN ?_ _ | refine blk_drew ?_ | refine blk_alloc ?_ _)); exact BK103.out⟩, ⟨by repeat (first | (with_reducible first | exact HB.out | apply below_alloc | apply pw_below_drewN | apply below_drew1 | refine below_set ?_ GE102.out | refine below_set ?_ GE103.out) | exact HB.out)⟩⟩
                    case round =>
                      clear H'
                      try clear c1
                      try clear c2
                      try clear p2
                      try clear c3
                      try clear q3
                      try clear c4
                      try clear p6
                      try clear c8
                      try clear c10
                      try clear c11
                      try clear c13
                      try clear c13b0
                      try clear c13b1
                      try clear c14
                      try clear c16
                      try clear c19
                      try clear c19b0
                      try clear c20
                      try clear c20b0
                      try clear c21
                      try clear c21b0
                      try clear c22
                      try clear c24
                      try clear c26
                      try clear c27
                      try clear c27b0
                      try clear c27b1
                      try clear c28
                      try clear c28b0
                      try clear c28b1
                      try clear c29
                      try clear c29b0
                      try clear c29b1
                      try clear c30
                      try clear c32
                      try clear q32
                      try clear hcz12_0
                      try clear hcz12_1
                      try clear hcz12_2
                      try clear hcz12_3
                      try clear hcz12_4
                      try clear hcz12_5
                      try clear hcz12_6
                      try clear hcz12_7
                      try clear hcz15_0
                      try clear hcz15_1
                      try clear hcz15_2
                      try clear hcz15_3
                      try clear hcz15_4
                      try clear hcz15_5
                      try clear hcz15_6
                      try clear hcz15_7
                      try clear hcz17_0
                      try clear hcz17_1
                      try clear hcz17_2
                      try clear hcz17_3
                      try clear hcz17_4
                      try clear hcz17_5
                      try clear hcz17_6
                      try clear hcz17_7
                      try clear hcz23_0
                      try clear hcz23_1
                      try clear hcz23_2
                      try clear hcz23_3
                      try clear hcz23_4
                      try clear hcz23_5
                      try clear hcz23_6
                      try clear hcz23_7
                      try clear hcz25_0
                      try clear hcz25_1
                      try clear hcz25_2
                      try clear hcz25_3
                      try clear hcz25_4
                      try clear hcz25_5
                      try clear hcz25_6
                      try clear hcz25_7
                      try clear hcz31_0
                      try clear hcz31_1
                      try clear hcz31_2
                      try clear hcz31_3
                      try clear hcz31_4
                      try clear hcz31_5
                      try clear hcz31_6
                      try clear hcz31_7
                      try clear hcz9_0
                      try clear hcz9_1
                      try clear hcz9_2
                      try clear hcz9_3
                      try clear hcz9_4
                      try clear hcz9_5
                      try clear hcz9_6
                      try clear hcz9_7
                      try clear hfz12_0
                      try clear hfz12_1
                      try clear hfz12_2
                      try clear hfz12_3
                      try clear hfz12_4
                      try clear hfz12_5
                      try clear hfz12_6
                      try clear hfz12_7
                      try clear hfz15_0
                      try clear hfz15_1
                      try clear hfz15_2
                      try clear hfz15_3
                      try clear hfz15_4
                      try clear hfz15_5
                      try clear hfz15_6
                      try clear hfz15_7
                      try clear hfz17_0
                      try clear hfz17_1
                      try clear hfz17_2
                      try clear hfz17_3
                      try clear hfz17_4
                      try clear hfz17_5
                      try clear hfz17_6
                      try clear hfz17_7
                      try clear hfz23_0
                      try clear hfz23_1
                      try clear hfz23_2
                      try clear hfz23_3
                      try clear hfz23_4
                      try clear hfz23_5
                      try clear hfz23_6
                      try clear hfz23_7
                      try clear hfz25_0
                      try clear hfz25_1
                      try clear hfz25_2
                      try clear hfz25_3
                      try clear hfz25_4
                      try clear hfz25_5
                      try clear hfz25_6
                      try clear hfz25_7
                      try clear hfz31_0
                      try clear hfz31_1
                      try clear hfz31_2
                      try clear hfz31_3
                      try clear hfz31_4
                      try clear hfz31_5
                      try clear hfz31_6
                      try clear hfz31_7
                      try clear hfz9_0
                      try clear hfz9_1
                      try clear hfz9_2
                      try clear hfz9_3
                      try clear hfz9_4
                      try clear hfz9_5
                      try clear hfz9_6
                      try clear hfz9_7
                      try clear p2
                      try clear p6
                      try clear q032
                      try clear q32
                      obtain ⟨x59_3, rfl, HA, HK3, BK102, BK103, HB⟩ := hrel
                      cases gk with
                      | zero => exact absurd HA.out (by simp [tree_places.l0])
                      | succ k3 =>
                        have H := HA.out
                        clear HA
                        simp only [tree_places.l0] at H
                        by_cases c33 : x59_3 < (y104.length : Int)
                        · rw [if_pos c33] at H
                          have c33b0 : decide (x59_3 < (y104.length : Int)) = true := decide_eq_true c33
                          clear c33
                          by_cases c34 : 0 ≤ x59_3
                          · rw [if_pos c34] at H
                            have c34b0 : decide (0 ≤ x59_3) = true := decide_eq_true c34
                            clear c34
                            by_cases c35 : x59_3 < (y104.length : Int)
                            · rw [if_pos c35] at H
                              have c35b0 : decide (x59_3 < (y104.length : Int)) = true := decide_eq_true c35
                              clear c35
                              by_cases c36 : (((rd_T80 y104 x59_3).f0) != a0_7) = true
                              · rw [if_pos c36] at H
                                have c36b0 : (((rd_T80 y104 x59_3).f0) != a0_7) = true := c36
                                (try (have c36b1 : decide (((rd_T80 y104 x59_3).f0) = a0_7) = false := by simpa using c36))
                                (try (have c36b2 : (((rd_T80 y104 x59_3).f0) == a0_7) = false := by simpa using c36))
                                (try (have c36b3 : ¬ (((rd_T80 y104 x59_3).f0) = a0_7) := by simpa using c36))
                                clear c36
                                obtain rfl := Option.some.inj H
                                have p108 : 0 ≤ (x59_3 : Int) := of_decide_eq_true (by first | (with_reducible assumption) | assumption)
                                have q108 : x59_3 < (y104.length : Int) := of_decide_eq_true (by first | (with_reducible assumption) | assumption)
                                obtain ⟨ad108, e108, hx108_0, hx108_1⟩ := at_T80 HR107.out x59_3 p108 q108
                                cases e108
                                replace hx108_0 := (HB.out.cell (World.block_lt_of_cell? w _ hx108_0)).trans hx108_0
                                replace hx108_1 := (HB.out.cell (World.block_lt_of_cell? w _ hx108_1)).trans hx108_1
                                replace p108 := eq_true p108
                                replace q108 := eq_true q108
                                go_wp2_with (first | ((with_reducible refine gate_dst (N := 9) rfl ?_); (try (refine gate_guard (by rfl) ?_; dsimp only)); refine box_event ?hg (N := 9) ?hd (cs := #[.bool false, .int .i64 0]) (t := 80) ?hr ?_; (case hd => rfl); (case hg => rfl); (case hr => first | (go_simp; done) | (go_simp; rfl)); intro gb109 hg w37 hbox hb; have n0_ := Aside0.mk (blk_below (g := gb102) (o := .cells #[.bool a0_0, .bool a0_1, .bool a0_2, .bool a0_3, .bool a0_4, .bool true, .bool a0_6, .bool a0_7] 66 (0, 0)) (by (with_reducible repeat (first | refine blk_drewN ?_ _ | refine blk_drew ?_ | refine blk_alloc ?_ _)); exact BK102.out) hb); have n1_ := Aside0.mk (blk_below (g := gb103) (o := .cells #[.int .i64 a1_0, .int .i64 a1_1, .int .i64 a1_2, .int .i64 a1_3, .int .i64 a1_4, .int .i64 a1_5, .int .i64 a1_6, .int .i64 a1_7] 39 (0, 0)) (by (with_reducible repeat (first | refine blk_drewN ?_ _ | refine blk_drew ?_ | refine blk_alloc ?_ _)); exact BK103.out) hb); have n2_ := Aside0.mk (below_step (by repeat (first | (with_reducible first | exact HB.out | apply below_alloc | apply pw_below_drewN | apply below_drew1 | refine below_set ?_ GE102.out | refine below_set ?_ GE103.out) | exact HB.out)) hb); have n3_ := Aside0.mk (hbox); have n4_ := Aside0.mk ((by rw [hg]; exact (below_size (by repeat (first | (with_reducible first | exact HB.out | apply below_alloc | apply pw_below_drewN | apply below_drew1 | refine below_set ?_ GE102.out | refine below_set ?_ GE103.out) | exact HB.out))) : w.heap.size ≤ gb109)); have n5_ := Aside0.mk ((by rw [hg]; exact (below_size (by repeat (first | (with_reducible first | exact HB.out | apply below_alloc | apply pw_below_drewN | apply below_drew1 | refine below_set ?_ GE102.out | refine below_set ?_ GE103.out) | exact HB.out))) : w.heap.size ≤ gb109)); have n6_ := Aside0.mk ((by rw [hg]; exact Nat.ne_of_lt (blk_lt (g := gb102) (o := .cells #[.bool a0_0, .bool a0_1, .bool a0_2, .bool a0_3, .bool a0_4, .bool true, .bool a0_6, .bool a0_7] 66 (0, 0)) (by (with_reducible repeat (first | refine blk_drewN ?_ _ | refine blk_drew ?_ | refine blk_alloc ?_ _)); exact BK102.out)) : gb102 ≠ gb109)); have n7_ := Aside0.mk ((by rw [hg]; exact Nat.ne_of_gt (blk_lt (g := gb102) (o := .cells #[.bool a0_0, .bool a0_1, .bool a0_2, .bool a0_3, .bool a0_4, .bool true, .bool a0_6, .bool a0_7] 66 (0, 0)) (by (with_reducible repeat (first | refine blk_drewN ?_ _ | refine blk_drew ?_ | refine blk_alloc ?_ _)); exact BK102.out)) : gb109 ≠ gb102)); have n8_ := Aside0.mk ((by rw [hg]; exact Nat.ne_of_lt (blk_lt (g := gb103) (o := .cells #[.int .i64 a1_0, .int .i64 a1_1, .int .i64 a1_2, .int .i64 a1_3, .int .i64 a1_4, .int .i64 a1_5, .int .i64 a1_6, .int .i64 a1_7] 39 (0, 0)) (by (with_reducible repeat (first | refine blk_drewN ?_ _ | refine blk_drew ?_ | refine blk_alloc ?_ _)); exact BK103.out)) : gb103 ≠ gb109)); have n9_ := Aside0.mk ((by rw [hg]; exact Nat.ne_of_gt (blk_lt (g := gb103) (o := .cells #[.int .i64 a1_0, .int .i64 a1_1, .int .i64 a1_2, .int .i64 a1_3, .int .i64 a1_4, .int .i64 a1_5, .int .i64 a1_6, .int .i64 a1_7] 39 (0, 0)) (by (with_reducible repeat (first | refine blk_drewN ?_ _ | refine blk_drew ?_ | refine blk_alloc ?_ _)); exact BK103.out)) : gb109 ≠ gb103)); clear BK102; clear BK103; clear HB; have BK102 := n0_; have BK103 := n1_; have HB := n2_; have BK109 := n3_; have GW109 := n4_; have GE109 := n5_; have NB102_109 := n6_; have NB109_102 := n7_; have NB103_109 := n8_; have NB109_103 := n9_; clear n0_ n1_ n2_ n3_ n4_ n5_ n6_ n7_ n8_ n9_; clear hb hbox hg; have hnb38 := NB109_102.out; have hnc38 := NB102_109.out; have hnb39 := NB109_103.out; have hnc39 := NB103_109.out; have hcz40_0 : w37.cell? ⟨gb109, 0, none⟩ = some (.bool false) := (blk_cell BK109.out 0).trans rfl; have hcz40_1 : w37.cell? ⟨gb109, 1, none⟩ = some (.int .i64 0) := (blk_cell BK109.out 1).trans rfl; have hfz40_0 := blk_frozen BK109.out 0; have hfz40_1 := blk_frozen BK109.out 1; have hnb41 := NB102_103.out; have hnc41 := NB103_102.out; have hcz42_0 : w37.cell? ⟨gb102, 0, none⟩ = some (.bool a0_0) := (blk_cell BK102.out 0).trans rfl; have hcz42_1 : w37.cell? ⟨gb102, 1, none⟩ = some (.bool a0_1) := (blk_cell BK102.out 1).trans rfl; have hcz42_2 : w37.cell? ⟨gb102, 2, none⟩ = some (.bool a0_2) := (blk_cell BK102.out 2).trans rfl; have hcz42_3 : w37.cell? ⟨gb102, 3, none⟩ = some (.bool a0_3) := (blk_cell BK102.out 3).trans rfl; have hcz42_4 : w37.cell? ⟨gb102, 4, none⟩ = some (.bool a0_4) := (blk_cell BK102.out 4).trans rfl; have hcz42_5 : w37.cell? ⟨gb102, 5, none⟩ = some (.bool true) := (blk_cell BK102.out 5).trans rfl; have hcz42_6 : w37.cell? ⟨gb102, 6, none⟩ = some (.bool a0_6) := (blk_cell BK102.out 6).trans rfl; have hcz42_7 : w37.cell? ⟨gb102, 7, none⟩ = some (.bool a0_7) := (blk_cell BK102.out 7).trans rfl; have hfz42_0 := blk_frozen BK102.out 0; have hfz42_1 := blk_frozen BK102.out 1; have hfz42_2 := blk_frozen BK102.out 2; have hfz42_3 := blk_frozen BK102.out 3; have hfz42_4 := blk_frozen BK102.out 4; have hfz42_5 := blk_frozen BK102.out 5; have hfz42_6 := blk_frozen BK102.out 6; have hfz42_7 := blk_frozen BK102.out 7))
                                go_ret
                                exact ⟨by first | rfl | (simp [errW_none, errW_some] <;> rfl) | (simp [*, errW_none, errW_some] <;> rfl), by repeat (first | (with_reducible first | exact HB.out | apply below_alloc | apply pw_below_drewN | apply below_drew1 | refine below_set ?_ GE102.out | refine below_set ?_ GE103.out | refine below_set ?_ GE109.out) | exact HB.out)⟩
                              · rw [if_neg c36] at H
                                have c36b0 : (((rd_T80 y104 x59_3).f0) != a0_7) = false := by simpa using c36
                                (try (have c36b1 : decide (((rd_T80 y104 x59_3).f0) = a0_7) = true := by simpa using c36))
                                (try (have c36b2 : (((rd_T80 y104 x59_3).f0) == a0_7) = true := by simpa using c36))
                                clear c36
                                have H' := Aside0.mk H
                                clear H
                                have p108 : 0 ≤ (x59_3 : Int) := of_decide_eq_true (by first | (with_reducible assumption) | assumption)
                                have q108 : x59_3 < (y104.length : Int) := of_decide_eq_true (by first | (with_reducible assumption) | assumption)
                                obtain ⟨ad108, e108, hx108_0, hx108_1⟩ := at_T80 HR107.out x59_3 p108 q108
                                cases e108
                                replace hx108_0 := (HB.out.cell (World.block_lt_of_cell? w _ hx108_0)).trans hx108_0
                                replace hx108_1 := (HB.out.cell (World.block_lt_of_cell? w _ hx108_1)).trans hx108_1
                                replace p108 := eq_true p108
                                replace q108 := eq_true q108
                                go_wp2_with (first | ((with_reducible refine gate_dst (N := 9) rfl ?_); (try (refine gate_guard (by rfl) ?_; dsimp only)); refine box_event ?hg (N := 9) ?hd (cs := #[.bool false, .int .i64 0]) (t := 80) ?hr ?_; (case hd => rfl); (case hg => rfl); (case hr => first | (go_simp; done) | (go_simp; rfl)); intro gb109 hg w43 hbox hb; have n0_ := Aside0.mk (blk_below (g := gb102) (o := .cells #[.bool a0_0, .bool a0_1, .bool a0_2, .bool a0_3, .bool a0_4, .bool true, .bool a0_6, .bool a0_7] 66 (0, 0)) (by (with_reducible repeat (first | refine blk_drewN ?_ _ | refine blk_drew ?_ | refine blk_alloc ?_ _)); exact BK102.out) hb); have n1_ := Aside0.mk (blk_below (g := gb103) (o := .cells #[.int .i64 a1_0, .int .i64 a1_1, .int .i64 a1_2, .int .i64 a1_3, .int .i64 a1_4, .int .i64 a1_5, .int .i64 a1_6, .int .i64 a1_7] 39 (0, 0)) (by (with_reducible repeat (first | refine blk_drewN ?_ _ | refine blk_drew ?_ | refine blk_alloc ?_ _)); exact BK103.out) hb); have n2_ := Aside0.mk (below_step (by repeat (first | (with_reducible first | exact HB.out | apply below_alloc | apply pw_below_drewN | apply below_drew1 | refine below_set ?_ GE102.out | refine below_set ?_ GE103.out) | exact HB.out)) hb); have n3_ := Aside0.mk (hbox); have n4_ := Aside0.mk ((by rw [hg]; exact (below_size (by repeat (first | (with_reducible first | exact HB.out | apply below_alloc | apply pw_below_drewN | apply below_drew1 | refine below_set ?_ GE102.out | refine below_set ?_ GE103.out) | exact HB.out))) : w.heap.size ≤ gb109)); have n5_ := Aside0.mk ((by rw [hg]; exact (below_size (by repeat (first | (with_reducible first | exact HB.out | apply below_alloc | apply pw_below_drewN | apply below_drew1 | refine below_set ?_ GE102.out | refine below_set ?_ GE103.out) | exact HB.out))) : w.heap.size ≤ gb109)); have n6_ := Aside0.mk ((by rw [hg]; exact Nat.ne_of_lt (blk_lt (g := gb102) (o := .cells #[.bool a0_0, .bool a0_1, .bool a0_2, .bool a0_3, .bool a0_4, .bool true, .bool a0_6, .bool a0_7] 66 (0, 0)) (by (with_reducible repeat (first | refine blk_drewN ?_ _ | refine blk_drew ?_ | refine blk_alloc ?_ _)); exact BK102.out)) : gb102 ≠ gb109)); have n7_ := Aside0.mk ((by rw [hg]; exact Nat.ne_of_gt (blk_lt (g := gb102) (o := .cells #[.bool a0_0, .bool a0_1, .bool a0_2, .bool a0_3, .bool a0_4, .bool true, .bool a0_6, .bool a0_7] 66 (0, 0)) (by (with_reducible repeat (first | refine blk_drewN ?_ _ | refine blk_drew ?_ | refine blk_alloc ?_ _)); exact BK102.out)) : gb109 ≠ gb102)); have n8_ := Aside0.mk ((by rw [hg]; exact Nat.ne_of_lt (blk_lt (g := gb103) (o := .cells #[.int .i64 a1_0, .int .i64 a1_1, .int .i64 a1_2, .int .i64 a1_3, .int .i64 a1_4, .int .i64 a1_5, .int .i64 a1_6, .int .i64 a1_7] 39 (0, 0)) (by (with_reducible repeat (first | refine blk_drewN ?_ _ | refine blk_drew ?_ | refine blk_alloc ?_ _)); exact BK103.out)) : gb103 ≠ gb109)); have n9_ := Aside0.mk ((by rw [hg]; exact Nat.ne_of_gt (blk_lt (g := gb103) (o := .cells #[.int .i64 a1_0, .int .i64 a1_1, .int .i64 a1_2, .int .i64 a1_3, .int .i64 a1_4, .int .i64 a1_5, .int .i64 a1_6, .int .i64 a1_7] 39 (0, 0)) (by (with_reducible repeat (first | refine blk_drewN ?_ _ | refine blk_drew ?_ | refine blk_alloc ?_ _)); exact BK103.out)) : gb109 ≠ gb103)); clear BK102; clear BK103; clear HB; have BK102 := n0_; have BK103 := n1_; have HB := n2_; have BK109 := n3_; have GW109 := n4_; have GE109 := n5_; have NB102_109 := n6_; have NB109_102 := n7_; have NB103_109 := n8_; have NB109_103 := n9_; clear n0_ n1_ n2_ n3_ n4_ n5_ n6_ n7_ n8_ n9_; clear hb hbox hg; have hnb44 := NB109_102.out; have hnc44 := NB102_109.out; have hnb45 := NB109_103.out; have hnc45 := NB103_109.out; have hcz46_0 : w43.cell? ⟨gb109, 0, none⟩ = some (.bool false) := (blk_cell BK109.out 0).trans rfl; have hcz46_1 : w43.cell? ⟨gb109, 1, none⟩ = some (.int .i64 0) := (blk_cell BK109.out 1).trans rfl; have hfz46_0 := blk_frozen BK109.out 0; have hfz46_1 := blk_frozen BK109.out 1; have hnb47 := NB102_103.out; have hnc47 := NB103_102.out; have hcz48_0 : w43.cell? ⟨gb102, 0, none⟩ = some (.bool a0_0) := (blk_cell BK102.out 0).trans rfl; have hcz48_1 : w43.cell? ⟨gb102, 1, none⟩ = some (.bool a0_1) := (blk_cell BK102.out 1).trans rfl; have hcz48_2 : w43.cell? ⟨gb102, 2, none⟩ = some (.bool a0_2) := (blk_cell BK102.out 2).trans rfl; have hcz48_3 : w43.cell? ⟨gb102, 3, none⟩ = some (.bool a0_3) := (blk_cell BK102.out 3).trans rfl; have hcz48_4 : w43.cell? ⟨gb102, 4, none⟩ = some (.bool a0_4) := (blk_cell BK102.out 4).trans rfl; have hcz48_5 : w43.cell? ⟨gb102, 5, none⟩ = some (.bool true) := (blk_cell BK102.out 5).trans rfl; have hcz48_6 : w43.cell? ⟨gb102, 6, none⟩ = some (.bool a0_6) := (blk_cell BK102.out 6).trans rfl; have hcz48_7 : w43.cell? ⟨gb102, 7, none⟩ = some (.bool a0_7) := (blk_cell BK102.out 7).trans rfl; have hfz48_0 := blk_frozen BK102.out 0; have hfz48_1 := blk_frozen BK102.out 1; have hfz48_2 := blk_frozen BK102.out 2; have hfz48_3 := blk_frozen BK102.out 3; have hfz48_4 := blk_frozen BK102.out 4; have hfz48_5 := blk_frozen BK102.out 5; have hfz48_6 := blk_frozen BK102.out 6; have hfz48_7 := blk_frozen BK102.out 7))
                                go_roundg k3
                                case measure => have := HJ4.out; have := HJ17.out; have := HK3.out; omega
                                case rel => exact ⟨(wrap64 (x59_3 + 1)), (by first | rfl | (simp; done) | (simp [*]; done)), H', ⟨by have := HJ4.out; have := HJ17.out; have := HK3.out; omega⟩, ⟨by (with_reducible repeat (first | refine blk_drewN ?_ _ | refine blk_drew ?_ | refine blk_alloc ?_ _)); refine blk_far ?_ NB102_109.out _; (with_reducible repeat (first | refine blk_drewN ?_ _ | refine blk_drew ?_ | refine blk_alloc ?_ _)); refine blk_far ?_ NB102_109.out _; (with_reducible repeat (first | refine blk_drewN ?_ _ | refine blk_drew ?_ | refine blk_alloc ?_ _)); exact BK102.out⟩, ⟨by (with_reducible repeat (first | refine blk_drewN ?_ _ | refine blk_drew ?_ | refine blk_alloc ?_ _)); refine blk_far ?_ NB103_109.out _; (with_reducible repeat (first | refine blk_drewN ?_ _ | refine blk_drew ?_ | refine blk_alloc ?_ _)); refine blk_far ?_ NB103_109.out _; (with_reducible repeat (first | refine blk_drewN ?_ _ | refine blk_drew ?_ | refine blk_alloc ?_ _)); exact BK103.out⟩, ⟨by repeat (first | (with_reducible first | exact HB.out | apply below_alloc | apply pw_below_drewN | apply below_drew1 | refine below_set ?_ GE102.out | refine below_set ?_ GE103.out | refine below_set ?_ GE109.out) | exact HB.out)⟩⟩
                            · rw [if_neg c35] at H
                              exact absurd H (by simp)
                          · rw [if_neg c34] at H
                            exact absurd H (by simp)
                        · rw [if_neg c33] at H
                          have c33b0 : decide (x59_3 < (y104.length : Int)) = false := decide_eq_false c33
                          clear c33
                          obtain rfl := Option.some.inj H
                          go_wp2
                          go_ret
                          exact ⟨by first | rfl | (simp [errW_none, errW_some] <;> rfl) | (simp [*, errW_none, errW_some] <;> rfl), by repeat (first | (with_reducible first | exact HB.out | apply below_alloc | apply pw_below_drewN | apply below_drew1 | refine below_set ?_ GE102.out | refine below_set ?_ GE103.out) | exact HB.out)⟩
                  · rw [if_neg c29] at H
                    exact absurd H (by simp)
                · rw [if_neg c28] at H
                  exact absurd H (by simp)
              · rw [if_neg c27] at H
                exact absurd H (by simp)
  · replace c4 := Bool.eq_false_iff.mpr c4
    subst c4
    have H1 : (if a1_4 = 0 then (some (a1_5 == 0)) else (some false)) = some r := by rw [if_neg (show ¬ (false = true) by decide)] at H; exact H
    clear H
    have H := H1
    clear H1
    by_cases c49 : a1_4 = 0
    · rw [if_pos c49] at H
      have c49b0 : (a1_4 == 0) = true := beq_iff_eq.mpr c49
      have c49b1 : (a1_4 != 0) = false := bne_eq_false_iff_eq.mpr c49
      clear c49
      obtain rfl := Option.some.inj H
      go_enter Try.func29, Try.ntmps29
      go_wp2_with (first | ((with_reducible refine gate_dst (N := 3) rfl ?_); (try (refine gate_guard (by rfl) ?_; dsimp only)); refine box_event ?hg (N := 3) ?hd (cs := #[.bool a0_0, .bool a0_1, .bool a0_2, .bool a0_3, .bool a0_4, .bool false, .bool a0_6, .bool a0_7]) (t := 66) ?hr ?_; (case hd => rfl); (case hg => rfl); (case hr => first | (go_simp; done) | (go_simp; rfl)); intro gb102 hg w50 hbox hb; have n0_ := Aside0.mk (below_step (by repeat (first | (with_reducible first | exact HB.out | apply below_alloc | apply pw_below_drewN | apply below_drew1) | exact HB.out)) hb); have n1_ := Aside0.mk (hbox); have n2_ := Aside0.mk ((by rw [hg]; exact (below_size (by repeat (first | (with_reducible first | exact HB.out | apply below_alloc | apply pw_below_drewN | apply below_drew1) | exact HB.out))) : w.heap.size ≤ gb102)); have n3_ := Aside0.mk ((by rw [hg]; exact (below_size (by repeat (first | (with_reducible first | exact HB.out | apply below_alloc | apply pw_below_drewN | apply below_drew1) | exact HB.out))) : w.heap.size ≤ gb102)); clear HB; have HB := n0_; have BK102 := n1_; have GW102 := n2_; have GE102 := n3_; clear n0_ n1_ n2_ n3_; clear hb hbox hg) | ((with_reducible refine gate_dst (N := 4) rfl ?_); (try (refine gate_guard (by rfl) ?_; dsimp only)); refine box_event ?hg (N := 4) ?hd (cs := #[.int .i64 a1_0, .int .i64 a1_1, .int .i64 a1_2, .int .i64 a1_3, .int .i64 a1_4, .int .i64 a1_5, .int .i64 a1_6, .int .i64 a1_7]) (t := 39) ?hr ?_; (case hd => rfl); (case hg => rfl); (case hr => first | (go_simp; done) | (go_simp; rfl)); intro gb103 hg w51 hbox hb; have n0_ := Aside0.mk (blk_below (g := gb102) (o := .cells #[.bool a0_0, .bool a0_1, .bool a0_2, .bool a0_3, .bool a0_4, .bool false, .bool a0_6, .bool a0_7] 66 (0, 0)) (by (with_reducible repeat (first | refine blk_drewN ?_ _ | refine blk_drew ?_ | refine blk_alloc ?_ _)); exact BK102.out) hb); have n1_ := Aside0.mk (below_step (by repeat (first | (with_reducible first | exact HB.out | apply below_alloc | apply pw_below_drewN | apply below_drew1 | refine below_set ?_ GE102.out) | exact HB.out)) hb); have n2_ := Aside0.mk (hbox); have n3_ := Aside0.mk ((by rw [hg]; exact (below_size (by repeat (first | (with_reducible first | exact HB.out | apply below_alloc | apply pw_below_drewN | apply below_drew1 | refine below_set ?_ GE102.out) | exact HB.out))) : w.heap.size ≤ gb103)); have n4_ := Aside0.mk ((by rw [hg]; exact (below_size (by repeat (first | (with_reducible first | exact HB.out | apply below_alloc | apply pw_below_drewN | apply below_drew1 | refine below_set ?_ GE102.out) | exact HB.out))) : w.heap.size ≤ gb103)); have n5_ := Aside0.mk ((by rw [hg]; exact Nat.ne_of_lt (blk_lt (g := gb102) (o := .cells #[.bool a0_0, .bool a0_1, .bool a0_2, .bool a0_3, .bool a0_4, .bool false, .bool a0_6, .bool a0_7] 66 (0, 0)) (by (with_reducible repeat (first | refine blk_drewN ?_ _ | refine blk_drew ?_ | refine blk_alloc ?_ _)); exact BK102.out)) : gb102 ≠ gb103)); have n6_ := Aside0.mk ((by rw [hg]; exact Nat.ne_of_gt (blk_lt (g := gb102) (o := .cells #[.bool a0_0, .bool a0_1, .bool a0_2, .bool a0_3, .bool a0_4, .bool false, .bool a0_6, .bool a0_7] 66 (0, 0)) (by (with_reducible repeat (first | refine blk_drewN ?_ _ | refine blk_drew ?_ | refine blk_alloc ?_ _)); exact BK102.out)) : gb103 ≠ gb102)); clear BK102; clear HB; have BK102 := n0_; have HB := n1_; have BK103 := n2_; have GW103 := n3_; have GE103 := n4_; have NB102_103 := n5_; have NB103_102 := n6_; clear n0_ n1_ n2_ n3_ n4_ n5_ n6_; clear hb hbox hg; have hnb52 := NB102_103.out; have hnc52 := NB103_102.out; have hcz53_0 : w51.cell? ⟨gb102, 0, none⟩ = some (.bool a0_0) := (blk_cell BK102.out 0).trans rfl; have hcz53_1 : w51.cell? ⟨gb102, 1, none⟩ = some (.bool a0_1) := (blk_cell BK102.out 1).trans rfl; have hcz53_2 : w51.cell? ⟨gb102, 2, none⟩ = some (.bool a0_2) := (blk_cell BK102.out 2).trans rfl; have hcz53_3 : w51.cell? ⟨gb102, 3, none⟩ = some (.bool a0_3) := (blk_cell BK102.out 3).trans rfl; have hcz53_4 : w51.cell? ⟨gb102, 4, none⟩ = some (.bool a0_4) := (blk_cell BK102.out 4).trans rfl; have hcz53_5 : w51.cell? ⟨gb102, 5, none⟩ = some (.bool false) := (blk_cell BK102.out 5).trans rfl; have hcz53_6 : w51.cell? ⟨gb102, 6, none⟩ = some (.bool a0_6) := (blk_cell BK102.out 6).trans rfl; have hcz53_7 : w51.cell? ⟨gb102, 7, none⟩ = some (.bool a0_7) := (blk_cell BK102.out 7).trans rfl; have hfz53_0 := blk_frozen BK102.out 0; have hfz53_1 := blk_frozen BK102.out 1; have hfz53_2 := blk_frozen BK102.out 2; have hfz53_3 := blk_frozen BK102.out 3; have hfz53_4 := blk_frozen BK102.out 4; have hfz53_5 := blk_frozen BK102.out 5; have hfz53_6 := blk_frozen BK102.out 6; have hfz53_7 := blk_frozen BK102.out 7; have hcz54_0 : w51.cell? ⟨gb103, 0, none⟩ = some (.int .i64 a1_0) := (blk_cell BK103.out 0).trans rfl; have hcz54_1 : w51.cell? ⟨gb103, 1, none⟩ = some (.int .i64 a1_1) := (blk_cell BK103.out 1).trans rfl; have hcz54_2 : w51.cell? ⟨gb103, 2, none⟩ = some (.int .i64 a1_2) := (blk_cell BK103.out 2).trans rfl; have hcz54_3 : w51.cell? ⟨gb103, 3, none⟩ = some (.int .i64 a1_3) := (blk_cell BK103.out 3).trans rfl; have hcz54_4 : w51.cell? ⟨gb103, 4, none⟩ = some (.int .i64 a1_4) := (blk_cell BK103.out 4).trans rfl; have hcz54_5 : w51.cell? ⟨gb103, 5, none⟩ = some (.int .i64 a1_5) := (blk_cell BK103.out 5).trans rfl; have hcz54_6 : w51.cell? ⟨gb103, 6, none⟩ = some (.int .i64 a1_6) := (blk_cell BK103.out 6).trans rfl; have hcz54_7 : w51.cell? ⟨gb103, 7, none⟩ = some (.int .i64 a1_7) := (blk_cell BK103.out 7).trans rfl; have hfz54_0 := blk_frozen BK103.out 0; have hfz54_1 := blk_frozen BK103.out 1; have hfz54_2 := blk_frozen BK103.out 2; have hfz54_3 := blk_frozen BK103.out 3; have hfz54_4 := blk_frozen BK103.out 4; have hfz54_5 := blk_frozen BK103.out 5; have hfz54_6 := blk_frozen BK103.out 6; have hfz54_7 := blk_frozen BK103.out 7))
      go_ret
      exact ⟨by first | rfl | (simp [errW_none, errW_some] <;> rfl) | (simp [*, errW_none, errW_some] <;> rfl), by repeat (first | (with_reducible first | exact HB.out | apply below_alloc | apply pw_below_drewN | apply below_drew1 | refine below_set ?_ GE102.out | refine below_set ?_ GE103.out) | exact HB.out)⟩
    · rw [if_neg c49] at H
      have c49b0 : (a1_4 == 0) = false := beq_eq_false_iff_ne.mpr c49
      have c49b1 : (a1_4 != 0) = true := bne_iff_ne.mpr c49
      obtain rfl := Option.some.inj H
      go_enter Try.func29, Try.ntmps29
      go_wp2_with (first | ((with_reducible refine gate_dst (N := 3) rfl ?_); (try (refine gate_guard (by rfl) ?_; dsimp only)); refine box_event ?hg (N := 3) ?hd (cs := #[.bool a0_0, .bool a0_1, .bool a0_2, .bool a0_3, .bool a0_4, .bool false, .bool a0_6, .bool a0_7]) (t := 66) ?hr ?_; (case hd => rfl); (case hg => rfl); (case hr => first | (go_simp; done) | (go_simp; rfl)); intro gb102 hg w55 hbox hb; have n0_ := Aside0.mk (below_step (by repeat (first | (with_reducible first | exact HB.out | apply below_alloc | apply pw_below_drewN | apply below_drew1) | exact HB.out)) hb); have n1_ := Aside0.mk (hbox); have n2_ := Aside0.mk ((by rw [hg]; exact (below_size (by repeat (first | (with_reducible first | exact HB.out | apply below_alloc | apply pw_below_drewN | apply below_drew1) | exact HB.out))) : w.heap.size ≤ gb102)); have n3_ := Aside0.mk ((by rw [hg]; exact (below_size (by repeat (first | (with_reducible first | exact HB.out | apply below_alloc | apply pw_below_drewN | apply below_drew1) | exact HB.out))) : w.heap.size ≤ gb102)); clear HB; have HB := n0_; have BK102 := n1_; have GW102 := n2_; have GE102 := n3_; clear n0_ n1_ n2_ n3_; clear hb hbox hg) | ((with_reducible refine gate_dst (N := 4) rfl ?_); (try (refine gate_guard (by rfl) ?_; dsimp only)); refine box_event ?hg (N := 4) ?hd (cs := #[.int .i64 a1_0, .int .i64 a1_1, .int .i64 a1_2, .int .i64 a1_3, .int .i64 a1_4, .int .i64 a1_5, .int .i64 a1_6, .int .i64 a1_7]) (t := 39) ?hr ?_; (case hd => rfl); (case hg => rfl); (case hr => first | (go_simp; done) | (go_simp; rfl)); intro gb103 hg w56 hbox hb; have n0_ := Aside0.mk (blk_below (g := gb102) (o := .cells #[.bool a0_0, .bool a0_1, .bool a0_2, .bool a0_3, .bool a0_4, .bool false, .bool a0_6, .bool a0_7] 66 (0, 0)) (by (with_reducible repeat (first | refine blk_drewN ?_ _ | refine blk_drew ?_ | refine blk_alloc ?_ _)); exact BK102.out) hb); have n1_ := Aside0.mk (below_step (by repeat (first | (with_reducible first | exact HB.out | apply below_alloc | apply pw_below_drewN | apply below_drew1 | refine below_set ?_ GE102.out) | exact HB.out)) hb); have n2_ := Aside0.mk (hbox); have n3_ := Aside0.mk ((by rw [hg]; exact (below_size (by repeat (first | (with_reducible first | exact HB.out | apply below_alloc | apply pw_below_drewN | apply below_drew1 | refine below_set ?_ GE102.out) | exact HB.out))) : w.heap.size ≤ gb103)); have n4_ := Aside0.mk ((by rw [hg]; exact (below_size (by repeat (first | (with_reducible first | exact HB.out | apply below_alloc | apply pw_below_drewN | apply below_drew1 | refine below_set ?_ GE102.out) | exact HB.out))) : w.heap.size ≤ gb103)); have n5_ := Aside0.mk ((by rw [hg]; exact Nat.ne_of_lt (blk_lt (g := gb102) (o := .cells #[.bool a0_0, .bool a0_1, .bool a0_2, .bool a0_3, .bool a0_4, .bool false, .bool a0_6, .bool a0_7] 66 (0, 0)) (by (with_reducible repeat (first | refine blk_drewN ?_ _ | refine blk_drew ?_ | refine blk_alloc ?_ _)); exact BK102.out)) : gb102 ≠ gb103)); have n6_ := Aside0.mk ((by rw [hg]; exact Nat.ne_of_gt (blk_lt (g := gb102) (o := .cells #[.bool a0_0, .bool a0_1, .bool a0_2, .bool a0_3, .bool a0_4, .bool false, .bool a0_6, .bool a0_7] 66 (0, 0)) (by (with_reducible repeat (first | refine blk_drewN ?_ _ | refine blk_drew ?_ | refine blk_alloc ?_ _)); exact BK102.out)) : gb103 ≠ gb102)); clear BK102; clear HB; have BK102 := n0_; have HB := n1_; have BK103 := n2_; have GW103 := n3_; have GE103 := n4_; have NB102_103 := n5_; have NB103_102 := n6_; clear n0_ n1_ n2_ n3_ n4_ n5_ n6_; clear hb hbox hg; have hnb57 := NB102_103.out; have hnc57 := NB103_102.out; have hcz58_0 : w56.cell? ⟨gb102, 0, none⟩ = some (.bool a0_0) := (blk_cell BK102.out 0).trans rfl; have hcz58_1 : w56.cell? ⟨gb102, 1, none⟩ = some (.bool a0_1) := (blk_cell BK102.out 1).trans rfl; have hcz58_2 : w56.cell? ⟨gb102, 2, none⟩ = some (.bool a0_2) := (blk_cell BK102.out 2).trans rfl; have hcz58_3 : w56.cell? ⟨gb102, 3, none⟩ = some (.bool a0_3) := (blk_cell BK102.out 3).trans rfl; have hcz58_4 : w56.cell? ⟨gb102, 4, none⟩ = some (.bool a0_4) := (blk_cell BK102.out 4).trans rfl; have hcz58_5 : w56.cell? ⟨gb102, 5, none⟩ = some (.bool false) := (blk_cell BK102.out 5).trans rfl; have hcz58_6 : w56.cell? ⟨gb102, 6, none⟩ = some (.bool a0_6) := (blk_cell BK102.out 6).trans rfl; have hcz58_7 : w56.cell? ⟨gb102, 7, none⟩ = some (.bool a0_7) := (blk_cell BK102.out 7).trans rfl; have hfz58_0 := blk_frozen BK102.out 0; have hfz58_1 := blk_frozen BK102.out 1; have hfz58_2 := blk_frozen BK102.out 2; have hfz58_3 := blk_frozen BK102.out 3; have hfz58_4 := blk_frozen BK102.out 4; have hfz58_5 := blk_frozen BK102.out 5; have hfz58_6 := blk_frozen BK102.out 6; have hfz58_7 := blk_frozen BK102.out 7; have hcz59_0 : w56.cell? ⟨gb103, 0, none⟩ = some (.int .i64 a1_0) := (blk_cell BK103.out 0).trans rfl; have hcz59_1 : w56.cell? ⟨gb103, 1, none⟩ = some (.int .i64 a1_1) := (blk_cell BK103.out 1).trans rfl; have hcz59_2 : w56.cell? ⟨gb103, 2, none⟩ = some (.int .i64 a1_2) := (blk_cell BK103.out 2).trans rfl; have hcz59_3 : w56.cell? ⟨gb103, 3, none⟩ = some (.int .i64 a1_3) := (blk_cell BK103.out 3).trans rfl; have hcz59_4 : w56.cell? ⟨gb103, 4, none⟩ = some (.int .i64 a1_4) := (blk_cell BK103.out 4).trans rfl; have hcz59_5 : w56.cell? ⟨gb103, 5, none⟩ = some (.int .i64 a1_5) := (blk_cell BK103.out 5).trans rfl; have hcz59_6 : w56.cell? ⟨gb103, 6, none⟩ = some (.int .i64 a1_6) := (blk_cell BK103.out 6).trans rfl; have hcz59_7 : w56.cell? ⟨gb103, 7, none⟩ = some (.int .i64 a1_7) := (blk_cell BK103.out 7).trans rfl; have hfz59_0 := blk_frozen BK103.out 0; have hfz59_1 := blk_frozen BK103.out 1; have hfz59_2 := blk_frozen BK103.out 2; have hfz59_3 := blk_frozen BK103.out 3; have hfz59_4 := blk_frozen BK103.out 4; have hfz59_5 := blk_frozen BK103.out 5; have hfz59_6 := blk_frozen BK103.out 6; have hfz59_7 := blk_frozen BK103.out 7))
      go_ret
      exact ⟨by first | rfl | (simp [errW_none, errW_some] <;> rfl) | (simp [*, errW_none, errW_some] <;> rfl), by repeat (first | (with_reducible first | exact HB.out | apply below_alloc | apply pw_below_drewN | apply below_drew1 | refine below_set ?_ GE102.out | refine below_set ?_ GE103.out) | exact HB.out)⟩

end Go.Proofs.Ytaoefdbhfhcplaa.Q
