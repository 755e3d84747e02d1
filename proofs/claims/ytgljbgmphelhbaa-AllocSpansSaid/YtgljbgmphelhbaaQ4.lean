/- Written for this claim by a program: functions, their contracts and rows. -/
import Derived.Test.YtgljbgmphelhbaaQ0
namespace Go.Proofs.Ytgljbgmphelhbaa.Q
open Go.RowKit Go.Proofs.YtgljbgmphelhbaaW.PrintWords Go.Proofs.YtgljbgmphelhbaaW.PrintLast Go.Proofs.YtgljbgmphelhbaaW.PrintMore
attribute [local go_sem] max2_int min2_int max_two min_two max_three min_three max_four min_four   -- for this text's walks alone
set_option linter.unusedVariables false
set_option linter.unusedSimpArgs false

/-! ### alloc_makes: function 18 -/
def alloc_makes.f (a0_0 : Int) (a0_1 : Int) (a0_2 : Int) (a0_3 : Int) (a0_4 : Int) (a0_5 : Int) (a0_6 : Int) (a0_7 : Int) : Option (Bool) := if a0_0 = 1 then (some true) else (if a0_0 = 2 then (some true) else (if a0_0 = 3 then (some true) else (if a0_0 = 4 then (some true) else (if a0_0 = 5 then (some true) else (if a0_0 = 6 then (some true) else (if a0_0 = 8 then (some true) else (if a0_0 = 10 then (some true) else (if a0_0 = 11 then (some true) else (if a0_0 = 13 then (some true) else (some false))))))))))
set_option maxHeartbeats 8000000 in
set_option maxRecDepth 100000 in
theorem alloc_makes.calls (a0_0 : Int) (a0_1 : Int) (a0_2 : Int) (a0_3 : Int) (a0_4 : Int) (a0_5 : Int) (a0_6 : Int) (a0_7 : Int) (r : Bool) (w : World) (h : alloc_makes.f a0_0 a0_1 a0_2 a0_3 a0_4 a0_5 a0_6 a0_7 = some r) :
    Calls Try.prog 18 #[.agg #[.int .i64 a0_0, .int .i64 a0_1, .int .i64 a0_2, .int .i64 a0_3, .int .i64 a0_4, .int .i64 a0_5, .int .i64 a0_6, .int .i64 a0_7]] w fun e w' => e = .returned (.bool r) ∧ Below w.heap.size w w' := by
  have hu40 := Try.underlying40
  have HB := Aside0.mk (Below.refl w.heap.size w)
  have H : (if a0_0 = 1 then (some true) else (if a0_0 = 2 then (some true) else (if a0_0 = 3 then (some true) else (if a0_0 = 4 then (some true) else (if a0_0 = 5 then (some true) else (if a0_0 = 6 then (some true) else (if a0_0 = 8 then (some true) else (if a0_0 = 10 then (some true) else (if a0_0 = 11 then (some true) else (if a0_0 = 13 then (some true) else (some false))))))))))) = some r := h
  clear h
  by_cases c2 : a0_0 = 1
  · rw [if_pos c2] at H
    have c2b0 : (a0_0 == 1) = true := beq_iff_eq.mpr c2
    have c2b1 : (a0_0 != 1) = false := bne_eq_false_iff_eq.mpr c2
    clear c2
    obtain rfl := Option.some.inj H
    go_enter Try.func18, Try.ntmps18
    go_wp2_with (first | ((with_reducible refine gate_dst (N := 1) rfl ?_); refine box_event ?hg (N := 1) ?hd (cs := #[.int .i64 a0_0, .int .i64 a0_1, .int .i64 a0_2, .int .i64 a0_3, .int .i64 a0_4, .int .i64 a0_5, .int .i64 a0_6, .int .i64 a0_7]) (t := 40) ?hr ?_; (case hd => rfl); (case hg => rfl); (case hr => first | (go_simp; done) | (go_simp; rfl)); intro gb110 hg w3 hbox hb; have n0_ := Aside0.mk (below_step (by repeat (first | (with_reducible first | exact HB.out | apply below_alloc | apply pw_below_drewN | apply below_drew1) | exact HB.out)) hb); have n1_ := Aside0.mk (hbox); have n2_ := Aside0.mk ((by rw [hg]; exact (below_size (by repeat (first | (with_reducible first | exact HB.out | apply below_alloc | apply pw_below_drewN | apply below_drew1) | exact HB.out))) : w.heap.size ≤ gb110)); have n3_ := Aside0.mk ((by rw [hg]; exact (below_size (by repeat (first | (with_reducible first | exact HB.out | apply below_alloc | apply pw_below_drewN | apply below_drew1) | exact HB.out))) : w.heap.size ≤ gb110)); clear HB; have HB := n0_; have BK110 := n1_; have GW110 := n2_; have GE110 := n3_; clear n0_ n1_ n2_ n3_; clear hb hbox hg; have hcz4_0 : w3.cell? ⟨gb110, 0, none⟩ = some (.int .i64 a0_0) := (blk_cell BK110.out 0).trans rfl; have hcz4_1 : w3.cell? ⟨gb110, 1, none⟩ = some (.int .i64 a0_1) := (blk_cell BK110.out 1).trans rfl; have hcz4_2 : w3.cell? ⟨gb110, 2, none⟩ = some (.int .i64 a0_2) := (blk_cell BK110.out 2).trans rfl; have hcz4_3 : w3.cell? ⟨gb110, 3, none⟩ = some (.int .i64 a0_3) := (blk_cell BK110.out 3).trans rfl; have hcz4_4 : w3.cell? ⟨gb110, 4, none⟩ = some (.int .i64 a0_4) := (blk_cell BK110.out 4).trans rfl; have hcz4_5 : w3.cell? ⟨gb110, 5, none⟩ = some (.int .i64 a0_5) := (blk_cell BK110.out 5).trans rfl; have hcz4_6 : w3.cell? ⟨gb110, 6, none⟩ = some (.int .i64 a0_6) := (blk_cell BK110.out 6).trans rfl; have hcz4_7 : w3.cell? ⟨gb110, 7, none⟩ = some (.int .i64 a0_7) := (blk_cell BK110.out 7).trans rfl; have hfz4_0 := blk_frozen BK110.out 0; have hfz4_1 := blk_frozen BK110.out 1; have hfz4_2 := blk_frozen BK110.out 2; have hfz4_3 := blk_frozen BK110.out 3; have hfz4_4 := blk_frozen BK110.out 4; have hfz4_5 := blk_frozen BK110.out 5; have hfz4_6 := blk_frozen BK110.out 6; have hfz4_7 := blk_frozen BK110.out 7))
    go_ret
    exact ⟨by first | rfl | (simp [errW_none, errW_some] <;> rfl) | (simp [*, errW_none, errW_some] <;> rfl), by repeat (first | (with_reducible first | exact HB.out | apply below_alloc | apply pw_below_drewN | apply below_drew1 | refine below_set ?_ GE110.out) | exact HB.out)⟩
  · rw [if_neg c2] at H
    have c2b0 : (a0_0 == 1) = false := beq_eq_false_iff_ne.mpr c2
    have c2b1 : (a0_0 != 1) = true := bne_iff_ne.mpr c2
    by_cases c5 : a0_0 = 2
    · rw [if_pos c5] at H
      have c5b0 : (a0_0 == 2) = true := beq_iff_eq.mpr c5
      have c5b1 : (a0_0 != 2) = false := bne_eq_false_iff_eq.mpr c5
      clear c5
      obtain rfl := Option.some.inj H
      go_enter Try.func18, Try.ntmps18
      go_wp2_with (first | ((with_reducible refine gate_dst (N := 1) rfl ?_); refine box_event ?hg (N := 1) ?hd (cs := #[.int .i64 a0_0, .int .i64 a0_1, .int .i64 a0_2, .int .i64 a0_3, .int .i64 a0_4, .int .i64 a0_5, .int .i64 a0_6, .int .i64 a0_7]) (t := 40) ?hr ?_; (case hd => rfl); (case hg => rfl); (case hr => first | (go_simp; done) | (go_simp; rfl)); intro gb110 hg w6 hbox hb; have n0_ := Aside0.mk (below_step (by repeat (first | (with_reducible first | exact HB.out | apply below_alloc | apply pw_below_drewN | apply below_drew1) | exact HB.out)) hb); have n1_ := Aside0.mk (hbox); have n2_ := Aside0.mk ((by rw [hg]; exact (below_size (by repeat (first | (with_reducible first | exact HB.out | apply below_alloc | apply pw_below_drewN | apply below_drew1) | exact HB.out))) : w.heap.size ≤ gb110)); have n3_ := Aside0.mk ((by rw [hg]; exact (below_size (by repeat (first | (with_reducible first | exact HB.out | apply below_alloc | apply pw_below_drewN | apply below_drew1) | exact HB.out))) : w.heap.size ≤ gb110)); clear HB; have HB := n0_; have BK110 := n1_; have GW110 := n2_; have GE110 := n3_; clear n0_ n1_ n2_ n3_; clear hb hbox hg; have hcz7_0 : w6.cell? ⟨gb110, 0, none⟩ = some (.int .i64 a0_0) := (blk_cell BK110.out 0).trans rfl; have hcz7_1 : w6.cell? ⟨gb110, 1, none⟩ = some (.int .i64 a0_1) := (blk_cell BK110.out 1).trans rfl; have hcz7_2 : w6.cell? ⟨gb110, 2, none⟩ = some (.int .i64 a0_2) := (blk_cell BK110.out 2).trans rfl; have hcz7_3 : w6.cell? ⟨gb110, 3, none⟩ = some (.int .i64 a0_3) := (blk_cell BK110.out 3).trans rfl; have hcz7_4 : w6.cell? ⟨gb110, 4, none⟩ = some (.int .i64 a0_4) := (blk_cell BK110.out 4).trans rfl; have hcz7_5 : w6.cell? ⟨gb110, 5, none⟩ = some (.int .i64 a0_5) := (blk_cell BK110.out 5).trans rfl; have hcz7_6 : w6.cell? ⟨gb110, 6, none⟩ = some (.int .i64 a0_6) := (blk_cell BK110.out 6).trans rfl; have hcz7_7 : w6.cell? ⟨gb110, 7, none⟩ = some (.int .i64 a0_7) := (blk_cell BK110.out 7).trans rfl; have hfz7_0 := blk_frozen BK110.out 0; have hfz7_1 := blk_frozen BK110.out 1; have hfz7_2 := blk_frozen BK110.out 2; have hfz7_3 := blk_frozen BK110.out 3; have hfz7_4 := blk_frozen BK110.out 4; have hfz7_5 := blk_frozen BK110.out 5; have hfz7_6 := blk_frozen BK110.out 6; have hfz7_7 := blk_frozen BK110.out 7))
      go_ret
      exact ⟨by first | rfl | (simp [errW_none, errW_some] <;> rfl) | (simp [*, errW_none, errW_some] <;> rfl), by repeat (first | (with_reducible first | exact HB.out | apply below_alloc | apply pw_below_drewN | apply below_drew1 | refine below_set ?_ GE110.out) | exact HB.out)⟩
    · rw [if_neg c5] at H
      have c5b0 : (a0_0 == 2) = false := beq_eq_false_iff_ne.mpr c5
      have c5b1 : (a0_0 != 2) = true := bne_iff_ne.mpr c5
      by_cases c8 : a0_0 = 3
      · rw [if_pos c8] at H
        have c8b0 : (a0_0 == 3) = true := beq_iff_eq.mpr c8
        have c8b1 : (a0_0 != 3) = false := bne_eq_false_iff_eq.mpr c8
        clear c8
        obtain rfl := Option.some.inj H
        go_enter Try.func18, Try.ntmps18
        go_wp2_with (first | ((with_reducible refine gate_dst (N := 1) rfl ?_); refine box_event ?hg (N := 1) ?hd (cs := #[.int .i64 a0_0, .int .i64 a0_1, .int .i64 a0_2, .int .i64 a0_3, .int .i64 a0_4, .int .i64 a0_5, .int .i64 a0_6, .int .i64 a0_7]) (t := 40) ?hr ?_; (case hd => rfl); (case hg => rfl); (case hr => first | (go_simp; done) | (go_simp; rfl)); intro gb110 hg w9 hbox hb; have n0_ := Aside0.mk (below_step (by repeat (first | (with_reducible first | exact HB.out | apply below_alloc | apply pw_below_drewN | apply below_drew1) | exact HB.out)) hb); have n1_ := Aside0.mk (hbox); have n2_ := Aside0.mk ((by rw [hg]; exact (below_size (by repeat (first | (with_reducible first | exact HB.out | apply below_alloc | apply pw_below_drewN | apply below_drew1) | exact HB.out))) : w.heap.size ≤ gb110)); have n3_ := Aside0.mk ((by rw [hg]; exact (below_size (by repeat (first | (with_reducible first | exact HB.out | apply below_alloc | apply pw_below_drewN | apply below_drew1) | exact HB.out))) : w.heap.size ≤ gb110)); clear HB; have HB := n0_; have BK110 := n1_; have GW110 := n2_; have GE110 := n3_; clear n0_ n1_ n2_ n3_; clear hb hbox hg; have hcz10_0 : w9.cell? ⟨gb110, 0, none⟩ = some (.int .i64 a0_0) := (blk_cell BK110.out 0).trans rfl; have hcz10_1 : w9.cell? ⟨gb110, 1, none⟩ = some (.int .i64 a0_1) := (blk_cell BK110.out 1).trans rfl; have hcz10_2 : w9.cell? ⟨gb110, 2, none⟩ = some (.int .i64 a0_2) := (blk_cell BK110.out 2).trans rfl; have hcz10_3 : w9.cell? ⟨gb110, 3, none⟩ = some (.int .i64 a0_3) := (blk_cell BK110.out 3).trans rfl; have hcz10_4 : w9.cell? ⟨gb110, 4, none⟩ = some (.int .i64 a0_4) := (blk_cell BK110.out 4).trans rfl; have hcz10_5 : w9.cell? ⟨gb110, 5, none⟩ = some (.int .i64 a0_5) := (blk_cell BK110.out 5).trans rfl; have hcz10_6 : w9.cell? ⟨gb110, 6, none⟩ = some (.int .i64 a0_6) := (blk_cell BK110.out 6).trans rfl; have hcz10_7 : w9.cell? ⟨gb110, 7, none⟩ = some (.int .i64 a0_7) := (blk_cell BK110.out 7).trans rfl; have hfz10_0 := blk_frozen BK110.out 0; have hfz10_1 := blk_frozen BK110.out 1; have hfz10_2 := blk_frozen BK110.out 2; have hfz10_3 := blk_frozen BK110.out 3; have hfz10_4 := blk_frozen BK110.out 4; have hfz10_5 := blk_frozen BK110.out 5; have hfz10_6 := blk_frozen BK110.out 6; have hfz10_7 := blk_frozen BK110.out 7))
        go_ret
        exact ⟨by first | rfl | (simp [errW_none, errW_some] <;> rfl) | (simp [*, errW_none, errW_some] <;> rfl), by repeat (first | (with_reducible first | exact HB.out | apply below_alloc | apply pw_below_drewN | apply below_drew1 | refine below_set ?_ GE110.out) | exact HB.out)⟩
      · rw [if_neg c8] at H
        have c8b0 : (a0_0 == 3) = false := beq_eq_false_iff_ne.mpr c8
        have c8b1 : (a0_0 != 3) = true := bne_iff_ne.mpr c8
        by_cases c11 : a0_0 = 4
        · rw [if_pos c11] at H
          have c11b0 : (a0_0 == 4) = true := beq_iff_eq.mpr c11
          have c11b1 : (a0_0 != 4) = false := bne_eq_false_iff_eq.mpr c11
          clear c11
          obtain rfl := Option.some.inj H
          go_enter Try.func18, Try.ntmps18
          go_wp2_with (first | ((with_reducible refine gate_dst (N := 1) rfl ?_); refine box_event ?hg (N := 1) ?hd (cs := #[.int .i64 a0_0, .int .i64 a0_1, .int .i64 a0_2, .int .i64 a0_3, .int .i64 a0_4, .int .i64 a0_5, .int .i64 a0_6, .int .i64 a0_7]) (t := 40) ?hr ?_; (case hd => rfl); (case hg => rfl); (case hr => first | (go_simp; done) | (go_simp; rfl)); intro gb110 hg w12 hbox hb; have n0_ := Aside0.mk (below_step (by repeat (first | (with_reducible first | exact HB.out | apply below_alloc | apply pw_below_drewN | apply below_drew1) | exact HB.out)) hb); have n1_ := Aside0.mk (hbox); have n2_ := Aside0.mk ((by rw [hg]; exact (below_size (by repeat (first | (with_reducible first | exact HB.out | apply below_alloc | apply pw_below_drewN | apply below_drew1) | exact HB.out))) : w.heap.size ≤ gb110)); have n3_ := Aside0.mk ((by rw [hg]; exact (below_size (by repeat (first | (with_reducible first | exact HB.out | apply below_alloc | apply pw_below_drewN | apply below_drew1) | exact HB.out))) : w.heap.size ≤ gb110)); clear HB; have HB := n0_; have BK110 := n1_; have GW110 := n2_; have GE110 := n3_; clear n0_ n1_ n2_ n3_; clear hb hbox hg; have hcz13_0 : w12.cell? ⟨gb110, 0, none⟩ = some (.int .i64 a0_0) := (blk_cell BK110.out 0).trans rfl; have hcz13_1 : w12.cell? ⟨gb110, 1, none⟩ = some (.int .i64 a0_1) := (blk_cell BK110.out 1).trans rfl; have hcz13_2 : w12.cell? ⟨gb110, 2, none⟩ = some (.int .i64 a0_2) := (blk_cell BK110.out 2).trans rfl; have hcz13_3 : w12.cell? ⟨gb110, 3, none⟩ = some (.int .i64 a0_3) := (blk_cell BK110.out 3).trans rfl; have hcz13_4 : w12.cell? ⟨gb110, 4, none⟩ = some (.int .i64 a0_4) := (blk_cell BK110.out 4).trans rfl; have hcz13_5 : w12.cell? ⟨gb110, 5, none⟩ = some (.int .i64 a0_5) := (blk_cell BK110.out 5).trans rfl; have hcz13_6 : w12.cell? ⟨gb110, 6, none⟩ = some (.int .i64 a0_6) := (blk_cell BK110.out 6).trans rfl; have hcz13_7 : w12.cell? ⟨gb110, 7, none⟩ = some (.int .i64 a0_7) := (blk_cell BK110.out 7).trans rfl; have hfz13_0 := blk_frozen BK110.out 0; have hfz13_1 := blk_frozen BK110.out 1; have hfz13_2 := blk_frozen BK110.out 2; have hfz13_3 := blk_frozen BK110.out 3; have hfz13_4 := blk_frozen BK110.out 4; have hfz13_5 := blk_frozen BK110.out 5; have hfz13_6 := blk_frozen BK110.out 6; have hfz13_7 := blk_frozen BK110.out 7))
          go_ret
          exact ⟨by first | rfl | (simp [errW_none, errW_some] <;> rfl) | (simp [*, errW_none, errW_some] <;> rfl), by repeat (first | (with_reducible first | exact HB.out | apply below_alloc | apply pw_below_drewN | apply below_drew1 | refine below_set ?_ GE110.out) | exact HB.out)⟩
        · rw [if_neg c11] at H
          have c11b0 : (a0_0 == 4) = false := beq_eq_false_iff_ne.mpr c11
          have c11b1 : (a0_0 != 4) = true := bne_iff_ne.mpr c11
          by_cases c14 : a0_0 = 5
          · rw [if_pos c14] at H
            have c14b0 : (a0_0 == 5) = true := beq_iff_eq.mpr c14
            have c14b1 : (a0_0 != 5) = false := bne_eq_false_iff_eq.mpr c14
            clear c14
            obtain rfl := Option.some.inj H
            go_enter Try.func18, Try.ntmps18
            go_wp2_with (first | ((with_reducible refine gate_dst (N := 1) rfl ?_); refine box_event ?hg (N := 1) ?hd (cs := #[.int .i64 a0_0, .int .i64 a0_1, .int .i64 a0_2, .int .i64 a0_3, .int .i64 a0_4, .int .i64 a0_5, .int .i64 a0_6, .int .i64 a0_7]) (t := 40) ?hr ?_; (case hd => rfl); (case hg => rfl); (case hr => first | (go_simp; done) | (go_simp; rfl)); intro gb110 hg w15 hbox hb; have n0_ := Aside0.mk (below_step (by repeat (first | (with_reducible first | exact HB.out | apply below_alloc | apply pw_below_drewN | apply below_drew1) | exact HB.out)) hb); have n1_ := Aside0.mk (hbox); have n2_ := Aside0.mk ((by rw [hg]; exact (below_size (by repeat (first | (with_reducible first | exact HB.out | apply below_alloc | apply pw_below_drewN | apply below_drew1) | exact HB.out))) : w.heap.size ≤ gb110)); have n3_ := Aside0.mk ((by rw [hg]; exact (below_size (by repeat (first | (with_reducible first | exact HB.out | apply below_alloc | apply pw_below_drewN | apply below_drew1) | exact HB.out))) : w.heap.size ≤ gb110)); clear HB; have HB := n0_; have BK110 := n1_; have GW110 := n2_; have GE110 := n3_; clear n0_ n1_ n2_ n3_; clear hb hbox hg; have hcz16_0 : w15.cell? ⟨gb110, 0, none⟩ = some (.int .i64 a0_0) := (blk_cell BK110.out 0).trans rfl; have hcz16_1 : w15.cell? ⟨gb110, 1, none⟩ = some (.int .i64 a0_1) := (blk_cell BK110.out 1).trans rfl; have hcz16_2 : w15.cell? ⟨gb110, 2, none⟩ = some (.int .i64 a0_2) := (blk_cell BK110.out 2).trans rfl; have hcz16_3 : w15.cell? ⟨gb110, 3, none⟩ = some (.int .i64 a0_3) := (blk_cell BK110.out 3).trans rfl; have hcz16_4 : w15.cell? ⟨gb110, 4, none⟩ = some (.int .i64 a0_4) := (blk_cell BK110.out 4).trans rfl; have hcz16_5 : w15.cell? ⟨gb110, 5, none⟩ = some (.int .i64 a0_5) := (blk_cell BK110.out 5).trans rfl; have hcz16_6 : w15.cell? ⟨gb110, 6, none⟩ = some (.int .i64 a0_6) := (blk_cell BK110.out 6).trans rfl; have hcz16_7 : w15.cell? ⟨gb110, 7, none⟩ = some (.int .i64 a0_7) := (blk_cell BK110.out 7).trans rfl; have hfz16_0 := blk_frozen BK110.out 0; have hfz16_1 := blk_frozen BK110.out 1; have hfz16_2 := blk_frozen BK110.out 2; have hfz16_3 := blk_frozen BK110.out 3; have hfz16_4 := blk_frozen BK110.out 4; have hfz16_5 := blk_frozen BK110.out 5; have hfz16_6 := blk_frozen BK110.out 6; have hfz16_7 := blk_frozen BK110.out 7))
            go_ret
            exact ⟨by first | rfl | (simp [errW_none, errW_some] <;> rfl) | (simp [*, errW_none, errW_some] <;> rfl), by repeat (first | (with_reducible first | exact HB.out | apply below_alloc | apply pw_below_drewN | apply below_drew1 | refine below_set ?_ GE110.out) | exact HB.out)⟩
          · rw [if_neg c14] at H
            have c14b0 : (a0_0 == 5) = false := beq_eq_false_iff_ne.mpr c14
            have c14b1 : (a0_0 != 5) = true := bne_iff_ne.mpr c14
            by_cases c17 : a0_0 = 6
            · rw [if_pos c17] at H
              have c17b0 : (a0_0 == 6) = true := beq_iff_eq.mpr c17
              have c17b1 : (a0_0 != 6) = false := bne_eq_false_iff_eq.mpr c17
              clear c17
              obtain rfl := Option.some.inj H
              go_enter Try.func18, Try.ntmps18
              go_wp2_with (first | ((with_reducible refine gate_dst (N := 1) rfl ?_); refine box_event ?hg (N := 1) ?hd (cs := #[.int .i64 a0_0, .int .i64 a0_1, .int .i64 a0_2, .int .i64 a0_3, .int .i64 a0_4, .int .i64 a0_5, .int .i64 a0_6, .int .i64 a0_7]) (t := 40) ?hr ?_; (case hd => rfl); (case hg => rfl); (case hr => first | (go_simp; done) | (go_simp; rfl)); intro gb110 hg w18 hbox hb; have n0_ := Aside0.mk (below_step (by repeat (first | (with_reducible first | exact HB.out | apply below_alloc | apply pw_below_drewN | apply below_drew1) | exact HB.out)) hb); have n1_ := Aside0.mk (hbox); have n2_ := Aside0.mk ((by rw [hg]; exact (below_size (by repeat (first | (with_reducible first | exact HB.out | apply below_alloc | apply pw_below_drewN | apply below_drew1) | exact HB.out))) : w.heap.size ≤ gb110)); have n3_ := Aside0.mk ((by rw [hg]; exact (below_size (by repeat (first | (with_reducible first | exact HB.out | apply below_alloc | apply pw_below_drewN | apply below_drew1) | exact HB.out))) : w.heap.size ≤ gb110)); clear HB; have HB := n0_; have BK110 := n1_; have GW110 := n2_; have GE110 := n3_; clear n0_ n1_ n2_ n3_; clear hb hbox hg; have hcz19_0 : w18.cell? ⟨gb110, 0, none⟩ = some (.int .i64 a0_0) := (blk_cell BK110.out 0).trans rfl; have hcz19_1 : w18.cell? ⟨gb110, 1, none⟩ = some (.int .i64 a0_1) := (blk_cell BK110.out 1).trans rfl; have hcz19_2 : w18.cell? ⟨gb110, 2, none⟩ = some (.int .i64 a0_2) := (blk_cell BK110.out 2).trans rfl; have hcz19_3 : w18.cell? ⟨gb110, 3, none⟩ = some (.int .i64 a0_3) := (blk_cell BK110.out 3).trans rfl; have hcz19_4 : w18.cell? ⟨gb110, 4, none⟩ = some (.int .i64 a0_4) := (blk_cell BK110.out 4).trans rfl; have hcz19_5 : w18.cell? ⟨gb110, 5, none⟩ = some (.int .i64 a0_5) := (blk_cell BK110.out 5).trans rfl; have hcz19_6 : w18.cell? ⟨gb110, 6, none⟩ = some (.int .i64 a0_6) := (blk_cell BK110.out 6).trans rfl; have hcz19_7 : w18.cell? ⟨gb110, 7, none⟩ = some (.int .i64 a0_7) := (blk_cell BK110.out 7).trans rfl; have hfz19_0 := blk_frozen BK110.out 0; have hfz19_1 := blk_frozen BK110.out 1; have hfz19_2 := blk_frozen BK110.out 2; have hfz19_3 := blk_frozen BK110.out 3; have hfz19_4 := blk_frozen BK110.out 4; have hfz19_5 := blk_frozen BK110.out 5; have hfz19_6 := blk_frozen BK110.out 6; have hfz19_7 := blk_frozen BK110.out 7))
              go_ret
              exact ⟨by first | rfl | (simp [errW_none, errW_some] <;> rfl) | (simp [*, errW_none, errW_some] <;> rfl), by repeat (first | (with_reducible first | exact HB.out | apply below_alloc | apply pw_below_drewN | apply below_drew1 | refine below_set ?_ GE110.out) | exact HB.out)⟩
            · rw [if_neg c17] at H
              have c17b0 : (a0_0 == 6) = false := beq_eq_false_iff_ne.mpr c17
              have c17b1 : (a0_0 != 6) = true := bne_iff_ne.mpr c17
              by_cases c20 : a0_0 = 8
              · rw [if_pos c20] at H
                have c20b0 : (a0_0 == 8) = true := beq_iff_eq.mpr c20
                have c20b1 : (a0_0 != 8) = false := bne_eq_false_iff_eq.mpr c20
                clear c20
                obtain rfl := Option.some.inj H
                go_enter Try.func18, Try.ntmps18
                go_wp2_with (first | ((with_reducible refine gate_dst (N := 1) rfl ?_); refine box_event ?hg (N := 1) ?hd (cs := #[.int .i64 a0_0, .int .i64 a0_1, .int .i64 a0_2, .int .i64 a0_3, .int .i64 a0_4, .int .i64 a0_5, .int .i64 a0_6, .int .i64 a0_7]) (t := 40) ?hr ?_; (case hd => rfl); (case hg => rfl); (case hr => first | (go_simp; done) | (go_simp; rfl)); intro gb110 hg w21 hbox hb; have n0_ := Aside0.mk (below_step (by repeat (first | (with_reducible first | exact HB.out | apply below_alloc | apply pw_below_drewN | apply below_drew1) | exact HB.out)) hb); have n1_ := Aside0.mk (hbox); have n2_ := Aside0.mk ((by rw [hg]; exact (below_size (by repeat (first | (with_reducible first | exact HB.out | apply below_alloc | apply pw_below_drewN | apply below_drew1) | exact HB.out))) : w.heap.size ≤ gb110)); have n3_ := Aside0.mk ((by rw [hg]; exact (below_size (by repeat (first | (with_reducible first | exact HB.out | apply below_alloc | apply pw_below_drewN | apply below_drew1) | exact HB.out))) : w.heap.size ≤ gb110)); clear HB; have HB := n0_; have BK110 := n1_; have GW110 := n2_; have GE110 := n3_; clear n0_ n1_ n2_ n3_; clear hb hbox hg; have hcz22_0 : w21.cell? ⟨gb110, 0, none⟩ = some (.int .i64 a0_0) := (blk_cell BK110.out 0).trans rfl; have hcz22_1 : w21.cell? ⟨gb110, 1, none⟩ = some (.int .i64 a0_1) := (blk_cell BK110.out 1).trans rfl; have hcz22_2 : w21.cell? ⟨gb110, 2, none⟩ = some (.int .i64 a0_2) := (blk_cell BK110.out 2).trans rfl; have hcz22_3 : w21.cell? ⟨gb110, 3, none⟩ = some (.int .i64 a0_3) := (blk_cell BK110.out 3).trans rfl; have hcz22_4 : w21.cell? ⟨gb110, 4, none⟩ = some (.int .i64 a0_4) := (blk_cell BK110.out 4).trans rfl; have hcz22_5 : w21.cell? ⟨gb110, 5, none⟩ = some (.int .i64 a0_5) := (blk_cell BK110.out 5).trans rfl; have hcz22_6 : w21.cell? ⟨gb110, 6, none⟩ = some (.int .i64 a0_6) := (blk_cell BK110.out 6).trans rfl; have hcz22_7 : w21.cell? ⟨gb110, 7, none⟩ = some (.int .i64 a0_7) := (blk_cell BK110.out 7).trans rfl; have hfz22_0 := blk_frozen BK110.out 0; have hfz22_1 := blk_frozen BK110.out 1; have hfz22_2 := blk_frozen BK110.out 2; have hfz22_3 := blk_frozen BK110.out 3; have hfz22_4 := blk_frozen BK110.out 4; have hfz22_5 := blk_frozen BK110.out 5; have hfz22_6 := blk_frozen BK110.out 6; have hfz22_7 := blk_frozen BK110.out 7))
                go_ret
                exact ⟨by first | rfl | (simp [errW_none, errW_some] <;> rfl) | (simp [*, errW_none, errW_some] <;> rfl), by repeat (first | (with_reducible first | exact HB.out | apply below_alloc | apply pw_below_drewN | apply below_drew1 | refine below_set ?_ GE110.out) | exact HB.out)⟩
              · rw [if_neg c20] at H
                have c20b0 : (a0_0 == 8) = false := beq_eq_false_iff_ne.mpr c20
                have c20b1 : (a0_0 != 8) = true := bne_iff_ne.mpr c20
                by_cases c23 : a0_0 = 10
                · rw [if_pos c23] at H
                  have c23b0 : (a0_0 == 10) = true := beq_iff_eq.mpr c23
                  have c23b1 : (a0_0 != 10) = false := bne_eq_false_iff_eq.mpr c23
                  clear c23
                  obtain rfl := Option.some.inj H
                  go_enter Try.func18, Try.ntmps18
                  go_wp2_with (first | ((with_reducible refine gate_dst (N := 1) rfl ?_); refine box_event ?hg (N := 1) ?hd (cs := #[.int .i64 a0_0, .int .i64 a0_1, .int .i64 a0_2, .int .i64 a0_3, .int .i64 a0_4, .int .i64 a0_5, .int .i64 a0_6, .int .i64 a0_7]) (t := 40) ?hr ?_; (case hd => rfl); (case hg => rfl); (case hr => first | (go_simp; done) | (go_simp; rfl)); intro gb110 hg w24 hbox hb; have n0_ := Aside0.mk (below_step (by repeat (first | (with_reducible first | exact HB.out | apply below_alloc | apply pw_below_drewN | apply below_drew1) | exact HB.out)) hb); have n1_ := Aside0.mk (hbox); have n2_ := Aside0.mk ((by rw [hg]; exact (below_size (by repeat (first | (with_reducible first | exact HB.out | apply below_alloc | apply pw_below_drewN | apply below_drew1) | exact HB.out))) : w.heap.size ≤ gb110)); have n3_ := Aside0.mk ((by rw [hg]; exact (below_size (by repeat (first | (with_reducible first | exact HB.out | apply below_alloc | apply pw_below_drewN | apply below_drew1) | exact HB.out))) : w.heap.size ≤ gb110)); clear HB; have HB := n0_; have BK110 := n1_; have GW110 := n2_; have GE110 := n3_; clear n0_ n1_ n2_ n3_; clear hb hbox hg; have hcz25_0 : w24.cell? ⟨gb110, 0, none⟩ = some (.int .i64 a0_0) := (blk_cell BK110.out 0).trans rfl; have hcz25_1 : w24.cell? ⟨gb110, 1, none⟩ = some (.int .i64 a0_1) := (blk_cell BK110.out 1).trans rfl; have hcz25_2 : w24.cell? ⟨gb110, 2, none⟩ = some (.int .i64 a0_2) := (blk_cell BK110.out 2).trans rfl; have hcz25_3 : w24.cell? ⟨gb110, 3, none⟩ = some (.int .i64 a0_3) := (blk_cell BK110.out 3).trans rfl; have hcz25_4 : w24.cell? ⟨gb110, 4, none⟩ = some (.int .i64 a0_4) := (blk_cell BK110.out 4).trans rfl; have hcz25_5 : w24.cell? ⟨gb110, 5, none⟩ = some (.int .i64 a0_5) := (blk_cell BK110.out 5).trans rfl; have hcz25_6 : w24.cell? ⟨gb110, 6, none⟩ = some (.int .i64 a0_6) := (blk_cell BK110.out 6).trans rfl; have hcz25_7 : w24.cell? ⟨gb110, 7, none⟩ = some (.int .i64 a0_7) := (blk_cell BK110.out 7).trans rfl; have hfz25_0 := blk_frozen BK110.out 0; have hfz25_1 := blk_frozen BK110.out 1; have hfz25_2 := blk_frozen BK110.out 2; have hfz25_3 := blk_frozen BK110.out 3; have hfz25_4 := blk_frozen BK110.out 4; have hfz25_5 := blk_frozen BK110.out 5; have hfz25_6 := blk_frozen BK110.out 6; have hfz25_7 := blk_frozen BK110.out 7))
                  go_ret
                  exact ⟨by first | rfl | (simp [errW_none, errW_some] <;> rfl) | (simp [*, errW_none, errW_some] <;> rfl), by repeat (first | (with_reducible first | exact HB.out | apply below_alloc | apply pw_below_drewN | apply below_drew1 | refine below_set ?_ GE110.out) | exact HB.out)⟩
                · rw [if_neg c23] at H
                  have c23b0 : (a0_0 == 10) = false := beq_eq_false_iff_ne.mpr c23
                  have c23b1 : (a0_0 != 10) = true := bne_iff_ne.mpr c23
                  by_cases c26 : a0_0 = 11
                  · rw [if_pos c26] at H
                    have c26b0 : (a0_0 == 11) = true := beq_iff_eq.mpr c26
                    have c26b1 : (a0_0 != 11) = false := bne_eq_false_iff_eq.mpr c26
                    clear c26
                    obtain rfl := Option.some.inj H
                    go_enter Try.func18, Try.ntmps18
                    go_wp2_with (first | ((with_reducible refine gate_dst (N := 1) rfl ?_); refine box_event ?hg (N := 1) ?hd (cs := #[.int .i64 a0_0, .int .i64 a0_1, .int .i64 a0_2, .int .i64 a0_3, .int .i64 a0_4, .int .i64 a0_5, .int .i64 a0_6, .int .i64 a0_7]) (t := 40) ?hr ?_; (case hd => rfl); (case hg => rfl); (case hr => first | (go_simp; done) | (go_simp; rfl)); intro gb110 hg w27 hbox hb; have n0_ := Aside0.mk (below_step (by repeat (first | (with_reducible first | exact HB.out | apply below_alloc | apply pw_below_drewN | apply below_drew1) | exact HB.out)) hb); have n1_ := Aside0.mk (hbox); have n2_ := Aside0.mk ((by rw [hg]; exact (below_size (by repeat (first | (with_reducible first | exact HB.out | apply below_alloc | apply pw_below_drewN | apply below_drew1) | exact HB.out))) : w.heap.size ≤ gb110)); have n3_ := Aside0.mk ((by rw [hg]; exact (below_size (by repeat (first | (with_reducible first | exact HB.out | apply below_alloc | apply pw_below_drewN | apply below_drew1) | exact HB.out))) : w.heap.size ≤ gb110)); clear HB; have HB := n0_; have BK110 := n1_; have GW110 := n2_; have GE110 := n3_; clear n0_ n1_ n2_ n3_; clear hb hbox hg; have hcz28_0 : w27.cell? ⟨gb110, 0, none⟩ = some (.int .i64 a0_0) := (blk_cell BK110.out 0).trans rfl; have hcz28_1 : w27.cell? ⟨gb110, 1, none⟩ = some (.int .i64 a0_1) := (blk_cell BK110.out 1).trans rfl; have hcz28_2 : w27.cell? ⟨gb110, 2, none⟩ = some (.int .i64 a0_2) := (blk_cell BK110.out 2).trans rfl; have hcz28_3 : w27.cell? ⟨gb110, 3, none⟩ = some (.int .i64 a0_3) := (blk_cell BK110.out 3).trans rfl; have hcz28_4 : w27.cell? ⟨gb110, 4, none⟩ = some (.int .i64 a0_4) := (blk_cell BK110.out 4).trans rfl; have hcz28_5 : w27.cell? ⟨gb110, 5, none⟩ = some (.int .i64 a0_5) := (blk_cell BK110.out 5).trans rfl; have hcz28_6 : w27.cell? ⟨gb110, 6, none⟩ = some (.int .i64 a0_6) := (blk_cell BK110.out 6).trans rfl; have hcz28_7 : w27.cell? ⟨gb110, 7, none⟩ = some (.int .i64 a0_7) := (blk_cell BK110.out 7).trans rfl; have hfz28_0 := blk_frozen BK110.out 0; have hfz28_1 := blk_frozen BK110.out 1; have hfz28_2 := blk_frozen BK110.out 2; have hfz28_3 := blk_frozen BK110.out 3; have hfz28_4 := blk_frozen BK110.out 4; have hfz28_5 := blk_frozen BK110.out 5; have hfz28_6 := blk_frozen BK110.out 6; have hfz28_7 := blk_frozen BK110.out 7))
                    go_ret
                    exact ⟨by first | rfl | (simp [errW_none, errW_some] <;> rfl) | (simp [*, errW_none, errW_some] <;> rfl), by repeat (first | (with_reducible first | exact HB.out | apply below_alloc | apply pw_below_drewN | apply below_drew1 | refine below_set ?_ GE110.out) | exact HB.out)⟩
                  · rw [if_neg c26] at H
                    have c26b0 : (a0_0 == 11) = false := beq_eq_false_iff_ne.mpr c26
                    have c26b1 : (a0_0 != 11) = true := bne_iff_ne.mpr c26
                    by_cases c29 : a0_0 = 13
                    · rw [if_pos c29] at H
                      have c29b0 : (a0_0 == 13) = true := beq_iff_eq.mpr c29
                      have c29b1 : (a0_0 != 13) = false := bne_eq_false_iff_eq.mpr c29
                      clear c29
                      obtain rfl := Option.some.inj H
                      go_enter Try.func18, Try.ntmps18
                      go_wp2_with (first | ((with_reducible refine gate_dst (N := 1) rfl ?_); refine box_event ?hg (N := 1) ?hd (cs := #[.int .i64 a0_0, .int .i64 a0_1, .int .i64 a0_2, .int .i64 a0_3, .int .i64 a0_4, .int .i64 a0_5, .int .i64 a0_6, .int .i64 a0_7]) (t := 40) ?hr ?_; (case hd => rfl); (case hg => rfl); (case hr => first | (go_simp; done) | (go_simp; rfl)); intro gb110 hg w30 hbox hb; have n0_ := Aside0.mk (below_step (by repeat (first | (with_reducible first | exact HB.out | apply below_alloc | apply pw_below_drewN | apply below_drew1) | exact HB.out)) hb); have n1_ := Aside0.mk (hbox); have n2_ := Aside0.mk ((by rw [hg]; exact (below_size (by repeat (first | (with_reducible first | exact HB.out | apply below_alloc | apply pw_below_drewN | apply below_drew1) | exact HB.out))) : w.heap.size ≤ gb110)); have n3_ := Aside0.mk ((by rw [hg]; exact (below_size (by repeat (first | (with_reducible first | exact HB.out | apply below_alloc | apply pw_below_drewN | apply below_drew1) | exact HB.out))) : w.heap.size ≤ gb110)); clear HB; have HB := n0_; have BK110 := n1_; have GW110 := n2_; have GE110 := n3_; clear n0_ n1_ n2_ n3_; clear hb hbox hg; have hcz31_0 : w30.cell? ⟨gb110, 0, none⟩ = some (.int .i64 a0_0) := (blk_cell BK110.out 0).trans rfl; have hcz31_1 : w30.cell? ⟨gb110, 1, none⟩ = some (.int .i64 a0_1) := (blk_cell BK110.out 1).trans rfl; have hcz31_2 : w30.cell? ⟨gb110, 2, none⟩ = some (.int .i64 a0_2) := (blk_cell BK110.out 2).trans rfl; have hcz31_3 : w30.cell? ⟨gb110, 3, none⟩ = some (.int .i64 a0_3) := (blk_cell BK110.out 3).trans rfl; have hcz31_4 : w30.cell? ⟨gb110, 4, none⟩ = some (.int .i64 a0_4) := (blk_cell BK110.out 4).trans rfl; have hcz31_5 : w30.cell? ⟨gb110, 5, none⟩ = some (.int .i64 a0_5) := (blk_cell BK110.out 5).trans rfl; have hcz31_6 : w30.cell? ⟨gb110, 6, none⟩ = some (.int .i64 a0_6) := (blk_cell BK110.out 6).trans rfl; have hcz31_7 : w30.cell? ⟨gb110, 7, none⟩ = some (.int .i64 a0_7) := (blk_cell BK110.out 7).trans rfl; have hfz31_0 := blk_frozen BK110.out 0; have hfz31_1 := blk_frozen BK110.out 1; have hfz31_2 := blk_frozen BK110.out 2; have hfz31_3 := blk_frozen BK110.out 3; have hfz31_4 := blk_frozen BK110.out 4; have hfz31_5 := blk_frozen BK110.out 5; have hfz31_6 := blk_frozen BK110.out 6; have hfz31_7 := blk_frozen BK110.out 7))
                      go_ret
                      exact ⟨by first | rfl | (simp [errW_none, errW_some] <;> rfl) | (simp [*, errW_none, errW_some] <;> rfl), by repeat (first | (with_reducible first | exact HB.out | apply below_alloc | apply pw_below_drewN | apply below_drew1 | refine below_set ?_ GE110.out) | exact HB.out)⟩
                    · rw [if_neg c29] at H
                      have c29b0 : (a0_0 == 13) = false := beq_eq_false_iff_ne.mpr c29
                      have c29b1 : (a0_0 != 13) = true := bne_iff_ne.mpr c29
                      obtain rfl := Option.some.inj H
                      go_enter Try.func18, Try.ntmps18
                      go_wp2_with (first | ((with_reducible refine gate_dst (N := 1) rfl ?_); refine box_event ?hg (N := 1) ?hd (cs := #[.int .i64 a0_0, .int .i64 a0_1, .int .i64 a0_2, .int .i64 a0_3, .int .i64 a0_4, .int .i64 a0_5, .int .i64 a0_6, .int .i64 a0_7]) (t := 40) ?hr ?_; (case hd => rfl); (case hg => rfl); (case hr => first | (go_simp; done) | (go_simp; rfl)); intro gb110 hg w32 hbox hb; have n0_ := Aside0.mk (below_step (by repeat (first | (with_reducible first | exact HB.out | apply below_alloc | apply pw_below_drewN | apply below_drew1) | exact HB.out)) hb); have n1_ := Aside0.mk (hbox); have n2_ := Aside0.mk ((by rw [hg]; exact (below_size (by repeat (first | (with_reducible first | exact HB.out | apply below_alloc | apply pw_below_drewN | apply below_drew1) | exact HB.out))) : w.heap.size ≤ gb110)); have n3_ := Aside0.mk ((by rw [hg]; exact (below_size (by repeat (first | (with_reducible first | exact HB.out | apply below_alloc | apply pw_below_drewN | apply below_drew1) | exact HB.out))) : w.heap.size ≤ gb110)); clear HB; have HB := n0_; have BK110 := n1_; have GW110 := n2_; have GE110 := n3_; clear n0_ n1_ n2_ n3_; clear hb hbox hg; have hcz33_0 : w32.cell? ⟨gb110, 0, none⟩ = some (.int .i64 a0_0) := (blk_cell BK110.out 0).trans rfl; have hcz33_1 : w32.cell? ⟨gb110, 1, none⟩ = some (.int .i64 a0_1) := (blk_cell BK110.out 1).trans rfl; have hcz33_2 : w32.cell? ⟨gb110, 2, none⟩ = some (.int .i64 a0_2) := (blk_cell BK110.out 2).trans rfl; have hcz33_3 : w32.cell? ⟨gb110, 3, none⟩ = some (.int .i64 a0_3) := (blk_cell BK110.out 3).trans rfl; have hcz33_4 : w32.cell? ⟨gb110, 4, none⟩ = some (.int .i64 a0_4) := (blk_cell BK110.out 4).trans rfl; have hcz33_5 : w32.cell? ⟨gb110, 5, none⟩ = some (.int .i64 a0_5) := (blk_cell BK110.out 5).trans rfl; have hcz33_6 : w32.cell? ⟨gb110, 6, none⟩ = some (.int .i64 a0_6) := (blk_cell BK110.out 6).trans rfl; have hcz33_7 : w32.cell? ⟨gb110, 7, none⟩ = some (.int .i64 a0_7) := (blk_cell BK110.out 7).trans rfl; have hfz33_0 := blk_frozen BK110.out 0; have hfz33_1 := blk_frozen BK110.out 1; have hfz33_2 := blk_frozen BK110.out 2; have hfz33_3 := blk_frozen BK110.out 3; have hfz33_4 := blk_frozen BK110.out 4; have hfz33_5 := blk_frozen BK110.out 5; have hfz33_6 := blk_frozen BK110.out 6; have hfz33_7 := blk_frozen BK110.out 7))
                      go_ret
                      exact ⟨by first | rfl | (simp [errW_none, errW_some] <;> rfl) | (simp [*, errW_none, errW_some] <;> rfl), by repeat (first | (with_reducible first | exact HB.out | apply below_alloc | apply pw_below_drewN | apply below_drew1 | refine below_set ?_ GE110.out) | exact HB.out)⟩

/-! ### alloc_needs: function 33 -/
def alloc_needs.j0 : Nat → Int → Int → Bool → Int → Int → Int → Int → Int → Int → Int → Int → Option (Bool)
  | 0, _, _, _, _, _, _, _, _, _, _, _ => none
  | k + 1, x1, x6, x7, x112000, x112001, x112002, x112003, x112004, x112005, x112006, x112007 => if x7 = true then (if x112002 = x1 then (some true) else (some (x112003 == x1))) else (if x6 = 7 then (some (x112002 == x1)) else (if x6 = 9 then (some (x112002 == x1)) else (if x6 = 10 then (some (x112002 == x1)) else (if x6 = 11 then (some (x112002 == x1)) else (if x6 = 13 then (some (x112002 == x1)) else (if x6 = 15 then (some (x112002 == x1)) else (some false)))))))
def alloc_needs.f (k : Nat) (a0_0 : Int) (a0_1 : Int) (a0_2 : Int) (a0_3 : Int) (a0_4 : Int) (a0_5 : Int) (a0_6 : Int) (a0_7 : Int) (a1 : Int) : Option (Bool) := if a0_0 = 2 then (alloc_needs.j0 k a1 a0_0 (a0_0 == 2) a0_0 a0_1 a0_2 a0_3 a0_4 a0_5 a0_6 a0_7) else (if a0_0 = 3 then (alloc_needs.j0 k a1 a0_0 (a0_0 == 3) a0_0 a0_1 a0_2 a0_3 a0_4 a0_5 a0_6 a0_7) else (if a0_0 = 4 then (alloc_needs.j0 k a1 a0_0 (a0_0 == 4) a0_0 a0_1 a0_2 a0_3 a0_4 a0_5 a0_6 a0_7) else (if a0_0 = 5 then (alloc_needs.j0 k a1 a0_0 (a0_0 == 5) a0_0 a0_1 a0_2 a0_3 a0_4 a0_5 a0_6 a0_7) else (if a0_0 = 12 then (alloc_needs.j0 k a1 a0_0 (a0_0 == 12) a0_0 a0_1 a0_2 a0_3 a0_4 a0_5 a0_6 a0_7) else (if a0_0 = 14 then (alloc_needs.j0 k a1 a0_0 (a0_0 == 14) a0_0 a0_1 a0_2 a0_3 a0_4 a0_5 a0_6 a0_7) else (if a0_0 = 16 then (alloc_needs.j0 k a1 a0_0 (a0_0 == 16) a0_0 a0_1 a0_2 a0_3 a0_4 a0_5 a0_6 a0_7) else (alloc_needs.j0 k a1 a0_0 (a0_0 == 17) a0_0 a0_1 a0_2 a0_3 a0_4 a0_5 a0_6 a0_7)))))))
theorem alloc_needs.mono_l : ∀ k, (∀ y0 y1 y2 y3 y4 y5 y6 y7 y8 y9 y10, LeO (alloc_needs.j0 k y0 y1 y2 y3 y4 y5 y6 y7 y8 y9 y10) (alloc_needs.j0 (k + 1) y0 y1 y2 y3 y4 y5 y6 y7 y8 y9 y10))
  | 0 => fun _ _ _ _ _ _ _ _ _ _ _ r h => by simp [alloc_needs.j0] at h
  | k + 1 => by
    have ih0 := alloc_needs.mono_l k
    · intro y0 y1 y2 y3 y4 y5 y6 y7 y8 y9 y10
      unfold alloc_needs.j0
      repeat' first
      | (with_reducible exact ih0 _ _ _ _ _ _ _ _ _ _ _)
      | (with_reducible exact LeO.refl _)
      | (with_reducible exact LeO.none _)
      | (with_reducible refine LeO.ite ?_ ?_)
      | (with_reducible refine LeO.bind ?_ (fun _ => ?_))
      | exact ih0 _ _ _ _ _ _ _ _ _ _ _
      | exact LeO.none _
      | refine LeO.ite ?_ ?_
      | refine LeO.bind ?_ (fun _ => ?_)
theorem alloc_needs.mono : ∀ a0 a1 a2 a3 a4 a5 a6 a7 a8 k, LeO (alloc_needs.f k a0 a1 a2 a3 a4 a5 a6 a7 a8) (alloc_needs.f (k + 1) a0 a1 a2 a3 a4 a5 a6 a7 a8) := by
  intro a0 a1 a2 a3 a4 a5 a6 a7 a8 k
  have ih0 := alloc_needs.mono_l k
  unfold alloc_needs.f
  repeat' first
      | (with_reducible exact ih0 _ _ _ _ _ _ _ _ _ _ _)
      | (with_reducible exact LeO.refl _)
      | (with_reducible exact LeO.none _)
      | (with_reducible refine LeO.ite ?_ ?_)
      | (with_reducible refine LeO.bind ?_ (fun _ => ?_))
      | exact ih0 _ _ _ _ _ _ _ _ _ _ _
      | exact LeO.none _
      | refine LeO.ite ?_ ?_
      | refine LeO.bind ?_ (fun _ => ?_)
set_option maxHeartbeats 8000000 in
set_option maxRecDepth 100000 in
theorem alloc_needs.calls (k : Nat) (a0_0 : Int) (a0_1 : Int) (a0_2 : Int) (a0_3 : Int) (a0_4 : Int) (a0_5 : Int) (a0_6 : Int) (a0_7 : Int) (a1 : Int) (r : Bool) (w : World) (h : alloc_needs.f k a0_0 a0_1 a0_2 a0_3 a0_4 a0_5 a0_6 a0_7 a1 = some r) :
    Calls Try.prog 33 #[.agg #[.int .i64 a0_0, .int .i64 a0_1, .int .i64 a0_2, .int .i64 a0_3, .int .i64 a0_4, .int .i64 a0_5, .int .i64 a0_6, .int .i64 a0_7], .int .i64 a1] w fun e w' => e = .returned (.bool r) ∧ Below w.heap.size w w' := by
  have hu40 := Try.underlying40
  have HB := Aside0.mk (Below.refl w.heap.size w)
  have H : (if a0_0 = 2 then (alloc_needs.j0 k a1 a0_0 (a0_0 == 2) a0_0 a0_1 a0_2 a0_3 a0_4 a0_5 a0_6 a0_7) else (if a0_0 = 3 then (alloc_needs.j0 k a1 a0_0 (a0_0 == 3) a0_0 a0_1 a0_2 a0_3 a0_4 a0_5 a0_6 a0_7) else (if a0_0 = 4 then (alloc_needs.j0 k a1 a0_0 (a0_0 == 4) a0_0 a0_1 a0_2 a0_3 a0_4 a0_5 a0_6 a0_7) else (if a0_0 = 5 then (alloc_needs.j0 k a1 a0_0 (a0_0 == 5) a0_0 a0_1 a0_2 a0_3 a0_4 a0_5 a0_6 a0_7) else (if a0_0 = 12 then (alloc_needs.j0 k a1 a0_0 (a0_0 == 12) a0_0 a0_1 a0_2 a0_3 a0_4 a0_5 a0_6 a0_7) else (if a0_0 = 14 then (alloc_needs.j0 k a1 a0_0 (a0_0 == 14) a0_0 a0_1 a0_2 a0_3 a0_4 a0_5 a0_6 a0_7) else (if a0_0 = 16 then (alloc_needs.j0 k a1 a0_0 (a0_0 == 16) a0_0 a0_1 a0_2 a0_3 a0_4 a0_5 a0_6 a0_7) else (alloc_needs.j0 k a1 a0_0 (a0_0 == 17) a0_0 a0_1 a0_2 a0_3 a0_4 a0_5 a0_6 a0_7)))))))) = some r := h
  clear h
  have HC3 := Aside0.mk H
  clear H
  go_enter Try.func33, Try.ntmps33
  go_upto_if 7 with (first | ((with_reducible refine gate_dst (N := 2) rfl ?_); refine box_event ?hg (N := 2) ?hd (cs := #[.int .i64 a0_0, .int .i64 a0_1, .int .i64 a0_2, .int .i64 a0_3, .int .i64 a0_4, .int .i64 a0_5, .int .i64 a0_6, .int .i64 a0_7]) (t := 40) ?hr ?_; (case hd => rfl); (case hg => rfl); (case hr => first | (go_simp; done) | (go_simp; rfl)); intro gb111 hg w4 hbox hb; have n0_ := Aside0.mk (below_step (by repeat (first | (with_reducible first | exact HB.out | apply below_alloc | apply pw_below_drewN | apply below_drew1) | exact HB.out)) hb); have n1_ := Aside0.mk (hbox); have n2_ := Aside0.mk ((by rw [hg]; exact (below_size (by repeat (first | (with_reducible first | exact HB.out | apply below_alloc | apply pw_below_drewN | apply below_drew1) | exact HB.out))) : w.heap.size ≤ gb111)); have n3_ := Aside0.mk ((by rw [hg]; exact (below_size (by repeat (first | (with_reducible first | exact HB.out | apply below_alloc | apply pw_below_drewN | apply below_drew1) | exact HB.out))) : w.heap.size ≤ gb111)); clear HB; have HB := n0_; have BK111 := n1_; have GW111 := n2_; have GE111 := n3_; clear n0_ n1_ n2_ n3_; clear hb hbox hg; have hcz5_0 : w4.cell? ⟨gb111, 0, none⟩ = some (.int .i64 a0_0) := (blk_cell BK111.out 0).trans rfl; have hcz5_1 : w4.cell? ⟨gb111, 1, none⟩ = some (.int .i64 a0_1) := (blk_cell BK111.out 1).trans rfl; have hcz5_2 : w4.cell? ⟨gb111, 2, none⟩ = some (.int .i64 a0_2) := (blk_cell BK111.out 2).trans rfl; have hcz5_3 : w4.cell? ⟨gb111, 3, none⟩ = some (.int .i64 a0_3) := (blk_cell BK111.out 3).trans rfl; have hcz5_4 : w4.cell? ⟨gb111, 4, none⟩ = some (.int .i64 a0_4) := (blk_cell BK111.out 4).trans rfl; have hcz5_5 : w4.cell? ⟨gb111, 5, none⟩ = some (.int .i64 a0_5) := (blk_cell BK111.out 5).trans rfl; have hcz5_6 : w4.cell? ⟨gb111, 6, none⟩ = some (.int .i64 a0_6) := (blk_cell BK111.out 6).trans rfl; have hcz5_7 : w4.cell? ⟨gb111, 7, none⟩ = some (.int .i64 a0_7) := (blk_cell BK111.out 7).trans rfl; have hfz5_0 := blk_frozen BK111.out 0; have hfz5_1 := blk_frozen BK111.out 1; have hfz5_2 := blk_frozen BK111.out 2; have hfz5_3 := blk_frozen BK111.out 3; have hfz5_4 := blk_frozen BK111.out 4; have hfz5_5 := blk_frozen BK111.out 5; have hfz5_6 := blk_frozen BK111.out 6; have hfz5_7 := blk_frozen BK111.out 7))
  (try simp only [Act.put, List.setIfInBounds_toArray, List.set_cons_zero, List.set_cons_succ])
  go_cut [7] (fun v7 wc => ∃ (kq : Nat) (x7_2 : Bool), v7 = .bool x7_2 ∧ Aside0 (alloc_needs.j0 kq a1 a0_0 x7_2 a0_0 a0_1 a0_2 a0_3 a0_4 a0_5 a0_6 a0_7 = some r) ∧ Aside0 (kq ≤ k) ∧ Aside0 (wc.heap[gb111]? = some (.cells #[.int .i64 a0_0, .int .i64 a0_1, .int .i64 a0_2, .int .i64 a0_3, .int .i64 a0_4, .int .i64 a0_5, .int .i64 a0_6, .int .i64 a0_7] 40 (0, 0))) ∧ Aside0 (Below w.heap.size w wc))
  case first =>
    have H := HC3.out
    clear HC3
    by_cases c6 : a0_0 = 2
    · rw [if_pos c6] at H
      have c6b0 : (a0_0 == 2) = true := beq_iff_eq.mpr c6
      have c6b1 : (a0_0 != 2) = false := bne_eq_false_iff_eq.mpr c6
      clear c6
      (first | rw [c6b0] | (simp only [i64_w, i32_w]; rw [c6b0]) | skip)
      have H' := Aside0.mk H
      clear H
      go_wp2
      go_meet
      case rel => exact ⟨_, ((a0_0 == 2)), (by first | rfl | (simp; done) | (simp [*]; done)), H', ⟨by first | omega | exact Nat.le_refl _⟩, ⟨by (with_reducible repeat (first | refine blk_drewN ?_ _ | refine blk_drew ?_ | refine blk_alloc ?_ _)); exact BK111.out⟩, ⟨by repeat (first | (with_reducible first | exact HB.out | apply below_alloc | apply pw_below_drewN | apply below_drew1 | refine below_set ?_ GE111.out) | exact HB.out)⟩⟩
    · rw [if_neg c6] at H
      have c6b0 : (a0_0 == 2) = false := beq_eq_false_iff_ne.mpr c6
      have c6b1 : (a0_0 != 2) = true := bne_iff_ne.mpr c6
      (first | rw [c6b0] | (simp only [i64_w, i32_w]; rw [c6b0]) | skip)
      by_cases c7 : a0_0 = 3
      · rw [if_pos c7] at H
        have c7b0 : (a0_0 == 3) = true := beq_iff_eq.mpr c7
        have c7b1 : (a0_0 != 3) = false := bne_eq_false_iff_eq.mpr c7
        clear c7
        have H' := Aside0.mk H
        clear H
        go_wp2
        go_meet
        case rel => exact ⟨_, ((a0_0 == 3)), (by first | rfl | (simp; done) | (simp [*]; done)), H', ⟨by first | omega | exact Nat.le_refl _⟩, ⟨by (with_reducible repeat (first | refine blk_drewN ?_ _ | refine blk_drew ?_ | refine blk_alloc ?_ _)); exact BK111.out⟩, ⟨by repeat (first | (with_reducible first | exact HB.out | apply below_alloc | apply pw_below_drewN | apply below_drew1 | refine below_set ?_ GE111.out) | exact HB.out)⟩⟩
      · rw [if_neg c7] at H
        have c7b0 : (a0_0 == 3) = false := beq_eq_false_iff_ne.mpr c7
        have c7b1 : (a0_0 != 3) = true := bne_iff_ne.mpr c7
        by_cases c8 : a0_0 = 4
        · rw [if_pos c8] at H
          have c8b0 : (a0_0 == 4) = true := beq_iff_eq.mpr c8
          have c8b1 : (a0_0 != 4) = false := bne_eq_false_iff_eq.mpr c8
          clear c8
          have H' := Aside0.mk H
          clear H
          go_wp2
          go_meet
          case rel => exact ⟨_, ((a0_0 == 4)), (by first | rfl | (simp; done) | (simp [*]; done)), H', ⟨by first | omega | exact Nat.le_refl _⟩, ⟨by (with_reducible repeat (first | refine blk_drewN ?_ _ | refine blk_drew ?_ | refine blk_alloc ?_ _)); exact BK111.out⟩, ⟨by repeat (first | (with_reducible first | exact HB.out | apply below_alloc | apply pw_below_drewN | apply below_drew1 | refine below_set ?_ GE111.out) | exact HB.out)⟩⟩
        · rw [if_neg c8] at H
          have c8b0 : (a0_0 == 4) = false := beq_eq_false_iff_ne.mpr c8
          have c8b1 : (a0_0 != 4) = true := bne_iff_ne.mpr c8
          by_cases c9 : a0_0 = 5
          · rw [if_pos c9] at H
            have c9b0 : (a0_0 == 5) = true := beq_iff_eq.mpr c9
            have c9b1 : (a0_0 != 5) = false := bne_eq_false_iff_eq.mpr c9
            clear c9
            have H' := Aside0.mk H
            clear H
            go_wp2
            go_meet
            case rel => exact ⟨_, ((a0_0 == 5)), (by first | rfl | (simp; done) | (simp [*]; done)), H', ⟨by first | omega | exact Nat.le_refl _⟩, ⟨by (with_reducible repeat (first | refine blk_drewN ?_ _ | refine blk_drew ?_ | refine blk_alloc ?_ _)); exact BK111.out⟩, ⟨by repeat (first | (with_reducible first | exact HB.out | apply below_alloc | apply pw_below_drewN | apply below_drew1 | refine below_set ?_ GE111.out) | exact HB.out)⟩⟩
          · rw [if_neg c9] at H
            have c9b0 : (a0_0 == 5) = false := beq_eq_false_iff_ne.mpr c9
            have c9b1 : (a0_0 != 5) = true := bne_iff_ne.mpr c9
            by_cases c10 : a0_0 = 12
            · rw [if_pos c10] at H
              have c10b0 : (a0_0 == 12) = true := beq_iff_eq.mpr c10
              have c10b1 : (a0_0 != 12) = false := bne_eq_false_iff_eq.mpr c10
              clear c10
              have H' := Aside0.mk H
              clear H
              go_wp2
              go_meet
              case rel => exact ⟨_, ((a0_0 == 12)), (by first | rfl | (simp; done) | (simp [*]; done)), H', ⟨by first | omega | exact Nat.le_refl _⟩, ⟨by (with_reducible repeat (first | refine blk_drewN ?_ _ | refine blk_drew ?_ | refine blk_alloc ?_ _)); exact BK111.out⟩, ⟨by repeat (first | (with_reducible first | exact HB.out | apply below_alloc | apply pw_below_drewN | apply below_drew1 | refine below_set ?_ GE111.out) | exact HB.out)⟩⟩
            · rw [if_neg c10] at H
              have c10b0 : (a0_0 == 12) = false := beq_eq_false_iff_ne.mpr c10
              have c10b1 : (a0_0 != 12) = true := bne_iff_ne.mpr c10
              by_cases c11 : a0_0 = 14
              · rw [if_pos c11] at H
                have c11b0 : (a0_0 == 14) = true := beq_iff_eq.mpr c11
                have c11b1 : (a0_0 != 14) = false := bne_eq_false_iff_eq.mpr c11
                clear c11
                have H' := Aside0.mk H
                clear H
                go_wp2
                go_meet
                case rel => exact ⟨_, ((a0_0 == 14)), (by first | rfl | (simp; done) | (simp [*]; done)), H', ⟨by first | omega | exact Nat.le_refl _⟩, ⟨by (with_reducible repeat (first | refine blk_drewN ?_ _ | refine blk_drew ?_ | refine blk_alloc ?_ _)); exact BK111.out⟩, ⟨by repeat (first | (with_reducible first | exact HB.out | apply below_alloc | apply pw_below_drewN | apply below_drew1 | refine below_set ?_ GE111.out) | exact HB.out)⟩⟩
              · rw [if_neg c11] at H
                have c11b0 : (a0_0 == 14) = false := beq_eq_false_iff_ne.mpr c11
                have c11b1 : (a0_0 != 14) = true := bne_iff_ne.mpr c11
                by_cases c12 : a0_0 = 16
                · rw [if_pos c12] at H
                  have c12b0 : (a0_0 == 16) = true := beq_iff_eq.mpr c12
                  have c12b1 : (a0_0 != 16) = false := bne_eq_false_iff_eq.mpr c12
                  clear c12
                  have H' := Aside0.mk H
                  clear H
                  go_wp2
                  go_meet
                  case rel => exact ⟨_, ((a0_0 == 16)), (by first | rfl | (simp; done) | (simp [*]; done)), H', ⟨by first | omega | exact Nat.le_refl _⟩, ⟨by (with_reducible repeat (first | refine blk_drewN ?_ _ | refine blk_drew ?_ | refine blk_alloc ?_ _)); exact BK111.out⟩, ⟨by repeat (first | (with_reducible first | exact HB.out | apply below_alloc | apply pw_below_drewN | apply below_drew1 | refine below_set ?_ GE111.out) | exact HB.out)⟩⟩
                · rw [if_neg c12] at H
                  have c12b0 : (a0_0 == 16) = false := beq_eq_false_iff_ne.mpr c12
                  have c12b1 : (a0_0 != 16) = true := bne_iff_ne.mpr c12
                  have H' := Aside0.mk H
                  clear H
                  go_wp2
                  go_meet
                  case rel => exact ⟨_, ((a0_0 == 17)), (by first | rfl | (simp; done) | (simp [*]; done)), H', ⟨by first | omega | exact Nat.le_refl _⟩, ⟨by (with_reducible repeat (first | refine blk_drewN ?_ _ | refine blk_drew ?_ | refine blk_alloc ?_ _)); exact BK111.out⟩, ⟨by repeat (first | (with_reducible first | exact HB.out | apply below_alloc | apply pw_below_drewN | apply below_drew1 | refine below_set ?_ GE111.out) | exact HB.out)⟩⟩
  case rest =>
    clear HC3
    try clear c1
    try clear p2
    try clear c3
    try clear c6
    try clear c6b0
    try clear c6b1
    try clear c7
    try clear c7b0
    try clear c7b1
    try clear c8
    try clear c8b0
    try clear c8b1
    try clear c9
    try clear c9b0
    try clear c9b1
    try clear c10
    try clear c10b0
    try clear c10b1
    try clear c11
    try clear c11b0
    try clear c11b1
    try clear c12
    try clear c12b0
    try clear c12b1
    try clear hcz5_0
    try clear hcz5_1
    try clear hcz5_2
    try clear hcz5_3
    try clear hcz5_4
    try clear hcz5_5
    try clear hcz5_6
    try clear hcz5_7
    try clear hfz5_0
    try clear hfz5_1
    try clear hfz5_2
    try clear hfz5_3
    try clear hfz5_4
    try clear hfz5_5
    try clear hfz5_6
    try clear hfz5_7
    obtain ⟨kq, x7_2, rfl, HA, HJ2, BK111, HB⟩ := hcut
    cases kq with
    | zero => exact absurd HA.out (by simp [alloc_needs.j0])
    | succ kj2 =>
      have H := HA.out
      clear HA
      simp only [alloc_needs.j0] at H
      by_cases c13 : x7_2 = true
      · subst c13
        have H1 : (if a0_2 = a1 then (some true) else (some (a0_3 == a1))) = some r := by rw [if_pos rfl] at H; exact H
        clear H
        have H := H1
        clear H1
        by_cases c14 : a0_2 = a1
        · rw [if_pos c14] at H
          have c14b0 : (a0_2 == a1) = true := beq_iff_eq.mpr c14
          have c14b1 : (a0_2 != a1) = false := bne_eq_false_iff_eq.mpr c14
          clear c14
          obtain rfl := Option.some.inj H
          have hcz15_0 : wc.cell? ⟨gb111, 0, none⟩ = some (.int .i64 a0_0) := (blk_cell BK111.out 0).trans rfl
          have hcz15_1 : wc.cell? ⟨gb111, 1, none⟩ = some (.int .i64 a0_1) := (blk_cell BK111.out 1).trans rfl
          have hcz15_2 : wc.cell? ⟨gb111, 2, none⟩ = some (.int .i64 a0_2) := (blk_cell BK111.out 2).trans rfl
          have hcz15_3 : wc.cell? ⟨gb111, 3, none⟩ = some (.int .i64 a0_3) := (blk_cell BK111.out 3).trans rfl
          have hcz15_4 : wc.cell? ⟨gb111, 4, none⟩ = some (.int .i64 a0_4) := (blk_cell BK111.out 4).trans rfl
          have hcz15_5 : wc.cell? ⟨gb111, 5, none⟩ = some (.int .i64 a0_5) := (blk_cell BK111.out 5).trans rfl
          have hcz15_6 : wc.cell? ⟨gb111, 6, none⟩ = some (.int .i64 a0_6) := (blk_cell BK111.out 6).trans rfl
          have hcz15_7 : wc.cell? ⟨gb111, 7, none⟩ = some (.int .i64 a0_7) := (blk_cell BK111.out 7).trans rfl
          have hfz15_0 := blk_frozen BK111.out 0
          have hfz15_1 := blk_frozen BK111.out 1
          have hfz15_2 := blk_frozen BK111.out 2
          have hfz15_3 := blk_frozen BK111.out 3
          have hfz15_4 := blk_frozen BK111.out 4
          have hfz15_5 := blk_frozen BK111.out 5
          have hfz15_6 := blk_frozen BK111.out 6
          have hfz15_7 := blk_frozen BK111.out 7
          go_wp2
          go_ret
          exact ⟨by first | rfl | (simp [errW_none, errW_some] <;> rfl) | (simp [*, errW_none, errW_some] <;> rfl), by repeat (first | (with_reducible first | exact HB.out | apply below_alloc | apply pw_below_drewN | apply below_drew1 | refine below_set ?_ GE111.out) | exact HB.out)⟩
        · rw [if_neg c14] at H
          have c14b0 : (a0_2 == a1) = false := beq_eq_false_iff_ne.mpr c14
          have c14b1 : (a0_2 != a1) = true := bne_iff_ne.mpr c14
          obtain rfl := Option.some.inj H
          have hcz16_0 : wc.cell? ⟨gb111, 0, none⟩ = some (.int .i64 a0_0) := (blk_cell BK111.out 0).trans rfl
          have hcz16_1 : wc.cell? ⟨gb111, 1, none⟩ = some (.int .i64 a0_1) := (blk_cell BK111.out 1).trans rfl
          have hcz16_2 : wc.cell? ⟨gb111, 2, none⟩ = some (.int .i64 a0_2) := (blk_cell BK111.out 2).trans rfl
          have hcz16_3 : wc.cell? ⟨gb111, 3, none⟩ = some (.int .i64 a0_3) := (blk_cell BK111.out 3).trans rfl
          have hcz16_4 : wc.cell? ⟨gb111, 4, none⟩ = some (.int .i64 a0_4) := (blk_cell BK111.out 4).trans rfl
          have hcz16_5 : wc.cell? ⟨gb111, 5, none⟩ = some (.int .i64 a0_5) := (blk_cell BK111.out 5).trans rfl
          have hcz16_6 : wc.cell? ⟨gb111, 6, none⟩ = some (.int .i64 a0_6) := (blk_cell BK111.out 6).trans rfl
          have hcz16_7 : wc.cell? ⟨gb111, 7, none⟩ = some (.int .i64 a0_7) := (blk_cell BK111.out 7).trans rfl
          have hfz16_0 := blk_frozen BK111.out 0
          have hfz16_1 := blk_frozen BK111.out 1
          have hfz16_2 := blk_frozen BK111.out 2
          have hfz16_3 := blk_frozen BK111.out 3
          have hfz16_4 := blk_frozen BK111.out 4
          have hfz16_5 := blk_frozen BK111.out 5
          have hfz16_6 := blk_frozen BK111.out 6
          have hfz16_7 := blk_frozen BK111.out 7
          go_wp2
          go_ret
          exact ⟨by first | rfl | (simp [errW_none, errW_some] <;> rfl) | (simp [*, errW_none, errW_some] <;> rfl), by repeat (first | (with_reducible first | exact HB.out | apply below_alloc | apply pw_below_drewN | apply below_drew1 | refine below_set ?_ GE111.out) | exact HB.out)⟩
      · replace c13 := Bool.eq_false_iff.mpr c13
        subst c13
        have H1 : (if a0_0 = 7 then (some (a0_2 == a1)) else (if a0_0 = 9 then (some (a0_2 == a1)) else (if a0_0 = 10 then (some (a0_2 == a1)) else (if a0_0 = 11 then (some (a0_2 == a1)) else (if a0_0 = 13 then (some (a0_2 == a1)) else (if a0_0 = 15 then (some (a0_2 == a1)) else (some false))))))) = some r := by rw [if_neg (show ¬ (false = true) by decide)] at H; exact H
        clear H
        have H := H1
        clear H1
        by_cases c17 : a0_0 = 7
        · rw [if_pos c17] at H
          have c17b0 : (a0_0 == 7) = true := beq_iff_eq.mpr c17
          have c17b1 : (a0_0 != 7) = false := bne_eq_false_iff_eq.mpr c17
          clear c17
          obtain rfl := Option.some.inj H
          have hcz18_0 : wc.cell? ⟨gb111, 0, none⟩ = some (.int .i64 a0_0) := (blk_cell BK111.out 0).trans rfl
          have hcz18_1 : wc.cell? ⟨gb111, 1, none⟩ = some (.int .i64 a0_1) := (blk_cell BK111.out 1).trans rfl
          have hcz18_2 : wc.cell? ⟨gb111, 2, none⟩ = some (.int .i64 a0_2) := (blk_cell BK111.out 2).trans rfl
          have hcz18_3 : wc.cell? ⟨gb111, 3, none⟩ = some (.int .i64 a0_3) := (blk_cell BK111.out 3).trans rfl
          have hcz18_4 : wc.cell? ⟨gb111, 4, none⟩ = some (.int .i64 a0_4) := (blk_cell BK111.out 4).trans rfl
          have hcz18_5 : wc.cell? ⟨gb111, 5, none⟩ = some (.int .i64 a0_5) := (blk_cell BK111.out 5).trans rfl
          have hcz18_6 : wc.cell? ⟨gb111, 6, none⟩ = some (.int .i64 a0_6) := (blk_cell BK111.out 6).trans rfl
          have hcz18_7 : wc.cell? ⟨gb111, 7, none⟩ = some (.int .i64 a0_7) := (blk_cell BK111.out 7).trans rfl
          have hfz18_0 := blk_frozen BK111.out 0
          have hfz18_1 := blk_frozen BK111.out 1
          have hfz18_2 := blk_frozen BK111.out 2
          have hfz18_3 := blk_frozen BK111.out 3
          have hfz18_4 := blk_frozen BK111.out 4
          have hfz18_5 := blk_frozen BK111.out 5
          have hfz18_6 := blk_frozen BK111.out 6
          have hfz18_7 := blk_frozen BK111.out 7
          go_wp2
          go_ret
          exact ⟨by first | rfl | (simp [errW_none, errW_some] <;> rfl) | (simp [*, errW_none, errW_some] <;> rfl), by repeat (first | (with_reducible first | exact HB.out | apply below_alloc | apply pw_below_drewN | apply below_drew1 | refine below_set ?_ GE111.out) | exact HB.out)⟩
        · rw [if_neg c17] at H
          have c17b0 : (a0_0 == 7) = false := beq_eq_false_iff_ne.mpr c17
          have c17b1 : (a0_0 != 7) = true := bne_iff_ne.mpr c17
          by_cases c19 : a0_0 = 9
          · rw [if_pos c19] at H
            have c19b0 : (a0_0 == 9) = true := beq_iff_eq.mpr c19
            have c19b1 : (a0_0 != 9) = false := bne_eq_false_iff_eq.mpr c19
            clear c19
            obtain rfl := Option.some.inj H
            have hcz20_0 : wc.cell? ⟨gb111, 0, none⟩ = some (.int .i64 a0_0) := (blk_cell BK111.out 0).trans rfl
            have hcz20_1 : wc.cell? ⟨gb111, 1, none⟩ = some (.int .i64 a0_1) := (blk_cell BK111.out 1).trans rfl
            have hcz20_2 : wc.cell? ⟨gb111, 2, none⟩ = some (.int .i64 a0_2) := (blk_cell BK111.out 2).trans rfl
            have hcz20_3 : wc.cell? ⟨gb111, 3, none⟩ = some (.int .i64 a0_3) := (blk_cell BK111.out 3).trans rfl
            have hcz20_4 : wc.cell? ⟨gb111, 4, none⟩ = some (.int .i64 a0_4) := (blk_cell BK111.out 4).trans rfl
            have hcz20_5 : wc.cell? ⟨gb111, 5, none⟩ = some (.int .i64 a0_5) := (blk_cell BK111.out 5).trans rfl
            have hcz20_6 : wc.cell? ⟨gb111, 6, none⟩ = some (.int .i64 a0_6) := (blk_cell BK111.out 6).trans rfl
            have hcz20_7 : wc.cell? ⟨gb111, 7, none⟩ = some (.int .i64 a0_7) := (blk_cell BK111.out 7).trans rfl
            have hfz20_0 := blk_frozen BK111.out 0
            have hfz20_1 := blk_frozen BK111.out 1
            have hfz20_2 := blk_frozen BK111.out 2
            have hfz20_3 := blk_frozen BK111.out 3
            have hfz20_4 := blk_frozen BK111.out 4
            have hfz20_5 := blk_frozen BK111.out 5
            have hfz20_6 := blk_frozen BK111.out 6
            have hfz20_7 := blk_frozen BK111.out 7
            go_wp2
            go_ret
            exact ⟨by first | rfl | (simp [errW_none, errW_some] <;> rfl) | (simp [*, errW_none, errW_some] <;> rfl), by repeat (first | (with_reducible first | exact HB.out | apply below_alloc | apply pw_below_drewN | apply below_drew1 | refine below_set ?_ GE111.out) | exact HB.out)⟩
          · rw [if_neg c19] at H
            have c19b0 : (a0_0 == 9) = false := beq_eq_false_iff_ne.mpr c19
            have c19b1 : (a0_0 != 9) = true := bne_iff_ne.mpr c19
            by_cases c21 : a0_0 = 10
            · rw [if_pos c21] at H
              have c21b0 : (a0_0 == 10) = true := beq_iff_eq.mpr c21
              have c21b1 : (a0_0 != 10) = false := bne_eq_false_iff_eq.mpr c21
              clear c21
              obtain rfl := Option.some.inj H
              have hcz22_0 : wc.cell? ⟨gb111, 0, none⟩ = some (.int .i64 a0_0) := (blk_cell BK111.out 0).trans rfl
              have hcz22_1 : wc.cell? ⟨gb111, 1, none⟩ = some (.int .i64 a0_1) := (blk_cell BK111.out 1).trans rfl
              have hcz22_2 : wc.cell? ⟨gb111, 2, none⟩ = some (.int .i64 a0_2) := (blk_cell BK111.out 2).trans rfl
              have hcz22_3 : wc.cell? ⟨gb111, 3, none⟩ = some (.int .i64 a0_3) := (blk_cell BK111.out 3).trans rfl
              have hcz22_4 : wc.cell? ⟨gb111, 4, none⟩ = some (.int .i64 a0_4) := (blk_cell BK111.out 4).trans rfl
              have hcz22_5 : wc.cell? ⟨gb111, 5, none⟩ = some (.int .i64 a0_5) := (blk_cell BK111.out 5).trans rfl
              have hcz22_6 : wc.cell? ⟨gb111, 6, none⟩ = some (.int .i64 a0_6) := (blk_cell BK111.out 6).trans rfl
              have hcz22_7 : wc.cell? ⟨gb111, 7, none⟩ = some (.int .i64 a0_7) := (blk_cell BK111.out 7).trans rfl
              have hfz22_0 := blk_frozen BK111.out 0
              have hfz22_1 := blk_frozen BK111.out 1
              have hfz22_2 := blk_frozen BK111.out 2
              have hfz22_3 := blk_frozen BK111.out 3
              have hfz22_4 := blk_frozen BK111.out 4
              have hfz22_5 := blk_frozen BK111.out 5
              have hfz22_6 := blk_frozen BK111.out 6
              have hfz22_7 := blk_frozen BK111.out 7
              go_wp2
              go_ret
              exact ⟨by first | rfl | (simp [errW_none, errW_some] <;> rfl) | (simp [*, errW_none, errW_some] <;> rfl), by repeat (first | (with_reducible first | exact HB.out | apply below_alloc | apply pw_below_drewN | apply below_drew1 | refine below_set ?_ GE111.out) | exact HB.out)⟩
            · rw [if_neg c21] at H
              have c21b0 : (a0_0 == 10) = false := beq_eq_false_iff_ne.mpr c21
              have c21b1 : (a0_0 != 10) = true := bne_iff_ne.mpr c21
              by_cases c23 : a0_0 = 11
              · rw [if_pos c23] at H
                have c23b0 : (a0_0 == 11) = true := beq_iff_eq.mpr c23
                have c23b1 : (a0_0 != 11) = false := bne_eq_false_iff_eq.mpr c23
                clear c23
                obtain rfl := Option.some.inj H
                have hcz24_0 : wc.cell? ⟨gb111, 0, none⟩ = some (.int .i64 a0_0) := (blk_cell BK111.out 0).trans rfl
                have hcz24_1 : wc.cell? ⟨gb111, 1, none⟩ = some (.int .i64 a0_1) := (blk_cell BK111.out 1).trans rfl
                have hcz24_2 : wc.cell? ⟨gb111, 2, none⟩ = some (.int .i64 a0_2) := (blk_cell BK111.out 2).trans rfl
                have hcz24_3 : wc.cell? ⟨gb111, 3, none⟩ = some (.int .i64 a0_3) := (blk_cell BK111.out 3).trans rfl
                have hcz24_4 : wc.cell? ⟨gb111, 4, none⟩ = some (.int .i64 a0_4) := (blk_cell BK111.out 4).trans rfl
                have hcz24_5 : wc.cell? ⟨gb111, 5, none⟩ = some (.int .i64 a0_5) := (blk_cell BK111.out 5).trans rfl
                have hcz24_6 : wc.cell? ⟨gb111, 6, none⟩ = some (.int .i64 a0_6) := (blk_cell BK111.out 6).trans rfl
                have hcz24_7 : wc.cell? ⟨gb111, 7, none⟩ = some (.int .i64 a0_7) := (blk_cell BK111.out 7).trans rfl
                have hfz24_0 := blk_frozen BK111.out 0
                have hfz24_1 := blk_frozen BK111.out 1
                have hfz24_2 := blk_frozen BK111.out 2
                have hfz24_3 := blk_frozen BK111.out 3
                have hfz24_4 := blk_frozen BK111.out 4
                have hfz24_5 := blk_frozen BK111.out 5
                have hfz24_6 := blk_frozen BK111.out 6
                have hfz24_7 := blk_frozen BK111.out 7
                go_wp2
                go_ret
                exact ⟨by first | rfl | (simp [errW_none, errW_some] <;> rfl) | (simp [*, errW_none, errW_some] <;> rfl), by repeat (first | (with_reducible first | exact HB.out | apply below_alloc | apply pw_below_drewN | apply below_drew1 | refine below_set ?_ GE111.out) | exact HB.out)⟩
              · rw [if_neg c23] at H
                have c23b0 : (a0_0 == 11) = false := beq_eq_false_iff_ne.mpr c23
                have c23b1 : (a0_0 != 11) = true := bne_iff_ne.mpr c23
                by_cases c25 : a0_0 = 13
                · rw [if_pos c25] at H
                  have c25b0 : (a0_0 == 13) = true := beq_iff_eq.mpr c25
                  have c25b1 : (a0_0 != 13) = false := bne_eq_false_iff_eq.mpr c25
                  clear c25
                  obtain rfl := Option.some.inj H
                  have hcz26_0 : wc.cell? ⟨gb111, 0, none⟩ = some (.int .i64 a0_0) := (blk_cell BK111.out 0).trans rfl
                  have hcz26_1 : wc.cell? ⟨gb111, 1, none⟩ = some (.int .i64 a0_1) := (blk_cell BK111.out 1).trans rfl
                  have hcz26_2 : wc.cell? ⟨gb111, 2, none⟩ = some (.int .i64 a0_2) := (blk_cell BK111.out 2).trans rfl
                  have hcz26_3 : wc.cell? ⟨gb111, 3, none⟩ = some (.int .i64 a0_3) := (blk_cell BK111.out 3).trans rfl
                  have hcz26_4 : wc.cell? ⟨gb111, 4, none⟩ = some (.int .i64 a0_4) := (blk_cell BK111.out 4).trans rfl
                  have hcz26_5 : wc.cell? ⟨gb111, 5, none⟩ = some (.int .i64 a0_5) := (blk_cell BK111.out 5).trans rfl
                  have hcz26_6 : wc.cell? ⟨gb111, 6, none⟩ = some (.int .i64 a0_6) := (blk_cell BK111.out 6).trans rfl
                  have hcz26_7 : wc.cell? ⟨gb111, 7, none⟩ = some (.int .i64 a0_7) := (blk_cell BK111.out 7).trans rfl
                  have hfz26_0 := blk_frozen BK111.out 0
                  have hfz26_1 := blk_frozen BK111.out 1
                  have hfz26_2 := blk_frozen BK111.out 2
                  have hfz26_3 := blk_frozen BK111.out 3
                  have hfz26_4 := blk_frozen BK111.out 4
                  have hfz26_5 := blk_frozen BK111.out 5
                  have hfz26_6 := blk_frozen BK111.out 6
                  have hfz26_7 := blk_frozen BK111.out 7
                  go_wp2
                  go_ret
                  exact ⟨by first | rfl | (simp [errW_none, errW_some] <;> rfl) | (simp [*, errW_none, errW_some] <;> rfl), by repeat (first | (with_reducible first | exact HB.out | apply below_alloc | apply pw_below_drewN | apply below_drew1 | refine below_set ?_ GE111.out) | exact HB.out)⟩
                · rw [if_neg c25] at H
                  have c25b0 : (a0_0 == 13) = false := beq_eq_false_iff_ne.mpr c25
                  have c25b1 : (a0_0 != 13) = true := bne_iff_ne.mpr c25
                  by_cases c27 : a0_0 = 15
                  · rw [if_pos c27] at H
                    have c27b0 : (a0_0 == 15) = true := beq_iff_eq.mpr c27
                    have c27b1 : (a0_0 != 15) = false := bne_eq_false_iff_eq.mpr c27
                    clear c27
                    obtain rfl := Option.some.inj H
                    have hcz28_0 : wc.cell? ⟨gb111, 0, none⟩ = some (.int .i64 a0_0) := (blk_cell BK111.out 0).trans rfl
                    have hcz28_1 : wc.cell? ⟨gb111, 1, none⟩ = some (.int .i64 a0_1) := (blk_cell BK111.out 1).trans rfl
                    have hcz28_2 : wc.cell? ⟨gb111, 2, none⟩ = some (.int .i64 a0_2) := (blk_cell BK111.out 2).trans rfl
                    have hcz28_3 : wc.cell? ⟨gb111, 3, none⟩ = some (.int .i64 a0_3) := (blk_cell BK111.out 3).trans rfl
                    have hcz28_4 : wc.cell? ⟨gb111, 4, none⟩ = some (.int .i64 a0_4) := (blk_cell BK111.out 4).trans rfl
                    have hcz28_5 : wc.cell? ⟨gb111, 5, none⟩ = some (.int .i64 a0_5) := (blk_cell BK111.out 5).trans rfl
                    have hcz28_6 : wc.cell? ⟨gb111, 6, none⟩ = some (.int .i64 a0_6) := (blk_cell BK111.out 6).trans rfl
                    have hcz28_7 : wc.cell? ⟨gb111, 7, none⟩ = some (.int .i64 a0_7) := (blk_cell BK111.out 7).trans rfl
                    have hfz28_0 := blk_frozen BK111.out 0
                    have hfz28_1 := blk_frozen BK111.out 1
                    have hfz28_2 := blk_frozen BK111.out 2
                    have hfz28_3 := blk_frozen BK111.out 3
                    have hfz28_4 := blk_frozen BK111.out 4
                    have hfz28_5 := blk_frozen BK111.out 5
                    have hfz28_6 := blk_frozen BK111.out 6
                    have hfz28_7 := blk_frozen BK111.out 7
                    go_wp2
                    go_ret
                    exact ⟨by first | rfl | (simp [errW_none, errW_some] <;> rfl) | (simp [*, errW_none, errW_some] <;> rfl), by repeat (first | (with_reducible first | exact HB.out | apply below_alloc | apply pw_below_drewN | apply below_drew1 | refine below_set ?_ GE111.out) | exact HB.out)⟩
                  · rw [if_neg c27] at H
                    have c27b0 : (a0_0 == 15) = false := beq_eq_false_iff_ne.mpr c27
                    have c27b1 : (a0_0 != 15) = true := bne_iff_ne.mpr c27
                    obtain rfl := Option.some.inj H
                    go_wp2
                    go_ret
                    exact ⟨by first | rfl | (simp [errW_none, errW_some] <;> rfl) | (simp [*, errW_none, errW_some] <;> rfl), by repeat (first | (with_reducible first | exact HB.out | apply below_alloc | apply pw_below_drewN | apply below_drew1 | refine below_set ?_ GE111.out) | exact HB.out)⟩

end Go.Proofs.Ytgljbgmphelhbaa.Q
