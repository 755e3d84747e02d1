/- Written for this claim by a program: functions, their contracts and rows. -/
import Derived.Test.YtaoefdbhfhcplaaQ0
import Derived.Test.YtaoefdbhfhcplaaQ8
import Derived.Test.YtaoefdbhfhcplaaQ9
import Derived.Test.YtaoefdbhfhcplaaFold
import Derived.Test.YtaoefdbhfhcplaaLeastFn
namespace Go.Proofs.Ytaoefdbhfhcplaa.Q
open Go.RowKit Go.Proofs.YtaoefdbhfhcplaaW.PrintWords Go.Proofs.YtaoefdbhfhcplaaW.PrintLast Go.Proofs.YtaoefdbhfhcplaaW.PrintMore
attribute [local go_sem] max2_int min2_int max_two min_two max_three min_three max_four min_four   -- for this text's walks alone
set_option linter.unusedVariables false
set_option linter.unusedSimpArgs false

set_option maxHeartbeats 8000000 in
set_option maxRecDepth 100000 in
theorem selvagelaw12_FoldLeast.calls (k : Nat) (A0 : Option Addr) (c0 : Nat) (l0 : List (S39)) (A1 : Option Addr) (c1 : Nat) (l1 : List (S80)) (r : Bool) (w : World) (hr0 : Kd.C k39 w A0 l0.length l0) (hc0 : l0.length ≤ c0) (hr1 : Kd.C k80 w A1 l1.length l1) (hc1 : l1.length ≤ c1) (h : selvagelaw12_FoldLeast.f k l0 l1 = some r) :
    Calls Try.prog 5 #[.slice A0 l0.length c0, .slice A1 l1.length c1] w fun e w' => e = .returned (.bool r) ∧ Below w.heap.size w w' := by
  have hu39 := Try.underlying39
  have HR0 := Aside0.mk hr0
  have HC0 := Aside0.mk hc0
  clear hr0 hc0
  have HR1 := Aside0.mk hr1
  have HC1 := Aside0.mk hc1
  clear hr1 hc1
  have HB := Aside0.mk (Below.refl w.heap.size w)
  have H : ((selvagelaw12_awake.f k).bind fun t226 => (if t226 = true then (if (l0.length : Int) > 410 then (selvagelaw12_FoldLeast.j0 k l0 l1 true) else (selvagelaw12_FoldLeast.j0 k l0 l1 (decide ((l1.length : Int) > 16)))) else (some false))) = some r := h
  clear h
  replace H := Option.bind_eq_some_iff.mp H
  obtain ⟨t226, A30, H⟩ := H
  replace H : (if t226 = true then (if (l0.length : Int) > 410 then (selvagelaw12_FoldLeast.j0 k l0 l1 true) else (selvagelaw12_FoldLeast.j0 k l0 l1 (decide ((l1.length : Int) > 16)))) else (some false)) = some r := H
  have A3 := Aside0.mk A30
  clear A30
  by_cases c4 : t226 = true
  · subst c4
    have H1 : (if (l0.length : Int) > 410 then (selvagelaw12_FoldLeast.j0 k l0 l1 true) else (selvagelaw12_FoldLeast.j0 k l0 l1 (decide ((l1.length : Int) > 16)))) = some r := by rw [if_pos rfl] at H; exact H
    clear H
    have H := H1
    clear H1
    have HC5 := Aside0.mk H
    clear H
    go_enter Try.func5, Try.ntmps5
    go_upto_region 3 with (first | ((with_reducible refine gate_callee (f := 7) rfl ?_); refine goesL_ (some 13) rfl rfl Try.func7 (by kernel_rfl) rfl #[] rfl (by (try simp only [List.map_toArray, List.map_cons, List.map_nil]); first | done | rfl | (simp only [List.length_drop, List.length_take]; rfl)) ?_; (with_reducible refine (selvagelaw12_awake.calls k  true _ A3.out).mono ?_); rintro e w6 ⟨rfl, hb⟩; refine ⟨_, rfl, ?_⟩; have n0_ := Aside0.mk (below_step (by repeat (first | (with_reducible first | exact HB.out | apply below_alloc | apply pw_below_drewN | apply below_drew1) | exact HB.out)) hb); clear HB; have HB := n0_; clear n0_; (try clear hb); (try clear hb2); (try clear hk); (try clear hi)))
    (try simp only [Act.put, List.setIfInBounds_toArray, List.set_cons_zero, List.set_cons_succ])
    go_cut [22] (fun v22 wc => ∃ (kq : Nat) (x22_4 : Bool), v22 = .bool x22_4 ∧ Aside0 (selvagelaw12_FoldLeast.j0 kq l0 l1 x22_4 = some r) ∧ Aside0 (kq ≤ k) ∧ Aside0 (Below w.heap.size w wc))
    case first =>
      have H := HC5.out
      clear HC5
      by_cases c7 : (l0.length : Int) > 410
      · rw [if_pos c7] at H
        have c7b0 : decide (410 < (l0.length : Int)) = true := decide_eq_true c7
        have c7b1 : decide (410 < l0.length) = true := decide_eq_true (by omega)
        clear c7
        (first | rw [c7b0] | (simp only [i64_w, i32_w]; rw [c7b0]) | skip)
        have H' := Aside0.mk H
        clear H
        go_wp2
        go_meet
        case rel => exact ⟨_, (true), (by first | rfl | (simp; done) | (simp [*]; done)), H', ⟨by first | omega | exact Nat.le_refl _⟩, ⟨by repeat (first | (with_reducible first | exact HB.out | apply below_alloc | apply pw_below_drewN | apply below_drew1) | exact HB.out)⟩⟩
      · rw [if_neg c7] at H
        have c7b0 : decide (410 < (l0.length : Int)) = false := decide_eq_false c7
        have c7b1 : decide (410 < l0.length) = false := decide_eq_false (by omega)
        clear c7
        (first | rw [c7b0] | (simp only [i64_w, i32_w]; rw [c7b0]) | skip)
        have H' := Aside0.mk H
        clear H
        go_wp2
        go_meet
        case rel => exact ⟨_, (decide ((l1.length : Int) > 16)), (by first | rfl | (simp; done) | (simp [*]; done)), H', ⟨by first | omega | exact Nat.le_refl _⟩, ⟨by repeat (first | (with_reducible first | exact HB.out | apply below_alloc | apply pw_below_drewN | apply below_drew1) | exact HB.out)⟩⟩
    case rest =>
      clear HC5
      try clear c1
      try clear p2
      try clear c4
      try clear c5
      try clear c7
      try clear c7b0
      try clear c7b1
      obtain ⟨kq, x22_4, rfl, HA, HJ4, HB⟩ := hcut
      cases kq with
      | zero => exact absurd HA.out (by simp [selvagelaw12_FoldLeast.j0])
      | succ kj4 =>
        have H := HA.out
        clear HA
        simp only [selvagelaw12_FoldLeast.j0] at H
        by_cases c8 : x22_4 = true
        · subst c8
          have H1 : (some true) = some r := by rw [if_pos rfl] at H; exact H
          clear H
          have H := H1
          clear H1
          obtain rfl := Option.some.inj H
          go_wp2
          go_ret
          exact ⟨by first | rfl | (simp [errW_none, errW_some] <;> rfl) | (simp [*, errW_none, errW_some] <;> rfl), by repeat (first | (with_reducible first | exact HB.out | apply below_alloc | apply pw_below_drewN | apply below_drew1) | exact HB.out)⟩
        · replace c8 := Bool.eq_false_iff.mpr c8
          subst c8
          have H1 : ((fold_Fold.f l0 l1).bind fun bt227 => (if bt227.2 = 0 then (selvagelaw12_FoldLeast.l0 kj4 bt227.1 0) else (some true))) = some r := by rw [if_neg (show ¬ (false = true) by decide)] at H; exact H
          clear H
          have H := H1
          clear H1
          replace H := Option.bind_eq_some_iff.mp H
          obtain ⟨⟨t227, t228⟩, A90, H⟩ := H
          replace H : (if t228 = 0 then (selvagelaw12_FoldLeast.l0 kj4 t227 0) else (some true)) = some r := H
          have A9 := Aside0.mk A90
          clear A90
          by_cases c10 : t228 = 0
          · rw [if_pos c10] at H
            have c10b0 : (t228 == 0) = true := beq_iff_eq.mpr c10
            have c10b1 : (t228 != 0) = false := bne_eq_false_iff_eq.mpr c10
            clear c10
            have H' := Aside0.mk H
            clear H
            go_wp2_with (first | ((with_reducible refine gate_callee (f := 9) rfl ?_); refine goesL_ (some 26) rfl rfl Try.func9 (by kernel_rfl) rfl #[.slice A0 l0.length c0, .slice A1 l1.length c1] rfl (by (try simp only [List.map_toArray, List.map_cons, List.map_nil]); first | done | rfl | (simp only [List.length_drop, List.length_take]; rfl)) ?_; (with_reducible refine (fold_Fold.calls _ _ l0 _ _ l1 t227 t228 _ ?side1 ?side2 ?side3 ?side4 A9.out).mono ?_); (case side1 => repeat (first | exact (Kd.C_below HR0.out HB.out) | (with_reducible refine Kd.C_alloc ?_ _) | (with_reducible refine Kd.C_drewN ?_ _) | (with_reducible refine Kd.C_drew ?_))); (case side2 => exact HC0.out); (case side3 => repeat (first | exact (Kd.C_below HR1.out HB.out) | (with_reducible refine Kd.C_alloc ?_ _) | (with_reducible refine Kd.C_drewN ?_ _) | (with_reducible refine Kd.C_drew ?_))); (case side4 => exact HC1.out); rintro e w11 ⟨v229, rfl, ho0, hb⟩; refine ⟨_, rfl, ?_⟩; have n0_ := Aside0.mk (Kd.R_lower ho0 (below_size (by repeat (first | (with_reducible first | exact HB.out | apply below_alloc | apply pw_below_drewN | apply below_drew1) | exact HB.out)))); have n1_ := Aside0.mk (below_step (by repeat (first | (with_reducible first | exact HB.out | apply below_alloc | apply pw_below_drewN | apply below_drew1) | exact HB.out)) hb); clear HB; have HO230 := n0_; have HB := n1_; clear n0_ n1_; (try clear hb); (try clear hb2); (try clear hk); (try clear hi); (try clear ho0)))
            go_loopg [7] kj4 (fun kq v7 w' => ∃ (x7_2 : Int), v7 = .int .i64 x7_2 ∧ Aside0 (selvagelaw12_FoldLeast.l0 kq t227 x7_2 = some r) ∧ Aside0 (kq ≤ kj4) ∧ Aside0 (Kd.R k39 39 w' w.heap.size (fun _ => True) v229 t227) ∧ Aside0 (Below w.heap.size w w'))
            case atStart => exact ⟨(0), (by first | rfl | (simp; done) | (simp [*]; done)), H', ⟨Nat.le_refl _⟩, ⟨by (with_reducible repeat (first | apply Kd.R_alloc | apply Kd.R_drewN | apply Kd.R_drew)); exact HO230.out⟩, ⟨by repeat (first | (with_reducible first | exact HB.out | apply below_alloc | apply pw_below_drewN | apply below_drew1) | exact HB.out)⟩⟩
            case round =>
              clear H'
              try clear c1
              try clear p2
              try clear c4
              try clear c5
              try clear c7
              try clear c7b0
              try clear c7b1
              try clear c8
              try clear c9
              try clear c10
              try clear c10b0
              try clear c10b1
              try clear p2
              obtain ⟨x7_2, rfl, HA, HK2, HO_5, HB⟩ := hrel
              cases gk with
              | zero => exact absurd HA.out (by simp [selvagelaw12_FoldLeast.l0])
              | succ k2 =>
                have H := HA.out
                clear HA
                simp only [selvagelaw12_FoldLeast.l0] at H
                by_cases c12 : x7_2 < (t227.length : Int)
                · rw [if_pos c12] at H
                  have c12b0 : decide (x7_2 < (t227.length : Int)) = true := decide_eq_true c12
                  clear c12
                  by_cases c13 : 0 ≤ x7_2
                  · rw [if_pos c13] at H
                    have c13b0 : decide (0 ≤ x7_2) = true := decide_eq_true c13
                    clear c13
                    replace H := Option.bind_eq_some_iff.mp H
                    obtain ⟨⟨t233, t234⟩, A140, H⟩ := H
                    replace H : ((selvagelaw12_known.f k2 t227 ((rd_T39 t227 x7_2).f3)).bind fun bt235 => (if ((rd_T39 t227 x7_2).f0) = 2 then (selvagelaw12_FoldLeast.j2 k2 t227 x7_2 t234 bt235.1 bt235.2 ((rd_T39 t227 x7_2).f0) (((rd_T39 t227 x7_2).f0) == 2) ((rd_T39 t227 x7_2).f0) ((rd_T39 t227 x7_2).f1) ((rd_T39 t227 x7_2).f2) ((rd_T39 t227 x7_2).f3) ((rd_T39 t227 x7_2).f4) ((rd_T39 t227 x7_2).f5) ((rd_T39 t227 x7_2).f6) ((rd_T39 t227 x7_2).f7)) else (if ((rd_T39 t227 x7_2).f0) = 3 then (selvagelaw12_FoldLeast.j2 k2 t227 x7_2 t234 bt235.1 bt235.2 ((rd_T39 t227 x7_2).f0) (((rd_T39 t227 x7_2).f0) == 3) ((rd_T39 t227 x7_2).f0) ((rd_T39 t227 x7_2).f1) ((rd_T39 t227 x7_2).f2) ((rd_T39 t227 x7_2).f3) ((rd_T39 t227 x7_2).f4) ((rd_T39 t227 x7_2).f5) ((rd_T39 t227 x7_2).f6) ((rd_T39 t227 x7_2).f7)) else (selvagelaw12_FoldLeast.j2 k2 t227 x7_2 t234 bt235.1 bt235.2 ((rd_T39 t227 x7_2).f0) (((rd_T39 t227 x7_2).f0) == 4) ((rd_T39 t227 x7_2).f0) ((rd_T39 t227 x7_2).f1) ((rd_T39 t227 x7_2).f2) ((rd_T39 t227 x7_2).f3) ((rd_T39 t227 x7_2).f4) ((rd_T39 t227 x7_2).f5) ((rd_T39 t227 x7_2).f6) ((rd_T39 t227 x7_2).f7))))) = some r := H
                    have A14 := Aside0.mk A140
                    clear A140
                    replace H := Option.bind_eq_some_iff.mp H
                    obtain ⟨⟨t235, t236⟩, A150, H⟩ := H
                    replace H : (if ((rd_T39 t227 x7_2).f0) = 2 then (selvagelaw12_FoldLeast.j2 k2 t227 x7_2 t234 t235 t236 ((rd_T39 t227 x7_2).f0) (((rd_T39 t227 x7_2).f0) == 2) ((rd_T39 t227 x7_2).f0) ((rd_T39 t227 x7_2).f1) ((rd_T39 t227 x7_2).f2) ((rd_T39 t227 x7_2).f3) ((rd_T39 t227 x7_2).f4) ((rd_T39 t227 x7_2).f5) ((rd_T39 t227 x7_2).f6) ((rd_T39 t227 x7_2).f7)) else (if ((rd_T39 t227 x7_2).f0) = 3 then (selvagelaw12_FoldLeast.j2 k2 t227 x7_2 t234 t235 t236 ((rd_T39 t227 x7_2).f0) (((rd_T39 t227 x7_2).f0) == 3) ((rd_T39 t227 x7_2).f0) ((rd_T39 t227 x7_2).f1) ((rd_T39 t227 x7_2).f2) ((rd_T39 t227 x7_2).f3) ((rd_T39 t227 x7_2).f4) ((rd_T39 t227 x7_2).f5) ((rd_T39 t227 x7_2).f6) ((rd_T39 t227 x7_2).f7)) else (selvagelaw12_FoldLeast.j2 k2 t227 x7_2 t234 t235 t236 ((rd_T39 t227 x7_2).f0) (((rd_T39 t227 x7_2).f0) == 4) ((rd_T39 t227 x7_2).f0) ((rd_T39 t227 x7_2).f1) ((rd_T39 t227 x7_2).f2) ((rd_T39 t227 x7_2).f3) ((rd_T39 t227 x7_2).f4) ((rd_T39 t227 x7_2).f5) ((rd_T39 t227 x7_2).f6) ((rd_T39 t227 x7_2).f7)))) = some r := H
                    have A15 := Aside0.mk A150
                    clear A150
                    have HC16 := Aside0.mk H
                    clear H
                    obtain ⟨Ao17, co17, eo17⟩ := Kd.R_slice HO_5.out
                    subst eo17
                    have p231 : 0 ≤ (x7_2 : Int) := of_decide_eq_true (by first | (with_reducible assumption) | assumption)
                    have q231 : x7_2 < (t227.length : Int) := of_decide_eq_true (by first | (with_reducible assumption) | assumption)
                    obtain ⟨ad231, e231, hx231_0, hx231_1, hx231_2, hx231_3, hx231_4, hx231_5, hx231_6, hx231_7⟩ := at_T39 (Kd.R_reads' HO_5.out).2.2 x7_2 p231 q231
                    cases e231
                    replace p231 := eq_true p231
                    replace q231 := eq_true q231
                    go_upto_if 57 with (first | ((with_reducible refine gate_dst (N := 8) rfl ?_); (try (refine gate_guard (by rfl) ?_; dsimp only)); refine box_event ?hg (N := 8) ?hd (cs := #[.int .i64 0, .int .i64 0, .int .i64 0, .int .i64 0, .int .i64 0, .int .i64 0, .int .i64 0, .int .i64 0]) (t := 39) ?hr ?_; (case hd => rfl); (case hg => rfl); (case hr => first | (go_simp; done) | (go_simp; rfl)); intro gb232 hg w18 hbox hb; have n0_ := Aside0.mk (Kd.R_below (Kd.R_elderB (by (with_reducible repeat (first | apply Kd.R_alloc | apply Kd.R_drewN | apply Kd.R_drew)); exact HO_5.out) gb232 (Nat.le_of_eq hg.symm)) hb); have n1_ := Aside0.mk (below_step (by repeat (first | (with_reducible first | exact HB.out | apply below_alloc | apply pw_below_drewN | apply below_drew1) | exact HB.out)) hb); have n2_ := Aside0.mk (hbox); have n3_ := Aside0.mk ((by rw [hg]; exact (below_size (by repeat (first | (with_reducible first | exact HB.out | apply below_alloc | apply pw_below_drewN | apply below_drew1) | exact HB.out))) : w.heap.size ≤ gb232)); have n4_ := Aside0.mk ((by rw [hg]; exact (below_size (by repeat (first | (with_reducible first | exact HB.out | apply below_alloc | apply pw_below_drewN | apply below_drew1) | exact HB.out))) : w.heap.size ≤ gb232)); clear HO_5; clear HB; have HO_5 := n0_; have HB := n1_; have BK232 := n2_; have GW232 := n3_; have GE232 := n4_; clear n0_ n1_ n2_ n3_ n4_; clear hb hbox hg; have hcz19_0 : w18.cell? ⟨gb232, 0, none⟩ = some (.int .i64 0) := (blk_cell BK232.out 0).trans rfl; have hcz19_1 : w18.cell? ⟨gb232, 1, none⟩ = some (.int .i64 0) := (blk_cell BK232.out 1).trans rfl; have hcz19_2 : w18.cell? ⟨gb232, 2, none⟩ = some (.int .i64 0) := (blk_cell BK232.out 2).trans rfl; have hcz19_3 : w18.cell? ⟨gb232, 3, none⟩ = some (.int .i64 0) := (blk_cell BK232.out 3).trans rfl; have hcz19_4 : w18.cell? ⟨gb232, 4, none⟩ = some (.int .i64 0) := (blk_cell BK232.out 4).trans rfl; have hcz19_5 : w18.cell? ⟨gb232, 5, none⟩ = some (.int .i64 0) := (blk_cell BK232.out 5).trans rfl; have hcz19_6 : w18.cell? ⟨gb232, 6, none⟩ = some (.int .i64 0) := (blk_cell BK232.out 6).trans rfl; have hcz19_7 : w18.cell? ⟨gb232, 7, none⟩ = some (.int .i64 0) := (blk_cell BK232.out 7).trans rfl; have hfz19_0 := blk_frozen BK232.out 0; have hfz19_1 := blk_frozen BK232.out 1; have hfz19_2 := blk_frozen BK232.out 2; have hfz19_3 := blk_frozen BK232.out 3; have hfz19_4 := blk_frozen BK232.out 4; have hfz19_5 := blk_frozen BK232.out 5; have hfz19_6 := blk_frozen BK232.out 6; have hfz19_7 := blk_frozen BK232.out 7) | ((with_reducible refine gate_callee (f := 14) rfl ?_); refine goesL_ (some 45) rfl rfl Try.func14 (by kernel_rfl) rfl #[.slice (some ad231) t227.length co17, .int .i64 ((rd_T39 t227 x7_2).f2)] rfl (by (try simp only [List.map_toArray, List.map_cons, List.map_nil]); first | done | rfl | (simp only [List.length_drop, List.length_take]; rfl)) ?_; (with_reducible refine (selvagelaw12_known.calls k2 _ _ t227 ((rd_T39 t227 x7_2).f2) t233 t234 _ ?side1 ?side2 A14.out).mono ?_); (case side1 => refine (Kd.R_reads' (e := 39) (base := w.heap.size) (ok := fun k_ => (True ∧ k_ ≠ gb232)) (n := t227.length) (c := co17) ?_).2.2; exact (by (with_reducible repeat (first | apply Kd.R_alloc | apply Kd.R_drewN | apply Kd.R_drew)); exact (Kd.R_mono (Kd.R_far (p := ⟨gb232, 7, none⟩) (Kd.R_far (p := ⟨gb232, 6, none⟩) (Kd.R_far (p := ⟨gb232, 5, none⟩) (Kd.R_far (p := ⟨gb232, 4, none⟩) (Kd.R_far (p := ⟨gb232, 3, none⟩) (Kd.R_far (p := ⟨gb232, 2, none⟩) (Kd.R_far (p := ⟨gb232, 1, none⟩) (Kd.R_far (p := ⟨gb232, 0, none⟩) (Kd.R_mono HO_5.out (fun k_ hk => (⟨hk, hk.2⟩ : _ ∧ k_ ≠ gb232))) (fun _ hk => hk.2) (.int .i64 ((rd_T39 t227 x7_2).f0))) (fun _ hk => hk.2) (.int .i64 ((rd_T39 t227 x7_2).f1))) (fun _ hk => hk.2) (.int .i64 ((rd_T39 t227 x7_2).f2))) (fun _ hk => hk.2) (.int .i64 ((rd_T39 t227 x7_2).f3))) (fun _ hk => hk.2) (.int .i64 ((rd_T39 t227 x7_2).f4))) (fun _ hk => hk.2) (.int .i64 ((rd_T39 t227 x7_2).f5))) (fun _ hk => hk.2) (.int .i64 ((rd_T39 t227 x7_2).f6))) (fun _ hk => hk.2) (.int .i64 ((rd_T39 t227 x7_2).f7))) (fun _ h_ => h_.1)))); (case side2 => exact (Kd.R_reads' HO_5.out).2.1); rintro e w20 ⟨rfl, hb⟩; refine ⟨_, rfl, ?_⟩; have n0_ := Aside0.mk (Kd.R_below (by (with_reducible repeat (first | apply Kd.R_alloc | apply Kd.R_drewN | apply Kd.R_drew)); exact (Kd.R_mono (Kd.R_far (p := ⟨gb232, 7, none⟩) (Kd.R_far (p := ⟨gb232, 6, none⟩) (Kd.R_far (p := ⟨gb232, 5, none⟩) (Kd.R_far (p := ⟨gb232, 4, none⟩) (Kd.R_far (p := ⟨gb232, 3, none⟩) (Kd.R_far (p := ⟨gb232, 2, none⟩) (Kd.R_far (p := ⟨gb232, 1, none⟩) (Kd.R_far (p := ⟨gb232, 0, none⟩) (Kd.R_mono HO_5.out (fun k_ hk => (⟨hk, hk.2⟩ : _ ∧ k_ ≠ gb232))) (fun _ hk => hk.2) (.int .i64 ((rd_T39 t227 x7_2).f0))) (fun _ hk => hk.2) (.int .i64 ((rd_T39 t227 x7_2).f1))) (fun _ hk => hk.2) (.int .i64 ((rd_T39 t227 x7_2).f2))) (fun _ hk => hk.2) (.int .i64 ((rd_T39 t227 x7_2).f3))) (fun _ hk => hk.2) (.int .i64 ((rd_T39 t227 x7_2).f4))) (fun _ hk => hk.2) (.int .i64 ((rd_T39 t227 x7_2).f5))) (fun _ hk => hk.2) (.int .i64 ((rd_T39 t227 x7_2).f6))) (fun _ hk => hk.2) (.int .i64 ((rd_T39 t227 x7_2).f7))) (fun _ h_ => h_.1))) hb); have n1_ := Aside0.mk (blk_below (g := gb232) (o := .cells #[.int .i64 ((rd_T39 t227 x7_2).f0), .int .i64 ((rd_T39 t227 x7_2).f1), .int .i64 ((rd_T39 t227 x7_2).f2), .int .i64 ((rd_T39 t227 x7_2).f3), .int .i64 ((rd_T39 t227 x7_2).f4), .int .i64 ((rd_T39 t227 x7_2).f5), .int .i64 ((rd_T39 t227 x7_2).f6), .int .i64 ((rd_T39 t227 x7_2).f7)] 39 (0, 0)) (by (with_reducible repeat (first | refine blk_drewN ?_ _ | refine blk_drew ?_ | refine blk_alloc ?_ _)); refine blk_put (cs := #[.int .i64 ((rd_T39 t227 x7_2).f0), .int .i64 ((rd_T39 t227 x7_2).f1), .int .i64 ((rd_T39 t227 x7_2).f2), .int .i64 ((rd_T39 t227 x7_2).f3), .int .i64 ((rd_T39 t227 x7_2).f4), .int .i64 ((rd_T39 t227 x7_2).f5), .int .i64 ((rd_T39 t227 x7_2).f6), .int .i64 0]) ?_ 7 _ rfl; (with_reducible repeat (first | refine blk_drewN ?_ _ | refine blk_drew ?_ | refine blk_alloc ?_ _)); refine blk_put (cs := #[.int .i64 ((rd_T39 t227 x7_2).f0), .int .i64 ((rd_T39 t227 x7_2).f1), .int .i64 ((rd_T39 t227 x7_2).f2), .int .i64 ((rd_T39 t227 x7_2).f3), .int .i64 ((rd_T39 t227 x7_2).f4), .int .i64 ((rd_T39 t227 x7_2).f5), .int .i64 0, .int .i64 0]) ?_ 6 _ rfl; (with_reducible repeat (first | refine blk_drewN ?_ _ | refine blk_drew ?_ | refine blk_alloc ?_ _)); refine blk_put (cs := #[.int .i64 ((rd_T39 t227 x7_2).f0), .int .i64 ((rd_T39 t227 x7_2).f1), .int .i64 ((rd_T39 t227 x7_2).f2), .int .i64 ((rd_T39 t227 x7_2).f3), .int .i64 ((rd_T39 t227 x7_2).f4), .int .i64 0, .int .i64 0, .int .i64 0]) ?_ 5 _ rfl; (with_reducible repeat (first | refine blk_drewN ?_ _ | refine blk_drew ?_ | refine blk_alloc ?_ _)); refine blk_put (cs := #[.int .i64 ((rd_T39 t227 x7_2).f0), .int .i64 ((rd_T39 t227 x7_2).f1), .int .i64 ((rd_T39 t227 x7_2).f2), .int .i64 ((rd_T39 t227 x7_2).f3), .int .i64 0, .int .i64 0, .int .i64 0, .int .i64 0]) ?_ 4 _ rfl; (with_reducible repeat (first | refine blk_drewN ?_ _ | refine blk_drew ?_ | refine blk_alloc ?_ _)); refine blk_put (cs := #[.int .i64 ((rd_T39 t227 x7_2).f0), .int .i64 ((rd_T39 t227 x7_2).f1), .int .i64 ((rd_T39 t227 x7_2).f2), .int .i64 0, .int .i64 0, .int .i64 0, .int .i64 0, .int .i64 0]) ?_ 3 _ rfl; (with_reducible repeat (first | refine blk_drewN ?_ _ | refine blk_drew ?_ | refine blk_alloc ?_ _)); refine blk_put (cs := #[.int .i64 ((rd_T39 t227 x7_2).f0), .int .i64 ((rd_T39 t227 x7_2).f1), .int .i64 0, .int .i64 0, .int .i64 0, .int .i64 0, .int .i64 0, .int .i64 0]) ?_ 2 _ rfl; (with_reducible repeat (first | refine blk_drewN ?_ _ | refine blk_drew ?_ | refine blk_alloc ?_ _)); refine blk_put (cs := #[.int .i64 ((rd_T39 t227 x7_2).f0), .int .i64 0, .int .i64 0, .int .i64 0, .int .i64 0, .int .i64 0, .int .i64 0, .int .i64 0]) ?_ 1 _ rfl; (with_reducible repeat (first | refine blk_drewN ?_ _ | refine blk_drew ?_ | refine blk_alloc ?_ _)); refine blk_put (cs := #[.int .i64 0, .int .i64 0, .int .i64 0, .int .i64 0, .int .i64 0, .int .i64 0, .int .i64 0, .int .i64 0]) ?_ 0 _ rfl; (with_reducible repeat (first | refine blk_drewN ?_ _ | refine blk_drew ?_ | refine blk_alloc ?_ _)); exact BK232.out) hb); have n2_ := Aside0.mk (below_step (by repeat (first | (with_reducible first | exact HB.out | apply below_alloc | apply pw_below_drewN | apply below_drew1 | refine below_set ?_ GE232.out) | exact HB.out)) hb); clear HO_5; clear BK232; clear HB; have HO_5 := n0_; have BK232 := n1_; have HB := n2_; clear n0_ n1_ n2_; (try clear hb); (try clear hb2); (try clear hk); (try clear hi); have hcz21_0 : w20.cell? ⟨gb232, 0, none⟩ = some (.int .i64 ((rd_T39 t227 x7_2).f0)) := (blk_cell BK232.out 0).trans rfl; have hcz21_1 : w20.cell? ⟨gb232, 1, none⟩ = some (.int .i64 ((rd_T39 t227 x7_2).f1)) := (blk_cell BK232.out 1).trans rfl; have hcz21_2 : w20.cell? ⟨gb232, 2, none⟩ = some (.int .i64 ((rd_T39 t227 x7_2).f2)) := (blk_cell BK232.out 2).trans rfl; have hcz21_3 : w20.cell? ⟨gb232, 3, none⟩ = some (.int .i64 ((rd_T39 t227 x7_2).f3)) := (blk_cell BK232.out 3).trans rfl; have hcz21_4 : w20.cell? ⟨gb232, 4, none⟩ = some (.int .i64 ((rd_T39 t227 x7_2).f4)) := (blk_cell BK232.out 4).trans rfl; have hcz21_5 : w20.cell? ⟨gb232, 5, none⟩ = some (.int .i64 ((rd_T39 t227 x7_2).f5)) := (blk_cell BK232.out 5).trans rfl; have hcz21_6 : w20.cell? ⟨gb232, 6, none⟩ = some (.int .i64 ((rd_T39 t227 x7_2).f6)) := (blk_cell BK232.out 6).trans rfl; have hcz21_7 : w20.cell? ⟨gb232, 7, none⟩ = some (.int .i64 ((rd_T39 t227 x7_2).f7)) := (blk_cell BK232.out 7).trans rfl; have hfz21_0 := blk_frozen BK232.out 0; have hfz21_1 := blk_frozen BK232.out 1; have hfz21_2 := blk_frozen BK232.out 2; have hfz21_3 := blk_frozen BK232.out 3; have hfz21_4 := blk_frozen BK232.out 4; have hfz21_5 := blk_frozen BK232.out 5; have hfz21_6 := blk_frozen BK232.out 6; have hfz21_7 := blk_frozen BK232.out 7) | ((with_reducible refine gate_callee (f := 14) rfl ?_); refine goesL_ (some 52) rfl rfl Try.func14 (by kernel_rfl) rfl #[.slice (some ad231) t227.length co17, .int .i64 ((rd_T39 t227 x7_2).f3)] rfl (by (try simp only [List.map_toArray, List.map_cons, List.map_nil]); first | done | rfl | (simp only [List.length_drop, List.length_take]; rfl)) ?_; (with_reducible refine (selvagelaw12_known.calls k2 _ _ t227 ((rd_T39 t227 x7_2).f3) t235 t236 _ ?side1 ?side2 A15.out).mono ?_); (case side1 => repeat (first | exact (Kd.R_reads' HO_5.out).2.2 | (with_reducible refine Kd.C_alloc ?_ _) | (with_reducible refine Kd.C_drewN ?_ _) | (with_reducible refine Kd.C_drew ?_))); (case side2 => exact (Kd.R_reads' HO_5.out).2.1); rintro e w22 ⟨rfl, hb⟩; refine ⟨_, rfl, ?_⟩; have n0_ := Aside0.mk (Kd.R_below (by (with_reducible repeat (first | apply Kd.R_alloc | apply Kd.R_drewN | apply Kd.R_drew)); exact HO_5.out) hb); have n1_ := Aside0.mk (blk_below (g := gb232) (o := .cells #[.int .i64 ((rd_T39 t227 x7_2).f0), .int .i64 ((rd_T39 t227 x7_2).f1), .int .i64 ((rd_T39 t227 x7_2).f2), .int .i64 ((rd_T39 t227 x7_2).f3), .int .i64 ((rd_T39 t227 x7_2).f4), .int .i64 ((rd_T39 t227 x7_2).f5), .int .i64 ((rd_T39 t227 x7_2).f6), .int .i64 ((rd_T39 t227 x7_2).f7)] 39 (0, 0)) (by (with_reducible repeat (first | refine blk_drewN ?_ _ | refine blk_drew ?_ | refine blk_alloc ?_ _)); exact BK232.out) hb); have n2_ := Aside0.mk (below_step (by repeat (first | (with_reducible first | exact HB.out | apply below_alloc | apply pw_below_drewN | apply below_drew1 | refine below_set ?_ GE232.out) | exact HB.out)) hb); clear HO_5; clear BK232; clear HB; have HO_5 := n0_; have BK232 := n1_; have HB := n2_; clear n0_ n1_ n2_; (try clear hb); (try clear hb2); (try clear hk); (try clear hi); have hcz23_0 : w22.cell? ⟨gb232, 0, none⟩ = some (.int .i64 ((rd_T39 t227 x7_2).f0)) := (blk_cell BK232.out 0).trans rfl; have hcz23_1 : w22.cell? ⟨gb232, 1, none⟩ = some (.int .i64 ((rd_T39 t227 x7_2).f1)) := (blk_cell BK232.out 1).trans rfl; have hcz23_2 : w22.cell? ⟨gb232, 2, none⟩ = some (.int .i64 ((rd_T39 t227 x7_2).f2)) := (blk_cell BK232.out 2).trans rfl; have hcz23_3 : w22.cell? ⟨gb232, 3, none⟩ = some (.int .i64 ((rd_T39 t227 x7_2).f3)) := (blk_cell BK232.out 3).trans rfl; have hcz23_4 : w22.cell? ⟨gb232, 4, none⟩ = some (.int .i64 ((rd_T39 t227 x7_2).f4)) := (blk_cell BK232.out 4).trans rfl; have hcz23_5 : w22.cell? ⟨gb232, 5, none⟩ = some (.int .i64 ((rd_T39 t227 x7_2).f5)) := (blk_cell BK232.out 5).trans rfl; have hcz23_6 : w22.cell? ⟨gb232, 6, none⟩ = some (.int .i64 ((rd_T39 t227 x7_2).f6)) := (blk_cell BK232.out 6).trans rfl; have hcz23_7 : w22.cell? ⟨gb232, 7, none⟩ = some (.int .i64 ((rd_T39 t227 x7_2).f7)) := (blk_cell BK232.out 7).trans rfl; have hfz23_0 := blk_frozen BK232.out 0; have hfz23_1 := blk_frozen BK232.out 1; have hfz23_2 := blk_frozen BK232.out 2; have hfz23_3 := blk_frozen BK232.out 3; have hfz23_4 := blk_frozen BK232.out 4; have hfz23_5 := blk_frozen BK232.out 5; have hfz23_6 := blk_frozen BK232.out 6; have hfz23_7 := blk_frozen BK232.out 7))
                    (try simp only [Act.put, List.setIfInBounds_toArray, List.set_cons_zero, List.set_cons_succ])
                    go_cut [57] (fun v57 wc => ∃ (kq : Nat) (x57_15 : Bool), v57 = .bool x57_15 ∧ Aside0 (selvagelaw12_FoldLeast.j2 kq t227 x7_2 t234 t235 t236 ((rd_T39 t227 x7_2).f0) x57_15 ((rd_T39 t227 x7_2).f0) ((rd_T39 t227 x7_2).f1) ((rd_T39 t227 x7_2).f2) ((rd_T39 t227 x7_2).f3) ((rd_T39 t227 x7_2).f4) ((rd_T39 t227 x7_2).f5) ((rd_T39 t227 x7_2).f6) ((rd_T39 t227 x7_2).f7) = some r) ∧ Aside0 (kq ≤ k2) ∧ Aside0 (Kd.R k39 39 wc w.heap.size (fun k_ => k_ ≠ gb232) (.slice (some ad231) t227.length co17) t227) ∧ Aside0 (wc.heap[gb232]? = some (.cells #[.int .i64 ((rd_T39 t227 x7_2).f0), .int .i64 ((rd_T39 t227 x7_2).f1), .int .i64 ((rd_T39 t227 x7_2).f2), .int .i64 ((rd_T39 t227 x7_2).f3), .int .i64 ((rd_T39 t227 x7_2).f4), .int .i64 ((rd_T39 t227 x7_2).f5), .int .i64 ((rd_T39 t227 x7_2).f6), .int .i64 ((rd_T39 t227 x7_2).f7)] 39 (0, 0))) ∧ Aside0 (Below w.heap.size w wc))
                    case first =>
                      have H := HC16.out
                      clear HC16
                      by_cases c24 : ((rd_T39 t227 x7_2).f0) = 2
                      · rw [if_pos c24] at H
                        have c24b0 : (((rd_T39 t227 x7_2).f0) == 2) = true := beq_iff_eq.mpr c24
                        have c24b1 : (((rd_T39 t227 x7_2).f0) != 2) = false := bne_eq_false_iff_eq.mpr c24
                        clear c24
                        (first | rw [c24b0] | (simp only [i64_w, i32_w]; rw [c24b0]) | skip)
                        have H' := Aside0.mk H
                        clear H
                        go_wp2
                        go_meet
                        case rel => exact ⟨_, ((((rd_T39 t227 x7_2).f0) == 2)), (by first | rfl | (simp; done) | (simp [*]; done)), H', ⟨by have := HJ4.out; have := HK2.out; first | omega | exact Nat.le_refl _⟩, ⟨by (with_reducible repeat (first | apply Kd.R_alloc | apply Kd.R_drewN | apply Kd.R_drew)); exact Kd.R_mono HO_5.out (fun _ hk => hk.2)⟩, ⟨by (with_reducible repeat (first | refine blk_drewN ?_ _ | refine blk_drew ?_ | refine blk_alloc ?_ _)); exact BK232.out⟩, ⟨by repeat (first | (with_reducible first | exact HB.out | apply below_alloc | apply pw_below_drewN | apply below_drew1 | refine below_set ?_ GE232.out) | exact HB.out)⟩⟩
                      · rw [if_neg c24] at H
                        have c24b0 : (((rd_T39 t227 x7_2).f0) == 2) = false := beq_eq_false_iff_ne.mpr c24
                        have c24b1 : (((rd_T39 t227 x7_2).f0) != 2) = true := bne_iff_ne.mpr c24
                        (first | rw [c24b0] | (simp only [i64_w, i32_w]; rw [c24b0]) | skip)
                        by_cases c25 : ((rd_T39 t227 x7_2).f0) = 3
                        · rw [if_pos c25] at H
                          have c25b0 : (((rd_T39 t227 x7_2).f0) == 3) = true := beq_iff_eq.mpr c25
                          have c25b1 : (((rd_T39 t227 x7_2).f0) != 3) = false := bne_eq_false_iff_eq.mpr c25
                          clear c25
                          have H' := Aside0.mk H
                          clear H
                          go_wp2
                          go_meet
                          case rel => exact ⟨_, ((((rd_T39 t227 x7_2).f0) == 3)), (by first | rfl | (simp; done) | (simp [*]; done)), H', ⟨by have := HJ4.out; have := HK2.out; first | omega | exact Nat.le_refl _⟩, ⟨by (with_reducible repeat (first | apply Kd.R_alloc | apply Kd.R_drewN | apply Kd.R_drew)); exact Kd.R_mono HO_5.out (fun _ hk => hk.2)⟩, ⟨by (with_reducible repeat (first | refine blk_drewN ?_ _ | refine blk_drew ?_ | refine blk_alloc ?_ _)); exact BK232.out⟩, ⟨by repeat (first | (with_reducible first | exact HB.out | apply below_alloc | apply pw_below_drewN | apply below_drew1 | refine below_set ?_ GE232.out) | exact HB.out)⟩⟩
                        · rw [if_neg c25] at H
                          have c25b0 : (((rd_T39 t227 x7_2).f0) == 3) = false := beq_eq_false_iff_ne.mpr c25
                          have c25b1 : (((rd_T39 t227 x7_2).f0) != 3) = true := bne_iff_ne.mpr c25
                          have H' := Aside0.mk H
                          clear H
                          go_wp2
                          go_meet
                          case rel => exact ⟨_, ((((rd_T39 t227 x7_2).f0) == 4)), (by first | rfl | (simp; done) | (simp [*]; done)), H', ⟨by have := HJ4.out; have := HK2.out; first | omega | exact Nat.le_refl _⟩, ⟨by (with_reducible repeat (first | apply Kd.R_alloc | apply Kd.R_drewN | apply Kd.R_drew)); exact Kd.R_mono HO_5.out (fun _ hk => hk.2)⟩, ⟨by (with_reducible repeat (first | refine blk_drewN ?_ _ | refine blk_drew ?_ | refine blk_alloc ?_ _)); exact BK232.out⟩, ⟨by repeat (first | (with_reducible first | exact HB.out | apply below_alloc | apply pw_below_drewN | apply below_drew1 | refine below_set ?_ GE232.out) | exact HB.out)⟩⟩
                    case rest =>
                      clear HC16
                      try clear c1
                      try clear c2
                      try clear p2
                      try clear q2
                      try clear hx2
                      try clear c4
                      try clear c5
                      try clear c7
                      try clear c7b0
                      try clear c7b1
                      try clear c8
                      try clear c9
                      try clear c10
                      try clear c10b0
                      try clear c10b1
                      try clear c12
                      try clear c12b0
                      try clear c13
                      try clear c13b0
                      try clear c14
                      try clear p23
                      try clear q23
                      try clear hx23
                      try clear c24
                      try clear c24b0
                      try clear c24b1
                      try clear c25
                      try clear c25b0
                      try clear c25b1
                      try clear hcz19_0
                      try clear hcz19_1
                      try clear hcz19_2
                      try clear hcz19_3
                      try clear hcz19_4
                      try clear hcz19_5
                      try clear hcz19_6
                      try clear hcz19_7
                      try clear hcz21_0
                      try clear hcz21_1
                      try clear hcz21_2
                      try clear hcz21_3
                      try clear hcz21_4
                      try clear hcz21_5
                      try clear hcz21_6
                      try clear hcz21_7
                      try clear hcz23_0
                      try clear hcz23_1
                      try clear hcz23_2
                      try clear hcz23_3
                      try clear hcz23_4
                      try clear hcz23_5
                      try clear hcz23_6
                      try clear hcz23_7
                      try clear hfz19_0
                      try clear hfz19_1
                      try clear hfz19_2
                      try clear hfz19_3
                      try clear hfz19_4
                      try clear hfz19_5
                      try clear hfz19_6
                      try clear hfz19_7
                      try clear hfz21_0
                      try clear hfz21_1
                      try clear hfz21_2
                      try clear hfz21_3
                      try clear hfz21_4
                      try clear hfz21_5
                      try clear hfz21_6
                      try clear hfz21_7
                      try clear hfz23_0
                      try clear hfz23_1
                      try clear hfz23_2
                      try clear hfz23_3
                      try clear hfz23_4
                      try clear hfz23_5
                      try clear hfz23_6
                      try clear hfz23_7
                      try clear hx231_0
                      try clear hx231_1
                      try clear hx231_2
                      try clear hx231_3
                      try clear hx231_4
                      try clear hx231_5
                      try clear hx231_6
                      try clear hx231_7
                      try clear p2
                      try clear p231
                      try clear q231
                      obtain ⟨kq, x57_15, rfl, HA, HJ15, HO_5, BK232, HB⟩ := hcut
                      cases kq with
                      | zero => exact absurd HA.out (by simp [selvagelaw12_FoldLeast.j2])
                      | succ kj15 =>
                        have H := HA.out
                        clear HA
                        simp only [selvagelaw12_FoldLeast.j2] at H
                        by_cases c26 : x57_15 = true
                        · subst c26
                          have H1 : (if t234 = true then (if t236 = true then (some false) else ((selvagelaw12_used.f kj15 t227 ((rd_T39 t227 x7_2).f1)).bind fun t237 => (if t237 = true then (selvagelaw12_FoldLeast.l0 kj15 t227 (wrap64 (x7_2 + 1))) else (some false)))) else ((selvagelaw12_used.f kj15 t227 ((rd_T39 t227 x7_2).f1)).bind fun t238 => (if t238 = true then (selvagelaw12_FoldLeast.l0 kj15 t227 (wrap64 (x7_2 + 1))) else (some false)))) = some r := by rw [if_pos rfl] at H; exact H
                          clear H
                          have H := H1
                          clear H1
                          by_cases c27 : t234 = true
                          · subst c27
                            have H1 : (if t236 = true then (some false) else ((selvagelaw12_used.f kj15 t227 ((rd_T39 t227 x7_2).f1)).bind fun t237 => (if t237 = true then (selvagelaw12_FoldLeast.l0 kj15 t227 (wrap64 (x7_2 + 1))) else (some false)))) = some r := by rw [if_pos rfl] at H; exact H
                            clear H
                            have H := H1
                            clear H1
                            by_cases c28 : t236 = true
                            · subst c28
                              have H1 : (some false) = some r := by rw [if_pos rfl] at H; exact H
                              clear H
                              have H := H1
                              clear H1
                              obtain rfl := Option.some.inj H
                              go_wp2
                              go_ret
                              exact ⟨by first | rfl | (simp [errW_none, errW_some] <;> rfl) | (simp [*, errW_none, errW_some] <;> rfl), by repeat (first | (with_reducible first | exact HB.out | apply below_alloc | apply pw_below_drewN | apply below_drew1 | refine below_set ?_ GE232.out) | exact HB.out)⟩
                            · replace c28 := Bool.eq_false_iff.mpr c28
                              subst c28
                              have H1 : ((selvagelaw12_used.f kj15 t227 ((rd_T39 t227 x7_2).f1)).bind fun t237 => (if t237 = true then (selvagelaw12_FoldLeast.l0 kj15 t227 (wrap64 (x7_2 + 1))) else (some false))) = some r := by rw [if_neg (show ¬ (false = true) by decide)] at H; exact H
                              clear H
                              have H := H1
                              clear H1
                              replace H := Option.bind_eq_some_iff.mp H
                              obtain ⟨t237, A290, H⟩ := H
                              replace H : (if t237 = true then (selvagelaw12_FoldLeast.l0 kj15 t227 (wrap64 (x7_2 + 1))) else (some false)) = some r := H
                              have A29 := Aside0.mk A290
                              clear A290
                              by_cases c30 : t237 = true
                              · subst c30
                                have H1 : (selvagelaw12_FoldLeast.l0 kj15 t227 (wrap64 (x7_2 + 1))) = some r := by rw [if_pos rfl] at H; exact H
                                clear H
                                have H := H1
                                clear H1
                                have H' := Aside0.mk H
                                clear H
                                have hcz31_0 : wc.cell? ⟨gb232, 0, none⟩ = some (.int .i64 ((rd_T39 t227 x7_2).f0)) := (blk_cell BK232.out 0).trans rfl
                                have hcz31_1 : wc.cell? ⟨gb232, 1, none⟩ = some (.int .i64 ((rd_T39 t227 x7_2).f1)) := (blk_cell BK232.out 1).trans rfl
                                have hcz31_2 : wc.cell? ⟨gb232, 2, none⟩ = some (.int .i64 ((rd_T39 t227 x7_2).f2)) := (blk_cell BK232.out 2).trans rfl
                                have hcz31_3 : wc.cell? ⟨gb232, 3, none⟩ = some (.int .i64 ((rd_T39 t227 x7_2).f3)) := (blk_cell BK232.out 3).trans rfl
                                have hcz31_4 : wc.cell? ⟨gb232, 4, none⟩ = some (.int .i64 ((rd_T39 t227 x7_2).f4)) := (blk_cell BK232.out 4).trans rfl
                                have hcz31_5 : wc.cell? ⟨gb232, 5, none⟩ = some (.int .i64 ((rd_T39 t227 x7_2).f5)) := (blk_cell BK232.out 5).trans rfl
                                have hcz31_6 : wc.cell? ⟨gb232, 6, none⟩ = some (.int .i64 ((rd_T39 t227 x7_2).f6)) := (blk_cell BK232.out 6).trans rfl
                                have hcz31_7 : wc.cell? ⟨gb232, 7, none⟩ = some (.int .i64 ((rd_T39 t227 x7_2).f7)) := (blk_cell BK232.out 7).trans rfl
                                have hfz31_0 := blk_frozen BK232.out 0
                                have hfz31_1 := blk_frozen BK232.out 1
                                have hfz31_2 := blk_frozen BK232.out 2
                                have hfz31_3 := blk_frozen BK232.out 3
                                have hfz31_4 := blk_frozen BK232.out 4
                                have hfz31_5 := blk_frozen BK232.out 5
                                have hfz31_6 := blk_frozen BK232.out 6
                                have hfz31_7 := blk_frozen BK232.out 7
                                go_wp2_with (first | (go_at_call 15; (with_reducible refine (selvagelaw12_used.calls kj15 _ _ t227 ((rd_T39 t227 x7_2).f1) true _ ?side1 ?side2 A29.out).mono ?_); (case side1 => repeat (first | exact (Kd.R_reads' HO_5.out).2.2 | (with_reducible refine Kd.C_alloc ?_ _) | (with_reducible refine Kd.C_drewN ?_ _) | (with_reducible refine Kd.C_drew ?_))); (case side2 => exact (Kd.R_reads' HO_5.out).2.1); rintro e w' ⟨rfl, ⟨nd, rfl⟩⟩))
                                go_roundg kj15
                                case measure => have := HJ4.out; have := HK2.out; have := HJ15.out; omega
                                case rel => exact ⟨(wrap64 (x7_2 + 1)), (by first | rfl | (simp; done) | (simp [*]; done)), H', ⟨by have := HJ4.out; have := HK2.out; have := HJ15.out; omega⟩, ⟨by (with_reducible repeat (first | apply Kd.R_alloc | apply Kd.R_drewN | apply Kd.R_drew)); exact Kd.R_mono HO_5.out (fun _ hk => trivial)⟩, ⟨by repeat (first | (with_reducible first | exact HB.out | apply below_alloc | apply pw_below_drewN | apply below_drew1 | refine below_set ?_ GE232.out) | exact HB.out)⟩⟩
                              · replace c30 := Bool.eq_false_iff.mpr c30
                                subst c30
                                have H1 : (some false) = some r := by rw [if_neg (show ¬ (false = true) by decide)] at H; exact H
                                clear H
                                have H := H1
                                clear H1
                                obtain rfl := Option.some.inj H
                                have hcz32_0 : wc.cell? ⟨gb232, 0, none⟩ = some (.int .i64 ((rd_T39 t227 x7_2).f0)) := (blk_cell BK232.out 0).trans rfl
                                have hcz32_1 : wc.cell? ⟨gb232, 1, none⟩ = some (.int .i64 ((rd_T39 t227 x7_2).f1)) := (blk_cell BK232.out 1).trans rfl
                                have hcz32_2 : wc.cell? ⟨gb232, 2, none⟩ = some (.int .i64 ((rd_T39 t227 x7_2).f2)) := (blk_cell BK232.out 2).trans rfl
                                have hcz32_3 : wc.cell? ⟨gb232, 3, none⟩ = some (.int .i64 ((rd_T39 t227 x7_2).f3)) := (blk_cell BK232.out 3).trans rfl
                                have hcz32_4 : wc.cell? ⟨gb232, 4, none⟩ = some (.int .i64 ((rd_T39 t227 x7_2).f4)) := (blk_cell BK232.out 4).trans rfl
                                have hcz32_5 : wc.cell? ⟨gb232, 5, none⟩ = some (.int .i64 ((rd_T39 t227 x7_2).f5)) := (blk_cell BK232.out 5).trans rfl
                                have hcz32_6 : wc.cell? ⟨gb232, 6, none⟩ = some (.int .i64 ((rd_T39 t227 x7_2).f6)) := (blk_cell BK232.out 6).trans rfl
                                have hcz32_7 : wc.cell? ⟨gb232, 7, none⟩ = some (.int .i64 ((rd_T39 t227 x7_2).f7)) := (blk_cell BK232.out 7).trans rfl
                                have hfz32_0 := blk_frozen BK232.out 0
                                have hfz32_1 := blk_frozen BK232.out 1
                                have hfz32_2 := blk_frozen BK232.out 2
                                have hfz32_3 := blk_frozen BK232.out 3
                                have hfz32_4 := blk_frozen BK232.out 4
                                have hfz32_5 := blk_frozen BK232.out 5
                                have hfz32_6 := blk_frozen BK232.out 6
                                have hfz32_7 := blk_frozen BK232.out 7
                                go_wp2_with (first | (go_at_call 15; (with_reducible refine (selvagelaw12_used.calls kj15 _ _ t227 ((rd_T39 t227 x7_2).f1) false _ ?side1 ?side2 A29.out).mono ?_); (case side1 => repeat (first | exact (Kd.R_reads' HO_5.out).2.2 | (with_reducible refine Kd.C_alloc ?_ _) | (with_reducible refine Kd.C_drewN ?_ _) | (with_reducible refine Kd.C_drew ?_))); (case side2 => exact (Kd.R_reads' HO_5.out).2.1); rintro e w' ⟨rfl, ⟨nd, rfl⟩⟩))
                                go_ret
                                exact ⟨by first | rfl | (simp [errW_none, errW_some] <;> rfl) | (simp [*, errW_none, errW_some] <;> rfl), by repeat (first | (with_reducible first | exact HB.out | apply below_alloc | apply pw_below_drewN | apply below_drew1 | refine below_set ?_ GE232.out) | exact HB.out)⟩
                          · replace c27 := Bool.eq_false_iff.mpr c27
                            subst c27
                            have H1 : ((selvagelaw12_used.f kj15 t227 ((rd_T39 t227 x7_2).f1)).bind fun t238 => (if t238 = true then (selvagelaw12_FoldLeast.l0 kj15 t227 (wrap64 (x7_2 + 1))) else (some false))) = some r := by rw [if_neg (show ¬ (false = true) by decide)] at H; exact H
                            clear H
                            have H := H1
                            clear H1
                            replace H := Option.bind_eq_some_iff.mp H
                            obtain ⟨t238, A330, H⟩ := H
                            replace H : (if t238 = true then (selvagelaw12_FoldLeast.l0 kj15 t227 (wrap64 (x7_2 + 1))) else (some false)) = some r := H
                            have A33 := Aside0.mk A330
                            clear A330
                            by_cases c34 : t238 = true
                            · subst c34
                              have H1 : (selvagelaw12_FoldLeast.l0 kj15 t227 (wrap64 (x7_2 + 1))) = some r := by rw [if_pos rfl] at H; exact H
                              clear H
                              have H := H1
                              clear H1
                              have H' := Aside0.mk H
                              clear H
                              have hcz35_0 : wc.cell? ⟨gb232, 0, none⟩ = some (.int .i64 ((rd_T39 t227 x7_2).f0)) := (blk_cell BK232.out 0).trans rfl
                              have hcz35_1 : wc.cell? ⟨gb232, 1, none⟩ = some (.int .i64 ((rd_T39 t227 x7_2).f1)) := (blk_cell BK232.out 1).trans rfl
                              have hcz35_2 : wc.cell? ⟨gb232, 2, none⟩ = some (.int .i64 ((rd_T39 t227 x7_2).f2)) := (blk_cell BK232.out 2).trans rfl
                              have hcz35_3 : wc.cell? ⟨gb232, 3, none⟩ = some (.int .i64 ((rd_T39 t227 x7_2).f3)) := (blk_cell BK232.out 3).trans rfl
                              have hcz35_4 : wc.cell? ⟨gb232, 4, none⟩ = some (.int .i64 ((rd_T39 t227 x7_2).f4)) := (blk_cell BK232.out 4).trans rfl
                              have hcz35_5 : wc.cell? ⟨gb232, 5, none⟩ = some (.int .i64 ((rd_T39 t227 x7_2).f5)) := (blk_cell BK232.out 5).trans rfl
                              have hcz35_6 : wc.cell? ⟨gb232, 6, none⟩ = some (.int .i64 ((rd_T39 t227 x7_2).f6)) := (blk_cell BK232.out 6).trans rfl
                              have hcz35_7 : wc.cell? ⟨gb232, 7, none⟩ = some (.int .i64 ((rd_T39 t227 x7_2).f7)) := (blk_cell BK232.out 7).trans rfl
                              have hfz35_0 := blk_frozen BK232.out 0
                              have hfz35_1 := blk_frozen BK232.out 1
                              have hfz35_2 := blk_frozen BK232.out 2
                              have hfz35_3 := blk_frozen BK232.out 3
                              have hfz35_4 := blk_frozen BK232.out 4
                              have hfz35_5 := blk_frozen BK232.out 5
                              have hfz35_6 := blk_frozen BK232.out 6
                              have hfz35_7 := blk_frozen BK232.out 7
                              go_wp2_with (first | (go_at_call 15; (with_reducible refine (selvagelaw12_used.calls kj15 _ _ t227 ((rd_T39 t227 x7_2).f1) true _ ?side1 ?side2 A33.out).mono ?_); (case side1 => repeat (first | exact (Kd.R_reads' HO_5.out).2.2 | (with_reducible refine Kd.C_alloc ?_ _) | (with_reducible refine Kd.C_drewN ?_ _) | (with_reducible refine Kd.C_drew ?_))); (case side2 => exact (Kd.R_reads' HO_5.out).2.1); rintro e w' ⟨rfl, ⟨nd, rfl⟩⟩))
                              go_roundg kj15
                              case measure => have := HJ4.out; have := HK2.out; have := HJ15.out; omega
                              case rel => exact ⟨(wrap64 (x7_2 + 1)), (by first | rfl | (simp; done) | (simp [*]; done)), H', ⟨by have := HJ4.out; have := HK2.out; have := HJ15.out; omega⟩, ⟨by (with_reducible repeat (first | apply Kd.R_alloc | apply Kd.R_drewN | apply Kd.R_drew)); exact Kd.R_mono HO_5.out (fun _ hk => trivial)⟩, ⟨by repeat (first | (with_reducible first | exact HB.out | apply below_alloc | apply pw_below_drewN | apply below_drew1 | refine below_set ?_ GE232.out) | exact HB.out)⟩⟩
                            · replace c34 := Bool.eq_false_iff.mpr c34
                              subst c34
                              have H1 : (some false) = some r := by rw [if_neg (show ¬ (false = true) by decide)] at H; exact H
                              clear H
                              have H := H1
                              clear H1
                              obtain rfl := Option.some.inj H
                              have hcz36_0 : wc.cell? ⟨gb232, 0, none⟩ = some (.int .i64 ((rd_T39 t227 x7_2).f0)) := (blk_cell BK232.out 0).trans rfl
                              have hcz36_1 : wc.cell? ⟨gb232, 1, none⟩ = some (.int .i64 ((rd_T39 t227 x7_2).f1)) := (blk_cell BK232.out 1).trans rfl
                              have hcz36_2 : wc.cell? ⟨gb232, 2, none⟩ = some (.int .i64 ((rd_T39 t227 x7_2).f2)) := (blk_cell BK232.out 2).trans rfl
                              have hcz36_3 : wc.cell? ⟨gb232, 3, none⟩ = some (.int .i64 ((rd_T39 t227 x7_2).f3)) := (blk_cell BK232.out 3).trans rfl
                              have hcz36_4 : wc.cell? ⟨gb232, 4, none⟩ = some (.int .i64 ((rd_T39 t227 x7_2).f4)) := (blk_cell BK232.out 4).trans rfl
                              have hcz36_5 : wc.cell? ⟨gb232, 5, none⟩ = some (.int .i64 ((rd_T39 t227 x7_2).f5)) := (blk_cell BK232.out 5).trans rfl
                              have hcz36_6 : wc.cell? ⟨gb232, 6, none⟩ = some (.int .i64 ((rd_T39 t227 x7_2).f6)) := (blk_cell BK232.out 6).trans rfl
                              have hcz36_7 : wc.cell? ⟨gb232, 7, none⟩ = some (.int .i64 ((rd_T39 t227 x7_2).f7)) := (blk_cell BK232.out 7).trans rfl
                              have hfz36_0 := blk_frozen BK232.out 0
                              have hfz36_1 := blk_frozen BK232.out 1
                              have hfz36_2 := blk_frozen BK232.out 2
                              have hfz36_3 := blk_frozen BK232.out 3
                              have hfz36_4 := blk_frozen BK232.out 4
                              have hfz36_5 := blk_frozen BK232.out 5
                              have hfz36_6 := blk_frozen BK232.out 6
                              have hfz36_7 := blk_frozen BK232.out 7
                              go_wp2_with (first | (go_at_call 15; (with_reducible refine (selvagelaw12_used.calls kj15 _ _ t227 ((rd_T39 t227 x7_2).f1) false _ ?side1 ?side2 A33.out).mono ?_); (case side1 => repeat (first | exact (Kd.R_reads' HO_5.out).2.2 | (with_reducible refine Kd.C_alloc ?_ _) | (with_reducible refine Kd.C_drewN ?_ _) | (with_reducible refine Kd.C_drew ?_))); (case side2 => exact (Kd.R_reads' HO_5.out).2.1); rintro e w' ⟨rfl, ⟨nd, rfl⟩⟩))
                              go_ret
                              exact ⟨by first | rfl | (simp [errW_none, errW_some] <;> rfl) | (simp [*, errW_none, errW_some] <;> rfl), by repeat (first | (with_reducible first | exact HB.out | apply below_alloc | apply pw_below_drewN | apply below_drew1 | refine below_set ?_ GE232.out) | exact HB.out)⟩
                        · replace c26 := Bool.eq_false_iff.mpr c26
                          subst c26
                          have H1 : (if ((rd_T39 t227 x7_2).f0) = 1 then ((selvagelaw12_used.f kj15 t227 ((rd_T39 t227 x7_2).f1)).bind fun t239 => (if t239 = true then (selvagelaw12_FoldLeast.l0 kj15 t227 (wrap64 (x7_2 + 1))) else (some false))) else (if ((rd_T39 t227 x7_2).f0) = 5 then (if t236 = true then (if t235 = 0 then (selvagelaw12_FoldLeast.l0 kj15 t227 (wrap64 (x7_2 + 1))) else (if t234 = true then (some false) else ((selvagelaw12_used.f kj15 t227 ((rd_T39 t227 x7_2).f1)).bind fun t240 => (if t240 = true then (selvagelaw12_FoldLeast.l0 kj15 t227 (wrap64 (x7_2 + 1))) else (some false))))) else (selvagelaw12_FoldLeast.l0 kj15 t227 (wrap64 (x7_2 + 1)))) else (if ((rd_T39 t227 x7_2).f0) = 16 then (selvagelaw12_FoldLeast.j3 kj15 t227 x7_2 t234 t236 (((rd_T39 t227 x7_2).f0) == 16) ((rd_T39 t227 x7_2).f0) ((rd_T39 t227 x7_2).f1) ((rd_T39 t227 x7_2).f2) ((rd_T39 t227 x7_2).f3) ((rd_T39 t227 x7_2).f4) ((rd_T39 t227 x7_2).f5) ((rd_T39 t227 x7_2).f6) ((rd_T39 t227 x7_2).f7)) else (selvagelaw12_FoldLeast.j3 kj15 t227 x7_2 t234 t236 (((rd_T39 t227 x7_2).f0) == 17) ((rd_T39 t227 x7_2).f0) ((rd_T39 t227 x7_2).f1) ((rd_T39 t227 x7_2).f2) ((rd_T39 t227 x7_2).f3) ((rd_T39 t227 x7_2).f4) ((rd_T39 t227 x7_2).f5) ((rd_T39 t227 x7_2).f6) ((rd_T39 t227 x7_2).f7))))) = some r := by rw [if_neg (show ¬ (false = true) by decide)] at H; exact H
                          clear H
                          have H := H1
                          clear H1
                          by_cases c37 : ((rd_T39 t227 x7_2).f0) = 1
                          · rw [if_pos c37] at H
                            have c37b0 : (((rd_T39 t227 x7_2).f0) == 1) = true := beq_iff_eq.mpr c37
                            have c37b1 : (((rd_T39 t227 x7_2).f0) != 1) = false := bne_eq_false_iff_eq.mpr c37
                            clear c37
                            replace H := Option.bind_eq_some_iff.mp H
                            obtain ⟨t239, A380, H⟩ := H
                            replace H : (if t239 = true then (selvagelaw12_FoldLeast.l0 kj15 t227 (wrap64 (x7_2 + 1))) else (some false)) = some r := H
                            have A38 := Aside0.mk A380
                            clear A380
                            by_cases c39 : t239 = true
                            · subst c39
                              have H1 : (selvagelaw12_FoldLeast.l0 kj15 t227 (wrap64 (x7_2 + 1))) = some r := by rw [if_pos rfl] at H; exact H
                              clear H
                              have H := H1
                              clear H1
                              have H' := Aside0.mk H
                              clear H
                              have hcz40_0 : wc.cell? ⟨gb232, 0, none⟩ = some (.int .i64 ((rd_T39 t227 x7_2).f0)) := (blk_cell BK232.out 0).trans rfl
                              have hcz40_1 : wc.cell? ⟨gb232, 1, none⟩ = some (.int .i64 ((rd_T39 t227 x7_2).f1)) := (blk_cell BK232.out 1).trans rfl
                              have hcz40_2 : wc.cell? ⟨gb232, 2, none⟩ = some (.int .i64 ((rd_T39 t227 x7_2).f2)) := (blk_cell BK232.out 2).trans rfl
                              have hcz40_3 : wc.cell? ⟨gb232, 3, none⟩ = some (.int .i64 ((rd_T39 t227 x7_2).f3)) := (blk_cell BK232.out 3).trans rfl
                              have hcz40_4 : wc.cell? ⟨gb232, 4, none⟩ = some (.int .i64 ((rd_T39 t227 x7_2).f4)) := (blk_cell BK232.out 4).trans rfl
                              have hcz40_5 : wc.cell? ⟨gb232, 5, none⟩ = some (.int .i64 ((rd_T39 t227 x7_2).f5)) := (blk_cell BK232.out 5).trans rfl
                              have hcz40_6 : wc.cell? ⟨gb232, 6, none⟩ = some (.int .i64 ((rd_T39 t227 x7_2).f6)) := (blk_cell BK232.out 6).trans rfl
                              have hcz40_7 : wc.cell? ⟨gb232, 7, none⟩ = some (.int .i64 ((rd_T39 t227 x7_2).f7)) := (blk_cell BK232.out 7).trans rfl
                              have hfz40_0 := blk_frozen BK232.out 0
                              have hfz40_1 := blk_frozen BK232.out 1
                              have hfz40_2 := blk_frozen BK232.out 2
                              have hfz40_3 := blk_frozen BK232.out 3
                              have hfz40_4 := blk_frozen BK232.out 4
                              have hfz40_5 := blk_frozen BK232.out 5
                              have hfz40_6 := blk_frozen BK232.out 6
                              have hfz40_7 := blk_frozen BK232.out 7
                              go_wp2_with (first | ((with_reducible refine gate_callee (f := 15) rfl ?_); refine goesL_ (some 77) rfl rfl Try.func15 (by kernel_rfl) rfl #[.slice (some ad231) t227.length co17, .int .i64 ((rd_T39 t227 x7_2).f1)] rfl (by (try simp only [List.map_toArray, List.map_cons, List.map_nil]); first | done | rfl | (simp only [List.length_drop, List.length_take]; rfl)) ?_; (with_reducible refine (selvagelaw12_used.calls kj15 _ _ t227 ((rd_T39 t227 x7_2).f1) true _ ?side1 ?side2 A38.out).mono ?_); (case side1 => repeat (first | exact (Kd.R_reads' HO_5.out).2.2 | (with_reducible refine Kd.C_alloc ?_ _) | (with_reducible refine Kd.C_drewN ?_ _) | (with_reducible refine Kd.C_drew ?_))); (case side2 => exact (Kd.R_reads' HO_5.out).2.1); rintro e w' ⟨rfl, ⟨nd, rfl⟩⟩; refine ⟨_, rfl, ?_⟩))
                              go_roundg kj15
                              case measure => have := HJ4.out; have := HK2.out; have := HJ15.out; omega
                              case rel => exact ⟨(wrap64 (x7_2 + 1)), (by first | rfl | (simp; done) | (simp [*]; done)), H', ⟨by have := HJ4.out; have := HK2.out; have := HJ15.out; omega⟩, ⟨by (with_reducible repeat (first | apply Kd.R_alloc | apply Kd.R_drewN | apply Kd.R_drew)); exact Kd.R_mono HO_5.out (fun _ hk => trivial)⟩, ⟨by repeat (first | (with_reducible first | exact HB.out | apply below_alloc | apply pw_below_drewN | apply below_drew1 | refine below_set ?_ GE232.out) | exact HB.out)⟩⟩
                            · replace c39 := Bool.eq_false_iff.mpr c39
                              subst c39
                              have H1 : (some false) = some r := by rw [if_neg (show ¬ (false = true) by decide)] at H; exact H
                              clear H
                              have H := H1
                              clear H1
                              obtain rfl := Option.some.inj H
                              have hcz41_0 : wc.cell? ⟨gb232, 0, none⟩ = some (.int .i64 ((rd_T39 t227 x7_2).f0)) := (blk_cell BK232.out 0).trans rfl
                              have hcz41_1 : wc.cell? ⟨gb232, 1, none⟩ = some (.int .i64 ((rd_T39 t227 x7_2).f1)) := (blk_cell BK232.out 1).trans rfl
                              have hcz41_2 : wc.cell? ⟨gb232, 2, none⟩ = some (.int .i64 ((rd_T39 t227 x7_2).f2)) := (blk_cell BK232.out 2).trans rfl
                              have hcz41_3 : wc.cell? ⟨gb232, 3, none⟩ = some (.int .i64 ((rd_T39 t227 x7_2).f3)) := (blk_cell BK232.out 3).trans rfl
                              have hcz41_4 : wc.cell? ⟨gb232, 4, none⟩ = some (.int .i64 ((rd_T39 t227 x7_2).f4)) := (blk_cell BK232.out 4).trans rfl
                              have hcz41_5 : wc.cell? ⟨gb232, 5, none⟩ = some (.int .i64 ((rd_T39 t227 x7_2).f5)) := (blk_cell BK232.out 5).trans rfl
                              have hcz41_6 : wc.cell? ⟨gb232, 6, none⟩ = some (.int .i64 ((rd_T39 t227 x7_2).f6)) := (blk_cell BK232.out 6).trans rfl
                              have hcz41_7 : wc.cell? ⟨gb232, 7, none⟩ = some (.int .i64 ((rd_T39 t227 x7_2).f7)) := (blk_cell BK232.out 7).trans rfl
                              have hfz41_0 := blk_frozen BK232.out 0
                              have hfz41_1 := blk_frozen BK232.out 1
                              have hfz41_2 := blk_frozen BK232.out 2
                              have hfz41_3 := blk_frozen BK232.out 3
                              have hfz41_4 := blk_frozen BK232.out 4
                              have hfz41_5 := blk_frozen BK232.out 5
                              have hfz41_6 := blk_frozen BK232.out 6
                              have hfz41_7 := blk_frozen BK232.out 7
                              go_wp2_with (first | ((with_reducible refine gate_callee (f := 15) rfl ?_); refine goesL_ (some 77) rfl rfl Try.func15 (by kernel_rfl) rfl #[.slice (some ad231) t227.length co17, .int .i64 ((rd_T39 t227 x7_2).f1)] rfl (by (try simp only [List.map_toArray, List.map_cons, List.map_nil]); first | done | rfl | (simp only [List.length_drop, List.length_take]; rfl)) ?_; (with_reducible refine (selvagelaw12_used.calls kj15 _ _ t227 ((rd_T39 t227 x7_2).f1) false _ ?side1 ?side2 A38.out).mono ?_); (case side1 => repeat (first | exact (Kd.R_reads' HO_5.out).2.2 | (with_reducible refine Kd.C_alloc ?_ _) | (with_reducible refine Kd.C_drewN ?_ _) | (with_reducible refine Kd.C_drew ?_))); (case side2 => exact (Kd.R_reads' HO_5.out).2.1); rintro e w' ⟨rfl, ⟨nd, rfl⟩⟩; refine ⟨_, rfl, ?_⟩))
                              go_ret
                              exact ⟨by first | rfl | (simp [errW_none, errW_some] <;> rfl) | (simp [*, errW_none, errW_some] <;> rfl), by repeat (first | (with_reducible first | exact HB.out | apply below_alloc | apply pw_below_drewN | apply below_drew1 | refine below_set ?_ GE232.out) | exact HB.out)⟩
                          · rw [if_neg c37] at H
                            have c37b0 : (((rd_T39 t227 x7_2).f0) == 1) = false := beq_eq_false_iff_ne.mpr c37
                            have c37b1 : (((rd_T39 t227 x7_2).f0) != 1) = true := bne_iff_ne.mpr c37
                            by_cases c42 : ((rd_T39 t227 x7_2).f0) = 5
                            · rw [if_pos c42] at H
                              have c42b0 : (((rd_T39 t227 x7_2).f0) == 5) = true := beq_iff_eq.mpr c42
                              have c42b1 : (((rd_T39 t227 x7_2).f0) != 5) = false := bne_eq_false_iff_eq.mpr c42
                              clear c42
                              by_cases c43 : t236 = true
                              · subst c43
                                have H1 : (if t235 = 0 then (selvagelaw12_FoldLeast.l0 kj15 t227 (wrap64 (x7_2 + 1))) else (if t234 = true then (some false) else ((selvagelaw12_used.f kj15 t227 ((rd_T39 t227 x7_2).f1)).bind fun t240 => (if t240 = true then (selvagelaw12_FoldLeast.l0 kj15 t227 (wrap64 (x7_2 + 1))) else (some false))))) = some r := by rw [if_pos rfl] at H; exact H
                                clear H
                                have H := H1
                                clear H1
                                by_cases c44 : t235 = 0
                                · rw [if_pos c44] at H
                                  have c44b0 : (t235 == 0) = true := beq_iff_eq.mpr c44
                                  have c44b1 : (t235 != 0) = false := bne_eq_false_iff_eq.mpr c44
                                  clear c44
                                  have H' := Aside0.mk H
                                  clear H
                                  go_wp2
                                  go_roundg kj15
                                  case measure => have := HJ4.out; have := HK2.out; have := HJ15.out; omega
                                  case rel => exact ⟨(wrap64 (x7_2 + 1)), (by first | rfl | (simp; done) | (simp [*]; done)), H', ⟨by have := HJ4.out; have := HK2.out; have := HJ15.out; omega⟩, ⟨by (with_reducible repeat (first | apply Kd.R_alloc | apply Kd.R_drewN | apply Kd.R_drew)); exact Kd.R_mono HO_5.out (fun _ hk => trivial)⟩, ⟨by repeat (first | (with_reducible first | exact HB.out | apply below_alloc | apply pw_below_drewN | apply below_drew1 | refine below_set ?_ GE232.out) | exact HB.out)⟩⟩
                                · rw [if_neg c44] at H
                                  have c44b0 : (t235 == 0) = false := beq_eq_false_iff_ne.mpr c44
                                  have c44b1 : (t235 != 0) = true := bne_iff_ne.mpr c44
                                  by_cases c45 : t234 = true
                                  · subst c45
                                    have H1 : (some false) = some r := by rw [if_pos rfl] at H; exact H
                                    clear H
                                    have H := H1
                                    clear H1
                                    obtain rfl := Option.some.inj H
                                    go_wp2
                                    go_ret
                                    exact ⟨by first | rfl | (simp [errW_none, errW_some] <;> rfl) | (simp [*, errW_none, errW_some] <;> rfl), by repeat (first | (with_reducible first | exact HB.out | apply below_alloc | apply pw_below_drewN | apply below_drew1 | refine below_set ?_ GE232.out) | exact HB.out)⟩
                                  · replace c45 := Bool.eq_false_iff.mpr c45
                                    subst c45
                                    have H1 : ((selvagelaw12_used.f kj15 t227 ((rd_T39 t227 x7_2).f1)).bind fun t240 => (if t240 = true then (selvagelaw12_FoldLeast.l0 kj15 t227 (wrap64 (x7_2 + 1))) else (some false))) = some r := by rw [if_neg (show ¬ (false = true) by decide)] at H; exact H
                                    clear H
                                    have H := H1
                                    clear H1
                                    replace H := Option.bind_eq_some_iff.mp H
                                    obtain ⟨t240, A460, H⟩ := H
                                    replace H : (if t240 = true then (selvagelaw12_FoldLeast.l0 kj15 t227 (wrap64 (x7_2 + 1))) else (some false)) = some r := H
                                    have A46 := Aside0.mk A460
                                    clear A460
                                    by_cases c47 : t240 = true
                                    · subst c47
                                      have H1 : (selvagelaw12_FoldLeast.l0 kj15 t227 (wrap64 (x7_2 + 1))) = some r := by rw [if_pos rfl] at H; exact H
                                      clear H
                                      have H := H1
                                      clear H1
                                      have H' := Aside0.mk H
                                      clear H
                                      have hcz48_0 : wc.cell? ⟨gb232, 0, none⟩ = some (.int .i64 ((rd_T39 t227 x7_2).f0)) := (blk_cell BK232.out 0).trans rfl
                                      have hcz48_1 : wc.cell? ⟨gb232, 1, none⟩ = some (.int .i64 ((rd_T39 t227 x7_2).f1)) := (blk_cell BK232.out 1).trans rfl
                                      have hcz48_2 : wc.cell? ⟨gb232, 2, none⟩ = some (.int .i64 ((rd_T39 t227 x7_2).f2)) := (blk_cell BK232.out 2).trans rfl
                                      have hcz48_3 : wc.cell? ⟨gb232, 3, none⟩ = some (.int .i64 ((rd_T39 t227 x7_2).f3)) := (blk_cell BK232.out 3).trans rfl
                                      have hcz48_4 : wc.cell? ⟨gb232, 4, none⟩ = some (.int .i64 ((rd_T39 t227 x7_2).f4)) := (blk_cell BK232.out 4).trans rfl
                                      have hcz48_5 : wc.cell? ⟨gb232, 5, none⟩ = some (.int .i64 ((rd_T39 t227 x7_2).f5)) := (blk_cell BK232.out 5).trans rfl
                                      have hcz48_6 : wc.cell? ⟨gb232, 6, none⟩ = some (.int .i64 ((rd_T39 t227 x7_2).f6)) := (blk_cell BK232.out 6).trans rfl
                                      have hcz48_7 : wc.cell? ⟨gb232, 7, none⟩ = some (.int .i64 ((rd_T39 t227 x7_2).f7)) := (blk_cell BK232.out 7).trans rfl
                                      have hfz48_0 := blk_frozen BK232.out 0
                                      have hfz48_1 := blk_frozen BK232.out 1
                                      have hfz48_2 := blk_frozen BK232.out 2
                                      have hfz48_3 := blk_frozen BK232.out 3
                                      have hfz48_4 := blk_frozen BK232.out 4
                                      have hfz48_5 := blk_frozen BK232.out 5
                                      have hfz48_6 := blk_frozen BK232.out 6
                                      have hfz48_7 := blk_frozen BK232.out 7
                                      go_wp2_with (first | (go_at_call 15; (with_reducible refine (selvagelaw12_used.calls kj15 _ _ t227 ((rd_T39 t227 x7_2).f1) true _ ?side1 ?side2 A46.out).mono ?_); (case side1 => repeat (first | exact (Kd.R_reads' HO_5.out).2.2 | (with_reducible refine Kd.C_alloc ?_ _) | (with_reducible refine Kd.C_drewN ?_ _) | (with_reducible refine Kd.C_drew ?_))); (case side2 => exact (Kd.R_reads' HO_5.out).2.1); rintro e w' ⟨rfl, ⟨nd, rfl⟩⟩))
                                      go_roundg kj15
                                      case measure => have := HJ4.out; have := HK2.out; have := HJ15.out; omega
                                      case rel => exact ⟨(wrap64 (x7_2 + 1)), (by first | rfl | (simp; done) | (simp [*]; done)), H', ⟨by have := HJ4.out; have := HK2.out; have := HJ15.out; omega⟩, ⟨by (with_reducible repeat (first | apply Kd.R_alloc | apply Kd.R_drewN | apply Kd.R_drew)); exact Kd.R_mono HO_5.out (fun _ hk => trivial)⟩, ⟨by repeat (first | (with_reducible first | exact HB.out | apply below_alloc | apply pw_below_drewN | apply below_drew1 | refine below_set ?_ GE232.out) | exact HB.out)⟩⟩
                                    · replace c47 := Bool.eq_false_iff.mpr c47
                                      subst c47
                                      have H1 : (some false) = some r := by rw [if_neg (show ¬ (false = true) by decide)] at H; exact H
                                      clear H
                                      have H := H1
                                      clear H1
                                      obtain rfl := Option.some.inj H
                                      have hcz49_0 : wc.cell? ⟨gb232, 0, none⟩ = some (.int .i64 ((rd_T39 t227 x7_2).f0)) := (blk_cell BK232.out 0).trans rfl
                                      have hcz49_1 : wc.cell? ⟨gb232, 1, none⟩ = some (.int .i64 ((rd_T39 t227 x7_2).f1)) := (blk_cell BK232.out 1).trans rfl
                                      have hcz49_2 : wc.cell? ⟨gb232, 2, none⟩ = some (.int .i64 ((rd_T39 t227 x7_2).f2)) := (blk_cell BK232.out 2).trans rfl
                                      have hcz49_3 : wc.cell? ⟨gb232, 3, none⟩ = some (.int .i64 ((rd_T39 t227 x7_2).f3)) := (blk_cell BK232.out 3).trans rfl
                                      have hcz49_4 : wc.cell? ⟨gb232, 4, none⟩ = some (.int .i64 ((rd_T39 t227 x7_2).f4)) := (blk_cell BK232.out 4).trans rfl
                                      have hcz49_5 : wc.cell? ⟨gb232, 5, none⟩ = some (.int .i64 ((rd_T39 t227 x7_2).f5)) := (blk_cell BK232.out 5).trans rfl
                                      have hcz49_6 : wc.cell? ⟨gb232, 6, none⟩ = some (.int .i64 ((rd_T39 t227 x7_2).f6)) := (blk_cell BK232.out 6).trans rfl
                                      have hcz49_7 : wc.cell? ⟨gb232, 7, none⟩ = some (.int .i64 ((rd_T39 t227 x7_2).f7)) := (blk_cell BK232.out 7).trans rfl
                                      have hfz49_0 := blk_frozen BK232.out 0
                                      have hfz49_1 := blk_frozen BK232.out 1
                                      have hfz49_2 := blk_frozen BK232.out 2
                                      have hfz49_3 := blk_frozen BK232.out 3
                                      have hfz49_4 := blk_frozen BK232.out 4
                                      have hfz49_5 := blk_frozen BK232.out 5
                                      have hfz49_6 := blk_frozen BK232.out 6
                                      have hfz49_7 := blk_frozen BK232.out 7
                                      go_wp2_with (first | (go_at_call 15; (with_reducible refine (selvagelaw12_used.calls kj15 _ _ t227 ((rd_T39 t227 x7_2).f1) false _ ?side1 ?side2 A46.out).mono ?_); (case side1 => repeat (first | exact (Kd.R_reads' HO_5.out).2.2 | (with_reducible refine Kd.C_alloc ?_ _) | (with_reducible refine Kd.C_drewN ?_ _) | (with_reducible refine Kd.C_drew ?_))); (case side2 => exact (Kd.R_reads' HO_5.out).2.1); rintro e w' ⟨rfl, ⟨nd, rfl⟩⟩))
                                      go_ret
                                      exact ⟨by first | rfl | (simp [errW_none, errW_some] <;> rfl) | (simp [*, errW_none, errW_some] <;> rfl), by repeat (first | (with_reducible first | exact HB.out | apply below_alloc | apply pw_below_drewN | apply below_drew1 | refine below_set ?_ GE232.out) | exact HB.out)⟩
                              · replace c43 := Bool.eq_false_iff.mpr c43
                                subst c43
                                have H1 : (selvagelaw12_FoldLeast.l0 kj15 t227 (wrap64 (x7_2 + 1))) = some r := by rw [if_neg (show ¬ (false = true) by decide)] at H; exact H
                                clear H
                                have H := H1
                                clear H1
                                have H' := Aside0.mk H
                                clear H
                                go_wp2
                                go_roundg kj15
                                case measure => have := HJ4.out; have := HK2.out; have := HJ15.out; omega
                                case rel => exact ⟨(wrap64 (x7_2 + 1)), (by first | rfl | (simp; done) | (simp [*]; done)), H', ⟨by have := HJ4.out; have := HK2.out; have := HJ15.out; omega⟩, ⟨by (with_reducible repeat (first | apply Kd.R_alloc | apply Kd.R_drewN | apply Kd.R_drew)); exact Kd.R_mono HO_5.out (fun _ hk => trivial)⟩, ⟨by repeat (first | (with_reducible first | exact HB.out | apply below_alloc | apply pw_below_drewN | apply below_drew1 | refine below_set ?_ GE232.out) | exact HB.out)⟩⟩
                            · rw [if_neg c42] at H
                              have c42b0 : (((rd_T39 t227 x7_2).f0) == 5) = false := beq_eq_false_iff_ne.mpr c42
                              have c42b1 : (((rd_T39 t227 x7_2).f0) != 5) = true := bne_iff_ne.mpr c42
                              have HC50 := Aside0.mk H
                              clear H
                              go_upto_if 96 with (fail)
                              go_cut [96] (fun v96 wc => ∃ (kq : Nat) (x96_49 : Bool), v96 = .bool x96_49 ∧ Aside0 (selvagelaw12_FoldLeast.j3 kq t227 x7_2 t234 t236 x96_49 ((rd_T39 t227 x7_2).f0) ((rd_T39 t227 x7_2).f1) ((rd_T39 t227 x7_2).f2) ((rd_T39 t227 x7_2).f3) ((rd_T39 t227 x7_2).f4) ((rd_T39 t227 x7_2).f5) ((rd_T39 t227 x7_2).f6) ((rd_T39 t227 x7_2).f7) = some r) ∧ Aside0 (kq ≤ kj15) ∧ Aside0 (Kd.R k39 39 wc w.heap.size (fun k_ => k_ ≠ gb232) (.slice (some ad231) t227.length co17) t227) ∧ Aside0 (wc.heap[gb232]? = some (.cells #[.int .i64 ((rd_T39 t227 x7_2).f0), .int .i64 ((rd_T39 t227 x7_2).f1), .int .i64 ((rd_T39 t227 x7_2).f2), .int .i64 ((rd_T39 t227 x7_2).f3), .int .i64 ((rd_T39 t227 x7_2).f4), .int .i64 ((rd_T39 t227 x7_2).f5), .int .i64 ((rd_T39 t227 x7_2).f6), .int .i64 ((rd_T39 t227 x7_2).f7)] 39 (0, 0))) ∧ Aside0 (Below w.heap.size w wc))
                              case first =>
                                have H := HC50.out
                                clear HC50
                                by_cases c51 : ((rd_T39 t227 x7_2).f0) = 16
                                · rw [if_pos c51] at H
                                  have c51b0 : (((rd_T39 t227 x7_2).f0) == 16) = true := beq_iff_eq.mpr c51
                                  have c51b1 : (((rd_T39 t227 x7_2).f0) != 16) = false := bne_eq_false_iff_eq.mpr c51
                                  clear c51
                                  (first | rw [c51b0] | (simp only [i64_w, i32_w]; rw [c51b0]) | skip)
                                  have H' := Aside0.mk H
                                  clear H
                                  go_wp2
                                  go_meet
                                  case rel => exact ⟨_, ((((rd_T39 t227 x7_2).f0) == 16)), (by first | rfl | (simp; done) | (simp [*]; done)), H', ⟨by have := HJ4.out; have := HK2.out; have := HJ15.out; first | omega | exact Nat.le_refl _⟩, ⟨by (with_reducible repeat (first | apply Kd.R_alloc | apply Kd.R_drewN | apply Kd.R_drew)); exact HO_5.out⟩, ⟨by (with_reducible repeat (first | refine blk_drewN ?_ _ | refine blk_drew ?_ | refine blk_alloc ?_ _)); exact BK232.out⟩, ⟨by repeat (first | (with_reducible first | exact HB.out | apply below_alloc | apply pw_below_drewN | apply below_drew1 | refine below_set ?_ GE232.out) | exact HB.out)⟩⟩
                                · rw [if_neg c51] at H
                                  have c51b0 : (((rd_T39 t227 x7_2).f0) == 16) = false := beq_eq_false_iff_ne.mpr c51
                                  have c51b1 : (((rd_T39 t227 x7_2).f0) != 16) = true := bne_iff_ne.mpr c51
                                  (first | rw [c51b0] | (simp only [i64_w, i32_w]; rw [c51b0]) | skip)
                                  have H' := Aside0.mk H
                                  clear H
                                  go_wp2
                                  go_meet
                                  case rel => exact ⟨_, ((((rd_T39 t227 x7_2).f0) == 17)), (by first | rfl | (simp; done) | (simp [*]; done)), H', ⟨by have := HJ4.out; have := HK2.out; have := HJ15.out; first | omega | exact Nat.le_refl _⟩, ⟨by (with_reducible repeat (first | apply Kd.R_alloc | apply Kd.R_drewN | apply Kd.R_drew)); exact HO_5.out⟩, ⟨by (with_reducible repeat (first | refine blk_drewN ?_ _ | refine blk_drew ?_ | refine blk_alloc ?_ _)); exact BK232.out⟩, ⟨by repeat (first | (with_reducible first | exact HB.out | apply below_alloc | apply pw_below_drewN | apply below_drew1 | refine below_set ?_ GE232.out) | exact HB.out)⟩⟩
                              case rest =>
                                clear HC50
                                try clear c1
                                try clear c2
                                try clear p2
                                try clear q2
                                try clear hx2
                                try clear c3
                                try clear c4
                                try clear c5
                                try clear p6
                                try clear c7
                                try clear c7b0
                                try clear c7b1
                                try clear c8
                                try clear c9
                                try clear c10
                                try clear c10b0
                                try clear c10b1
                                try clear c12
                                try clear c12b0
                                try clear c13
                                try clear c13b0
                                try clear c14
                                try clear c15
                                try clear p23
                                try clear q23
                                try clear hx23
                                try clear c24
                                try clear c24b0
                                try clear c24b1
                                try clear c25
                                try clear c25b0
                                try clear c25b1
                                try clear c26
                                try clear c27
                                try clear c28
                                try clear c30
                                try clear c34
                                try clear c37
                                try clear c37b0
                                try clear c37b1
                                try clear c39
                                try clear c42
                                try clear c42b0
                                try clear c42b1
                                try clear c43
                                try clear c44
                                try clear c44b0
                                try clear c44b1
                                try clear c45
                                try clear c47
                                try clear c51
                                try clear c51b0
                                try clear c51b1
                                try clear hcz19_0
                                try clear hcz19_1
                                try clear hcz19_2
                                try clear hcz19_3
                                try clear hcz19_4
                                try clear hcz19_5
                                try clear hcz19_6
                                try clear hcz19_7
                                try clear hcz21_0
                                try clear hcz21_1
                                try clear hcz21_2
                                try clear hcz21_3
                                try clear hcz21_4
                                try clear hcz21_5
                                try clear hcz21_6
                                try clear hcz21_7
                                try clear hcz23_0
                                try clear hcz23_1
                                try clear hcz23_2
                                try clear hcz23_3
                                try clear hcz23_4
                                try clear hcz23_5
                                try clear hcz23_6
                                try clear hcz23_7
                                try clear hcz31_0
                                try clear hcz31_1
                                try clear hcz31_2
                                try clear hcz31_3
                                try clear hcz31_4
                                try clear hcz31_5
                                try clear hcz31_6
                                try clear hcz31_7
                                try clear hcz32_0
                                try clear hcz32_1
                                try clear hcz32_2
                                try clear hcz32_3
                                try clear hcz32_4
                                try clear hcz32_5
                                try clear hcz32_6
                                try clear hcz32_7
                                try clear hcz35_0
                                try clear hcz35_1
                                try clear hcz35_2
                                try clear hcz35_3
                                try clear hcz35_4
                                try clear hcz35_5
                                try clear hcz35_6
                                try clear hcz35_7
                                try clear hcz36_0
                                try clear hcz36_1
                                try clear hcz36_2
                                try clear hcz36_3
                                try clear hcz36_4
                                try clear hcz36_5
                                try clear hcz36_6
                                try clear hcz36_7
                                try clear hcz40_0
                                try clear hcz40_1
                                try clear hcz40_2
                                try clear hcz40_3
                                try clear hcz40_4
                                try clear hcz40_5
                                try clear hcz40_6
                                try clear hcz40_7
                                try clear hcz41_0
                                try clear hcz41_1
                                try clear hcz41_2
                                try clear hcz41_3
                                try clear hcz41_4
                                try clear hcz41_5
                                try clear hcz41_6
                                try clear hcz41_7
                                try clear hcz48_0
                                try clear hcz48_1
                                try clear hcz48_2
                                try clear hcz48_3
                                try clear hcz48_4
                                try clear hcz48_5
                                try clear hcz48_6
                                try clear hcz48_7
                                try clear hcz49_0
                                try clear hcz49_1
                                try clear hcz49_2
                                try clear hcz49_3
                                try clear hcz49_4
                                try clear hcz49_5
                                try clear hcz49_6
                                try clear hcz49_7
                                try clear hfz19_0
                                try clear hfz19_1
                                try clear hfz19_2
                                try clear hfz19_3
                                try clear hfz19_4
                                try clear hfz19_5
                                try clear hfz19_6
                                try clear hfz19_7
                                try clear hfz21_0
                                try clear hfz21_1
                                try clear hfz21_2
                                try clear hfz21_3
                                try clear hfz21_4
                                try clear hfz21_5
                                try clear hfz21_6
                                try clear hfz21_7
                                try clear hfz23_0
                                try clear hfz23_1
                                try clear hfz23_2
                                try clear hfz23_3
                                try clear hfz23_4
                                try clear hfz23_5
                                try clear hfz23_6
                                try clear hfz23_7
                                try clear hfz31_0
                                try clear hfz31_1
                                try clear hfz31_2
                                try clear hfz31_3
                                try clear hfz31_4
                                try clear hfz31_5
                                try clear hfz31_6
                                try clear hfz31_7
                                try clear hfz32_0
                                try clear hfz32_1
                                try clear hfz32_2
                                try clear hfz32_3
                                try clear hfz32_4
                                try clear hfz32_5
                                try clear hfz32_6
                                try clear hfz32_7
                                try clear hfz35_0
                                try clear hfz35_1
                                try clear hfz35_2
                                try clear hfz35_3
                                try clear hfz35_4
                                try clear hfz35_5
                                try clear hfz35_6
                                try clear hfz35_7
                                try clear hfz36_0
                                try clear hfz36_1
                                try clear hfz36_2
                                try clear hfz36_3
                                try clear hfz36_4
                                try clear hfz36_5
                                try clear hfz36_6
                                try clear hfz36_7
                                try clear hfz40_0
                                try clear hfz40_1
                                try clear hfz40_2
                                try clear hfz40_3
                                try clear hfz40_4
                                try clear hfz40_5
                                try clear hfz40_6
                                try clear hfz40_7
                                try clear hfz41_0
                                try clear hfz41_1
                                try clear hfz41_2
                                try clear hfz41_3
                                try clear hfz41_4
                                try clear hfz41_5
                                try clear hfz41_6
                                try clear hfz41_7
                                try clear hfz48_0
                                try clear hfz48_1
                                try clear hfz48_2
                                try clear hfz48_3
                                try clear hfz48_4
                                try clear hfz48_5
                                try clear hfz48_6
                                try clear hfz48_7
                                try clear hfz49_0
                                try clear hfz49_1
                                try clear hfz49_2
                                try clear hfz49_3
                                try clear hfz49_4
                                try clear hfz49_5
                                try clear hfz49_6
                                try clear hfz49_7
                                try clear hx231_0
                                try clear hx231_1
                                try clear hx231_2
                                try clear hx231_3
                                try clear hx231_4
                                try clear hx231_5
                                try clear hx231_6
                                try clear hx231_7
                                try clear p2
                                try clear p23
                                try clear p231
                                try clear q2
                                try clear q23
                                try clear q231
                                obtain ⟨kq, x96_49, rfl, HA, HJ49, HO_5, BK232, HB⟩ := hcut
                                cases kq with
                                | zero => exact absurd HA.out (by simp [selvagelaw12_FoldLeast.j3])
                                | succ kj49 =>
                                  have H := HA.out
                                  clear HA
                                  simp only [selvagelaw12_FoldLeast.j3] at H
                                  by_cases c52 : x96_49 = true
                                  · subst c52
                                    have H1 : (if t234 = true then (if t236 = true then (some false) else (if ((rd_T39 t227 x7_2).f2) = ((rd_T39 t227 x7_2).f3) then (some false) else (selvagelaw12_FoldLeast.l0 kj49 t227 (wrap64 (x7_2 + 1))))) else (if ((rd_T39 t227 x7_2).f2) = ((rd_T39 t227 x7_2).f3) then (some false) else (selvagelaw12_FoldLeast.l0 kj49 t227 (wrap64 (x7_2 + 1))))) = some r := by rw [if_pos rfl] at H; exact H
                                    clear H
                                    have H := H1
                                    clear H1
                                    by_cases c53 : t234 = true
                                    · subst c53
                                      have H1 : (if t236 = true then (some false) else (if ((rd_T39 t227 x7_2).f2) = ((rd_T39 t227 x7_2).f3) then (some false) else (selvagelaw12_FoldLeast.l0 kj49 t227 (wrap64 (x7_2 + 1))))) = some r := by rw [if_pos rfl] at H; exact H
                                      clear H
                                      have H := H1
                                      clear H1
                                      by_cases c54 : t236 = true
                                      · subst c54
                                        have H1 : (some false) = some r := by rw [if_pos rfl] at H; exact H
                                        clear H
                                        have H := H1
                                        clear H1
                                        obtain rfl := Option.some.inj H
                                        go_wp2
                                        go_ret
                                        exact ⟨by first | rfl | (simp [errW_none, errW_some] <;> rfl) | (simp [*, errW_none, errW_some] <;> rfl), by repeat (first | (with_reducible first | exact HB.out | apply below_alloc | apply pw_below_drewN | apply below_drew1 | refine below_set ?_ GE232.out) | exact HB.out)⟩
                                      · replace c54 := Bool.eq_false_iff.mpr c54
                                        subst c54
                                        have H1 : (if ((rd_T39 t227 x7_2).f2) = ((rd_T39 t227 x7_2).f3) then (some false) else (selvagelaw12_FoldLeast.l0 kj49 t227 (wrap64 (x7_2 + 1)))) = some r := by rw [if_neg (show ¬ (false = true) by decide)] at H; exact H
                                        clear H
                                        have H := H1
                                        clear H1
                                        by_cases c55 : ((rd_T39 t227 x7_2).f2) = ((rd_T39 t227 x7_2).f3)
                                        · rw [if_pos c55] at H
                                          have c55b0 : (((rd_T39 t227 x7_2).f2) == ((rd_T39 t227 x7_2).f3)) = true := beq_iff_eq.mpr c55
                                          have c55b1 : (((rd_T39 t227 x7_2).f2) != ((rd_T39 t227 x7_2).f3)) = false := bne_eq_false_iff_eq.mpr c55
                                          clear c55
                                          obtain rfl := Option.some.inj H
                                          have hcz56_0 : wc.cell? ⟨gb232, 0, none⟩ = some (.int .i64 ((rd_T39 t227 x7_2).f0)) := (blk_cell BK232.out 0).trans rfl
                                          have hcz56_1 : wc.cell? ⟨gb232, 1, none⟩ = some (.int .i64 ((rd_T39 t227 x7_2).f1)) := (blk_cell BK232.out 1).trans rfl
                                          have hcz56_2 : wc.cell? ⟨gb232, 2, none⟩ = some (.int .i64 ((rd_T39 t227 x7_2).f2)) := (blk_cell BK232.out 2).trans rfl
                                          have hcz56_3 : wc.cell? ⟨gb232, 3, none⟩ = some (.int .i64 ((rd_T39 t227 x7_2).f3)) := (blk_cell BK232.out 3).trans rfl
                                          have hcz56_4 : wc.cell? ⟨gb232, 4, none⟩ = some (.int .i64 ((rd_T39 t227 x7_2).f4)) := (blk_cell BK232.out 4).trans rfl
                                          have hcz56_5 : wc.cell? ⟨gb232, 5, none⟩ = some (.int .i64 ((rd_T39 t227 x7_2).f5)) := (blk_cell BK232.out 5).trans rfl
                                          have hcz56_6 : wc.cell? ⟨gb232, 6, none⟩ = some (.int .i64 ((rd_T39 t227 x7_2).f6)) := (blk_cell BK232.out 6).trans rfl
                                          have hcz56_7 : wc.cell? ⟨gb232, 7, none⟩ = some (.int .i64 ((rd_T39 t227 x7_2).f7)) := (blk_cell BK232.out 7).trans rfl
                                          have hfz56_0 := blk_frozen BK232.out 0
                                          have hfz56_1 := blk_frozen BK232.out 1
                                          have hfz56_2 := blk_frozen BK232.out 2
                                          have hfz56_3 := blk_frozen BK232.out 3
                                          have hfz56_4 := blk_frozen BK232.out 4
                                          have hfz56_5 := blk_frozen BK232.out 5
                                          have hfz56_6 := blk_frozen BK232.out 6
                                          have hfz56_7 := blk_frozen BK232.out 7
                                          go_wp2
                                          go_ret
                                          exact ⟨by first | rfl | (simp [errW_none, errW_some] <;> rfl) | (simp [*, errW_none, errW_some] <;> rfl), by repeat (first | (with_reducible first | exact HB.out | apply below_alloc | apply pw_below_drewN | apply below_drew1 | refine below_set ?_ GE232.out) | exact HB.out)⟩
                                        · rw [if_neg c55] at H
                                          have c55b0 : (((rd_T39 t227 x7_2).f2) == ((rd_T39 t227 x7_2).f3)) = false := beq_eq_false_iff_ne.mpr c55
                                          have c55b1 : (((rd_T39 t227 x7_2).f2) != ((rd_T39 t227 x7_2).f3)) = true := bne_iff_ne.mpr c55
                                          have H' := Aside0.mk H
                                          clear H
                                          have hcz57_0 : wc.cell? ⟨gb232, 0, none⟩ = some (.int .i64 ((rd_T39 t227 x7_2).f0)) := (blk_cell BK232.out 0).trans rfl
                                          have hcz57_1 : wc.cell? ⟨gb232, 1, none⟩ = some (.int .i64 ((rd_T39 t227 x7_2).f1)) := (blk_cell BK232.out 1).trans rfl
                                          have hcz57_2 : wc.cell? ⟨gb232, 2, none⟩ = some (.int .i64 ((rd_T39 t227 x7_2).f2)) := (blk_cell BK232.out 2).trans rfl
                                          have hcz57_3 : wc.cell? ⟨gb232, 3, none⟩ = some (.int .i64 ((rd_T39 t227 x7_2).f3)) := (blk_cell BK232.out 3).trans rfl
                                          have hcz57_4 : wc.cell? ⟨gb232, 4, none⟩ = some (.int .i64 ((rd_T39 t227 x7_2).f4)) := (blk_cell BK232.out 4).trans rfl
                                          have hcz57_5 : wc.cell? ⟨gb232, 5, none⟩ = some (.int .i64 ((rd_T39 t227 x7_2).f5)) := (blk_cell BK232.out 5).trans rfl
                                          have hcz57_6 : wc.cell? ⟨gb232, 6, none⟩ = some (.int .i64 ((rd_T39 t227 x7_2).f6)) := (blk_cell BK232.out 6).trans rfl
                                          have hcz57_7 : wc.cell? ⟨gb232, 7, none⟩ = some (.int .i64 ((rd_T39 t227 x7_2).f7)) := (blk_cell BK232.out 7).trans rfl
                                          have hfz57_0 := blk_frozen BK232.out 0
                                          have hfz57_1 := blk_frozen BK232.out 1
                                          have hfz57_2 := blk_frozen BK232.out 2
                                          have hfz57_3 := blk_frozen BK232.out 3
                                          have hfz57_4 := blk_frozen BK232.out 4
                                          have hfz57_5 := blk_frozen BK232.out 5
                                          have hfz57_6 := blk_frozen BK232.out 6
                                          have hfz57_7 := blk_frozen BK232.out 7
                                          go_wp2
                                          go_roundg kj49
                                          case measure => have := HJ4.out; have := HK2.out; have := HJ15.out; have := HJ49.out; omega
                                          case rel => exact ⟨(wrap64 (x7_2 + 1)), (by first | rfl | (simp; done) | (simp [*]; done)), H', ⟨by have := HJ4.out; have := HK2.out; have := HJ15.out; have := HJ49.out; omega⟩, ⟨by (with_reducible repeat (first | apply Kd.R_alloc | apply Kd.R_drewN | apply Kd.R_drew)); exact Kd.R_mono HO_5.out (fun _ hk => trivial)⟩, ⟨by repeat (first | (with_reducible first | exact HB.out | apply below_alloc | apply pw_below_drewN | apply below_drew1 | refine below_set ?_ GE232.out) | exact HB.out)⟩⟩
                                    · replace c53 := Bool.eq_false_iff.mpr c53
                                      subst c53
                                      have H1 : (if ((rd_T39 t227 x7_2).f2) = ((rd_T39 t227 x7_2).f3) then (some false) else (selvagelaw12_FoldLeast.l0 kj49 t227 (wrap64 (x7_2 + 1)))) = some r := by rw [if_neg (show ¬ (false = true) by decide)] at H; exact H
                                      clear H
                                      have H := H1
                                      clear H1
                                      by_cases c58 : ((rd_T39 t227 x7_2).f2) = ((rd_T39 t227 x7_2).f3)
                                      · rw [if_pos c58] at H
                                        have c58b0 : (((rd_T39 t227 x7_2).f2) == ((rd_T39 t227 x7_2).f3)) = true := beq_iff_eq.mpr c58
                                        have c58b1 : (((rd_T39 t227 x7_2).f2) != ((rd_T39 t227 x7_2).f3)) = false := bne_eq_false_iff_eq.mpr c58
                                        clear c58
                                        obtain rfl := Option.some.inj H
                                        have hcz59_0 : wc.cell? ⟨gb232, 0, none⟩ = some (.int .i64 ((rd_T39 t227 x7_2).f0)) := (blk_cell BK232.out 0).trans rfl
                                        have hcz59_1 : wc.cell? ⟨gb232, 1, none⟩ = some (.int .i64 ((rd_T39 t227 x7_2).f1)) := (blk_cell BK232.out 1).trans rfl
                                        have hcz59_2 : wc.cell? ⟨gb232, 2, none⟩ = some (.int .i64 ((rd_T39 t227 x7_2).f2)) := (blk_cell BK232.out 2).trans rfl
                                        have hcz59_3 : wc.cell? ⟨gb232, 3, none⟩ = some (.int .i64 ((rd_T39 t227 x7_2).f3)) := (blk_cell BK232.out 3).trans rfl
                                        have hcz59_4 : wc.cell? ⟨gb232, 4, none⟩ = some (.int .i64 ((rd_T39 t227 x7_2).f4)) := (blk_cell BK232.out 4).trans rfl
                                        have hcz59_5 : wc.cell? ⟨gb232, 5, none⟩ = some (.int .i64 ((rd_T39 t227 x7_2).f5)) := (blk_cell BK232.out 5).trans rfl
                                        have hcz59_6 : wc.cell? ⟨gb232, 6, none⟩ = some (.int .i64 ((rd_T39 t227 x7_2).f6)) := (blk_cell BK232.out 6).trans rfl
                                        have hcz59_7 : wc.cell? ⟨gb232, 7, none⟩ = some (.int .i64 ((rd_T39 t227 x7_2).f7)) := (blk_cell BK232.out 7).trans rfl
                                        have hfz59_0 := blk_frozen BK232.out 0
                                        have hfz59_1 := blk_frozen BK232.out 1
                                        have hfz59_2 := blk_frozen BK232.out 2
                                        have hfz59_3 := blk_frozen BK232.out 3
                                        have hfz59_4 := blk_frozen BK232.out 4
                                        have hfz59_5 := blk_frozen BK232.out 5
                                        have hfz59_6 := blk_frozen BK232.out 6
                                        have hfz59_7 := blk_frozen BK232.out 7
                                        go_wp2
                                        go_ret
                                        exact ⟨by first | rfl | (simp [errW_none, errW_some] <;> rfl) | (simp [*, errW_none, errW_some] <;> rfl), by repeat (first | (with_reducible first | exact HB.out | apply below_alloc | apply pw_below_drewN | apply below_drew1 | refine below_set ?_ GE232.out) | exact HB.out)⟩
                                      · rw [if_neg c58] at H
                                        have c58b0 : (((rd_T39 t227 x7_2).f2) == ((rd_T39 t227 x7_2).f3)) = false := beq_eq_false_iff_ne.mpr c58
                                        have c58b1 : (((rd_T39 t227 x7_2).f2) != ((rd_T39 t227 x7_2).f3)) = true := bne_iff_ne.mpr c58
                                        have H' := Aside0.mk H
                                        clear H
                                        have hcz60_0 : wc.cell? ⟨gb232, 0, none⟩ = some (.int .i64 ((rd_T39 t227 x7_2).f0)) := (blk_cell BK232.out 0).trans rfl
                                        have hcz60_1 : wc.cell? ⟨gb232, 1, none⟩ = some (.int .i64 ((rd_T39 t227 x7_2).f1)) := (blk_cell BK232.out 1).trans rfl
                                        have hcz60_2 : wc.cell? ⟨gb232, 2, none⟩ = some (.int .i64 ((rd_T39 t227 x7_2).f2)) := (blk_cell BK232.out 2).trans rfl
                                        have hcz60_3 : wc.cell? ⟨gb232, 3, none⟩ = some (.int .i64 ((rd_T39 t227 x7_2).f3)) := (blk_cell BK232.out 3).trans rfl
                                        have hcz60_4 : wc.cell? ⟨gb232, 4, none⟩ = some (.int .i64 ((rd_T39 t227 x7_2).f4)) := (blk_cell BK232.out 4).trans rfl
                                        have hcz60_5 : wc.cell? ⟨gb232, 5, none⟩ = some (.int .i64 ((rd_T39 t227 x7_2).f5)) := (blk_cell BK232.out 5).trans rfl
                                        have hcz60_6 : wc.cell? ⟨gb232, 6, none⟩ = some (.int .i64 ((rd_T39 t227 x7_2).f6)) := (blk_cell BK232.out 6).trans rfl
                                        have hcz60_7 : wc.cell? ⟨gb232, 7, none⟩ = some (.int .i64 ((rd_T39 t227 x7_2).f7)) := (blk_cell BK232.out 7).trans rfl
                                        have hfz60_0 := blk_frozen BK232.out 0
                                        have hfz60_1 := blk_frozen BK232.out 1
                                        have hfz60_2 := blk_frozen BK232.out 2
                                        have hfz60_3 := blk_frozen BK232.out 3
                                        have hfz60_4 := blk_frozen BK232.out 4
                                        have hfz60_5 := blk_frozen BK232.out 5
                                        have hfz60_6 := blk_frozen BK232.out 6
                                        have hfz60_7 := blk_frozen BK232.out 7
                                        go_wp2
                                        go_roundg kj49
                                        case measure => have := HJ4.out; have := HK2.out; have := HJ15.out; have := HJ49.out; omega
                                        case rel => exact ⟨(wrap64 (x7_2 + 1)), (by first | rfl | (simp; done) | (simp [*]; done)), H', ⟨by have := HJ4.out; have := HK2.out; have := HJ15.out; have := HJ49.out; omega⟩, ⟨by (with_reducible repeat (first | apply Kd.R_alloc | apply Kd.R_drewN | apply Kd.R_drew)); exact Kd.R_mono HO_5.out (fun _ hk => trivial)⟩, ⟨by repeat (first | (with_reducible first | exact HB.out | apply below_alloc | apply pw_below_drewN | apply below_drew1 | refine below_set ?_ GE232.out) | exact HB.out)⟩⟩
                                  · replace c52 := Bool.eq_false_iff.mpr c52
                                    subst c52
                                    have H1 : (selvagelaw12_FoldLeast.l0 kj49 t227 (wrap64 (x7_2 + 1))) = some r := by rw [if_neg (show ¬ (false = true) by decide)] at H; exact H
                                    clear H
                                    have H := H1
                                    clear H1
                                    have H' := Aside0.mk H
                                    clear H
                                    go_wp2
                                    go_roundg kj49
                                    case measure => have := HJ4.out; have := HK2.out; have := HJ15.out; have := HJ49.out; omega
                                    case rel => exact ⟨(wrap64 (x7_2 + 1)), (by first | rfl | (simp; done) | (simp [*]; done)), H', ⟨by have := HJ4.out; have := HK2.out; have := HJ15.out; have := HJ49.out; omega⟩, ⟨by (with_reducible repeat (first | apply Kd.R_alloc | apply Kd.R_drewN | apply Kd.R_drew)); exact Kd.R_mono HO_5.out (fun _ hk => trivial)⟩, ⟨by repeat (first | (with_reducible first | exact HB.out | apply below_alloc | apply pw_below_drewN | apply below_drew1 | refine below_set ?_ GE232.out) | exact HB.out)⟩⟩
                  · rw [if_neg c13] at H
                    exact absurd H (by simp)
                · rw [if_neg c12] at H
                  have c12b0 : decide (x7_2 < (t227.length : Int)) = false := decide_eq_false c12
                  clear c12
                  obtain rfl := Option.some.inj H
                  obtain ⟨Ao61, co61, eo61⟩ := Kd.R_slice HO_5.out
                  subst eo61
                  go_wp2
                  go_ret
                  exact ⟨by first | rfl | (simp [errW_none, errW_some] <;> rfl) | (simp [*, errW_none, errW_some] <;> rfl), by repeat (first | (with_reducible first | exact HB.out | apply below_alloc | apply pw_below_drewN | apply below_drew1) | exact HB.out)⟩
          · rw [if_neg c10] at H
            have c10b0 : (t228 == 0) = false := beq_eq_false_iff_ne.mpr c10
            have c10b1 : (t228 != 0) = true := bne_iff_ne.mpr c10
            obtain rfl := Option.some.inj H
            go_wp2_with (first | ((with_reducible refine gate_callee (f := 9) rfl ?_); refine goesL_ (some 26) rfl rfl Try.func9 (by kernel_rfl) rfl #[.slice A0 l0.length c0, .slice A1 l1.length c1] rfl (by (try simp only [List.map_toArray, List.map_cons, List.map_nil]); first | done | rfl | (simp only [List.length_drop, List.length_take]; rfl)) ?_; (with_reducible refine (fold_Fold.calls _ _ l0 _ _ l1 t227 t228 _ ?side1 ?side2 ?side3 ?side4 A9.out).mono ?_); (case side1 => repeat (first | exact (Kd.C_below HR0.out HB.out) | (with_reducible refine Kd.C_alloc ?_ _) | (with_reducible refine Kd.C_drewN ?_ _) | (with_reducible refine Kd.C_drew ?_))); (case side2 => exact HC0.out); (case side3 => repeat (first | exact (Kd.C_below HR1.out HB.out) | (with_reducible refine Kd.C_alloc ?_ _) | (with_reducible refine Kd.C_drewN ?_ _) | (with_reducible refine Kd.C_drew ?_))); (case side4 => exact HC1.out); rintro e w62 ⟨v229, rfl, ho0, hb⟩; refine ⟨_, rfl, ?_⟩; have n0_ := Aside0.mk (Kd.R_lower ho0 (below_size (by repeat (first | (with_reducible first | exact HB.out | apply below_alloc | apply pw_below_drewN | apply below_drew1) | exact HB.out)))); have n1_ := Aside0.mk (below_step (by repeat (first | (with_reducible first | exact HB.out | apply below_alloc | apply pw_below_drewN | apply below_drew1) | exact HB.out)) hb); clear HB; have HO230 := n0_; have HB := n1_; clear n0_ n1_; (try clear hb); (try clear hb2); (try clear hk); (try clear hi); (try clear ho0)))
            go_ret
            exact ⟨by first | rfl | (simp [errW_none, errW_some] <;> rfl) | (simp [*, errW_none, errW_some] <;> rfl), by repeat (first | (with_reducible first | exact HB.out | apply below_alloc | apply pw_below_drewN | apply below_drew1) | exact HB.out)⟩
  · replace c4 := Bool.eq_false_iff.mpr c4
    subst c4
    have H1 : (some false) = some r := by rw [if_neg (show ¬ (false = true) by decide)] at H; exact H
    clear H
    have H := H1
    clear H1
    obtain rfl := Option.some.inj H
    go_enter Try.func5, Try.ntmps5
    go_wp2_with (first | ((with_reducible refine gate_callee (f := 7) rfl ?_); refine goesL_ (some 13) rfl rfl Try.func7 (by kernel_rfl) rfl #[] rfl (by (try simp only [List.map_toArray, List.map_cons, List.map_nil]); first | done | rfl | (simp only [List.length_drop, List.length_take]; rfl)) ?_; (with_reducible refine (selvagelaw12_awake.calls k  false _ A3.out).mono ?_); rintro e w63 ⟨rfl, hb⟩; refine ⟨_, rfl, ?_⟩; have n0_ := Aside0.mk (below_step (by repeat (first | (with_reducible first | exact HB.out | apply below_alloc | apply pw_below_drewN | apply below_drew1) | exact HB.out)) hb); clear HB; have HB := n0_; clear n0_; (try clear hb); (try clear hb2); (try clear hk); (try clear hi)))
    go_ret
    exact ⟨by first | rfl | (simp [errW_none, errW_some] <;> rfl) | (simp [*, errW_none, errW_some] <;> rfl), by repeat (first | (with_reducible first | exact HB.out | apply below_alloc | apply pw_below_drewN | apply below_drew1) | exact HB.out)⟩

end Go.Proofs.Ytaoefdbhfhcplaa.Q
