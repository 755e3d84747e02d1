/- The contract of the runner's do. -/
import Derived.Test.YtaoefdbhfhcplaaRunAsk
namespace Go.Proofs.Ytaoefdbhfhcplaa.Q
open Go.RowKit Go.Proofs.YtaoefdbhfhcplaaW.PrintWords Go.Proofs.YtaoefdbhfhcplaaW.PrintLast Go.Proofs.YtaoefdbhfhcplaaW.PrintMore Go.Proofs.Ytaoefdbhfhcplaa.IM
set_option linter.unusedVariables false
set_option linter.unusedSimpArgs false

structure Doable (x : S39) : Prop where
  op : x.f0 = 1 ∨ x.f0 = 2 ∨ x.f0 = 3 ∨ x.f0 = 4 ∨ x.f0 = 5 ∨ x.f0 = 6 ∨ x.f0 = 7 ∨ x.f0 = 8 ∨ x.f0 = 9 ∨ x.f0 = 10 ∨ x.f0 = 11 ∨ x.f0 = 12 ∨ x.f0 = 13 ∨ x.f0 = 14 ∨ x.f0 = 15 ∨ x.f0 = 16 ∨ x.f0 = 17 ∨ x.f0 = 18
  d : 0 ≤ x.f1 ∧ x.f1 < 400
  a : 0 ≤ x.f2 ∧ x.f2 < 400
  b : 0 ≤ x.f3 ∧ x.f3 < 400
  row : x.f0 = 13 ∨ x.f0 = 14 → 0 ≤ x.f4 ∧ x.f4 + x.f5 ≤ 9223372036854775807
theorem RunAt.putT {w0 w : World} {g : Nat} {s : RunSt} {av kv : Value} (h : RunAt w0 w g s av kv) (d : Int) (h0 : 0 ≤ d) (h1 : d < 400) (v : Int) : RunAt w0 (w.setCell ⟨g, d.toNat, none⟩ (.int .i64 v)) g (s.put d v) av kv :=
  h.set d.toNat (.int .i64 v) (s.put d v) av kv (by have := h.len; unfold RunSt.put; rw [List.length_set]; exact this) (rc_set_temp _ _ _ h.len _ h0 h1 v) h.ans rfl rfl
/-- What the switch leaves: nothing to ask, or what is asked. -/
def MidR (x : S39) (s : RunSt) (kd lc : Int) (s' : RunSt) : Prop := (kd = 0 ∧ stepP x s = .next s') ∨ (kd ≠ 0 ∧ s' = s ∧ stepP x s = askR x kd lc s)

set_option maxRecDepth 100000 in
set_option maxHeartbeats 16000000 in
theorem do_c (w0 w : World) (g : Nat) (s : RunSt) (av kv : Value) (h : RunAt w0 w g s av kv) (hl : s.acts.length ≤ 1000) (i : Int) (hi : 0 ≤ i ∧ i ≤ 1000) (x : S39) (hx : Doable x) :
    Calls Try.prog 25 #[.pointer (some ⟨g, 0, none⟩), .int .i64 i, .agg (xCells x)] w (StepPost w0 w g i x.f7 (stepP x s)) := by
  have hmf : ∀ (fn : Fn) (first cap : Array Value) (w : World), (Instr.makeFunc fn first cap).run Try.prog w = .ok (.func fn first cap) w := fun _ _ _ _ => rfl
  obtain ⟨gp, hgp⟩ : ∃ k, k = w.heap.size := ⟨_, rfl⟩
  obtain ⟨gx, hgx⟩ : ∃ k, k = w.heap.size + 1 := ⟨_, rfl⟩
  obtain ⟨w1, hw1⟩ : ∃ w1, w1 = (w.alloc (.cells #[.pointer (some ⟨g, 0, none⟩)] 57 (0, 0))).alloc (.cells (xCells x) 39 (0, 0)) := ⟨_, rfl⟩
  have hb1 : Below w.heap.size w w1 := by rw [hw1]; exact below_alloc (below_alloc (Below.refl _ _) _) _
  have hx1 : w1.heap[gx]? = some (.cells (xCells x) 39 (0, 0)) := by
    rw [hw1, hgx]
    show ((w.heap.push _).push _)[w.heap.size + 1]? = _
    rw [show w.heap.size + 1 = (w.heap.push (.cells #[.pointer (some ⟨g, 0, none⟩)] 57 (0, 0))).size from by simp]
    exact Array.getElem?_push_size
  have hp1 : w1.heap[gp]? = some (.cells #[.pointer (some ⟨g, 0, none⟩)] 57 (0, 0)) := by
    rw [hw1, hgp]
    show ((w.heap.push _).push _)[w.heap.size]? = _
    rw [Array.getElem?_push_lt (by simp), Array.getElem_push_eq]
  have HB1 := Aside0.mk hb1
  have HX1 := Aside0.mk hx1
  have HP1 := Aside0.mk hp1
  have HR1 := Aside0.mk (h.below hb1)
  have HW1 := Aside0.mk hw1
  have HGX := Aside0.mk hgx
  have HGP := Aside0.mk hgp
  have HX := Aside0.mk hx
  have hl1 := HR1.out.len
  clear h hb1 hx1 hp1 hw1 hgx hgp
  obtain ⟨op, hD, hA, hB, hrow⟩ := hx
  have HOP := Aside0.mk op
  have HROW := Aside0.mk hrow
  clear op hrow
  obtain ⟨va, hva⟩ : ∃ v, v = rd s.temps x.f2 := ⟨_, rfl⟩
  obtain ⟨vb, hvb⟩ : ∃ v, v = rd s.temps x.f3 := ⟨_, rfl⟩
  have cA := HR1.out.cT x.f2 hA.1 hA.2
  have cB := HR1.out.cT x.f3 hB.1 hB.2
  rw [← hva] at cA
  rw [← hvb] at cB
  have cp := blk_cell HP1.out 0
  have cx := fun j => blk_cell HX1.out j
  have cx0 := cx 0; have cx2 := cx 2; have cx3 := cx 3; have cx4 := cx 4
  clear cx
  simp only [xCells, List.getElem?_toArray, List.getElem?_cons_zero, List.getElem?_cons_succ] at cx0 cx2 cx3 cx4 cp
  have HVA := Aside0.mk hva
  have HVB := Aside0.mk hvb
  clear hva hvb hl1
  unfold xCells
  go_enter Try.func25, Try.ntmps25
  go_upto_region 1 with (fail)
  change Code.wp _ _ _ _ ((w.alloc (.cells #[.pointer (some ⟨g, 0, none⟩)] 57 (0, 0))).alloc (.cells (xCells x) 39 (0, 0)))
  rw [← HW1.out, ← HGX.out, ← HGP.out]
  go_cut [8, 9] (fun v8 v9 wc => v8 = .int .i64 va ∧ v9 = .int .i64 vb ∧ wc = w1.drew)
  case first =>
    --BEGIN P
    go_region_held3 (fun w' => w'.cell? ⟨gp, 0, none⟩ = some (.pointer (some ⟨g, 0, none⟩)) ∧ w'.cell? ⟨gx, 2, none⟩ = some (.int .i64 x.f2) ∧ w'.cell? ⟨gx, 3, none⟩ = some (.int .i64 x.f3) ∧ w'.cell? ⟨g, x.f2.toNat, none⟩ = some (.int .i64 va) ∧ w'.cell? ⟨g, x.f3.toNat, none⟩ = some (.int .i64 vb))
      (go_keep)
      (fail)
    all_goals
      go_wp2
      go_meet
      case rel => exact ⟨rfl, rfl, rfl⟩
    --END P
  case rest =>
    obtain ⟨rfl, rfl, rfl⟩ := hcut
    clear cA cB cx2 cx3
    go_upto_region 3 with (fail)
    go_cut [11, 12] (fun v11 v12 wc => v11 = .int .i64 0 ∧ v12 = .int .i64 x.f4 ∧ wc = w1.drew.drew)
    case first =>
      go_region_law (fail)
      all_goals
        go_wp2
        go_meet
        case rel => exact ⟨rfl, rfl, rfl⟩
    case rest =>
      obtain ⟨rfl, rfl, rfl⟩ := hcut
      clear cx4
      obtain ⟨w2, hw2⟩ : ∃ w2, w2 = w1.drew.drew := ⟨_, rfl⟩
      have hb2 : Below w1.heap.size w1 w2 := by rw [hw2]; exact (Below.refl _ _).drew.drew
      rw [← hw2]
      clear hw2
      have HX2 := Aside0.mk (blk_below HX1.out hb2)
      have HP2 := Aside0.mk (blk_below HP1.out hb2)
      have HR2 := Aside0.mk (HR1.out.below hb2)
      have HK2 := Aside0.mk ((Keeps.below HB1.out).trans (Keeps.below hb2))
      clear HB1 HX1 HP1 HR1 HW1 HGX HGP hb2 cp cx0
      have cx0 := blk_cell HX2.out 0
      simp only [xCells, List.getElem?_toArray, List.getElem?_cons_zero, List.getElem?_cons_succ] at cx0
      go_upto_block 0 with (fail)
      clear cx0
      go_cut [11, 12] (fun v11 v12 wc => ∃ (kd lc : Int) (s' : RunSt) (av' kv' : Value), v11 = .int .i64 kd ∧ v12 = .int .i64 lc ∧ Aside0 (MidR x s kd lc s' ∧ RunAt w0 wc g s' av' kv' ∧ Keeps w2 wc))
      case first =>
        have cp := blk_cell HP2.out 0
        have cx := fun j => blk_cell HX2.out j
        have cx0 := cx 0; have cx1 := cx 1; have cx2 := cx 2; have cx3 := cx 3; have cx4 := cx 4; have cx5 := cx 5; have cx6 := cx 6; have cx7 := cx 7
        clear cx
        simp only [xCells, List.getElem?_toArray, List.getElem?_cons_zero, List.getElem?_cons_succ] at cx0 cx1 cx2 cx3 cx4 cx5 cx6 cx7 cp
        have fT := HR2.out.fz x.f1.toNat
        have cT := HR2.out.cT x.f1 hD.1 hD.2
        have hgx : gx ≠ g := fun e => by have := HX2.out; rw [e, HR2.out.cell] at this; injection this with this; injection this with _ this; exact absurd this (by decide)
        have hgp : gp ≠ g := fun e => by have := HP2.out; rw [e, HR2.out.cell] at this; injection this with this; injection this with _ this; exact absurd this (by decide)
        have hgx2 : g ≠ gx := fun e => hgx e.symm
        have hgp2 : g ≠ gp := fun e => hgp e.symm
        rcases HOP.out with e | e | e | e | e | e | e | e | e | e | e | e | e | e | e | e | e | e
        · --1
          --BEGIN K1
          as_aux_lemma =>
            have b1 : (x.f0 == 1) = true := by rw [e]; rfl
            have E := Aside0.mk e
            clear e
            have HST : Aside0 (stepP x s = .next (s.put x.f1 x.f6)) := ⟨by unfold stepP; simp [E.out]⟩
            go_wp2
            go_region_held3 (fun w' => w'.cell? ⟨gp, 0, none⟩ = some (.pointer (some ⟨g, 0, none⟩)) ∧ w'.cell? ⟨gx, 1, none⟩ = some (.int .i64 x.f1) ∧ w'.cell? ⟨gx, 6, none⟩ = some (.int .i64 x.f6)) (go_keep) (fail)
            all_goals
              go_wp2
              go_meet
              case rel =>
                have hr := HR2.out.putT x.f1 hD.1 hD.2 (x.f6)
                refine ⟨0, x.f4, _, av, kv, rfl, rfl, ⟨.inl ⟨rfl, HST.out⟩, ?_⟩⟩
                exact ⟨hr.below (Below.refl _ _).drew, (Keeps.set HR2.out.cell _ _).trans (Keeps.below (Below.refl _ _).drew)⟩
          --END K1
        · --2
          --BEGIN K2
          as_aux_lemma =>
            have b1 : (x.f0 == 1) = false := by rw [e]; rfl
            have b2 : (x.f0 == 2) = true := by rw [e]; rfl
            have E := Aside0.mk e
            clear e
            have HST : Aside0 (stepP x s = .next (s.put x.f1 (IntKind.i64.wrap (va + vb)))) := ⟨by unfold stepP; simp [E.out, i64_w, HVA.out, HVB.out]⟩
            go_wp2
            go_region_held3 (fun w' => w'.cell? ⟨gp, 0, none⟩ = some (.pointer (some ⟨g, 0, none⟩)) ∧ w'.cell? ⟨gx, 1, none⟩ = some (.int .i64 x.f1) ∧ w'.cell? ⟨gx, 6, none⟩ = some (.int .i64 x.f6)) (go_keep) (fail)
            all_goals
              go_wp2
              go_meet
              case rel =>
                have hr := HR2.out.putT x.f1 hD.1 hD.2 (IntKind.i64.wrap (va + vb))
                refine ⟨0, x.f4, _, av, kv, rfl, rfl, ⟨.inl ⟨rfl, HST.out⟩, ?_⟩⟩
                exact ⟨hr.below (Below.refl _ _).drew, (Keeps.set HR2.out.cell _ _).trans (Keeps.below (Below.refl _ _).drew)⟩
          --END K2
        · --3
          --BEGIN K3
          as_aux_lemma =>
            have b1 : (x.f0 == 1) = false := by rw [e]; rfl
            have b2 : (x.f0 == 2) = false := by rw [e]; rfl
            have b3 : (x.f0 == 3) = true := by rw [e]; rfl
            have E := Aside0.mk e
            clear e
            have HST : Aside0 (stepP x s = .next (s.put x.f1 (IntKind.i64.wrap (va - vb)))) := ⟨by unfold stepP; simp [E.out, i64_w, HVA.out, HVB.out]⟩
            go_wp2
            go_region_held3 (fun w' => w'.cell? ⟨gp, 0, none⟩ = some (.pointer (some ⟨g, 0, none⟩)) ∧ w'.cell? ⟨gx, 1, none⟩ = some (.int .i64 x.f1) ∧ w'.cell? ⟨gx, 6, none⟩ = some (.int .i64 x.f6)) (go_keep) (fail)
            all_goals
              go_wp2
              go_meet
              case rel =>
                have hr := HR2.out.putT x.f1 hD.1 hD.2 (IntKind.i64.wrap (va - vb))
                refine ⟨0, x.f4, _, av, kv, rfl, rfl, ⟨.inl ⟨rfl, HST.out⟩, ?_⟩⟩
                exact ⟨hr.below (Below.refl _ _).drew, (Keeps.set HR2.out.cell _ _).trans (Keeps.below (Below.refl _ _).drew)⟩
          --END K3
        · --4
          --BEGIN K4
          as_aux_lemma =>
            have b1 : (x.f0 == 1) = false := by rw [e]; rfl
            have b2 : (x.f0 == 2) = false := by rw [e]; rfl
            have b3 : (x.f0 == 3) = false := by rw [e]; rfl
            have b4 : (x.f0 == 4) = true := by rw [e]; rfl
            have E := Aside0.mk e
            clear e
            have HST : Aside0 (stepP x s = .next (s.put x.f1 (IntKind.i64.wrap (va * vb)))) := ⟨by unfold stepP; simp [E.out, i64_w, HVA.out, HVB.out]⟩
            go_wp2
            go_region_held3 (fun w' => w'.cell? ⟨gp, 0, none⟩ = some (.pointer (some ⟨g, 0, none⟩)) ∧ w'.cell? ⟨gx, 1, none⟩ = some (.int .i64 x.f1) ∧ w'.cell? ⟨gx, 6, none⟩ = some (.int .i64 x.f6)) (go_keep) (fail)
            all_goals
              go_wp2
              go_meet
              case rel =>
                have hr := HR2.out.putT x.f1 hD.1 hD.2 (IntKind.i64.wrap (va * vb))
                refine ⟨0, x.f4, _, av, kv, rfl, rfl, ⟨.inl ⟨rfl, HST.out⟩, ?_⟩⟩
                exact ⟨hr.below (Below.refl _ _).drew, (Keeps.set HR2.out.cell _ _).trans (Keeps.below (Below.refl _ _).drew)⟩
          --END K4
        · --5
          --BEGIN K5
          as_aux_lemma =>
            have b1 : (x.f0 == 1) = false := by rw [e]; rfl
            have b2 : (x.f0 == 2) = false := by rw [e]; rfl
            have b3 : (x.f0 == 3) = false := by rw [e]; rfl
            have b4 : (x.f0 == 4) = false := by rw [e]; rfl
            have b5 : (x.f0 == 5) = true := by rw [e]; rfl
            have E := Aside0.mk e
            clear e
            by_cases hv : vb = 0
            · have bv : (vb == 0) = true := beq_iff_eq.2 hv
              have HST : Aside0 (stepP x s = .done s.acts 2) := ⟨by unfold stepP; rw [HVB.out] at hv; simp [E.out, hv]⟩
              clear hv
              go_wp2
              go_ret2
              rw [HST.out]
              exact ⟨rfl, ⟨_, _, _, rfl, HR2.out⟩, HK2.out⟩
            · have bv : (vb == 0) = false := beq_eq_false_iff_ne.2 hv
              have HST : Aside0 (stepP x s = .next (s.put x.f1 (IntKind.i64.wrap (va.tdiv vb)))) := ⟨by unfold stepP; rw [HVB.out] at hv; simp [E.out, i64_w, HVA.out, HVB.out, hv]⟩
              go_wp2
              go_region_held3 (fun w' => w'.cell? ⟨gp, 0, none⟩ = some (.pointer (some ⟨g, 0, none⟩)) ∧ w'.cell? ⟨gx, 1, none⟩ = some (.int .i64 x.f1) ∧ w'.cell? ⟨gx, 6, none⟩ = some (.int .i64 x.f6)) (go_keep) (fail)
              all_goals
                go_wp2
                go_meet
                case rel =>
                  have hr := HR2.out.putT x.f1 hD.1 hD.2 (IntKind.i64.wrap (va.tdiv vb))
                  refine ⟨0, x.f4, _, av, kv, rfl, rfl, ⟨.inl ⟨rfl, HST.out⟩, ?_⟩⟩
                  exact ⟨hr.below (Below.refl _ _).drew, (Keeps.set HR2.out.cell _ _).trans (Keeps.below (Below.refl _ _).drew)⟩
          --END K5
        · --6
          --BEGIN K6
          as_aux_lemma =>
            have b1 : (x.f0 == 1) = false := by rw [e]; rfl
            have b2 : (x.f0 == 2) = false := by rw [e]; rfl
            have b3 : (x.f0 == 3) = false := by rw [e]; rfl
            have b4 : (x.f0 == 4) = false := by rw [e]; rfl
            have b5 : (x.f0 == 5) = false := by rw [e]; rfl
            have b6 : (x.f0 == 6) = true := by rw [e]; rfl
            have E := Aside0.mk e
            clear e
            have HST : Aside0 (stepP x s = askR x 1 x.f4 s) := ⟨by unfold stepP; simp [E.out]⟩
            go_wp2
            go_meet
            case rel => exact ⟨1, x.f4, s, av, kv, rfl, rfl, ⟨.inr ⟨by decide, rfl, HST.out⟩, HR2.out, Keeps.refl _⟩⟩
          --END K6
        · --7
          --BEGIN K7
          as_aux_lemma =>
            have b1 : (x.f0 == 1) = false := by rw [e]; rfl
            have b2 : (x.f0 == 2) = false := by rw [e]; rfl
            have b3 : (x.f0 == 3) = false := by rw [e]; rfl
            have b4 : (x.f0 == 4) = false := by rw [e]; rfl
            have b5 : (x.f0 == 5) = false := by rw [e]; rfl
            have b6 : (x.f0 == 6) = false := by rw [e]; rfl
            have b8 : (x.f0 == 8) = false := by rw [e]; rfl
            have b10 : (x.f0 == 10) = false := by rw [e]; rfl
            have b11 : (x.f0 == 11) = false := by rw [e]; rfl
            have b7 : (x.f0 == 7) = true := by rw [e]; rfl
            have E := Aside0.mk e
            clear e
            have HST : Aside0 (stepP x s = .next (s.tell ⟨2, x.f4, 0, va⟩)) := ⟨by unfold stepP; simp [E.out, HVA.out]⟩
            go_wp2_with (go_at_call 36; refine (write_c w0 w2 g gp s av kv HR2.out HP2.out hl 2 (x.f4) va).mono ?_; rintro e w3 ⟨rfl, ⟨kv3, hr3⟩, hk3⟩; have HR3 := Aside0.mk hr3; have HK3 := Aside0.mk hk3; clear hr3 hk3)
            go_meet
            case rel => exact ⟨0, x.f4, _, av, kv3, rfl, rfl, ⟨.inl ⟨rfl, HST.out⟩, HR3.out, HK3.out⟩⟩
          --END K7
        · --8
          --BEGIN K8
          as_aux_lemma =>
            have b1 : (x.f0 == 1) = false := by rw [e]; rfl
            have b2 : (x.f0 == 2) = false := by rw [e]; rfl
            have b3 : (x.f0 == 3) = false := by rw [e]; rfl
            have b4 : (x.f0 == 4) = false := by rw [e]; rfl
            have b5 : (x.f0 == 5) = false := by rw [e]; rfl
            have b6 : (x.f0 == 6) = false := by rw [e]; rfl
            have b8 : (x.f0 == 8) = true := by rw [e]; rfl
            have E := Aside0.mk e
            clear e
            have HST : Aside0 (stepP x s = askR x 3 x.f4 s) := ⟨by unfold stepP; simp [E.out]⟩
            go_wp2
            go_meet
            case rel => exact ⟨3, x.f4, s, av, kv, rfl, rfl, ⟨.inr ⟨by decide, rfl, HST.out⟩, HR2.out, Keeps.refl _⟩⟩
          --END K8
        · --9
          --BEGIN K9
          as_aux_lemma =>
            have b1 : (x.f0 == 1) = false := by rw [e]; rfl
            have b2 : (x.f0 == 2) = false := by rw [e]; rfl
            have b3 : (x.f0 == 3) = false := by rw [e]; rfl
            have b4 : (x.f0 == 4) = false := by rw [e]; rfl
            have b5 : (x.f0 == 5) = false := by rw [e]; rfl
            have b6 : (x.f0 == 6) = false := by rw [e]; rfl
            have b8 : (x.f0 == 8) = false := by rw [e]; rfl
            have b10 : (x.f0 == 10) = false := by rw [e]; rfl
            have b11 : (x.f0 == 11) = false := by rw [e]; rfl
            have b7 : (x.f0 == 7) = false := by rw [e]; rfl
            have b9 : (x.f0 == 9) = true := by rw [e]; rfl
            have E := Aside0.mk e
            clear e
            have HST : Aside0 (stepP x s = .next (s.tell ⟨4, x.f4, 0, va⟩)) := ⟨by unfold stepP; simp [E.out, HVA.out]⟩
            go_wp2_with (go_at_call 36; refine (write_c w0 w2 g gp s av kv HR2.out HP2.out hl 4 (x.f4) va).mono ?_; rintro e w3 ⟨rfl, ⟨kv3, hr3⟩, hk3⟩; have HR3 := Aside0.mk hr3; have HK3 := Aside0.mk hk3; clear hr3 hk3)
            go_meet
            case rel => exact ⟨0, x.f4, _, av, kv3, rfl, rfl, ⟨.inl ⟨rfl, HST.out⟩, HR3.out, HK3.out⟩⟩
          --END K9
        · --10
          --BEGIN K10
          as_aux_lemma =>
            have b1 : (x.f0 == 1) = false := by rw [e]; rfl
            have b2 : (x.f0 == 2) = false := by rw [e]; rfl
            have b3 : (x.f0 == 3) = false := by rw [e]; rfl
            have b4 : (x.f0 == 4) = false := by rw [e]; rfl
            have b5 : (x.f0 == 5) = false := by rw [e]; rfl
            have b6 : (x.f0 == 6) = false := by rw [e]; rfl
            have b8 : (x.f0 == 8) = false := by rw [e]; rfl
            have b10 : (x.f0 == 10) = true := by rw [e]; rfl
            have E := Aside0.mk e
            clear e
            have HST : Aside0 (stepP x s = askR x 5 x.f4 s) := ⟨by unfold stepP; simp [E.out]⟩
            go_wp2
            go_meet
            case rel => exact ⟨5, x.f4, s, av, kv, rfl, rfl, ⟨.inr ⟨by decide, rfl, HST.out⟩, HR2.out, Keeps.refl _⟩⟩
          --END K10
        · --11
          --BEGIN K11
          as_aux_lemma =>
            have b1 : (x.f0 == 1) = false := by rw [e]; rfl
            have b2 : (x.f0 == 2) = false := by rw [e]; rfl
            have b3 : (x.f0 == 3) = false := by rw [e]; rfl
            have b4 : (x.f0 == 4) = false := by rw [e]; rfl
            have b5 : (x.f0 == 5) = false := by rw [e]; rfl
            have b6 : (x.f0 == 6) = false := by rw [e]; rfl
            have b8 : (x.f0 == 8) = false := by rw [e]; rfl
            have b10 : (x.f0 == 10) = false := by rw [e]; rfl
            have b11 : (x.f0 == 11) = true := by rw [e]; rfl
            have E := Aside0.mk e
            clear e
            have HST : Aside0 (stepP x s = askR x 5 x.f4 s) := ⟨by unfold stepP; simp [E.out]⟩
            go_wp2
            go_meet
            case rel => exact ⟨5, x.f4, s, av, kv, rfl, rfl, ⟨.inr ⟨by decide, rfl, HST.out⟩, HR2.out, Keeps.refl _⟩⟩
          --END K11
        · --12
          --BEGIN K12
          as_aux_lemma =>
            have b1 : (x.f0 == 1) = false := by rw [e]; rfl
            have b2 : (x.f0 == 2) = false := by rw [e]; rfl
            have b3 : (x.f0 == 3) = false := by rw [e]; rfl
            have b4 : (x.f0 == 4) = false := by rw [e]; rfl
            have b5 : (x.f0 == 5) = false := by rw [e]; rfl
            have b6 : (x.f0 == 6) = false := by rw [e]; rfl
            have b8 : (x.f0 == 8) = false := by rw [e]; rfl
            have b10 : (x.f0 == 10) = false := by rw [e]; rfl
            have b11 : (x.f0 == 11) = false := by rw [e]; rfl
            have b7 : (x.f0 == 7) = false := by rw [e]; rfl
            have b9 : (x.f0 == 9) = false := by rw [e]; rfl
            have b13 : (x.f0 == 13) = false := by rw [e]; rfl
            have b14 : (x.f0 == 14) = false := by rw [e]; rfl
            have b15 : (x.f0 == 15) = false := by rw [e]; rfl
            have b16 : (x.f0 == 16) = false := by rw [e]; rfl
            have b17 : (x.f0 == 17) = false := by rw [e]; rfl
            have b12 : (x.f0 == 12) = true := by rw [e]; rfl
            have E := Aside0.mk e
            clear e
            have HST : Aside0 (stepP x s = casesR x va vb s) := ⟨by unfold stepP casesR; simp [E.out, HVA.out, HVB.out]; cases s.ans <;> rfl⟩
            have HC := Aside0.mk (cases_c w0 w2 g s av kv HR2.out hl i hi x va vb)
            unfold xCells at HC
            obtain ⟨r, hr⟩ : ∃ r, r = casesR x va vb s := ⟨_, rfl⟩
            rw [← hr] at HC HST
            clear hr
            cases r with
            | done ac st =>
              go_wp2_with (go_at_call 37; refine HC.out.mono ?_; rintro e w3 ⟨rfl, h3, hk3⟩; have H3 := Aside0.mk h3; have HK3 := Aside0.mk hk3; clear h3 hk3)
              go_ret2
              rw [HST.out]
              exact ⟨rfl, H3.out, HK2.out.trans HK3.out⟩
            | next s3 =>
              go_wp2_with (go_at_call 37; refine HC.out.mono ?_; rintro e w3 ⟨rfl, h3, hk3⟩; have H3 := Aside0.mk h3; have HK3 := Aside0.mk hk3; clear h3 hk3)
              go_ret2
              rw [HST.out]
              exact ⟨rfl, H3.out, HK2.out.trans HK3.out⟩
            | jump s3 =>
              go_wp2_with (go_at_call 37; refine HC.out.mono ?_; rintro e w3 ⟨rfl, h3, hk3⟩; have H3 := Aside0.mk h3; have HK3 := Aside0.mk hk3; clear h3 hk3)
              go_ret2
              rw [HST.out]
              exact ⟨rfl, H3.out, HK2.out.trans HK3.out⟩
          --END K12
        · --13
          --BEGIN K13
          as_aux_lemma =>
            have b1 : (x.f0 == 1) = false := by rw [e]; rfl
            have b2 : (x.f0 == 2) = false := by rw [e]; rfl
            have b3 : (x.f0 == 3) = false := by rw [e]; rfl
            have b4 : (x.f0 == 4) = false := by rw [e]; rfl
            have b5 : (x.f0 == 5) = false := by rw [e]; rfl
            have b6 : (x.f0 == 6) = false := by rw [e]; rfl
            have b8 : (x.f0 == 8) = false := by rw [e]; rfl
            have b10 : (x.f0 == 10) = false := by rw [e]; rfl
            have b11 : (x.f0 == 11) = false := by rw [e]; rfl
            have b7 : (x.f0 == 7) = false := by rw [e]; rfl
            have b9 : (x.f0 == 9) = false := by rw [e]; rfl
            have b13 : (x.f0 == 13) = true := by rw [e]; rfl
            have b14 : (x.f0 == 14) = false := by rw [e]; rfl
            have b15 : (x.f0 == 15) = false := by rw [e]; rfl
            have b16 : (x.f0 == 16) = false := by rw [e]; rfl
            have b17 : (x.f0 == 17) = false := by rw [e]; rfl
            have b12 : (x.f0 == 12) = false := by rw [e]; rfl
            have b18 : (x.f0 == 18) = false := by rw [e]; rfl
            have b14' : (x.f0 == 14) = false := by rw [e]; rfl
            have E := Aside0.mk e
            clear e
            obtain ⟨r0, r1⟩ := HROW.out (by rw [E.out]; decide)
            by_cases hn : va < 0
            · have bn : decide (va < 0) = true := decide_eq_true hn
              have HST : Aside0 (stepP x s = .done s.acts 3) := ⟨by unfold stepP; rw [HVA.out] at hn; simp [E.out, hn]⟩
              clear r0 r1
              go_wp2
              go_ret2
              rw [HST.out]
              exact ⟨rfl, ⟨_, _, _, rfl, HR2.out⟩, HK2.out⟩
            · have bn : decide (va < 0) = false := decide_eq_false hn
              by_cases hm : x.f5 ≤ va
              · have bm : decide (x.f5 ≤ va) = true := decide_eq_true hm
                have HST : Aside0 (stepP x s = .done s.acts 3) := ⟨by unfold stepP; rw [HVA.out] at hm; simp [E.out, hm]⟩
                clear r0 r1 hm hn
                go_wp2
                go_ret2
                rw [HST.out]
                exact ⟨rfl, ⟨_, _, _, rfl, HR2.out⟩, HK2.out⟩
              · have bm : decide (x.f5 ≤ va) = false := decide_eq_false hm
                have hw : IntKind.i64.wrap (x.f4 + va) = x.f4 + va := by rw [IntKind.wrap_i64]; omega
                have HST : Aside0 (stepP x s = askR x 1 (x.f4 + va) s) := ⟨by unfold stepP; rw [HVA.out] at hm hn ⊢; simp [E.out]; omega⟩
                clear r0 r1 hm hn
                go_wp2
                go_meet
                case rel => exact ⟨1, x.f4 + va, s, av, kv, rfl, rfl, ⟨.inr ⟨by decide, rfl, HST.out⟩, HR2.out, Keeps.refl _⟩⟩
          --END K13
        · --14
          --BEGIN K14
          as_aux_lemma =>
            have b1 : (x.f0 == 1) = false := by rw [e]; rfl
            have b2 : (x.f0 == 2) = false := by rw [e]; rfl
            have b3 : (x.f0 == 3) = false := by rw [e]; rfl
            have b4 : (x.f0 == 4) = false := by rw [e]; rfl
            have b5 : (x.f0 == 5) = false := by rw [e]; rfl
            have b6 : (x.f0 == 6) = false := by rw [e]; rfl
            have b8 : (x.f0 == 8) = false := by rw [e]; rfl
            have b10 : (x.f0 == 10) = false := by rw [e]; rfl
            have b11 : (x.f0 == 11) = false := by rw [e]; rfl
            have b7 : (x.f0 == 7) = false := by rw [e]; rfl
            have b9 : (x.f0 == 9) = false := by rw [e]; rfl
            have b13 : (x.f0 == 13) = false := by rw [e]; rfl
            have b14 : (x.f0 == 14) = true := by rw [e]; rfl
            have b15 : (x.f0 == 15) = false := by rw [e]; rfl
            have b16 : (x.f0 == 16) = false := by rw [e]; rfl
            have b17 : (x.f0 == 17) = false := by rw [e]; rfl
            have b12 : (x.f0 == 12) = false := by rw [e]; rfl
            have b18 : (x.f0 == 18) = false := by rw [e]; rfl
            have E := Aside0.mk e
            clear e
            obtain ⟨r0, r1⟩ := HROW.out (by rw [E.out]; decide)
            by_cases hn : va < 0
            · have bn : decide (va < 0) = true := decide_eq_true hn
              have HST : Aside0 (stepP x s = .done s.acts 3) := ⟨by unfold stepP; rw [HVA.out] at hn; simp [E.out, hn]⟩
              clear r0 r1
              go_wp2
              go_ret2
              rw [HST.out]
              exact ⟨rfl, ⟨_, _, _, rfl, HR2.out⟩, HK2.out⟩
            · have bn : decide (va < 0) = false := decide_eq_false hn
              by_cases hm : x.f5 ≤ va
              · have bm : decide (x.f5 ≤ va) = true := decide_eq_true hm
                have HST : Aside0 (stepP x s = .done s.acts 3) := ⟨by unfold stepP; rw [HVA.out] at hm; simp [E.out, hm]⟩
                clear r0 r1 hm hn
                go_wp2
                go_ret2
                rw [HST.out]
                exact ⟨rfl, ⟨_, _, _, rfl, HR2.out⟩, HK2.out⟩
              · have bm : decide (x.f5 ≤ va) = false := decide_eq_false hm
                have hw : IntKind.i64.wrap (x.f4 + va) = x.f4 + va := by rw [IntKind.wrap_i64]; omega
                have HST : Aside0 (stepP x s = .next (s.tell ⟨2, x.f4 + va, 0, vb⟩)) := ⟨by unfold stepP; rw [HVA.out] at hm hn ⊢; rw [HVB.out]; simp [E.out]; omega⟩
                clear r0 r1 hm hn
                go_wp2_with (go_at_call 36; refine (write_c w0 w2 g gp s av kv HR2.out HP2.out hl 2 (x.f4 + va) vb).mono ?_; rintro e w3 ⟨rfl, ⟨kv3, hr3⟩, hk3⟩; have HR3 := Aside0.mk hr3; have HK3 := Aside0.mk hk3; clear hr3 hk3)
                go_meet
                case rel => exact ⟨0, _, _, av, kv3, rfl, rfl, ⟨.inl ⟨rfl, HST.out⟩, HR3.out, HK3.out⟩⟩
          --END K14
        · --15
          --BEGIN K15
          as_aux_lemma =>
            have b1 : (x.f0 == 1) = false := by rw [e]; rfl
            have b2 : (x.f0 == 2) = false := by rw [e]; rfl
            have b3 : (x.f0 == 3) = false := by rw [e]; rfl
            have b4 : (x.f0 == 4) = false := by rw [e]; rfl
            have b5 : (x.f0 == 5) = false := by rw [e]; rfl
            have b6 : (x.f0 == 6) = false := by rw [e]; rfl
            have b8 : (x.f0 == 8) = false := by rw [e]; rfl
            have b10 : (x.f0 == 10) = false := by rw [e]; rfl
            have b11 : (x.f0 == 11) = false := by rw [e]; rfl
            have b7 : (x.f0 == 7) = false := by rw [e]; rfl
            have b9 : (x.f0 == 9) = false := by rw [e]; rfl
            have b13 : (x.f0 == 13) = false := by rw [e]; rfl
            have b14 : (x.f0 == 14) = false := by rw [e]; rfl
            have b15 : (x.f0 == 15) = true := by rw [e]; rfl
            have E := Aside0.mk e
            clear e
            have HST : Aside0 (stepP x s = .next (s.tell ⟨6, 0, 0, va⟩)) := ⟨by unfold stepP; simp [E.out, HVA.out]⟩
            go_wp2_with (go_at_call 36; refine (write_c w0 w2 g gp s av kv HR2.out HP2.out hl 6 (0) va).mono ?_; rintro e w3 ⟨rfl, ⟨kv3, hr3⟩, hk3⟩; have HR3 := Aside0.mk hr3; have HK3 := Aside0.mk hk3; clear hr3 hk3)
            go_meet
            case rel => exact ⟨0, x.f4, _, av, kv3, rfl, rfl, ⟨.inl ⟨rfl, HST.out⟩, HR3.out, HK3.out⟩⟩
          --END K15
        · --16
          --BEGIN K16
          as_aux_lemma =>
            have b1 : (x.f0 == 1) = false := by rw [e]; rfl
            have b2 : (x.f0 == 2) = false := by rw [e]; rfl
            have b3 : (x.f0 == 3) = false := by rw [e]; rfl
            have b4 : (x.f0 == 4) = false := by rw [e]; rfl
            have b5 : (x.f0 == 5) = false := by rw [e]; rfl
            have b6 : (x.f0 == 6) = false := by rw [e]; rfl
            have b8 : (x.f0 == 8) = false := by rw [e]; rfl
            have b10 : (x.f0 == 10) = false := by rw [e]; rfl
            have b11 : (x.f0 == 11) = false := by rw [e]; rfl
            have b7 : (x.f0 == 7) = false := by rw [e]; rfl
            have b9 : (x.f0 == 9) = false := by rw [e]; rfl
            have b13 : (x.f0 == 13) = false := by rw [e]; rfl
            have b14 : (x.f0 == 14) = false := by rw [e]; rfl
            have b15 : (x.f0 == 15) = false := by rw [e]; rfl
            have b16 : (x.f0 == 16) = true := by rw [e]; rfl
            have E := Aside0.mk e
            clear e
            by_cases hv : vb ≤ va
            · have bv : decide (vb ≤ va) = true := decide_eq_true hv
              have HST : Aside0 (stepP x s = .jump s) := ⟨by unfold stepP; rw [HVA.out, HVB.out] at hv; simp [E.out]; first | exact hv | omega⟩
              clear hv
              go_wp2
              go_ret2
              rw [HST.out]
              exact ⟨rfl, ⟨_, _, HR2.out⟩, HK2.out⟩
            · have bv : decide (vb ≤ va) = false := decide_eq_false hv
              have HST : Aside0 (stepP x s = .next s) := ⟨by unfold stepP; rw [HVA.out, HVB.out] at hv; simp [E.out]; first | exact Classical.not_not.1 hv | omega⟩
              clear hv
              go_wp2
              go_meet
              case rel => exact ⟨0, x.f4, s, av, kv, rfl, rfl, ⟨.inl ⟨rfl, HST.out⟩, HR2.out, Keeps.refl _⟩⟩
          --END K16
        · --17
          --BEGIN K17
          as_aux_lemma =>
            have b1 : (x.f0 == 1) = false := by rw [e]; rfl
            have b2 : (x.f0 == 2) = false := by rw [e]; rfl
            have b3 : (x.f0 == 3) = false := by rw [e]; rfl
            have b4 : (x.f0 == 4) = false := by rw [e]; rfl
            have b5 : (x.f0 == 5) = false := by rw [e]; rfl
            have b6 : (x.f0 == 6) = false := by rw [e]; rfl
            have b8 : (x.f0 == 8) = false := by rw [e]; rfl
            have b10 : (x.f0 == 10) = false := by rw [e]; rfl
            have b11 : (x.f0 == 11) = false := by rw [e]; rfl
            have b7 : (x.f0 == 7) = false := by rw [e]; rfl
            have b9 : (x.f0 == 9) = false := by rw [e]; rfl
            have b13 : (x.f0 == 13) = false := by rw [e]; rfl
            have b14 : (x.f0 == 14) = false := by rw [e]; rfl
            have b15 : (x.f0 == 15) = false := by rw [e]; rfl
            have b16 : (x.f0 == 16) = false := by rw [e]; rfl
            have b17 : (x.f0 == 17) = true := by rw [e]; rfl
            have E := Aside0.mk e
            clear e
            by_cases hv : ¬ va = vb
            · have bv : (va != vb) = true := bne_iff_ne.2 hv
              have HST : Aside0 (stepP x s = .jump s) := ⟨by unfold stepP; rw [HVA.out, HVB.out] at hv; simp [E.out]; first | exact hv | omega⟩
              clear hv
              go_wp2
              go_ret2
              rw [HST.out]
              exact ⟨rfl, ⟨_, _, HR2.out⟩, HK2.out⟩
            · have bv : (va != vb) = false := bne_eq_false_iff_eq.2 (Classical.not_not.1 hv)
              have HST : Aside0 (stepP x s = .next s) := ⟨by unfold stepP; rw [HVA.out, HVB.out] at hv; simp [E.out]; first | exact Classical.not_not.1 hv | omega⟩
              clear hv
              go_wp2
              go_meet
              case rel => exact ⟨0, x.f4, s, av, kv, rfl, rfl, ⟨.inl ⟨rfl, HST.out⟩, HR2.out, Keeps.refl _⟩⟩
          --END K17
        · --18
          --BEGIN K18
          as_aux_lemma =>
            have b1 : (x.f0 == 1) = false := by rw [e]; rfl
            have b2 : (x.f0 == 2) = false := by rw [e]; rfl
            have b3 : (x.f0 == 3) = false := by rw [e]; rfl
            have b4 : (x.f0 == 4) = false := by rw [e]; rfl
            have b5 : (x.f0 == 5) = false := by rw [e]; rfl
            have b6 : (x.f0 == 6) = false := by rw [e]; rfl
            have b8 : (x.f0 == 8) = false := by rw [e]; rfl
            have b10 : (x.f0 == 10) = false := by rw [e]; rfl
            have b11 : (x.f0 == 11) = false := by rw [e]; rfl
            have b7 : (x.f0 == 7) = false := by rw [e]; rfl
            have b9 : (x.f0 == 9) = false := by rw [e]; rfl
            have b13 : (x.f0 == 13) = false := by rw [e]; rfl
            have b14 : (x.f0 == 14) = false := by rw [e]; rfl
            have b15 : (x.f0 == 15) = false := by rw [e]; rfl
            have b16 : (x.f0 == 16) = false := by rw [e]; rfl
            have b17 : (x.f0 == 17) = false := by rw [e]; rfl
            have b12 : (x.f0 == 12) = false := by rw [e]; rfl
            have b18 : (x.f0 == 18) = true := by rw [e]; rfl
            have E := Aside0.mk e
            clear e
            have HST : Aside0 (stepP x s = .done s.acts 1) := ⟨by unfold stepP; simp [E.out]⟩
            go_wp2
            go_ret2
            rw [HST.out]
            exact ⟨rfl, ⟨_, _, _, rfl, HR2.out⟩, HK2.out⟩
          --END K18
      case rest =>
        --BEGIN R
        obtain ⟨kd, lc, s', av', kv', rfl, rfl, HM⟩ := hcut
        obtain ⟨hm, hr3, hk3⟩ := HM.out
        have HR3 := Aside0.mk hr3
        have HK3 := Aside0.mk (HK2.out.trans hk3)
        have HX3 := Aside0.mk (hk3.kept gx _ _ (by decide) (by decide) HX2.out)
        have HP3 := Aside0.mk (hk3.kept gp _ _ (by decide) (by decide) HP2.out)
        clear HM hr3 hk3 HX2 HP2 HR2 HK2
        rcases hm with ⟨hk0, hst⟩ | ⟨hk0, hs', hst⟩
        · have HST := Aside0.mk hst
          have bk : (kd != 0) = false := by rw [hk0]; rfl
          clear hst hk0
          go_wp2
          go_ret2
          rw [HST.out]
          exact ⟨rfl, ⟨_, _, HR3.out⟩, HK3.out⟩
        · subst hs'
          have HST := Aside0.mk hst
          have bk : (kd != 0) = true := bne_iff_ne.2 hk0
          have HC := Aside0.mk (ask_c w0 wc g s' av' kv' HR3.out hl x hD hA kd lc)
          unfold xCells at HC
          have cp := blk_cell HP3.out 0
          have cx := fun j => blk_cell HX3.out j
          have cx0 := cx 0; have cx1 := cx 1; have cx2 := cx 2; have cx3 := cx 3; have cx4 := cx 4; have cx5 := cx 5; have cx6 := cx 6; have cx7 := cx 7
          clear cx
          simp only [xCells, List.getElem?_toArray, List.getElem?_cons_zero, List.getElem?_cons_succ] at cx0 cx1 cx2 cx3 cx4 cx5 cx6 cx7 cp
          have H4 : Aside0 ((∀ ac st, askR x kd lc s' = .done ac st → st = 4) ∧ ∀ s3, askR x kd lc s' ≠ .jump s3) := ⟨⟨fun ac st h => by unfold askR at h; cases hh : s'.ans <;> rw [hh] at h <;> simp at h; exact h.2.symm, fun s3 h => by unfold askR at h; cases hh : s'.ans <;> rw [hh] at h <;> simp at h⟩⟩
          obtain ⟨r, hr⟩ : ∃ r, r = askR x kd lc s' := ⟨_, rfl⟩
          rw [← hr] at HC HST H4
          clear hr hst hk0
          cases r with
          | jump s3 => exact absurd rfl (H4.out.2 s3)
          | done ac st =>
            have h4 := H4.out.1 ac st rfl
            subst h4
            go_wp2_with (go_at_call 38; refine HC.out.mono ?_; rintro e w3 ⟨rfl, h3, hk3⟩; have H3 := Aside0.mk h3; have HK4 := Aside0.mk hk3; clear h3 hk3)
            go_ret2
            rw [HST.out]
            exact ⟨rfl, H3.out, HK3.out.trans HK4.out⟩
          | next s3 =>
            go_wp2_with (go_at_call 38; refine HC.out.mono ?_; rintro e w3 ⟨rfl, h3, hk3⟩; have H3 := Aside0.mk h3; have HK4 := Aside0.mk hk3; clear h3 hk3)
            go_ret2
            rw [HST.out]
            exact ⟨rfl, H3.out, HK3.out.trans HK4.out⟩
        --END R
end Go.Proofs.Ytaoefdbhfhcplaa.Q
