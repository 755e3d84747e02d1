/- The contract of tree.Right: may code be run on these locations? It answers rightB. -/
import Derived.Test.YtaoefdbhfhcplaaRightModel
import Derived.Test.YtaoefdbhfhcplaaCode
namespace Go.Proofs.Ytaoefdbhfhcplaa.Q
open Go.RowKit Go.Proofs.YtaoefdbhfhcplaaW.PrintWords Go.Proofs.YtaoefdbhfhcplaaW.PrintLast Go.Proofs.YtaoefdbhfhcplaaW.PrintMore Go.Proofs.Ytaoefdbhfhcplaa.IM
set_option linter.unusedVariables false
set_option linter.unusedSimpArgs false

theorem shape_c (op : Int) (w : World) : Calls Try.prog 27 #[.int .i64 op] w fun e w' => e = .returned (.tuple #[.agg #[.bool (hasD op), .bool (hasA op), .bool (hasB op), .bool (hasK op), .bool (hasTo op), .bool (hasPlace op), .bool (hasRow op), .bool (hasAtomic op)], .bool (isKind op)]) ∧ Below w.heap.size w w' := by
  obtain ⟨k, hk⟩ := shape_of op
  exact tree_shape.calls k op _ _ _ _ _ _ _ _ _ w hk
set_option maxHeartbeats 400000 in
theorem temp_c (u : Bool) (n : Int) (w : World) : Calls Try.prog 28 #[.bool u, .int .i64 n] w fun e w' => e = .returned (.bool (tempB u n)) ∧ w = w' := by
  cases u with
  | false =>
    go_enter Try.func28, Try.ntmps28
    go_wp2
    go_ret
    exact ⟨by simp [tempB], rfl⟩
  | true =>
    by_cases h1 : 0 ≤ n
    · have b1 : decide (0 ≤ n) = true := decide_eq_true h1
      by_cases h2 : n < 400
      · have b2 : decide (n < 400) = true := decide_eq_true h2
        go_enter Try.func28, Try.ntmps28
        go_wp2
        go_ret
        exact ⟨by simp [tempB, b1, b2], rfl⟩
      · have b2 : decide (n < 400) = false := decide_eq_false h2
        clear h2
        go_enter Try.func28, Try.ntmps28
        go_wp2
        go_ret
        exact ⟨by simp [tempB, b1, b2], rfl⟩
    · have b1 : decide (0 ≤ n) = false := decide_eq_false h1
      clear h1
      go_enter Try.func28, Try.ntmps28
      go_wp2
      go_ret
      exact ⟨by simp [tempB, b1], rfl⟩
theorem places_c (op : Int) (b0 b1 b2 b3 b4 : Bool) (x : S39) (A : Option Addr) (c : Nat) (l : List S80) (w : World) (hr : Kd.C k80 w A l.length l) (hc : l.length ≤ c) :
    Calls Try.prog 29 #[.agg #[.bool b0, .bool b1, .bool b2, .bool b3, .bool b4, .bool (hasPlace op), .bool (hasRow op), .bool (hasAtomic op)], .agg #[.int .i64 x.f0, .int .i64 x.f1, .int .i64 x.f2, .int .i64 x.f3, .int .i64 x.f4, .int .i64 x.f5, .int .i64 x.f6, .int .i64 x.f7], .slice A l.length c] w fun e w' => e = .returned (.bool (placesB op x.f4 x.f5 l)) ∧ Below w.heap.size w w' := by
  obtain ⟨k, hk⟩ := places_of b0 b1 b2 b3 b4 (hasPlace op) (hasRow op) (hasAtomic op) x l hr.2.1
  exact tree_places.calls k _ _ _ _ _ _ _ _ _ _ _ _ _ _ _ _ A c l _ w hr hc hk

theorem above_c (b n m : Nat) (M : Int → Option Int) (A : Option Addr) (c : Nat) (fr : List Int) (t i : Int) (w : World) (hl : fr.length = n)
    (hM : IMap Try.prog 3 3 w b m M) (hr : Kd.C (Kd.int .i64) w A fr.length fr) (ht : (Lit.int .i64 t).wf = true)
    (hfr : ∀ j : Int, 1 ≤ j → 0 ≤ rd fr j ∧ rd fr j < j) (hi0 : 0 ≤ i) (hi1 : i < n) (hn : n ≤ 100000) (hat : ∀ t v, M t = some v → 0 ≤ v) :
    Calls Try.prog 30 #[.map (some b), .slice A n c, .int .i64 t, .int .i64 i] w fun e w' => e = .returned (.bool (aboveB M fr t i)) ∧ w = w' := by
  subst hl
  exact above_calls b m M A c fr t i w hM hr ht (fun j h1 h2 => hfr j h1) hi0 hi1 hn (hat t)

/-- Three rows of the call's own: the ways, where one comes from, which temps are made. -/
structure RRows (code : List S39) (l : List S80) (w wr : World) (g6 g7 b8 c6 c7 : Nat) (s : RSt) (m : Nat) : Prop where
  r6 : Kd.R (Kd.int .i64) 3 wr w.heap.size (fun k => k = g6) (.slice (some ⟨g6, 0, none⟩) code.length c6) s.ways
  r7 : Kd.R (Kd.int .i64) 3 wr w.heap.size (fun k => k = g7) (.slice (some ⟨g7, 0, none⟩) code.length c7) s.frm
  r8 : IMap Try.prog 3 3 wr b8 m s.made
  bel : Below w.heap.size w wr
  h6 : w.heap.size ≤ g6
  h67 : g6 < g7
  h78 : g7 < b8
  h8 : b8 < wr.heap.size

theorem RRows.below {code : List S39} {l : List S80} {w wr W : World} {g6 g7 b8 c6 c7 : Nat} {s : RSt} {m : Nat} (h : RRows code l w wr g6 g7 b8 c6 c7 s m) (hb : Below wr.heap.size wr W) : RRows code l w W g6 g7 b8 c6 c7 s m :=
  ⟨Kd.R_below h.r6 hb, Kd.R_below h.r7 hb, h.r8.below hb h.h8, below_then h.bel h.bel.size hb, h.h6, h.h67, h.h78, Nat.lt_of_lt_of_le h.h8 hb.size⟩
theorem RRows.put6 {code : List S39} {l : List S80} {w wr : World} {g6 g7 b8 c6 c7 : Nat} {s : RSt} {m : Nat} (h : RRows code l w wr g6 g7 b8 c6 c7 s m) (j v : Int) :
    RRows code l w (wr.setCell ⟨g6, j.toNat, none⟩ (.int .i64 v)) g6 g7 b8 c6 c7 ⟨s.ways.set j.toNat v, s.frm, s.made⟩ m := by
  obtain ⟨h1, h2⟩ := Kd.R_putg h.r6 j v
  refine ⟨h1, Kd.R_grown h.r7 h2 (fun k hk => by rintro he; injection he with he; have := h.h67; omega), h.r8.kept h2 (by rintro he; injection he with he; have := h.h67; have := h.h78; omega), h.bel.grown h2 h.bel.size (fun k hk => by cases hk; exact h.h6), h.h6, h.h67, h.h78, Nat.lt_of_lt_of_le h.h8 h2.size⟩
theorem RRows.put7 {code : List S39} {l : List S80} {w wr : World} {g6 g7 b8 c6 c7 : Nat} {s : RSt} {m : Nat} (h : RRows code l w wr g6 g7 b8 c6 c7 s m) (j v : Int) :
    RRows code l w (wr.setCell ⟨g7, j.toNat, none⟩ (.int .i64 v)) g6 g7 b8 c6 c7 ⟨s.ways, s.frm.set j.toNat v, s.made⟩ m := by
  obtain ⟨h1, h2⟩ := Kd.R_putg h.r7 j v
  have h6 := h.h6
  have h67 := h.h67
  refine ⟨Kd.R_grown h.r6 h2 (fun k hk => by rintro he; injection he with he; omega), h1, h.r8.kept h2 (by rintro he; injection he with he; have := h.h78; omega), h.bel.grown h2 h.bel.size (fun k hk => by cases hk; omega), h.h6, h.h67, h.h78, Nat.lt_of_lt_of_le h.h8 h2.size⟩
theorem RRows.upd8 {code : List S39} {l : List S80} {w wr W : World} {g6 g7 b8 c6 c7 : Nat} {s : RSt} {m : Nat} (h : RRows code l w wr g6 g7 b8 c6 c7 s m) {k v : Int} (h1 : IMap Try.prog 3 3 W b8 (m + 1) (upd s.made k v)) (h2 : wr.grownBy W (some b8)) :
    RRows code l w W g6 g7 b8 c6 c7 ⟨s.ways, s.frm, upd s.made k v⟩ (m + 1) := by
  have h6 := h.h6
  have h67 := h.h67
  have h78 := h.h78
  exact ⟨Kd.R_grown h.r6 h2 (fun k hk => by rintro he; injection he with he; omega), Kd.R_grown h.r7 h2 (fun k hk => by rintro he; injection he with he; omega), h1, h.bel.grown h2 h.bel.size (fun k hk => by cases hk; omega), h6, h67, h78, Nat.lt_of_lt_of_le h.h8 h2.size⟩
/-- A piece's box, and the box of what its kind uses. -/
structure RBoxes (wr : World) (gx gu : Nat) (x : S39) : Prop where
  bx : wr.heap[gx]? = some (.cells #[.int .i64 x.f0, .int .i64 x.f1, .int .i64 x.f2, .int .i64 x.f3, .int .i64 x.f4, .int .i64 x.f5, .int .i64 x.f6, .int .i64 x.f7] 39 (0, 0))
  bu : wr.heap[gu]? = some (.cells #[.bool (hasD x.f0), .bool (hasA x.f0), .bool (hasB x.f0), .bool (hasK x.f0), .bool (hasTo x.f0), .bool (hasPlace x.f0), .bool (hasRow x.f0), .bool (hasAtomic x.f0)] 66 (0, 0))
theorem RBoxes.kept {wr W : World} {gx gu : Nat} {x : S39} {row : Option Nat} (h : RBoxes wr gx gu x) (hg : wr.grownBy W row) (h1 : some gx ≠ row) (h2 : some gu ≠ row) : RBoxes W gx gu x := ⟨blk_grown h.bx hg h1, blk_grown h.bu hg h2⟩
theorem RBoxes.far {wr : World} {gx gu : Nat} {x : S39} (h : RBoxes wr gx gu x) {p : Addr} (h1 : gx ≠ p.block) (h2 : gu ≠ p.block) (v : Value) : RBoxes (wr.setCell p v) gx gu x := ⟨blk_far h.bx h1 v, blk_far h.bu h2 v⟩
theorem RBoxes.below {wr W : World} {gx gu : Nat} {x : S39} (h : RBoxes wr gx gu x) (hb : Below wr.heap.size wr W) : RBoxes W gx gu x := ⟨blk_below h.bx hb, blk_below h.bu hb⟩

set_option maxRecDepth 100000 in
set_option maxHeartbeats 4000000 in
theorem right_body (A0 : Option Addr) (c0 : Nat) (code : List S39) (A1 : Option Addr) (c1 : Nat) (l : List S80) (w : World) (hr0 : Kd.C k39 w A0 code.length code) (hc0 : code.length ≤ c0) (hr1 : Kd.C k80 w A1 l.length l) (hc1 : l.length ≤ c1)
    (e1 : 1 ≤ code.length) (e2 : code.length ≤ 400) (c3 : (rd_T39 code ((code.length : Int) - 1)).f0 = 18) :
    Calls Try.prog 16 #[.slice A0 code.length c0, .slice A1 l.length c1] w fun e w' => e = .returned (.bool (upTo (ok1 code l) code.length && upTo (ok2 (rAt code code.length) code) code.length)) ∧ Below w.heap.size w w' := by
  have HR0 := Aside0.mk hr0
  have HR1 := Aside0.mk hr1
  clear hr0 hr1
  have hmm := @run_makeMap Try.prog
  obtain ⟨adl, hadl, hl0, -⟩ := at_T39 HR0.out ((code.length : Int) - 1) (by omega) (by omega)
  subst hadl
  rw [show ((code.length : Int) - 1).toNat = code.length - 1 from by omega] at hl0
  have d1 : decide ((code.length : Int) < 1) = false := by simp; omega
  have d2 : decide (400 < (code.length : Int)) = false := by simp; omega
  have c3b : ((rd_T39 code ((code.length : Int) - 1)).f0 != 18) = false := bne_eq_false_iff_eq.mpr c3
  have HC3 := Aside0.mk c3
  clear c3
  go_enter Try.func16, Try.ntmps16
  go_upto_region 5 with ((with_reducible refine gate_dst (N := 37) rfl ?_); refine Kd.R_make (Kd.int .i64) (w0 := w) w.heap.size 3 rfl (N := 37) rfl 54 _ _ rfl (code.length : Int) rfl rfl Try.underlying54 (.int .i64 0) 8 info3 rfl (by decide) (by decide) 0 (ok := fun k => k = w.heap.size) (okp := fun _ => False) rfl (fun _ h => h.elim) rfl (by omega) (by omega) (Below.refl _ _) (Nat.le_refl _) ?_; intro v6 w1 HO6 HB1 HG1 hb6)
  clear hl0 d1 d2 c3b
  obtain ⟨g6, c6, rfl, hg60, hg61, -⟩ := Kd.R_form HO6 (by simp; omega)
  have h6e : g6 = w.heap.size := HO6.1 g6 (by simp [Value.ownBlock])
  have HS6 : Aside0 (Kd.R (Kd.int .i64) 3 w1 w.heap.size (fun k => k = g6) (.slice (some ⟨g6, 0, none⟩) code.length c6) (rst0 code.length).ways) := ⟨by subst h6e; simpa [rst0] using HO6⟩
  have HB1' := Aside0.mk HB1
  clear HO6 hb6 h6e HG1 HB1
  simp only [List.length_replicate, Int.toNat_natCast]
  go_upto_region 6 with ((with_reducible refine gate_dst (N := 39) rfl ?_); refine Kd.R_make (Kd.int .i64) (w0 := w) w.heap.size 3 rfl (N := 39) rfl 54 _ _ rfl (code.length : Int) rfl rfl Try.underlying54 (.int .i64 0) 8 info3 rfl (by decide) (by decide) 0 (ok := fun k => k = w1.heap.size) (okp := fun _ => False) rfl (fun _ h => h.elim) rfl (by omega) (by omega) HB1'.out HB1'.out.size ?_; intro v7 w2 HO7 HB2 HG2 hb7)
  obtain ⟨g7, c7, rfl, hg70, hg71, -⟩ := Kd.R_form HO7 (by simp; omega)
  have h7e : g7 = w1.heap.size := HO7.1 g7 (by simp [Value.ownBlock])
  have h67 : g6 < g7 := by omega
  have HS7 : Aside0 (Kd.R (Kd.int .i64) 3 w2 w.heap.size (fun k => k = g7) (.slice (some ⟨g7, 0, none⟩) code.length c7) (rst0 code.length).frm) := ⟨by subst h7e; simpa [rst0] using HO7⟩
  have HS6' : Aside0 (Kd.R (Kd.int .i64) 3 w2 w.heap.size (fun k => k = g6) (.slice (some ⟨g6, 0, none⟩) code.length c6) (rst0 code.length).ways) := ⟨Kd.R_grown HS6.out HG2 (by simp)⟩
  have HB2' := Aside0.mk HB2
  clear HO7 hb7 h7e HG2 HB2 HS6 HB1'
  simp only [List.length_replicate, Int.toNat_natCast]
  go_wp2_with (fail)
  have HALL : Aside0 (RRows code l w (w2.alloc (.map #[] 0)) g6 g7 w2.heap.size c6 c7 (rAt code 0) 0) := ⟨⟨Kd.R_below HS6'.out ((Below.refl _ _).alloc (Nat.le_refl _) _), Kd.R_below HS7.out ((Below.refl _ _).alloc (Nat.le_refl _) _), IMap.made _ _ _ _, HB2'.out.alloc HB2'.out.size _, hg60, h67, hg71, by simp⟩⟩
  obtain ⟨b8, hb8⟩ : ∃ b, b = w2.heap.size := ⟨_, rfl⟩
  rw [← hb8] at HALL ⊢
  obtain ⟨w3, hw3⟩ : ∃ w3, w3 = w2.alloc (.map #[] 0) := ⟨_, rfl⟩
  rw [← hw3] at HALL ⊢
  clear hw3 hb8 HS6' HS7 HB2' hg70 hg71
  go_loopw [43] (fun v wr => ∃ (i m : Nat), v = .int .i64 i ∧ i ≤ code.length ∧ m ≤ i ∧ Aside0 (upTo (ok1 code l) i = true) ∧ Aside0 (RRows code l w wr g6 g7 b8 c6 c7 (rAt code i) m)) (fun v _ => code.length - (intOf v).toNat)
  case atStart => exact ⟨0, 0, rfl, Nat.zero_le _, Nat.le_refl _, ⟨rfl⟩, HALL⟩
  case round =>
    clear HALL
    obtain ⟨i, m, rfl, hi, hm, HU, HALL⟩ := hrel
    by_cases hlt : i < code.length
    · have hC := Kd.C_below HR0.out HALL.out.bel
      obtain ⟨ad_, hae, hx0, hx1, hx2, hx3, hx4, hx5, hx6, hx7⟩ := at_T39 hC (i : Int) (by omega) (by omega)
      injection hae with hae
      subst hae
      rw [Int.toNat_natCast] at hx0 hx1 hx2 hx3 hx4 hx5 hx6 hx7
      obtain ⟨x, hxe⟩ : ∃ x, x = rd_T39 code i := ⟨_, rfl⟩
      rw [← hxe] at hx0 hx1 hx2 hx3 hx4 hx5 hx6 hx7
      have HXE := Aside0.mk hxe
      clear hxe hC
      go_upto_region 11 with ((go_at_call 27; refine (shape_c _ _).mono ?_; rintro e W1 ⟨rfl, hBS⟩))
      clear hx0 hx1 hx2 hx3 hx4 hx5 hx6 hx7
      obtain ⟨W2, hW2⟩ : ∃ W2, W2 = W1.alloc (.cells #[.bool (hasD x.f0), .bool (hasA x.f0), .bool (hasB x.f0), .bool (hasK x.f0), .bool (hasTo x.f0), .bool (hasPlace x.f0), .bool (hasRow x.f0), .bool (hasAtomic x.f0)] 66) := ⟨_, rfl⟩
      rw [← hW2]
      obtain ⟨gx, hgx⟩ : ∃ g, g = wr.heap.size := ⟨_, rfl⟩
      obtain ⟨gu, hgu⟩ : ∃ g, g = W1.heap.size := ⟨_, rfl⟩
      have hB2 : Below wr.heap.size wr W2 := by
        rw [hW2]
        have h1 : Below wr.heap.size wr W1 := ((Below.refl _ wr).alloc (Nat.le_refl _) _).trans (hBS.mono (by simp))
        exact h1.alloc h1.size _
      have HBX : Aside0 (RBoxes W2 gx gu x) := ⟨by
        refine ⟨?_, ?_⟩
        · rw [hW2, hgx]
          exact blk_alloc (blk_below (blk_new _ _) hBS) _
        · rw [hW2, hgu]
          exact blk_new _ _⟩
      have HALL2 : Aside0 (RRows code l w W2 g6 g7 b8 c6 c7 (rAt code i) m) := ⟨HALL.out.below hB2⟩
      rw [← hgx, ← hgu]
      have hx8 : b8 < gx := by rw [hgx]; exact HALL.out.h8
      have h78 : g7 < b8 := HALL.out.h78
      have hx9 : gx < gu := by
        have := hBS.size; simp at this; omega
      clear hW2 hgx hgu hB2 hBS HALL
      go_cut [12, 96] (fun v12 v96 wc => v96 = .bool (!pieceA l x) ∧ Aside0 (RRows code l w wc g6 g7 b8 c6 c7 (rAt code i) m) ∧ Aside0 (RBoxes wc gx gu x))
      case first =>
        have hC1 := Kd.C_below HR1.out HALL2.out.bel
        have cx := fun j => blk_cell HBX.out.bx j
        have cu := fun j => blk_cell HBX.out.bu j
        have cx0 := cx 0; have cx1 := cx 1; have cx2 := cx 2; have cx3 := cx 3; have cx4 := cx 4; have cx5 := cx 5; have cx6 := cx 6; have cx7 := cx 7
        have cu0 := cu 0; have cu1 := cu 1; have cu2 := cu 2; have cu3 := cu 3; have cu4 := cu 4; have cu5 := cu 5; have cu6 := cu 6; have cu7 := cu 7
        clear cx cu
        simp only [List.getElem?_toArray, List.getElem?_cons_zero, List.getElem?_cons_succ] at cx0 cx1 cx2 cx3 cx4 cx5 cx6 cx7 cu0 cu1 cu2 cu3 cu4 cu5 cu6 cu7
        have HC1 := Aside0.mk hC1
        clear hC1
        --BEGIN A
        cases b1 : isKind x.f0 with
        | false =>
          go_wp2_with (first | (go_at_call 28; refine (temp_c _ _ _).mono ?_; rintro e w' ⟨rfl, rfl⟩) | (go_at_call 29; refine (places_c x.f0 _ _ _ _ _ x A1 c1 l _ HC1.out hc1).mono ?_; rintro e W3 ⟨rfl, hBP⟩))
          go_meet
          case rel => exact ⟨by simp [pieceA, *], HALL2, HBX⟩
        | true =>
          cases b2 : tempB (hasD x.f0) x.f1 with
          | false =>
            go_wp2_with (first | (go_at_call 28; refine (temp_c _ _ _).mono ?_; rintro e w' ⟨rfl, rfl⟩) | (go_at_call 29; refine (places_c x.f0 _ _ _ _ _ x A1 c1 l _ HC1.out hc1).mono ?_; rintro e W3 ⟨rfl, hBP⟩))
            go_meet
            case rel => exact ⟨by simp [pieceA, *], HALL2, HBX⟩
          | true =>
            cases b3 : tempB (hasA x.f0) x.f2 with
            | false =>
              go_wp2_with (first | (go_at_call 28; refine (temp_c _ _ _).mono ?_; rintro e w' ⟨rfl, rfl⟩) | (go_at_call 29; refine (places_c x.f0 _ _ _ _ _ x A1 c1 l _ HC1.out hc1).mono ?_; rintro e W3 ⟨rfl, hBP⟩))
              go_meet
              case rel => exact ⟨by simp [pieceA, *], HALL2, HBX⟩
            | true =>
              cases b4 : tempB (hasB x.f0) x.f3 with
              | false =>
                go_wp2_with (first | (go_at_call 28; refine (temp_c _ _ _).mono ?_; rintro e w' ⟨rfl, rfl⟩) | (go_at_call 29; refine (places_c x.f0 _ _ _ _ _ x A1 c1 l _ HC1.out hc1).mono ?_; rintro e W3 ⟨rfl, hBP⟩))
                go_meet
                case rel => exact ⟨by simp [pieceA, *], HALL2, HBX⟩
              | true =>
                cases b5 : hasK x.f0 with
                | true =>
                  cases b7 : placesB x.f0 x.f4 x.f5 l with
                  | false =>
                    go_wp2_with (first | (go_at_call 28; refine (temp_c _ _ _).mono ?_; rintro e w' ⟨rfl, rfl⟩) | (go_at_call 29; refine (places_c x.f0 _ _ _ _ _ x A1 c1 l _ HC1.out hc1).mono ?_; rintro e W3 ⟨rfl, hBP⟩))
                    go_meet
                    case rel => exact ⟨by simp [pieceA, *], ⟨HALL2.out.below hBP⟩, ⟨HBX.out.below hBP⟩⟩
                  | true =>
                    go_wp2_with (first | (go_at_call 28; refine (temp_c _ _ _).mono ?_; rintro e w' ⟨rfl, rfl⟩) | (go_at_call 29; refine (places_c x.f0 _ _ _ _ _ x A1 c1 l _ HC1.out hc1).mono ?_; rintro e W3 ⟨rfl, hBP⟩))
                    go_meet
                    case rel => exact ⟨by simp [pieceA, *], ⟨HALL2.out.below hBP⟩, ⟨HBX.out.below hBP⟩⟩
                | false =>
                  cases b6 : (x.f6 != 0) with
                  | true =>
                    go_wp2_with (first | (go_at_call 28; refine (temp_c _ _ _).mono ?_; rintro e w' ⟨rfl, rfl⟩) | (go_at_call 29; refine (places_c x.f0 _ _ _ _ _ x A1 c1 l _ HC1.out hc1).mono ?_; rintro e W3 ⟨rfl, hBP⟩))
                    go_meet
                    case rel => exact ⟨by simp [pieceA, *]; left; simpa using b6, HALL2, HBX⟩
                  | false =>
                    cases b7 : placesB x.f0 x.f4 x.f5 l with
                    | false =>
                      go_wp2_with (first | (go_at_call 28; refine (temp_c _ _ _).mono ?_; rintro e w' ⟨rfl, rfl⟩) | (go_at_call 29; refine (places_c x.f0 _ _ _ _ _ x A1 c1 l _ HC1.out hc1).mono ?_; rintro e W3 ⟨rfl, hBP⟩))
                      go_meet
                      case rel => exact ⟨by simp [pieceA, *]; try simpa using b6, ⟨HALL2.out.below hBP⟩, ⟨HBX.out.below hBP⟩⟩
                    | true =>
                      go_wp2_with (first | (go_at_call 28; refine (temp_c _ _ _).mono ?_; rintro e w' ⟨rfl, rfl⟩) | (go_at_call 29; refine (places_c x.f0 _ _ _ _ _ x A1 c1 l _ HC1.out hc1).mono ?_; rintro e W3 ⟨rfl, hBP⟩))
                      go_meet
                      case rel => exact ⟨by simp [pieceA, *]; try simpa using b6, ⟨HALL2.out.below hBP⟩, ⟨HBX.out.below hBP⟩⟩
        --END A
      case rest =>
        clear HALL2 HBX
        obtain ⟨rfl, HALL2, HBX⟩ := hcut
        cases hA : pieceA l x with
        | false =>
          have HF : Aside0 (ok1 code l i = false) := ⟨by simp only [ok1]; rw [← HXE.out, hA]; rfl⟩
          go_wp2
          go_ret
          exact ⟨by rw [upTo_false hlt HF.out]; rfl, HALL2.out.bel⟩
        | true =>
          have cx := fun j => blk_cell HBX.out.bx j
          have cu := fun j => blk_cell HBX.out.bu j
          have cx0 := cx 0; have cx1 := cx 1; have cx7 := cx 7
          have cu0 := cu 0; have cu4 := cu 4
          clear cx cu
          simp only [List.getElem?_toArray, List.getElem?_cons_zero, List.getElem?_cons_succ] at cx0 cx1 cx7 cu0 cu4
          cases hT : pieceTo code.length i x with
          | false =>
            --BEGIN B
            have HF : Aside0 (ok1 code l i = false) := ⟨by simp only [ok1]; rw [← HXE.out, hA, hT]; rfl⟩
            have HBEL := Aside0.mk HALL2.out.bel
            cases b1 : hasTo x.f0 with
            | true =>
              by_cases b2 : x.f7 ≤ (i : Int) + 1
              · have b2b : decide (x.f7 ≤ (i : Int) + 1) = true := decide_eq_true b2
                clear hT
                go_wp2
                go_ret
                exact ⟨by rw [upTo_false hlt HF.out]; rfl, HBEL.out⟩
              · have b3 : (code.length : Int) ≤ x.f7 := by
                  simp [pieceTo, b1] at hT; omega
                have b2b : decide (x.f7 ≤ (i : Int) + 1) = false := decide_eq_false b2
                have b3b : decide ((code.length : Int) ≤ x.f7) = true := decide_eq_true b3
                clear hT b2
                go_wp2
                go_ret
                exact ⟨by rw [upTo_false hlt HF.out]; rfl, HBEL.out⟩
            | false =>
              have b2 : (x.f7 != 0) = true := by simp [pieceTo, b1] at hT; simpa using hT
              clear hT
              go_wp2
              go_ret
              exact ⟨by rw [upTo_false hlt HF.out]; rfl, HBEL.out⟩
            --END B
          | true =>
            have HT : Aside0 (pieceTo code.length i x = true) := ⟨hT⟩
            go_upto_region 13 with (fail)
            go_cut [121] (fun v121 wc => v121 = .bool false ∧ Aside0 (RRows code l w wc g6 g7 b8 c6 c7 (rAt code i) m) ∧ Aside0 (RBoxes wc gx gu x))
            case first =>
              --BEGIN C
              cases b1 : hasTo x.f0 with
              | true =>
                have hT2 : (i : Int) + 1 < x.f7 ∧ x.f7 < (code.length : Int) := by simp [pieceTo, b1] at hT; exact hT
                have b2b : decide (x.f7 ≤ (i : Int) + 1) = false := decide_eq_false (by omega)
                have b3b : decide ((code.length : Int) ≤ x.f7) = false := decide_eq_false (by omega)
                clear hT hT2
                go_wp2
                go_meet
                case rel => exact ⟨rfl, HALL2, HBX⟩
              | false =>
                have b2 : (x.f7 != 0) = false := by simp [pieceTo, b1] at hT; simpa using hT
                clear hT
                go_wp2
                go_meet
                case rel => exact ⟨rfl, HALL2, HBX⟩
              --END C
            case rest =>
              clear HALL2 HBX cx0 cx1 cx7 cu0 cu4 hT
              obtain ⟨rfl, HALL2, HBX⟩ := hcut
              have cx := fun j => blk_cell HBX.out.bx j
              have cu := fun j => blk_cell HBX.out.bu j
              have cx0 := cx 0; have cx1 := cx 1; have cx7 := cx 7
              have cu0 := cu 0; have cu4 := cu 4
              clear cx cu
              simp only [List.getElem?_toArray, List.getElem?_cons_zero, List.getElem?_cons_succ] at cx0 cx1 cx7 cu0 cu4
              go_upto_if 123 with (fail)
              have HI : Aside0 (RInv code.length i (rAt code i)) := ⟨rinv_at i HU.out⟩
              go_cut [] (fun wc => Aside0 (RRows code l w wc g6 g7 b8 c6 c7 (rTo i x (rAt code i)) m) ∧ Aside0 (RBoxes wc gx gu x))
              case first =>
                --BEGIN D
                cases b1 : hasTo x.f0 with
                | true =>
                  have hT2 : (i : Int) + 1 < x.f7 ∧ x.f7 < (code.length : Int) := by have := HT.out; simp [pieceTo, b1] at this; exact this
                  obtain ⟨hj0, hj1⟩ := hT2
                  obtain ⟨hc6, hf6⟩ := Kd.R_celln (0 : Int) HALL2.out.r6 x.f7 (by omega) (by omega)
                  obtain ⟨hc7, hf7⟩ := Kd.R_celln (0 : Int) HALL2.out.r7 x.f7 (by omega) (by omega)
                  obtain ⟨y, hy⟩ : ∃ y, y = rdOf 0 (rAt code i).ways x.f7 := ⟨_, rfl⟩
                  rw [← hy] at hc6
                  have hy0 : 0 ≤ y := by rw [hy]; exact HI.out.w0 x.f7 (by omega)
                  have hy1 : y ≤ 2 * i := by rw [hy]; exact HI.out.w1 x.f7 (by omega)
                  have hne : g6 ≠ g7 := by omega
                  have hne2 : g7 ≠ g6 := by omega
                  have hne3 : gx ≠ g6 := by omega
                  have hne4 : gx ≠ g7 := by omega
                  have HY := Aside0.mk hy
                  clear hy
                  go_wp2
                  go_meet
                  case rel =>
                    have e6 : y + 1 = rd (rAt code i).ways x.f7 + 1 := by rw [HY.out]; rfl
                    exact ⟨⟨by unfold rTo; rw [b1, if_pos rfl, ← e6]; exact (HALL2.out.put6 x.f7 (y + 1)).put7 x.f7 i⟩, ⟨(HBX.out.far (by simp; omega) (by simp; omega) _).far (by simp; omega) (by simp; omega) _⟩⟩
                | false =>
                  go_wp2
                  go_meet
                  case rel => exact ⟨⟨by unfold rTo; rw [b1]; exact HALL2.out⟩, HBX⟩
                --END D
              case rest =>
                clear HALL2 HBX cx0 cx1 cx7 cu0 cu4
                obtain ⟨HALL2, HBX⟩ := hcut
                have cx := fun j => blk_cell HBX.out.bx j
                have cu := fun j => blk_cell HBX.out.bu j
                have cx0 := cx 0; have cx1 := cx 1; have cx7 := cx 7
                have cu0 := cu 0; have cu4 := cu 4
                clear cx cu
                simp only [List.getElem?_toArray, List.getElem?_cons_zero, List.getElem?_cons_succ] at cx0 cx1 cx7 cu0 cu4
                go_upto_if 138 with (fail)
                go_cut [] (fun wc => Aside0 (RRows code l w wc g6 g7 b8 c6 c7 (rNext i x (rTo i x (rAt code i))) m) ∧ Aside0 (RBoxes wc gx gu x))
                case first =>
                  --BEGIN F
                  by_cases b1 : x.f0 = 18
                  · have b1b : (x.f0 != 18) = false := bne_eq_false_iff_eq.mpr b1
                    have B1 := Aside0.mk b1
                    clear b1
                    go_wp2
                    go_meet
                    case rel => exact ⟨⟨by unfold rNext; rw [if_pos B1.out]; exact HALL2.out⟩, HBX⟩
                  · have b1b : (x.f0 != 18) = true := bne_iff_ne.mpr b1
                    have B1 := Aside0.mk b1
                    have hlt2 : i + 1 < code.length := by
                      rcases Nat.lt_or_ge (i + 1) code.length with h | h
                      · exact h
                      · exfalso
                        have e : (i : Int) = (code.length : Int) - 1 := by omega
                        apply b1
                        rw [HXE.out, e]
                        exact HC3.out
                    clear b1
                    obtain ⟨hc6, hf6⟩ := Kd.R_celln (0 : Int) HALL2.out.r6 ((i : Int) + 1) (by omega) (by omega)
                    obtain ⟨hc7, hf7⟩ := Kd.R_celln (0 : Int) HALL2.out.r7 ((i : Int) + 1) (by omega) (by omega)
                    have HTN : ((i : Int) + 1).toNat = i + 1 := by omega
                    rw [HTN] at hc6 hf6 hc7 hf7
                    obtain ⟨y, hy⟩ : ∃ y, y = rdOf 0 (rTo i x (rAt code i)).ways ((i : Int) + 1) := ⟨_, rfl⟩
                    rw [← hy] at hc6
                    have hyb := to_bound HI.out HT.out ((i : Int) + 1) (by omega)
                    have hy0 : 0 ≤ y := by rw [hy]; exact hyb.1
                    have hy1 : y ≤ 2 * i + 1 := by rw [hy]; exact hyb.2
                    have hne : g6 ≠ g7 := by omega
                    have hne2 : g7 ≠ g6 := by omega
                    have hne3 : gx ≠ g6 := by omega
                    have hne4 : gx ≠ g7 := by omega
                    have HY := Aside0.mk hy
                    have HTN' := Aside0.mk HTN
                    clear hy HTN hyb
                    go_wp2
                    go_meet
                    case rel =>
                      have h1 := (HALL2.out.put6 ((i : Int) + 1) (y + 1)).put7 ((i : Int) + 1) i
                      rw [HTN'.out] at h1
                      have e6 : y + 1 = rd (rTo i x (rAt code i)).ways ((i : Int) + 1) + 1 := by rw [HY.out]; rfl
                      exact ⟨⟨by unfold rNext; rw [if_neg B1.out, ← e6]; exact h1⟩, ⟨(HBX.out.far (by simp; omega) (by simp; omega) _).far (by simp; omega) (by simp; omega) _⟩⟩
                  --END F
                case rest =>
                  clear HALL2 HBX cx0 cx1 cx7 cu0 cu4
                  obtain ⟨HALL2, HBX⟩ := hcut
                  have cx := fun j => blk_cell HBX.out.bx j
                  have cu := fun j => blk_cell HBX.out.bu j
                  have cx0 := cx 0; have cx1 := cx 1; have cx7 := cx 7
                  have cu0 := cu 0; have cu4 := cu 4
                  clear cx cu
                  simp only [List.getElem?_toArray, List.getElem?_cons_zero, List.getElem?_cons_succ] at cx0 cx1 cx7 cu0 cu4
                  have HA := Aside0.mk hA
                  have HMD : Aside0 ((rNext i x (rTo i x (rAt code i))).made = (rAt code i).made) := ⟨by unfold rNext rTo; split <;> split <;> rfl⟩
                  clear hA
                  cases b1 : hasD x.f0 with
                  | false =>
                    have HD := Aside0.mk b1
                    have HU1 : Aside0 (upTo (ok1 code l) (i + 1) = true) := ⟨by simp only [upTo, ok1]; rw [HU.out, ← HXE.out, HA.out, HT.out, HD.out]; rfl⟩
                    have HALL3 : Aside0 (RRows code l w _ g6 g7 b8 c6 c7 (rAt code (i + 1)) m) := ⟨by simp only [rAt, rStep, rMade]; rw [← HXE.out, HD.out]; exact HALL2.out⟩
                    go_wp2_with (fail)
                    go_roundw
                    case rel => exact ⟨i + 1, m, by go_num, by omega, by omega, HU1, HALL3⟩
                    case measure => simp [intOf]; omega
                  | true =>
                    have HD := Aside0.mk b1
                    have hD2 : 0 ≤ x.f1 ∧ x.f1 < 400 := by
                      have := HA.out
                      simp [pieceA, tempB, b1] at this
                      exact this.1.1.1.1.2
                    have hwf : (Lit.int .i64 x.f1).wf = true := WalkArith.wf_i64 (by omega)
                    have HWF := Aside0.mk hwf
                    clear hwf
                    have hg8 := HALL2.out.r8
                    rw [HMD.out] at hg8
                    have HG8 := Aside0.mk hg8
                    clear hg8
                    cases hmd : (rAt code i).made x.f1 with
                    | some v =>
                      have HM := Aside0.mk hmd
                      have HF : Aside0 (ok1 code l i = false) := ⟨by simp only [ok1]; rw [← HXE.out, HA.out, HT.out, HD.out, HM.out]; rfl⟩
                      clear hmd
                      go_wp2_with (at_lookup; refine IMap.lookup_ok rfl _ _ 48 rfl 3 3 Try.underlying3 Try.underlying48 Try.underlying3 (zero_int _) b8 m _ rfl HG8.out x.f1 rfl HWF.out ?_; rw [HM.out])
                      go_ret
                      exact ⟨by rw [upTo_false hlt HF.out]; rfl, HALL2.out.bel⟩
                    | none =>
                      have HM := Aside0.mk hmd
                      have HU1 : Aside0 (upTo (ok1 code l) (i + 1) = true) := ⟨by simp only [upTo, ok1]; rw [HU.out, ← HXE.out, HA.out, HT.out, HD.out, HM.out]; rfl⟩
                      clear hmd
                      go_wp2_with (first
                        | (at_lookup; refine IMap.lookup_ok rfl _ _ 48 rfl 3 3 Try.underlying3 Try.underlying48 Try.underlying3 (zero_int _) b8 m _ rfl HG8.out x.f1 rfl HWF.out ?_; rw [HM.out])
                        | (at_mapUpdate; refine IMap.update rfl _ _ _ 48 rfl 3 3 Try.underlying3 Try.underlying48 Try.underlying3 b8 m _ rfl HG8.out (by unfold maxLen; omega) x.f1 (i : Int) rfl rfl HWF.out (WalkArith.wf_i64 (by omega)) ?_; intro W4 hM4 hg4))
                      have HALL3 : Aside0 (RRows code l w W4 g6 g7 b8 c6 c7 (rAt code (i + 1)) (m + 1)) := ⟨by
                        have h1 := HALL2.out.upd8 (k := x.f1) (v := (i : Int)) (by rw [HMD.out]; exact hM4) hg4
                        simp only [rAt, rStep, rMade]; rw [← HXE.out, HD.out]; exact h1⟩
                      clear hM4 hg4
                      go_roundw
                      case rel => exact ⟨i + 1, m + 1, by go_num, by omega, by omega, HU1, HALL3⟩
                      case measure => simp [intOf]; omega
    · have hin : i = code.length := by omega
      subst hin
      have HI : Aside0 (RInv code.length code.length (rAt code code.length)) := ⟨rinv_at code.length HU.out⟩
      have HFR : Aside0 (∀ j : Int, 1 ≤ j → 0 ≤ rd (rAt code code.length).frm j ∧ rd (rAt code code.length).frm j < j) := ⟨HI.out.f0⟩
      have HMV : Aside0 (∀ t v, (rAt code code.length).made t = some v → 0 ≤ v) := ⟨HI.out.m0⟩
      have HLEN : Aside0 ((rAt code code.length).frm.length = code.length) := ⟨HI.out.lf⟩
      go_wp2_with (fail)
      go_loopw [168] (fun v wr => ∃ (i : Nat), v = .int .i64 i ∧ i ≤ code.length ∧ Aside0 (upTo (ok2 (rAt code code.length) code) i = true) ∧ Aside0 (RRows code l w wr g6 g7 b8 c6 c7 (rAt code code.length) m)) (fun v _ => code.length - (intOf v).toNat)
      case atStart => exact ⟨0, rfl, Nat.zero_le _, ⟨rfl⟩, HALL⟩
      case round =>
        clear HALL
        obtain ⟨i, rfl, hi, HU2, HALL⟩ := hrel
        by_cases hlt : i < code.length
        · have hC := Kd.C_below HR0.out HALL.out.bel
          obtain ⟨ad_, hae, hx0, hx1, hx2, hx3, hx4, hx5, hx6, hx7⟩ := at_T39 hC (i : Int) (by omega) (by omega)
          injection hae with hae
          subst hae
          rw [Int.toNat_natCast] at hx0 hx1 hx2 hx3 hx4 hx5 hx6 hx7
          obtain ⟨x, hxe⟩ : ∃ x, x = rd_T39 code i := ⟨_, rfl⟩
          rw [← hxe] at hx0 hx1 hx2 hx3 hx4 hx5 hx6 hx7
          have HXE := Aside0.mk hxe
          have HA : Aside0 (pieceA l x = true) := ⟨by
            have := (upTo_iff _ _).1 HU.out i hlt
            simp only [ok1, Bool.and_eq_true] at this
            rw [hxe]; exact this.1.1⟩
          obtain ⟨hc6, hf6⟩ := Kd.R_celln (0 : Int) HALL.out.r6 (i : Int) (by omega) (by omega)
          rw [Int.toNat_natCast] at hc6
          have hc6' : wr.cell? ⟨g6, i, none⟩ = some (.int .i64 (rd (rAt code code.length).ways i)) := hc6
          obtain ⟨y, hy⟩ : ∃ y, y = rd (rAt code code.length).ways i := ⟨_, rfl⟩
          rw [← hy] at hc6'
          have HY := Aside0.mk hy
          clear hxe hC hc6 hf6 hy
          have hx8 : b8 < wr.heap.size := HALL.out.h8
          have h78 : g7 < b8 := HALL.out.h78
          have hg6s : g6 < wr.heap.size := by omega
          by_cases h0 : (i = 0 ∨ y = 1)
          · have HOKW : Aside0 ((i == 0 || rd (rAt code code.length).ways i == 1) = true) := ⟨by rw [← HY.out]; simpa using h0⟩
            go_upto_region 30 with (fail)
            go_cut [181] (fun v181 wc => v181 = .bool false ∧ wc = wr.alloc (.cells #[.int .i64 x.f0, .int .i64 x.f1, .int .i64 x.f2, .int .i64 x.f3, .int .i64 x.f4, .int .i64 x.f5, .int .i64 x.f6, .int .i64 x.f7] 39))
            case first =>
              by_cases h1 : i = 0
              · have h1b : decide ((0 : Int) < (i : Int)) = false := by simp; omega
                have h1c : decide (0 < i) = false := by simp; omega
                have h1d : ¬ 0 < i := by omega
                have H1 := Aside0.mk h1
                clear h1 h0
                go_wp2
                go_meet
                case rel => exact ⟨rfl, rfl⟩
              · have h1b : decide ((0 : Int) < (i : Int)) = true := by simp; omega
                have h2b : (y != 1) = false := bne_eq_false_iff_eq.mpr (by omega)
                clear h0
                go_wp2
                go_meet
                case rel => exact ⟨rfl, rfl⟩
            case rest =>
              obtain ⟨rfl, rfl⟩ := hcut
              clear h0 hc6'
              go_upto_region 33 with ((go_at_call 27; refine (shape_c _ _).mono ?_; rintro e W1 ⟨rfl, hBS⟩))
              clear hx0 hx1 hx2 hx3 hx4 hx5 hx6 hx7
              obtain ⟨W2, hW2⟩ : ∃ W2, W2 = W1.alloc (.cells #[.bool (hasD x.f0), .bool (hasA x.f0), .bool (hasB x.f0), .bool (hasK x.f0), .bool (hasTo x.f0), .bool (hasPlace x.f0), .bool (hasRow x.f0), .bool (hasAtomic x.f0)] 66) := ⟨_, rfl⟩
              rw [← hW2]
              obtain ⟨gx, hgx⟩ : ∃ g, g = wr.heap.size := ⟨_, rfl⟩
              obtain ⟨gu, hgu⟩ : ∃ g, g = W1.heap.size := ⟨_, rfl⟩
              have hB2 : Below wr.heap.size wr W2 := by
                rw [hW2]
                have h1 : Below wr.heap.size wr W1 := ((Below.refl _ wr).alloc (Nat.le_refl _) _).trans (hBS.mono (by simp))
                exact h1.alloc h1.size _
              have HBX : Aside0 (RBoxes W2 gx gu x) := ⟨by
                refine ⟨?_, ?_⟩
                · rw [hW2, hgx]
                  exact blk_alloc (blk_below (blk_new _ _) hBS) _
                · rw [hW2, hgu]
                  exact blk_new _ _⟩
              have HALL2 : Aside0 (RRows code l w W2 g6 g7 b8 c6 c7 (rAt code code.length) m) := ⟨HALL.out.below hB2⟩
              rw [← hgx, ← hgu]
              clear hW2 hgx hgu hB2 hBS HALL hx8 hg6s
              have HCF : Aside0 (Kd.C (Kd.int .i64) W2 (some ⟨g7, 0, none⟩) (rAt code code.length).frm.length (rAt code code.length).frm) := ⟨by
                obtain ⟨A, c, h1, h2, h3⟩ := Kd.R_reads HALL2.out.r7
                injection h1 with h1 _ _
                rw [h1]; exact h3⟩
              have cx := fun j => blk_cell HBX.out.bx j
              have cu := fun j => blk_cell HBX.out.bu j
              have cx2 := cx 2; have cx3 := cx 3
              have cu1 := cu 1; have cu2 := cu 2
              clear cx cu
              simp only [List.getElem?_toArray, List.getElem?_cons_zero, List.getElem?_cons_succ] at cx2 cx3 cu1 cu2
              cases bA : hasA x.f0 with
              | false =>
                cases bB : hasB x.f0 with
                | false =>
                  have HU1 : Aside0 (upTo (ok2 (rAt code code.length) code) (i + 1) = true) := ⟨by simp only [upTo, ok2]; rw [HU2.out, ← HXE.out]; simp [HOKW.out, *]⟩
                  go_wp2_with (go_at_call 30; refine (above_c b8 code.length m _ _ c7 _ _ (i : Int) _ HLEN.out HALL2.out.r8 HCF.out (by first | exact HWA.out | exact HWB.out) HFR.out (by omega) (by omega) (by omega) HMV.out).mono ?_; rintro e w' ⟨rfl, rfl⟩)
                  go_roundw
                  case rel => exact ⟨i + 1, by go_num, by omega, HU1, HALL2⟩
                  case measure => simp [intOf]; omega
                | true =>
                  have HWB : Aside0 ((Lit.int .i64 x.f3).wf = true) := ⟨by
                    have := HA.out
                    simp [pieceA, tempB, bB] at this
                    exact WalkArith.wf_i64 (by omega)⟩
                  cases aB : aboveB (rAt code code.length).made (rAt code code.length).frm x.f3 i with
                  | false =>
                    have HF : Aside0 (ok2 (rAt code code.length) code i = false) := ⟨by simp only [ok2]; rw [← HXE.out]; simp [HOKW.out, *]⟩
                    go_wp2_with (go_at_call 30; refine (above_c b8 code.length m _ _ c7 _ _ (i : Int) _ HLEN.out HALL2.out.r8 HCF.out (by first | exact HWA.out | exact HWB.out) HFR.out (by omega) (by omega) (by omega) HMV.out).mono ?_; rintro e w' ⟨rfl, rfl⟩)
                    go_ret
                    exact ⟨by rw [upTo_false hlt HF.out]; simp, HALL2.out.bel⟩
                  | true =>
                    have HU1 : Aside0 (upTo (ok2 (rAt code code.length) code) (i + 1) = true) := ⟨by simp only [upTo, ok2]; rw [HU2.out, ← HXE.out]; simp [HOKW.out, *]⟩
                    go_wp2_with (go_at_call 30; refine (above_c b8 code.length m _ _ c7 _ _ (i : Int) _ HLEN.out HALL2.out.r8 HCF.out (by first | exact HWA.out | exact HWB.out) HFR.out (by omega) (by omega) (by omega) HMV.out).mono ?_; rintro e w' ⟨rfl, rfl⟩)
                    go_roundw
                    case rel => exact ⟨i + 1, by go_num, by omega, HU1, HALL2⟩
                    case measure => simp [intOf]; omega
              | true =>
                have HWA : Aside0 ((Lit.int .i64 x.f2).wf = true) := ⟨by
                  have := HA.out
                  simp [pieceA, tempB, bA] at this
                  exact WalkArith.wf_i64 (by omega)⟩
                cases aA : aboveB (rAt code code.length).made (rAt code code.length).frm x.f2 i with
                | false =>
                  have HF : Aside0 (ok2 (rAt code code.length) code i = false) := ⟨by simp only [ok2]; rw [← HXE.out]; simp [HOKW.out, *]⟩
                  go_wp2_with (go_at_call 30; refine (above_c b8 code.length m _ _ c7 _ _ (i : Int) _ HLEN.out HALL2.out.r8 HCF.out (by first | exact HWA.out | exact HWB.out) HFR.out (by omega) (by omega) (by omega) HMV.out).mono ?_; rintro e w' ⟨rfl, rfl⟩)
                  go_ret
                  exact ⟨by rw [upTo_false hlt HF.out]; simp, HALL2.out.bel⟩
                | true =>
                  cases bB : hasB x.f0 with
                  | false =>
                    have HU1 : Aside0 (upTo (ok2 (rAt code code.length) code) (i + 1) = true) := ⟨by simp only [upTo, ok2]; rw [HU2.out, ← HXE.out]; simp [HOKW.out, *]⟩
                    go_wp2_with (go_at_call 30; refine (above_c b8 code.length m _ _ c7 _ _ (i : Int) _ HLEN.out HALL2.out.r8 HCF.out (by first | exact HWA.out | exact HWB.out) HFR.out (by omega) (by omega) (by omega) HMV.out).mono ?_; rintro e w' ⟨rfl, rfl⟩)
                    go_roundw
                    case rel => exact ⟨i + 1, by go_num, by omega, HU1, HALL2⟩
                    case measure => simp [intOf]; omega
                  | true =>
                    have HWB : Aside0 ((Lit.int .i64 x.f3).wf = true) := ⟨by
                      have := HA.out
                      simp [pieceA, tempB, bB] at this
                      exact WalkArith.wf_i64 (by omega)⟩
                    cases aB : aboveB (rAt code code.length).made (rAt code code.length).frm x.f3 i with
                    | false =>
                      have HF : Aside0 (ok2 (rAt code code.length) code i = false) := ⟨by simp only [ok2]; rw [← HXE.out]; simp [HOKW.out, *]⟩
                      go_wp2_with (go_at_call 30; refine (above_c b8 code.length m _ _ c7 _ _ (i : Int) _ HLEN.out HALL2.out.r8 HCF.out (by first | exact HWA.out | exact HWB.out) HFR.out (by omega) (by omega) (by omega) HMV.out).mono ?_; rintro e w' ⟨rfl, rfl⟩)
                      go_ret
                      exact ⟨by rw [upTo_false hlt HF.out]; simp, HALL2.out.bel⟩
                    | true =>
                      have HU1 : Aside0 (upTo (ok2 (rAt code code.length) code) (i + 1) = true) := ⟨by simp only [upTo, ok2]; rw [HU2.out, ← HXE.out]; simp [HOKW.out, *]⟩
                      go_wp2_with (go_at_call 30; refine (above_c b8 code.length m _ _ c7 _ _ (i : Int) _ HLEN.out HALL2.out.r8 HCF.out (by first | exact HWA.out | exact HWB.out) HFR.out (by omega) (by omega) (by omega) HMV.out).mono ?_; rintro e w' ⟨rfl, rfl⟩)
                      go_roundw
                      case rel => exact ⟨i + 1, by go_num, by omega, HU1, HALL2⟩
                      case measure => simp [intOf]; omega
          · have h1 : 0 < i := by omega
            have h1b : decide ((0 : Int) < (i : Int)) = true := by simp; omega
            have h2b : (y != 1) = true := bne_iff_ne.mpr (by omega)
            have HF : Aside0 (ok2 (rAt code code.length) code i = false) := ⟨by
              have e1 : (i == 0) = false := by simp; omega
              have e2 : (rd (rAt code code.length).ways i == 1) = false := by rw [← HY.out]; simp; omega
              simp only [ok2]; rw [e1, e2]; rfl⟩
            have HBEL : Aside0 (Below w.heap.size w wr) := ⟨HALL.out.bel⟩
            clear h0
            go_wp2
            go_ret
            exact ⟨by rw [upTo_false hlt HF.out]; simp, by repeat (first | exact HBEL.out | apply below_alloc)⟩
        · have hin : i = code.length := by omega
          subst hin
          go_wp2
          go_ret
          exact ⟨by rw [HU.out, HU2.out]; rfl, HALL.out.bel⟩
end Go.Proofs.Ytaoefdbhfhcplaa.Q
