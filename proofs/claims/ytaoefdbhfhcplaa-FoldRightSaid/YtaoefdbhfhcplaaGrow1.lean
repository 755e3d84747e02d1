/- fold.grow, walked for some kinds of piece. -/
import Derived.Test.YtaoefdbhfhcplaaGrowBase
namespace Go.Proofs.Ytaoefdbhfhcplaa.Q
open Go.RowKit Go.Proofs.YtaoefdbhfhcplaaW.PrintWords Go.Proofs.YtaoefdbhfhcplaaW.PrintLast Go.Proofs.YtaoefdbhfhcplaaW.PrintMore Go.Proofs.Ytaoefdbhfhcplaa.IM
set_option linter.unusedVariables false
set_option linter.unusedSimpArgs false

set_option maxRecDepth 100000 in
set_option maxHeartbeats 32000000 in
theorem grow_step18 (w0 : World) (A : Option Addr) (c : Nat) (code : List S39) (l : List S80) (hg : Good code l) (hC : Kd.C k39 w0 A code.length code) (k : Nat)
    (ih : ∀ (i bk m : Nat) (known : Int → Option Int) (w : World), i < code.length → code.length - i ≤ k → m ≤ i → Below w0.heap.size w0 w → IMap Try.prog 3 2 w bk m known → w0.heap.size ≤ bk →
      Calls Try.prog 17 #[.slice A code.length c, .int .i64 i, .map (some bk)] w (GrowPost w bk (growT code k i known)))
    (i bk m : Nat) (known : Int → Option Int) (w : World) (hi : i < code.length) (hk : code.length - i ≤ k + 1) (hm : m ≤ i) (hB : Below w0.heap.size w0 w) (hM : IMap Try.prog 3 2 w bk m known) (hbk : w0.heap.size ≤ bk) (hcls : (rd_T39 code i).f0 = 18) :
    Calls Try.prog 17 #[.slice A code.length c, .int .i64 i, .map (some bk)] w (GrowPost w bk (growT code (k + 1) i known)) := by
  have HIH := Aside0.mk ih
  have HG := Aside0.mk hg
  have HM := Aside0.mk hM
  have HB := Aside0.mk hB
  have hn400 := hg.len2
  have hC1 := Kd.C_below hC hB
  obtain ⟨ad_, hae, hx0, hx1, hx2, hx3, hx4, hx5, hx6, hx7⟩ := at_T39 hC1 (i : Int) (by omega) (by omega)
  subst hae
  rw [Int.toNat_natCast] at hx0 hx1 hx2 hx3 hx4 hx5 hx6 hx7
  obtain ⟨x, hxe⟩ : ∃ x, x = rd_T39 code i := ⟨_, rfl⟩
  rw [← hxe] at hx0 hx1 hx2 hx3 hx4 hx5 hx6 hx7
  have HP : Aside0 (pieceA l x = true) := ⟨by rw [hxe]; exact hg.piece i hi⟩
  obtain ⟨hA0, hA1⟩ := A_of_piece HP.out
  obtain ⟨hB0, hB1⟩ := B_of_piece HP.out
  have HXE := Aside0.mk hxe
  have HCLS : Aside0 (x.f0 = 18) := ⟨by rw [hxe]; exact hcls⟩
  clear hcls
  have HWA : Aside0 ((Lit.int .i64 x.f2).wf = true) := ⟨WalkArith.wf_i64 (by omega)⟩
  have HWB : Aside0 ((Lit.int .i64 x.f3).wf = true) := ⟨WalkArith.wf_i64 (by omega)⟩
  have hbkl := hM.lt
  obtain ⟨ka, hka⟩ : ∃ ka, ka = known x.f2 := ⟨_, rfl⟩
  obtain ⟨kb, hkb⟩ : ∃ kb, kb = known x.f3 := ⟨_, rfl⟩
  have HKA := Aside0.mk hka
  have HKB := Aside0.mk hkb
  clear ih hg hM hB hC1 hC hxe hka hkb
  go_enter Try.func17, Try.ntmps17
  go_upto_region 4 with (first
    | (at_lookup; refine IMap.lookup_ok rfl _ _ 47 rfl 3 2 Try.underlying3 Try.underlying47 Try.underlying2 (zero_i64 _) bk m known rfl (HM.out.alloc _) x.f2 rfl HWA.out ?_; rw [← HKA.out])
    | (at_lookup; refine IMap.lookup_ok rfl _ _ 47 rfl 3 2 Try.underlying3 Try.underlying47 Try.underlying2 (zero_i64 _) bk m known rfl (HM.out.alloc _) x.f3 rfl HWB.out ?_; rw [← HKB.out]))
  clear hx0 hx1 hx2 hx3 hx4 hx5 hx6 hx7
  obtain ⟨va, hva⟩ : ∃ va, va = ka.getD 0 := ⟨_, rfl⟩
  obtain ⟨vb, hvb⟩ : ∃ vb, vb = kb.getD 0 := ⟨_, rfl⟩
  obtain ⟨oa, hoa⟩ : ∃ o, o = ka.isSome := ⟨_, rfl⟩
  obtain ⟨ob, hob⟩ : ∃ o, o = kb.isSome := ⟨_, rfl⟩
  obtain ⟨both, hboth⟩ : ∃ b, b = (oa && ob) := ⟨_, rfl⟩
  have HAB : Aside0 (x.f2 = x.f3 → va = vb) := ⟨fun e => by rw [hva, hvb, HKA.out, HKB.out, e]⟩
  have HW0 := Aside0.mk (gWay_eq known x ka kb HKA.out HKB.out)
  rw [← hva, ← hvb, ← hoa, ← hob, ← hboth] at HW0
  rw [← hva, ← hvb, ← hoa, ← hob]
  clear hoa hob hva hvb
  obtain ⟨gx, hgx⟩ : ∃ g, g = w.heap.size := ⟨_, rfl⟩
  obtain ⟨w1, hw1⟩ : ∃ w1, w1 = w.alloc (.cells #[.int .i64 x.f0, .int .i64 x.f1, .int .i64 x.f2, .int .i64 x.f3, .int .i64 x.f4, .int .i64 x.f5, .int .i64 x.f6, .int .i64 x.f7] 39) := ⟨_, rfl⟩
  rw [← hw1, ← hgx]
  have HBX : Aside0 (BoxAt w1 gx x) := ⟨by rw [hw1, hgx]; exact blk_new _ _⟩
  have HC1 : Aside0 (Ch (fun k => k = bk) w w1) := ⟨by rw [hw1]; exact (Ch.refl _ _).alloc _⟩
  have hgxl : w.heap.size ≤ gx := by rw [hgx]; exact Nat.le_refl _
  have hgxb : gx ≠ bk := by omega
  have HB1 : Aside0 (Below w0.heap.size w0 w1) := ⟨by rw [hw1]; exact HB.out.alloc HB.out.size _⟩
  have HM1 : Aside0 (IMap Try.prog 3 2 w1 bk m known) := ⟨by rw [hw1]; exact HM.out.alloc _⟩
  clear hw1 hgx HM
  go_cut [12] (fun v12 wc => v12 = .bool both ∧ wc = w1)
  case first =>
    have HBO := Aside0.mk hboth
    clear hboth
    cases oa with
    | true =>
      cases ob with
      | true =>
        go_wp2
        go_meet
        case rel => exact ⟨by rw [HBO.out]; rfl, rfl⟩
      | false =>
        go_wp2
        go_meet
        case rel => exact ⟨by rw [HBO.out]; rfl, rfl⟩
    | false =>
      go_wp2
      go_meet
      case rel => exact ⟨by rw [HBO.out]; rfl, rfl⟩
  case rest =>
    obtain ⟨rfl, hwc⟩ := hcut
    obtain rfl : w1 = wc := hwc.symm
    clear hboth hwc
    have cx := fun j => blk_cell HBX.out j
    have fx := fun j => blk_frozen HBX.out j
    have cx0 := cx 0; have cx1 := cx 1; have cx2 := cx 2; have cx3 := cx 3; have cx7 := cx 7
    have cx4 := cx 4; have cx5 := cx 5; have cx6 := cx 6
    clear cx
    simp only [List.getElem?_toArray, List.getElem?_cons_zero, List.getElem?_cons_succ] at cx0 cx1 cx2 cx3 cx4 cx5 cx6 cx7
    go_upto_block 0 with (fail)
    go_cut [] (fun wc => ∃ y : S39, Aside0 (gWay known x = .stay y) ∧ Aside0 (x.f0 ≠ 18) ∧ Aside0 (BoxAt wc gx y) ∧ Aside0 (Ch (fun k => k = gx) w1 wc))
    case first =>
      have HNS : Aside0 (x.f0 ≠ 18 → growT code (k + 1) i known = (match gWay known x with | .leap => growT code k x.f7.toNat known | .on => growT code k (i + 1) known | .stay y => .node y (growT code k (i + 1) (learn known y)) (if y.f7 = 0 then .leaf else growT code k y.f7.toNat (learn known y)))) := ⟨fun h => by simp only [growT]; rw [← HXE.out, if_neg h]; cases gWay known x <;> rfl⟩
      have RET : ∀ (j : Nat) (v : Option Addr) (w' : World), growT code (k + 1) i known = growT code k j known → (∃ bs, FTAt w' (growT code k j known) (.pointer v) bs ∧ bs.Nodup ∧ (∀ b ∈ bs, w1.heap.size ≤ b) ∧ Ch (fun k => k = bk) w1 w') → GrowPost w bk (growT code (k + 1) i known) (.returned (.pointer v)) w' := fun j v w' e ⟨bs, h1, h2, h3, h4⟩ =>
        ⟨v, bs, rfl, by rw [e]; exact h1, h2, fun b hb => Nat.le_trans HC1.out.size (h3 b hb), HC1.out.trans h4⟩
      have HRET := Aside0.mk RET
      clear RET
      by_cases h18 : x.f0 = 18
      · have HGT : Aside0 (growT code (k + 1) i known = .node x .leaf .leaf) := ⟨by simp only [growT]; rw [← HXE.out, if_pos h18]⟩
        have b18 : (x.f0 == 18) = true := beq_iff_eq.2 h18
        clear h18
        go_wp2
        go_ret
        rw [HGT.out]
        exact ⟨_, [w1.heap.size], rfl, ⟨_, _, _, [], [], rfl, blk_new _ _, ⟨rfl, rfl⟩, ⟨rfl, rfl⟩, rfl⟩, by simp, fun b hb => by rw [List.mem_singleton] at hb; rw [hb]; exact HC1.out.size, HC1.out.alloc _⟩
      · exact (by have e_ := HCLS.out; omega)
    case rest =>
      clear cx0 cx1 cx2 cx3 cx4 cx5 cx6 cx7 fx
      obtain ⟨y, HW, H18, HBY, HCY⟩ := hcut
      have HKIN : Aside0 (Kin l x y) := ⟨by have h := way_stay (l := l) (known := known) (y := y) (HG.out.piece i hi) (to_no HG.out hi) (by rw [← HXE.out]; exact HW.out); rw [← HXE.out] at h; exact h⟩
      have HC2 : Aside0 (Ch (fun k => k = bk) w wc) := ⟨⟨HCY.out.os.trans HC1.out.os, HCY.out.tape.trans HC1.out.tape, HCY.out.output.trans HC1.out.output, Nat.le_trans HC1.out.size HCY.out.size, fun k hk hS => (HCY.out.block k (Nat.lt_of_lt_of_le hk HC1.out.size) (fun e => by omega)).trans (HC1.out.block k hk hS)⟩⟩
      have HM2 : Aside0 (IMap Try.prog 3 2 wc bk m known) := ⟨IMap.ch HM1.out HCY.out (fun e => hgxb e.symm)⟩
      have HB2 : Aside0 (Below w0.heap.size w0 wc) := ⟨HCY.out.below HB1.out (fun k hk => by have := HB1.out.size; have := hgxl; have hw := HB.out.size; omega)⟩
      clear HBX HC1 HB1 HM1 HCY
      have cy := fun j => blk_cell HBY.out j
      have cy0 := cy 0; have cy1 := cy 1; have cy6 := cy 6
      clear cy
      simp only [List.getElem?_toArray, List.getElem?_cons_zero, List.getElem?_cons_succ] at cy0 cy1 cy6
      go_upto_if 124 with (fail)
      go_cut [] (fun wd => Aside0 (BoxAt wd gx y) ∧ Aside0 (Ch (fun k => k = bk) w wd) ∧ Aside0 (IMap Try.prog 3 2 wd bk (m + 1) (learn known y)) ∧ Aside0 (Below w0.heap.size w0 wd))
      case first =>
        by_cases h1 : y.f0 = 1
        · have b1 : (y.f0 == 1) = true := beq_iff_eq.2 h1
          have H1 := Aside0.mk h1
          have HWD : Aside0 ((Lit.int .i64 y.f1).wf = true) := ⟨by
            have := D_of_piece HKIN.out.piece (by rw [h1]; decide)
            exact WalkArith.wf_i64 (by omega)⟩
          clear h1
          go_wp2_with (at_mapUpdate; refine IMap.put rfl _ _ _ 47 rfl 3 2 Try.underlying3 Try.underlying47 bk m known rfl HM2.out (by unfold maxLen; omega) y.f1 y.f6 rfl rfl HWD.out ?_; intro W4 hM4 hg4; have HM4 := Aside0.mk hM4; have HG4 := Aside0.mk hg4; clear hM4 hg4)
          go_meet
          case rel => exact ⟨⟨blk_grown HBY.out HG4.out (by simpa using hgxb)⟩, ⟨HC2.out.trans (Ch.ofGrown HG4.out rfl)⟩, ⟨by unfold learn; rw [if_pos H1.out]; exact HM4.out⟩, ⟨(Ch.ofGrown (S := fun k => k = bk) HG4.out rfl).below HB2.out (fun k hk => by omega)⟩⟩
        · have b1 : (y.f0 == 1) = false := beq_eq_false_iff_ne.2 h1
          have H1 := Aside0.mk h1
          clear h1
          go_wp2
          go_meet
          case rel => exact ⟨HBY, HC2, ⟨by unfold learn; rw [if_neg H1.out]; exact IMap.mono HM2.out (by omega)⟩, HB2⟩
      case rest =>
        clear HBY HC2 HM2 HB2 cy0 cy1 cy6
        obtain ⟨HBY, HC2, HM2, HB2⟩ := hcut
        have cy := fun j => blk_cell HBY.out j
        have cy0 := cy 0; have cy1 := cy 1; have cy2 := cy 2; have cy3 := cy 3; have cy4 := cy 4; have cy5 := cy 5; have cy6 := cy 6; have cy7 := cy 7
        clear cy
        simp only [List.getElem?_toArray, List.getElem?_cons_zero, List.getElem?_cons_succ] at cy0 cy1 cy2 cy3 cy4 cy5 cy6 cy7
        go_upto_region 28 with (fail)
        obtain ⟨gn, hgn⟩ : ∃ g, g = wc.heap.size := ⟨_, rfl⟩
        obtain ⟨w4, hw4⟩ : ∃ w4, w4 = wc.alloc (.cells #[.int .i64 y.f0, .int .i64 y.f1, .int .i64 y.f2, .int .i64 y.f3, .int .i64 y.f4, .int .i64 y.f5, .int .i64 y.f6, .int .i64 y.f7, .pointer none, .pointer none] 74) := ⟨_, rfl⟩
        rw [← hw4, ← hgn]
        have HN4 : Aside0 (w4.heap[gn]? = some (.cells #[.int .i64 y.f0, .int .i64 y.f1, .int .i64 y.f2, .int .i64 y.f3, .int .i64 y.f4, .int .i64 y.f5, .int .i64 y.f6, .int .i64 y.f7, .pointer none, .pointer none] 74 (0, 0))) := ⟨by rw [hw4, hgn]; exact blk_new _ _⟩
        have HBY4 : Aside0 (BoxAt w4 gx y) := ⟨by rw [hw4]; exact blk_alloc HBY.out _⟩
        have HC4 : Aside0 (Ch (fun k => k = bk) w w4) := ⟨by rw [hw4]; exact HC2.out.alloc _⟩
        have HM4 : Aside0 (IMap Try.prog 3 2 w4 bk (m + 1) (learn known y)) := ⟨by rw [hw4]; exact HM2.out.alloc _⟩
        have HB4 : Aside0 (Below w0.heap.size w0 w4) := ⟨by rw [hw4]; exact HB2.out.alloc HB2.out.size _⟩
        have hgnw : w.heap.size ≤ gn := by rw [hgn]; exact HC2.out.size
        have hgn4 : gn < w4.heap.size := blk_lt HN4.out
        have hgnb : gn ≠ bk := by omega
        have hgxn : gx ≠ gn := by have := blk_lt HBY.out; omega
        have HNS : Aside0 (growT code (k + 1) i known = .node y (growT code k (i + 1) (learn known y)) (if y.f7 = 0 then .leaf else growT code k y.f7.toNat (learn known y))) := ⟨by simp only [growT]; rw [← HXE.out, if_neg H18.out, HW.out]⟩
        have hnl := next_lt HG.out hi (by rw [← HXE.out]; exact H18.out)
        clear hw4 hgn HBY HC2 HM2 HB2 cy0 cy1 cy2 cy3 cy4 cy5 cy6 cy7
        have cy := blk_cell HBY4.out 7
        simp only [List.getElem?_toArray, List.getElem?_cons_zero, List.getElem?_cons_succ] at cy
        by_cases h7 : y.f7 = 0
        · have b7 : (y.f7 != 0) = false := bne_eq_false_iff_eq.2 h7
          have H7 := Aside0.mk h7
          clear h7
          have HCL : Aside0 (Calls Try.prog 17 #[.slice (some ad_) code.length c, .int .i64 ((i : Int) + 1), .map (some bk)] w4 (GrowPost w4 bk (growT code k (i + 1) (learn known y)))) := ⟨by
            have := HIH.out (i + 1) bk (m + 1) (learn known y) w4 hnl (by omega) (by omega) HB4.out HM4.out hbk
            rwa [show ((i + 1 : Nat) : Int) = (i : Int) + 1 from by omega] at this⟩
          go_wp2_with (go_at_call 17; refine HCL.out.mono ?_; rintro e w5 ⟨v1, bs1, rfl, hp⟩; have HPO := Aside0.mk hp; clear hp; have HN5 := Aside0.mk (Ch.blk HPO.out.2.2.2 HN4.out hgnb); have cn8 := blk_cell HN5.out 8; have fn8 := blk_frozen HN5.out 8; (simp only [List.getElem?_toArray, List.getElem?_cons_zero, List.getElem?_cons_succ] at cn8))
          go_ret
          rw [HNS.out, if_pos H7.out]
          obtain ⟨p1, p2, p3, p4⟩ := HPO.out
          have hbs : ∀ b ∈ bs1, b ≠ gn := fun b hb => by have := p3 b hb; omega
          have hset : Ch (fun k => k = gn) w5 (w5.setCell ⟨gn, 8, none⟩ (.pointer v1)) := (Ch.refl _ _).setCell _ _ (fun _ => rfl)
          refine ⟨_, gn :: bs1, rfl, ⟨gn, .pointer v1, .pointer none, bs1, [], rfl, ?_, p1.ch hset hbs, ⟨rfl, rfl⟩, by simp⟩, ?_, ?_, ?_⟩
          · have := blk_set HN5.out 8 (.pointer v1); simpa using this
          · exact List.nodup_cons.2 ⟨fun h => hbs gn h rfl, p2⟩
          · intro b hb
            rcases List.mem_cons.1 hb with e | e
            · rw [e]; exact hgnw
            · exact Nat.le_trans HC4.out.size (p3 b e)
          · exact (HC4.out.trans p4).setCell _ _ (fun h => by exact absurd (show gn < w.heap.size from h) (by omega))
        · have b7 : (y.f7 != 0) = true := bne_iff_ne.2 h7
          have H7 := Aside0.mk h7
          have HTY : Aside0 (hasTo x.f0 = true) := ⟨by
            cases hh : hasTo x.f0 with
            | true => rfl
            | false => exact absurd (by rw [HKIN.out.to_, HXE.out]; exact to_no HG.out hi (by rw [← HXE.out]; exact hh)) h7⟩
          clear h7
          obtain ⟨t0, t1⟩ := to_lt HG.out hi (by rw [← HXE.out]; exact HTY.out)
          rw [← HXE.out, ← HKIN.out.to_] at t0 t1
          have HIHT : Aside0 (∀ (bk2 : Nat) (W : World), Below w0.heap.size w0 W → IMap Try.prog 3 2 W bk2 (m + 1) (learn known y) → w0.heap.size ≤ bk2 →
              Calls Try.prog 17 #[.slice (some ad_) code.length c, .int .i64 y.f7, .map (some bk2)] W (GrowPost W bk2 (growT code k y.f7.toNat (learn known y)))) := ⟨fun bk2 W b1 b2 b3 => by
            have := HIH.out y.f7.toNat bk2 (m + 1) (learn known y) W (by omega) (by omega) (by omega) b1 b2 b3
            rwa [show ((y.f7.toNat : Nat) : Int) = y.f7 from by omega] at this⟩
          clear t0 t1
          go_upto_region 29 with (fail)
          go_cut [] (fun wd => ∃ (p2 : Option Addr) (bs2 : List Nat), Aside0 (wd.heap[gn]? = some (.cells #[.int .i64 y.f0, .int .i64 y.f1, .int .i64 y.f2, .int .i64 y.f3, .int .i64 y.f4, .int .i64 y.f5, .int .i64 y.f6, .int .i64 y.f7, .pointer none, .pointer p2] 74 (0, 0))) ∧
            Aside0 (FTAt wd (growT code k y.f7.toNat (learn known y)) (.pointer p2) bs2 ∧ bs2.Nodup ∧ ∀ b ∈ bs2, w4.heap.size ≤ b) ∧ Aside0 (Ch (fun k => k = gn) w4 wd))
          case first =>
            go_region_held3 (fun w' => w'.cell? ⟨gx, 7, none⟩ = some (.int .i64 y.f7))
              (first | go_keep | exact K5 | exact K6 | exact (World.cell?_setCell_other _ _ _ _ (by intro e; injection e with e; omega)).trans K6)
              ((first
                | (go_at_call 32; refine (clone_c bk (m + 1) (learn known y) _ ?ha).mono ?_; (case ha => exact HM4.out); rintro e w5 ⟨rfl, hm5, hb5, hs5⟩; have HM5 := Aside0.mk hm5; have HB5 : Aside0 (Below w4.heap.size w4 w5) := ⟨by exact ⟨hb5.os, hb5.tape, hb5.output, hb5.size, hb5.block⟩⟩; have hs5' : w4.heap.size < w5.heap.size := hs5; clear hm5 hb5 hs5; have K5 : w5.cell? ⟨gx, 7, none⟩ = some (.int .i64 y.f7) := blk_cell (blk_below HBY4.out HB5.out) 7)
                | (go_at_call 17; refine (HIHT.out _ _ ?ha ?hb ?hc).mono ?_; (case ha => exact below_then HB4.out HB4.out.size HB5.out); (case hb => exact HM5.out); (case hc => exact HB4.out.size); rintro e w6 ⟨p2, bs2, rfl, hp⟩; have HPO := Aside0.mk hp; clear hp; have HN6 := Aside0.mk (Ch.blk HPO.out.2.2.2 (blk_below HN4.out HB5.out) (fun h => by have h : gn = w4.heap.size := h; omega)); have K6 : w6.cell? ⟨gx, 7, none⟩ = some (.int .i64 y.f7) := blk_cell (Ch.blk HPO.out.2.2.2 (blk_below HBY4.out HB5.out) (fun h => by have h : gx = w4.heap.size := h; have := blk_lt HBY4.out; omega)) 7; have cn9 := blk_cell HN6.out 9; have fn9 := blk_frozen HN6.out 9; (try simp only [List.getElem?_toArray, List.getElem?_cons_zero, List.getElem?_cons_succ] at cn9))))
            go_wp2
            go_meet
            case rel =>
              obtain ⟨p1, p2', p3, p4⟩ := HPO.out
              have c5 : Ch (fun k => k = gn) w4 w5 := Ch.ofBelow HB5.out
              have c6 : Ch (fun k => k = gn) w4 w6 := ⟨p4.os.trans c5.os, p4.tape.trans c5.tape, p4.output.trans c5.output, Nat.le_trans c5.size p4.size, fun k hk hS => (p4.block k (Nat.lt_of_lt_of_le hk c5.size) (fun e => by have e : k = w4.heap.size := e; omega)).trans (c5.block k hk hS)⟩
              have hset : Ch (fun k => k = gn) w6 (w6.setCell ⟨gn, 9, none⟩ (.pointer p2)) := (Ch.refl _ _).setCell _ _ (fun _ => rfl)
              refine ⟨p2, bs2, ⟨?_⟩, ⟨p1.ch hset (fun b hb e => ?_), p2', fun b hb => Nat.le_trans (Nat.le_of_lt hs5') (p3 b hb)⟩, ⟨c6.trans hset⟩⟩
              · have := blk_set HN6.out 9 (.pointer p2); simpa using this
              · have := p3 b hb; have e : b = gn := e; omega
          case rest =>
            clear HN4 HBY4 cy HIHT
            obtain ⟨p2, bs2, HN5, HT2, HC5⟩ := hcut
            have HM5 : Aside0 (IMap Try.prog 3 2 wc bk (m + 1) (learn known y)) := ⟨IMap.ch HM4.out HC5.out (fun e => hgnb e.symm)⟩
            have HB5 : Aside0 (Below w0.heap.size w0 wc) := ⟨HC5.out.below HB4.out (fun k hk => by have hk : k = gn := hk; have := HB.out.size; omega)⟩
            have hsz := HC5.out.size
            have HCL : Aside0 (Calls Try.prog 17 #[.slice (some ad_) code.length c, .int .i64 ((i : Int) + 1), .map (some bk)] wc (GrowPost wc bk (growT code k (i + 1) (learn known y)))) := ⟨by
              have := HIH.out (i + 1) bk (m + 1) (learn known y) wc hnl (by omega) (by omega) HB5.out HM5.out hbk
              rwa [show ((i + 1 : Nat) : Int) = (i : Int) + 1 from by omega] at this⟩
            go_wp2_with (go_at_call 17; refine HCL.out.mono ?_; rintro e w5 ⟨v1, bs1, rfl, hp⟩; have HPO := Aside0.mk hp; clear hp; have HN6 := Aside0.mk (Ch.blk HPO.out.2.2.2 HN5.out hgnb); have cn8 := blk_cell HN6.out 8; have fn8 := blk_frozen HN6.out 8; (simp only [List.getElem?_toArray, List.getElem?_cons_zero, List.getElem?_cons_succ] at cn8))
            go_ret
            rw [HNS.out, if_neg H7.out]
            obtain ⟨p1, p2', p3, p4⟩ := HPO.out
            obtain ⟨q1, q2, q3⟩ := HT2.out
            have hbs : ∀ b ∈ bs1, b ≠ gn := fun b hb => by have := p3 b hb; omega
            have hbs2 : ∀ b ∈ bs2, b ≠ gn ∧ b < wc.heap.size ∧ b ≠ bk := fun b hb => by have := q3 b hb; have := q1.lt b hb; omega
            have hset : Ch (fun k => k = gn) w5 (w5.setCell ⟨gn, 8, none⟩ (.pointer v1)) := (Ch.refl _ _).setCell _ _ (fun _ => rfl)
            refine ⟨_, gn :: (bs1 ++ bs2), rfl, ⟨gn, .pointer v1, .pointer p2, bs1, bs2, rfl, ?_, p1.ch hset hbs, (q1.ch p4 (fun b hb => (hbs2 b hb).2.2)).ch hset (fun b hb => (hbs2 b hb).1), rfl⟩, ?_, ?_, ?_⟩
            · have := blk_set HN6.out 8 (.pointer v1); simpa using this
            · refine List.nodup_cons.2 ⟨fun h => ?_, List.nodup_append.2 ⟨p2', q2, fun a ha b hb e => ?_⟩⟩
              · rcases List.mem_append.1 h with h | h
                · exact hbs gn h rfl
                · exact (hbs2 gn h).1 rfl
              · have := p3 a ha; have := (hbs2 b hb).2.1; omega
            · intro b hb
              rcases List.mem_cons.1 hb with e | e
              · rw [e]; exact hgnw
              · rcases List.mem_append.1 e with e | e
                · have := p3 b e; have := HC4.out.size; omega
                · have := q3 b e; have := HC4.out.size; omega
            · have c5 : Ch (fun k => k = bk) w wc := ⟨HC5.out.os.trans HC4.out.os, HC5.out.tape.trans HC4.out.tape, HC5.out.output.trans HC4.out.output, Nat.le_trans HC4.out.size HC5.out.size, fun k hk hS => (HC5.out.block k (Nat.lt_of_lt_of_le hk HC4.out.size) (fun e => by have e : k = gn := e; omega)).trans (HC4.out.block k hk hS)⟩
              exact (c5.trans p4).setCell _ _ (fun h => absurd (show gn < w.heap.size from h) (by omega))

set_option maxRecDepth 100000 in
set_option maxHeartbeats 32000000 in
theorem grow_step16 (w0 : World) (A : Option Addr) (c : Nat) (code : List S39) (l : List S80) (hg : Good code l) (hC : Kd.C k39 w0 A code.length code) (k : Nat)
    (ih : ∀ (i bk m : Nat) (known : Int → Option Int) (w : World), i < code.length → code.length - i ≤ k → m ≤ i → Below w0.heap.size w0 w → IMap Try.prog 3 2 w bk m known → w0.heap.size ≤ bk →
      Calls Try.prog 17 #[.slice A code.length c, .int .i64 i, .map (some bk)] w (GrowPost w bk (growT code k i known)))
    (i bk m : Nat) (known : Int → Option Int) (w : World) (hi : i < code.length) (hk : code.length - i ≤ k + 1) (hm : m ≤ i) (hB : Below w0.heap.size w0 w) (hM : IMap Try.prog 3 2 w bk m known) (hbk : w0.heap.size ≤ bk) (hcls : (rd_T39 code i).f0 = 16) :
    Calls Try.prog 17 #[.slice A code.length c, .int .i64 i, .map (some bk)] w (GrowPost w bk (growT code (k + 1) i known)) := by
  have HIH := Aside0.mk ih
  have HG := Aside0.mk hg
  have HM := Aside0.mk hM
  have HB := Aside0.mk hB
  have hn400 := hg.len2
  have hC1 := Kd.C_below hC hB
  obtain ⟨ad_, hae, hx0, hx1, hx2, hx3, hx4, hx5, hx6, hx7⟩ := at_T39 hC1 (i : Int) (by omega) (by omega)
  subst hae
  rw [Int.toNat_natCast] at hx0 hx1 hx2 hx3 hx4 hx5 hx6 hx7
  obtain ⟨x, hxe⟩ : ∃ x, x = rd_T39 code i := ⟨_, rfl⟩
  rw [← hxe] at hx0 hx1 hx2 hx3 hx4 hx5 hx6 hx7
  have HP : Aside0 (pieceA l x = true) := ⟨by rw [hxe]; exact hg.piece i hi⟩
  obtain ⟨hA0, hA1⟩ := A_of_piece HP.out
  obtain ⟨hB0, hB1⟩ := B_of_piece HP.out
  have HXE := Aside0.mk hxe
  have HCLS : Aside0 (x.f0 = 16) := ⟨by rw [hxe]; exact hcls⟩
  clear hcls
  have HWA : Aside0 ((Lit.int .i64 x.f2).wf = true) := ⟨WalkArith.wf_i64 (by omega)⟩
  have HWB : Aside0 ((Lit.int .i64 x.f3).wf = true) := ⟨WalkArith.wf_i64 (by omega)⟩
  have hbkl := hM.lt
  obtain ⟨ka, hka⟩ : ∃ ka, ka = known x.f2 := ⟨_, rfl⟩
  obtain ⟨kb, hkb⟩ : ∃ kb, kb = known x.f3 := ⟨_, rfl⟩
  have HKA := Aside0.mk hka
  have HKB := Aside0.mk hkb
  clear ih hg hM hB hC1 hC hxe hka hkb
  go_enter Try.func17, Try.ntmps17
  go_upto_region 4 with (first
    | (at_lookup; refine IMap.lookup_ok rfl _ _ 47 rfl 3 2 Try.underlying3 Try.underlying47 Try.underlying2 (zero_i64 _) bk m known rfl (HM.out.alloc _) x.f2 rfl HWA.out ?_; rw [← HKA.out])
    | (at_lookup; refine IMap.lookup_ok rfl _ _ 47 rfl 3 2 Try.underlying3 Try.underlying47 Try.underlying2 (zero_i64 _) bk m known rfl (HM.out.alloc _) x.f3 rfl HWB.out ?_; rw [← HKB.out]))
  clear hx0 hx1 hx2 hx3 hx4 hx5 hx6 hx7
  obtain ⟨va, hva⟩ : ∃ va, va = ka.getD 0 := ⟨_, rfl⟩
  obtain ⟨vb, hvb⟩ : ∃ vb, vb = kb.getD 0 := ⟨_, rfl⟩
  obtain ⟨oa, hoa⟩ : ∃ o, o = ka.isSome := ⟨_, rfl⟩
  obtain ⟨ob, hob⟩ : ∃ o, o = kb.isSome := ⟨_, rfl⟩
  obtain ⟨both, hboth⟩ : ∃ b, b = (oa && ob) := ⟨_, rfl⟩
  have HAB : Aside0 (x.f2 = x.f3 → va = vb) := ⟨fun e => by rw [hva, hvb, HKA.out, HKB.out, e]⟩
  have HW0 := Aside0.mk (gWay_eq known x ka kb HKA.out HKB.out)
  rw [← hva, ← hvb, ← hoa, ← hob, ← hboth] at HW0
  rw [← hva, ← hvb, ← hoa, ← hob]
  clear hoa hob hva hvb
  obtain ⟨gx, hgx⟩ : ∃ g, g = w.heap.size := ⟨_, rfl⟩
  obtain ⟨w1, hw1⟩ : ∃ w1, w1 = w.alloc (.cells #[.int .i64 x.f0, .int .i64 x.f1, .int .i64 x.f2, .int .i64 x.f3, .int .i64 x.f4, .int .i64 x.f5, .int .i64 x.f6, .int .i64 x.f7] 39) := ⟨_, rfl⟩
  rw [← hw1, ← hgx]
  have HBX : Aside0 (BoxAt w1 gx x) := ⟨by rw [hw1, hgx]; exact blk_new _ _⟩
  have HC1 : Aside0 (Ch (fun k => k = bk) w w1) := ⟨by rw [hw1]; exact (Ch.refl _ _).alloc _⟩
  have hgxl : w.heap.size ≤ gx := by rw [hgx]; exact Nat.le_refl _
  have hgxb : gx ≠ bk := by omega
  have HB1 : Aside0 (Below w0.heap.size w0 w1) := ⟨by rw [hw1]; exact HB.out.alloc HB.out.size _⟩
  have HM1 : Aside0 (IMap Try.prog 3 2 w1 bk m known) := ⟨by rw [hw1]; exact HM.out.alloc _⟩
  clear hw1 hgx HM
  go_cut [12] (fun v12 wc => v12 = .bool both ∧ wc = w1)
  case first =>
    have HBO := Aside0.mk hboth
    clear hboth
    cases oa with
    | true =>
      cases ob with
      | true =>
        go_wp2
        go_meet
        case rel => exact ⟨by rw [HBO.out]; rfl, rfl⟩
      | false =>
        go_wp2
        go_meet
        case rel => exact ⟨by rw [HBO.out]; rfl, rfl⟩
    | false =>
      go_wp2
      go_meet
      case rel => exact ⟨by rw [HBO.out]; rfl, rfl⟩
  case rest =>
    obtain ⟨rfl, hwc⟩ := hcut
    obtain rfl : w1 = wc := hwc.symm
    clear hboth hwc
    have cx := fun j => blk_cell HBX.out j
    have fx := fun j => blk_frozen HBX.out j
    have cx0 := cx 0; have cx1 := cx 1; have cx2 := cx 2; have cx3 := cx 3; have cx7 := cx 7
    have cx4 := cx 4; have cx5 := cx 5; have cx6 := cx 6
    clear cx
    simp only [List.getElem?_toArray, List.getElem?_cons_zero, List.getElem?_cons_succ] at cx0 cx1 cx2 cx3 cx4 cx5 cx6 cx7
    go_upto_block 0 with (fail)
    go_cut [] (fun wc => ∃ y : S39, Aside0 (gWay known x = .stay y) ∧ Aside0 (x.f0 ≠ 18) ∧ Aside0 (BoxAt wc gx y) ∧ Aside0 (Ch (fun k => k = gx) w1 wc))
    case first =>
      have HNS : Aside0 (x.f0 ≠ 18 → growT code (k + 1) i known = (match gWay known x with | .leap => growT code k x.f7.toNat known | .on => growT code k (i + 1) known | .stay y => .node y (growT code k (i + 1) (learn known y)) (if y.f7 = 0 then .leaf else growT code k y.f7.toNat (learn known y)))) := ⟨fun h => by simp only [growT]; rw [← HXE.out, if_neg h]; cases gWay known x <;> rfl⟩
      have RET : ∀ (j : Nat) (v : Option Addr) (w' : World), growT code (k + 1) i known = growT code k j known → (∃ bs, FTAt w' (growT code k j known) (.pointer v) bs ∧ bs.Nodup ∧ (∀ b ∈ bs, w1.heap.size ≤ b) ∧ Ch (fun k => k = bk) w1 w') → GrowPost w bk (growT code (k + 1) i known) (.returned (.pointer v)) w' := fun j v w' e ⟨bs, h1, h2, h3, h4⟩ =>
        ⟨v, bs, rfl, by rw [e]; exact h1, h2, fun b hb => Nat.le_trans HC1.out.size (h3 b hb), HC1.out.trans h4⟩
      have HRET := Aside0.mk RET
      clear RET
      by_cases h18 : x.f0 = 18
      · exact (by have e_ := HCLS.out; omega)
      · have b18 : (x.f0 == 18) = false := beq_eq_false_iff_ne.2 h18
        have HNS2 := Aside0.mk (HNS.out h18)
        have H18 := Aside0.mk h18
        have HNX : Aside0 (Calls Try.prog 17 #[.slice (some ad_) code.length c, .int .i64 ((i : Int) + 1), .map (some bk)] w1 (GrowPost w1 bk (growT code k (i + 1) known))) := ⟨by
          have hnl := next_lt HG.out hi (by rw [← HXE.out]; exact h18)
          have := HIH.out (i + 1) bk m known w1 hnl (by omega) (by omega) HB1.out HM1.out hbk
          rwa [show ((i + 1 : Nat) : Int) = (i : Int) + 1 from by omega] at this⟩
        have HTO : Aside0 (hasTo x.f0 = true → Calls Try.prog 17 #[.slice (some ad_) code.length c, .int .i64 x.f7, .map (some bk)] w1 (GrowPost w1 bk (growT code k x.f7.toNat known))) := ⟨fun ht => by
          obtain ⟨t0, t1⟩ := to_lt HG.out hi (by rw [← HXE.out]; exact ht)
          rw [← HXE.out] at t0 t1
          have := HIH.out x.f7.toNat bk m known w1 (by omega) (by omega) (by omega) HB1.out HM1.out hbk
          rwa [show ((x.f7.toNat : Nat) : Int) = x.f7 from by omega] at this⟩
        by_cases h16 : x.f0 = 16
        · have b16 : (x.f0 == 16) = true := beq_iff_eq.2 h16
          have b17 : (x.f0 == 17) = false := beq_eq_false_iff_ne.2 (by omega)
          have HT : Aside0 (hasTo x.f0 = true) := ⟨by rw [h16]; decide⟩
          have H16 := Aside0.mk h16
          clear h18 h16
          by_cases hab : x.f2 = x.f3
          · have bab : (x.f2 == x.f3) = true := beq_iff_eq.2 hab
            have HW : Aside0 (gWay known x = .leap) := ⟨by rw [HW0.out]; rw [if_pos H16.out, if_pos (Or.inl hab)]⟩
            clear hab
            have HCL := Aside0.mk (HTO.out HT.out)
            go_wp2_with (go_at_call 17; refine HCL.out.mono ?_; rintro e w' ⟨v, bs, rfl, hp⟩; have HPO := Aside0.mk hp; clear hp)
            go_ret
            exact HRET.out _ _ _ (by rw [HNS2.out, HW.out]) ⟨_, HPO.out⟩
          · have bab : (x.f2 == x.f3) = false := beq_eq_false_iff_ne.2 hab
            cases both with
            | false =>
              have HW : Aside0 (gWay known x = .stay x) := ⟨by rw [HW0.out]; rw [if_pos H16.out, if_neg (by simp [hab]), if_neg (by simp)]⟩
              clear hab
              go_wp2
              go_meet
              case rel => exact ⟨x, HW, H18, HBX, ⟨Ch.refl _ _⟩⟩
            | true =>
              by_cases hle : vb ≤ va
              · have HW : Aside0 (gWay known x = .leap) := ⟨by rw [HW0.out]; rw [if_pos H16.out, if_pos (Or.inr ⟨rfl, hle⟩)]⟩
                have ble : decide (vb ≤ va) = true := decide_eq_true hle
                clear hab hle
                have HCL := Aside0.mk (HTO.out HT.out)
                go_wp2_with (go_at_call 17; refine HCL.out.mono ?_; rintro e w' ⟨v, bs, rfl, hp⟩; have HPO := Aside0.mk hp; clear hp)
                go_ret
                exact HRET.out _ _ _ (by rw [HNS2.out, HW.out]) ⟨_, HPO.out⟩
              · have HW : Aside0 (gWay known x = .on) := ⟨by rw [HW0.out]; rw [if_pos H16.out, if_neg (by simp [hab]; omega), if_pos rfl]⟩
                have ble : decide (vb ≤ va) = false := decide_eq_false hle
                clear hab hle
                go_wp2_with (go_at_call 17; refine HNX.out.mono ?_; rintro e w' ⟨v, bs, rfl, hp⟩; have HPO := Aside0.mk hp; clear hp)
                go_ret
                exact HRET.out _ _ _ (by rw [HNS2.out, HW.out]) ⟨_, HPO.out⟩
        · exact (by have e_ := HCLS.out; omega)
    case rest =>
      clear cx0 cx1 cx2 cx3 cx4 cx5 cx6 cx7 fx
      obtain ⟨y, HW, H18, HBY, HCY⟩ := hcut
      have HKIN : Aside0 (Kin l x y) := ⟨by have h := way_stay (l := l) (known := known) (y := y) (HG.out.piece i hi) (to_no HG.out hi) (by rw [← HXE.out]; exact HW.out); rw [← HXE.out] at h; exact h⟩
      have HC2 : Aside0 (Ch (fun k => k = bk) w wc) := ⟨⟨HCY.out.os.trans HC1.out.os, HCY.out.tape.trans HC1.out.tape, HCY.out.output.trans HC1.out.output, Nat.le_trans HC1.out.size HCY.out.size, fun k hk hS => (HCY.out.block k (Nat.lt_of_lt_of_le hk HC1.out.size) (fun e => by omega)).trans (HC1.out.block k hk hS)⟩⟩
      have HM2 : Aside0 (IMap Try.prog 3 2 wc bk m known) := ⟨IMap.ch HM1.out HCY.out (fun e => hgxb e.symm)⟩
      have HB2 : Aside0 (Below w0.heap.size w0 wc) := ⟨HCY.out.below HB1.out (fun k hk => by have := HB1.out.size; have := hgxl; have hw := HB.out.size; omega)⟩
      clear HBX HC1 HB1 HM1 HCY
      have cy := fun j => blk_cell HBY.out j
      have cy0 := cy 0; have cy1 := cy 1; have cy6 := cy 6
      clear cy
      simp only [List.getElem?_toArray, List.getElem?_cons_zero, List.getElem?_cons_succ] at cy0 cy1 cy6
      go_upto_if 124 with (fail)
      go_cut [] (fun wd => Aside0 (BoxAt wd gx y) ∧ Aside0 (Ch (fun k => k = bk) w wd) ∧ Aside0 (IMap Try.prog 3 2 wd bk (m + 1) (learn known y)) ∧ Aside0 (Below w0.heap.size w0 wd))
      case first =>
        by_cases h1 : y.f0 = 1
        · have b1 : (y.f0 == 1) = true := beq_iff_eq.2 h1
          have H1 := Aside0.mk h1
          have HWD : Aside0 ((Lit.int .i64 y.f1).wf = true) := ⟨by
            have := D_of_piece HKIN.out.piece (by rw [h1]; decide)
            exact WalkArith.wf_i64 (by omega)⟩
          clear h1
          go_wp2_with (at_mapUpdate; refine IMap.put rfl _ _ _ 47 rfl 3 2 Try.underlying3 Try.underlying47 bk m known rfl HM2.out (by unfold maxLen; omega) y.f1 y.f6 rfl rfl HWD.out ?_; intro W4 hM4 hg4; have HM4 := Aside0.mk hM4; have HG4 := Aside0.mk hg4; clear hM4 hg4)
          go_meet
          case rel => exact ⟨⟨blk_grown HBY.out HG4.out (by simpa using hgxb)⟩, ⟨HC2.out.trans (Ch.ofGrown HG4.out rfl)⟩, ⟨by unfold learn; rw [if_pos H1.out]; exact HM4.out⟩, ⟨(Ch.ofGrown (S := fun k => k = bk) HG4.out rfl).below HB2.out (fun k hk => by omega)⟩⟩
        · have b1 : (y.f0 == 1) = false := beq_eq_false_iff_ne.2 h1
          have H1 := Aside0.mk h1
          clear h1
          go_wp2
          go_meet
          case rel => exact ⟨HBY, HC2, ⟨by unfold learn; rw [if_neg H1.out]; exact IMap.mono HM2.out (by omega)⟩, HB2⟩
      case rest =>
        clear HBY HC2 HM2 HB2 cy0 cy1 cy6
        obtain ⟨HBY, HC2, HM2, HB2⟩ := hcut
        have cy := fun j => blk_cell HBY.out j
        have cy0 := cy 0; have cy1 := cy 1; have cy2 := cy 2; have cy3 := cy 3; have cy4 := cy 4; have cy5 := cy 5; have cy6 := cy 6; have cy7 := cy 7
        clear cy
        simp only [List.getElem?_toArray, List.getElem?_cons_zero, List.getElem?_cons_succ] at cy0 cy1 cy2 cy3 cy4 cy5 cy6 cy7
        go_upto_region 28 with (fail)
        obtain ⟨gn, hgn⟩ : ∃ g, g = wc.heap.size := ⟨_, rfl⟩
        obtain ⟨w4, hw4⟩ : ∃ w4, w4 = wc.alloc (.cells #[.int .i64 y.f0, .int .i64 y.f1, .int .i64 y.f2, .int .i64 y.f3, .int .i64 y.f4, .int .i64 y.f5, .int .i64 y.f6, .int .i64 y.f7, .pointer none, .pointer none] 74) := ⟨_, rfl⟩
        rw [← hw4, ← hgn]
        have HN4 : Aside0 (w4.heap[gn]? = some (.cells #[.int .i64 y.f0, .int .i64 y.f1, .int .i64 y.f2, .int .i64 y.f3, .int .i64 y.f4, .int .i64 y.f5, .int .i64 y.f6, .int .i64 y.f7, .pointer none, .pointer none] 74 (0, 0))) := ⟨by rw [hw4, hgn]; exact blk_new _ _⟩
        have HBY4 : Aside0 (BoxAt w4 gx y) := ⟨by rw [hw4]; exact blk_alloc HBY.out _⟩
        have HC4 : Aside0 (Ch (fun k => k = bk) w w4) := ⟨by rw [hw4]; exact HC2.out.alloc _⟩
        have HM4 : Aside0 (IMap Try.prog 3 2 w4 bk (m + 1) (learn known y)) := ⟨by rw [hw4]; exact HM2.out.alloc _⟩
        have HB4 : Aside0 (Below w0.heap.size w0 w4) := ⟨by rw [hw4]; exact HB2.out.alloc HB2.out.size _⟩
        have hgnw : w.heap.size ≤ gn := by rw [hgn]; exact HC2.out.size
        have hgn4 : gn < w4.heap.size := blk_lt HN4.out
        have hgnb : gn ≠ bk := by omega
        have hgxn : gx ≠ gn := by have := blk_lt HBY.out; omega
        have HNS : Aside0 (growT code (k + 1) i known = .node y (growT code k (i + 1) (learn known y)) (if y.f7 = 0 then .leaf else growT code k y.f7.toNat (learn known y))) := ⟨by simp only [growT]; rw [← HXE.out, if_neg H18.out, HW.out]⟩
        have hnl := next_lt HG.out hi (by rw [← HXE.out]; exact H18.out)
        clear hw4 hgn HBY HC2 HM2 HB2 cy0 cy1 cy2 cy3 cy4 cy5 cy6 cy7
        have cy := blk_cell HBY4.out 7
        simp only [List.getElem?_toArray, List.getElem?_cons_zero, List.getElem?_cons_succ] at cy
        by_cases h7 : y.f7 = 0
        · have b7 : (y.f7 != 0) = false := bne_eq_false_iff_eq.2 h7
          have H7 := Aside0.mk h7
          clear h7
          have HCL : Aside0 (Calls Try.prog 17 #[.slice (some ad_) code.length c, .int .i64 ((i : Int) + 1), .map (some bk)] w4 (GrowPost w4 bk (growT code k (i + 1) (learn known y)))) := ⟨by
            have := HIH.out (i + 1) bk (m + 1) (learn known y) w4 hnl (by omega) (by omega) HB4.out HM4.out hbk
            rwa [show ((i + 1 : Nat) : Int) = (i : Int) + 1 from by omega] at this⟩
          go_wp2_with (go_at_call 17; refine HCL.out.mono ?_; rintro e w5 ⟨v1, bs1, rfl, hp⟩; have HPO := Aside0.mk hp; clear hp; have HN5 := Aside0.mk (Ch.blk HPO.out.2.2.2 HN4.out hgnb); have cn8 := blk_cell HN5.out 8; have fn8 := blk_frozen HN5.out 8; (simp only [List.getElem?_toArray, List.getElem?_cons_zero, List.getElem?_cons_succ] at cn8))
          go_ret
          rw [HNS.out, if_pos H7.out]
          obtain ⟨p1, p2, p3, p4⟩ := HPO.out
          have hbs : ∀ b ∈ bs1, b ≠ gn := fun b hb => by have := p3 b hb; omega
          have hset : Ch (fun k => k = gn) w5 (w5.setCell ⟨gn, 8, none⟩ (.pointer v1)) := (Ch.refl _ _).setCell _ _ (fun _ => rfl)
          refine ⟨_, gn :: bs1, rfl, ⟨gn, .pointer v1, .pointer none, bs1, [], rfl, ?_, p1.ch hset hbs, ⟨rfl, rfl⟩, by simp⟩, ?_, ?_, ?_⟩
          · have := blk_set HN5.out 8 (.pointer v1); simpa using this
          · exact List.nodup_cons.2 ⟨fun h => hbs gn h rfl, p2⟩
          · intro b hb
            rcases List.mem_cons.1 hb with e | e
            · rw [e]; exact hgnw
            · exact Nat.le_trans HC4.out.size (p3 b e)
          · exact (HC4.out.trans p4).setCell _ _ (fun h => by exact absurd (show gn < w.heap.size from h) (by omega))
        · have b7 : (y.f7 != 0) = true := bne_iff_ne.2 h7
          have H7 := Aside0.mk h7
          have HTY : Aside0 (hasTo x.f0 = true) := ⟨by
            cases hh : hasTo x.f0 with
            | true => rfl
            | false => exact absurd (by rw [HKIN.out.to_, HXE.out]; exact to_no HG.out hi (by rw [← HXE.out]; exact hh)) h7⟩
          clear h7
          obtain ⟨t0, t1⟩ := to_lt HG.out hi (by rw [← HXE.out]; exact HTY.out)
          rw [← HXE.out, ← HKIN.out.to_] at t0 t1
          have HIHT : Aside0 (∀ (bk2 : Nat) (W : World), Below w0.heap.size w0 W → IMap Try.prog 3 2 W bk2 (m + 1) (learn known y) → w0.heap.size ≤ bk2 →
              Calls Try.prog 17 #[.slice (some ad_) code.length c, .int .i64 y.f7, .map (some bk2)] W (GrowPost W bk2 (growT code k y.f7.toNat (learn known y)))) := ⟨fun bk2 W b1 b2 b3 => by
            have := HIH.out y.f7.toNat bk2 (m + 1) (learn known y) W (by omega) (by omega) (by omega) b1 b2 b3
            rwa [show ((y.f7.toNat : Nat) : Int) = y.f7 from by omega] at this⟩
          clear t0 t1
          go_upto_region 29 with (fail)
          go_cut [] (fun wd => ∃ (p2 : Option Addr) (bs2 : List Nat), Aside0 (wd.heap[gn]? = some (.cells #[.int .i64 y.f0, .int .i64 y.f1, .int .i64 y.f2, .int .i64 y.f3, .int .i64 y.f4, .int .i64 y.f5, .int .i64 y.f6, .int .i64 y.f7, .pointer none, .pointer p2] 74 (0, 0))) ∧
            Aside0 (FTAt wd (growT code k y.f7.toNat (learn known y)) (.pointer p2) bs2 ∧ bs2.Nodup ∧ ∀ b ∈ bs2, w4.heap.size ≤ b) ∧ Aside0 (Ch (fun k => k = gn) w4 wd))
          case first =>
            go_region_held3 (fun w' => w'.cell? ⟨gx, 7, none⟩ = some (.int .i64 y.f7))
              (first | go_keep | exact K5 | exact K6 | exact (World.cell?_setCell_other _ _ _ _ (by intro e; injection e with e; omega)).trans K6)
              ((first
                | (go_at_call 32; refine (clone_c bk (m + 1) (learn known y) _ ?ha).mono ?_; (case ha => exact HM4.out); rintro e w5 ⟨rfl, hm5, hb5, hs5⟩; have HM5 := Aside0.mk hm5; have HB5 : Aside0 (Below w4.heap.size w4 w5) := ⟨by exact ⟨hb5.os, hb5.tape, hb5.output, hb5.size, hb5.block⟩⟩; have hs5' : w4.heap.size < w5.heap.size := hs5; clear hm5 hb5 hs5; have K5 : w5.cell? ⟨gx, 7, none⟩ = some (.int .i64 y.f7) := blk_cell (blk_below HBY4.out HB5.out) 7)
                | (go_at_call 17; refine (HIHT.out _ _ ?ha ?hb ?hc).mono ?_; (case ha => exact below_then HB4.out HB4.out.size HB5.out); (case hb => exact HM5.out); (case hc => exact HB4.out.size); rintro e w6 ⟨p2, bs2, rfl, hp⟩; have HPO := Aside0.mk hp; clear hp; have HN6 := Aside0.mk (Ch.blk HPO.out.2.2.2 (blk_below HN4.out HB5.out) (fun h => by have h : gn = w4.heap.size := h; omega)); have K6 : w6.cell? ⟨gx, 7, none⟩ = some (.int .i64 y.f7) := blk_cell (Ch.blk HPO.out.2.2.2 (blk_below HBY4.out HB5.out) (fun h => by have h : gx = w4.heap.size := h; have := blk_lt HBY4.out; omega)) 7; have cn9 := blk_cell HN6.out 9; have fn9 := blk_frozen HN6.out 9; (try simp only [List.getElem?_toArray, List.getElem?_cons_zero, List.getElem?_cons_succ] at cn9))))
            go_wp2
            go_meet
            case rel =>
              obtain ⟨p1, p2', p3, p4⟩ := HPO.out
              have c5 : Ch (fun k => k = gn) w4 w5 := Ch.ofBelow HB5.out
              have c6 : Ch (fun k => k = gn) w4 w6 := ⟨p4.os.trans c5.os, p4.tape.trans c5.tape, p4.output.trans c5.output, Nat.le_trans c5.size p4.size, fun k hk hS => (p4.block k (Nat.lt_of_lt_of_le hk c5.size) (fun e => by have e : k = w4.heap.size := e; omega)).trans (c5.block k hk hS)⟩
              have hset : Ch (fun k => k = gn) w6 (w6.setCell ⟨gn, 9, none⟩ (.pointer p2)) := (Ch.refl _ _).setCell _ _ (fun _ => rfl)
              refine ⟨p2, bs2, ⟨?_⟩, ⟨p1.ch hset (fun b hb e => ?_), p2', fun b hb => Nat.le_trans (Nat.le_of_lt hs5') (p3 b hb)⟩, ⟨c6.trans hset⟩⟩
              · have := blk_set HN6.out 9 (.pointer p2); simpa using this
              · have := p3 b hb; have e : b = gn := e; omega
          case rest =>
            clear HN4 HBY4 cy HIHT
            obtain ⟨p2, bs2, HN5, HT2, HC5⟩ := hcut
            have HM5 : Aside0 (IMap Try.prog 3 2 wc bk (m + 1) (learn known y)) := ⟨IMap.ch HM4.out HC5.out (fun e => hgnb e.symm)⟩
            have HB5 : Aside0 (Below w0.heap.size w0 wc) := ⟨HC5.out.below HB4.out (fun k hk => by have hk : k = gn := hk; have := HB.out.size; omega)⟩
            have hsz := HC5.out.size
            have HCL : Aside0 (Calls Try.prog 17 #[.slice (some ad_) code.length c, .int .i64 ((i : Int) + 1), .map (some bk)] wc (GrowPost wc bk (growT code k (i + 1) (learn known y)))) := ⟨by
              have := HIH.out (i + 1) bk (m + 1) (learn known y) wc hnl (by omega) (by omega) HB5.out HM5.out hbk
              rwa [show ((i + 1 : Nat) : Int) = (i : Int) + 1 from by omega] at this⟩
            go_wp2_with (go_at_call 17; refine HCL.out.mono ?_; rintro e w5 ⟨v1, bs1, rfl, hp⟩; have HPO := Aside0.mk hp; clear hp; have HN6 := Aside0.mk (Ch.blk HPO.out.2.2.2 HN5.out hgnb); have cn8 := blk_cell HN6.out 8; have fn8 := blk_frozen HN6.out 8; (simp only [List.getElem?_toArray, List.getElem?_cons_zero, List.getElem?_cons_succ] at cn8))
            go_ret
            rw [HNS.out, if_neg H7.out]
            obtain ⟨p1, p2', p3, p4⟩ := HPO.out
            obtain ⟨q1, q2, q3⟩ := HT2.out
            have hbs : ∀ b ∈ bs1, b ≠ gn := fun b hb => by have := p3 b hb; omega
            have hbs2 : ∀ b ∈ bs2, b ≠ gn ∧ b < wc.heap.size ∧ b ≠ bk := fun b hb => by have := q3 b hb; have := q1.lt b hb; omega
            have hset : Ch (fun k => k = gn) w5 (w5.setCell ⟨gn, 8, none⟩ (.pointer v1)) := (Ch.refl _ _).setCell _ _ (fun _ => rfl)
            refine ⟨_, gn :: (bs1 ++ bs2), rfl, ⟨gn, .pointer v1, .pointer p2, bs1, bs2, rfl, ?_, p1.ch hset hbs, (q1.ch p4 (fun b hb => (hbs2 b hb).2.2)).ch hset (fun b hb => (hbs2 b hb).1), rfl⟩, ?_, ?_, ?_⟩
            · have := blk_set HN6.out 8 (.pointer v1); simpa using this
            · refine List.nodup_cons.2 ⟨fun h => ?_, List.nodup_append.2 ⟨p2', q2, fun a ha b hb e => ?_⟩⟩
              · rcases List.mem_append.1 h with h | h
                · exact hbs gn h rfl
                · exact (hbs2 gn h).1 rfl
              · have := p3 a ha; have := (hbs2 b hb).2.1; omega
            · intro b hb
              rcases List.mem_cons.1 hb with e | e
              · rw [e]; exact hgnw
              · rcases List.mem_append.1 e with e | e
                · have := p3 b e; have := HC4.out.size; omega
                · have := q3 b e; have := HC4.out.size; omega
            · have c5 : Ch (fun k => k = bk) w wc := ⟨HC5.out.os.trans HC4.out.os, HC5.out.tape.trans HC4.out.tape, HC5.out.output.trans HC4.out.output, Nat.le_trans HC4.out.size HC5.out.size, fun k hk hS => (HC5.out.block k (Nat.lt_of_lt_of_le hk HC4.out.size) (fun e => by have e : k = gn := e; omega)).trans (HC4.out.block k hk hS)⟩
              exact (c5.trans p4).setCell _ _ (fun h => absurd (show gn < w.heap.size from h) (by omega))

set_option maxRecDepth 100000 in
set_option maxHeartbeats 32000000 in
theorem grow_step17 (w0 : World) (A : Option Addr) (c : Nat) (code : List S39) (l : List S80) (hg : Good code l) (hC : Kd.C k39 w0 A code.length code) (k : Nat)
    (ih : ∀ (i bk m : Nat) (known : Int → Option Int) (w : World), i < code.length → code.length - i ≤ k → m ≤ i → Below w0.heap.size w0 w → IMap Try.prog 3 2 w bk m known → w0.heap.size ≤ bk →
      Calls Try.prog 17 #[.slice A code.length c, .int .i64 i, .map (some bk)] w (GrowPost w bk (growT code k i known)))
    (i bk m : Nat) (known : Int → Option Int) (w : World) (hi : i < code.length) (hk : code.length - i ≤ k + 1) (hm : m ≤ i) (hB : Below w0.heap.size w0 w) (hM : IMap Try.prog 3 2 w bk m known) (hbk : w0.heap.size ≤ bk) (hcls : (rd_T39 code i).f0 = 17) :
    Calls Try.prog 17 #[.slice A code.length c, .int .i64 i, .map (some bk)] w (GrowPost w bk (growT code (k + 1) i known)) := by
  have HIH := Aside0.mk ih
  have HG := Aside0.mk hg
  have HM := Aside0.mk hM
  have HB := Aside0.mk hB
  have hn400 := hg.len2
  have hC1 := Kd.C_below hC hB
  obtain ⟨ad_, hae, hx0, hx1, hx2, hx3, hx4, hx5, hx6, hx7⟩ := at_T39 hC1 (i : Int) (by omega) (by omega)
  subst hae
  rw [Int.toNat_natCast] at hx0 hx1 hx2 hx3 hx4 hx5 hx6 hx7
  obtain ⟨x, hxe⟩ : ∃ x, x = rd_T39 code i := ⟨_, rfl⟩
  rw [← hxe] at hx0 hx1 hx2 hx3 hx4 hx5 hx6 hx7
  have HP : Aside0 (pieceA l x = true) := ⟨by rw [hxe]; exact hg.piece i hi⟩
  obtain ⟨hA0, hA1⟩ := A_of_piece HP.out
  obtain ⟨hB0, hB1⟩ := B_of_piece HP.out
  have HXE := Aside0.mk hxe
  have HCLS : Aside0 (x.f0 = 17) := ⟨by rw [hxe]; exact hcls⟩
  clear hcls
  have HWA : Aside0 ((Lit.int .i64 x.f2).wf = true) := ⟨WalkArith.wf_i64 (by omega)⟩
  have HWB : Aside0 ((Lit.int .i64 x.f3).wf = true) := ⟨WalkArith.wf_i64 (by omega)⟩
  have hbkl := hM.lt
  obtain ⟨ka, hka⟩ : ∃ ka, ka = known x.f2 := ⟨_, rfl⟩
  obtain ⟨kb, hkb⟩ : ∃ kb, kb = known x.f3 := ⟨_, rfl⟩
  have HKA := Aside0.mk hka
  have HKB := Aside0.mk hkb
  clear ih hg hM hB hC1 hC hxe hka hkb
  go_enter Try.func17, Try.ntmps17
  go_upto_region 4 with (first
    | (at_lookup; refine IMap.lookup_ok rfl _ _ 47 rfl 3 2 Try.underlying3 Try.underlying47 Try.underlying2 (zero_i64 _) bk m known rfl (HM.out.alloc _) x.f2 rfl HWA.out ?_; rw [← HKA.out])
    | (at_lookup; refine IMap.lookup_ok rfl _ _ 47 rfl 3 2 Try.underlying3 Try.underlying47 Try.underlying2 (zero_i64 _) bk m known rfl (HM.out.alloc _) x.f3 rfl HWB.out ?_; rw [← HKB.out]))
  clear hx0 hx1 hx2 hx3 hx4 hx5 hx6 hx7
  obtain ⟨va, hva⟩ : ∃ va, va = ka.getD 0 := ⟨_, rfl⟩
  obtain ⟨vb, hvb⟩ : ∃ vb, vb = kb.getD 0 := ⟨_, rfl⟩
  obtain ⟨oa, hoa⟩ : ∃ o, o = ka.isSome := ⟨_, rfl⟩
  obtain ⟨ob, hob⟩ : ∃ o, o = kb.isSome := ⟨_, rfl⟩
  obtain ⟨both, hboth⟩ : ∃ b, b = (oa && ob) := ⟨_, rfl⟩
  have HAB : Aside0 (x.f2 = x.f3 → va = vb) := ⟨fun e => by rw [hva, hvb, HKA.out, HKB.out, e]⟩
  have HW0 := Aside0.mk (gWay_eq known x ka kb HKA.out HKB.out)
  rw [← hva, ← hvb, ← hoa, ← hob, ← hboth] at HW0
  rw [← hva, ← hvb, ← hoa, ← hob]
  clear hoa hob hva hvb
  obtain ⟨gx, hgx⟩ : ∃ g, g = w.heap.size := ⟨_, rfl⟩
  obtain ⟨w1, hw1⟩ : ∃ w1, w1 = w.alloc (.cells #[.int .i64 x.f0, .int .i64 x.f1, .int .i64 x.f2, .int .i64 x.f3, .int .i64 x.f4, .int .i64 x.f5, .int .i64 x.f6, .int .i64 x.f7] 39) := ⟨_, rfl⟩
  rw [← hw1, ← hgx]
  have HBX : Aside0 (BoxAt w1 gx x) := ⟨by rw [hw1, hgx]; exact blk_new _ _⟩
  have HC1 : Aside0 (Ch (fun k => k = bk) w w1) := ⟨by rw [hw1]; exact (Ch.refl _ _).alloc _⟩
  have hgxl : w.heap.size ≤ gx := by rw [hgx]; exact Nat.le_refl _
  have hgxb : gx ≠ bk := by omega
  have HB1 : Aside0 (Below w0.heap.size w0 w1) := ⟨by rw [hw1]; exact HB.out.alloc HB.out.size _⟩
  have HM1 : Aside0 (IMap Try.prog 3 2 w1 bk m known) := ⟨by rw [hw1]; exact HM.out.alloc _⟩
  clear hw1 hgx HM
  go_cut [12] (fun v12 wc => v12 = .bool both ∧ wc = w1)
  case first =>
    have HBO := Aside0.mk hboth
    clear hboth
    cases oa with
    | true =>
      cases ob with
      | true =>
        go_wp2
        go_meet
        case rel => exact ⟨by rw [HBO.out]; rfl, rfl⟩
      | false =>
        go_wp2
        go_meet
        case rel => exact ⟨by rw [HBO.out]; rfl, rfl⟩
    | false =>
      go_wp2
      go_meet
      case rel => exact ⟨by rw [HBO.out]; rfl, rfl⟩
  case rest =>
    obtain ⟨rfl, hwc⟩ := hcut
    obtain rfl : w1 = wc := hwc.symm
    clear hboth hwc
    have cx := fun j => blk_cell HBX.out j
    have fx := fun j => blk_frozen HBX.out j
    have cx0 := cx 0; have cx1 := cx 1; have cx2 := cx 2; have cx3 := cx 3; have cx7 := cx 7
    have cx4 := cx 4; have cx5 := cx 5; have cx6 := cx 6
    clear cx
    simp only [List.getElem?_toArray, List.getElem?_cons_zero, List.getElem?_cons_succ] at cx0 cx1 cx2 cx3 cx4 cx5 cx6 cx7
    go_upto_block 0 with (fail)
    go_cut [] (fun wc => ∃ y : S39, Aside0 (gWay known x = .stay y) ∧ Aside0 (x.f0 ≠ 18) ∧ Aside0 (BoxAt wc gx y) ∧ Aside0 (Ch (fun k => k = gx) w1 wc))
    case first =>
      have HNS : Aside0 (x.f0 ≠ 18 → growT code (k + 1) i known = (match gWay known x with | .leap => growT code k x.f7.toNat known | .on => growT code k (i + 1) known | .stay y => .node y (growT code k (i + 1) (learn known y)) (if y.f7 = 0 then .leaf else growT code k y.f7.toNat (learn known y)))) := ⟨fun h => by simp only [growT]; rw [← HXE.out, if_neg h]; cases gWay known x <;> rfl⟩
      have RET : ∀ (j : Nat) (v : Option Addr) (w' : World), growT code (k + 1) i known = growT code k j known → (∃ bs, FTAt w' (growT code k j known) (.pointer v) bs ∧ bs.Nodup ∧ (∀ b ∈ bs, w1.heap.size ≤ b) ∧ Ch (fun k => k = bk) w1 w') → GrowPost w bk (growT code (k + 1) i known) (.returned (.pointer v)) w' := fun j v w' e ⟨bs, h1, h2, h3, h4⟩ =>
        ⟨v, bs, rfl, by rw [e]; exact h1, h2, fun b hb => Nat.le_trans HC1.out.size (h3 b hb), HC1.out.trans h4⟩
      have HRET := Aside0.mk RET
      clear RET
      by_cases h18 : x.f0 = 18
      · exact (by have e_ := HCLS.out; omega)
      · have b18 : (x.f0 == 18) = false := beq_eq_false_iff_ne.2 h18
        have HNS2 := Aside0.mk (HNS.out h18)
        have H18 := Aside0.mk h18
        have HNX : Aside0 (Calls Try.prog 17 #[.slice (some ad_) code.length c, .int .i64 ((i : Int) + 1), .map (some bk)] w1 (GrowPost w1 bk (growT code k (i + 1) known))) := ⟨by
          have hnl := next_lt HG.out hi (by rw [← HXE.out]; exact h18)
          have := HIH.out (i + 1) bk m known w1 hnl (by omega) (by omega) HB1.out HM1.out hbk
          rwa [show ((i + 1 : Nat) : Int) = (i : Int) + 1 from by omega] at this⟩
        have HTO : Aside0 (hasTo x.f0 = true → Calls Try.prog 17 #[.slice (some ad_) code.length c, .int .i64 x.f7, .map (some bk)] w1 (GrowPost w1 bk (growT code k x.f7.toNat known))) := ⟨fun ht => by
          obtain ⟨t0, t1⟩ := to_lt HG.out hi (by rw [← HXE.out]; exact ht)
          rw [← HXE.out] at t0 t1
          have := HIH.out x.f7.toNat bk m known w1 (by omega) (by omega) (by omega) HB1.out HM1.out hbk
          rwa [show ((x.f7.toNat : Nat) : Int) = x.f7 from by omega] at this⟩
        by_cases h16 : x.f0 = 16
        · exact (by have e_ := HCLS.out; omega)
        · have b16 : (x.f0 == 16) = false := beq_eq_false_iff_ne.2 h16
          by_cases h17 : x.f0 = 17
          · have b17 : (x.f0 == 17) = true := beq_iff_eq.2 h17
            have HT : Aside0 (hasTo x.f0 = true) := ⟨by rw [h17]; decide⟩
            have H17 := Aside0.mk h17
            have H16 := Aside0.mk h16
            clear h18 h16 h17
            by_cases hab : x.f2 = x.f3
            · have bab : (x.f2 == x.f3) = true := beq_iff_eq.2 hab
              have HW : Aside0 (gWay known x = .on) := ⟨by rw [HW0.out]; rw [if_neg H16.out, if_pos H17.out, if_pos hab]⟩
              have bv : (va != vb) = false := bne_eq_false_iff_eq.2 (HAB.out hab)
              clear hab
              cases both with
              | false =>
                go_wp2_with (go_at_call 17; refine HNX.out.mono ?_; rintro e w' ⟨v, bs, rfl, hp⟩; have HPO := Aside0.mk hp; clear hp)
                go_ret
                exact HRET.out _ _ _ (by rw [HNS2.out, HW.out]) ⟨_, HPO.out⟩
              | true =>
                go_wp2_with (go_at_call 17; refine HNX.out.mono ?_; rintro e w' ⟨v, bs, rfl, hp⟩; have HPO := Aside0.mk hp; clear hp)
                go_ret
                exact HRET.out _ _ _ (by rw [HNS2.out, HW.out]) ⟨_, HPO.out⟩
            · have bab : (x.f2 == x.f3) = false := beq_eq_false_iff_ne.2 hab
              cases both with
              | false =>
                have HW : Aside0 (gWay known x = .stay x) := ⟨by rw [HW0.out]; rw [if_neg H16.out, if_pos H17.out, if_neg hab, if_neg (by simp)]⟩
                clear hab
                go_wp2
                go_meet
                case rel => exact ⟨x, HW, H18, HBX, ⟨Ch.refl _ _⟩⟩
              | true =>
                by_cases hv : va = vb
                · have HW : Aside0 (gWay known x = .on) := ⟨by rw [HW0.out]; rw [if_neg H16.out, if_pos H17.out, if_neg hab, if_pos rfl, if_pos hv]⟩
                  have bv : (va != vb) = false := bne_eq_false_iff_eq.2 hv
                  clear hab hv
                  go_wp2_with (go_at_call 17; refine HNX.out.mono ?_; rintro e w' ⟨v, bs, rfl, hp⟩; have HPO := Aside0.mk hp; clear hp)
                  go_ret
                  exact HRET.out _ _ _ (by rw [HNS2.out, HW.out]) ⟨_, HPO.out⟩
                · have HW : Aside0 (gWay known x = .leap) := ⟨by rw [HW0.out]; rw [if_neg H16.out, if_pos H17.out, if_neg hab, if_pos rfl, if_neg hv]⟩
                  have bv : (va != vb) = true := bne_iff_ne.2 hv
                  clear hab hv
                  have HCL := Aside0.mk (HTO.out HT.out)
                  go_wp2_with (go_at_call 17; refine HCL.out.mono ?_; rintro e w' ⟨v, bs, rfl, hp⟩; have HPO := Aside0.mk hp; clear hp)
                  go_ret
                  exact HRET.out _ _ _ (by rw [HNS2.out, HW.out]) ⟨_, HPO.out⟩
          · exact (by have e_ := HCLS.out; omega)
    case rest =>
      clear cx0 cx1 cx2 cx3 cx4 cx5 cx6 cx7 fx
      obtain ⟨y, HW, H18, HBY, HCY⟩ := hcut
      have HKIN : Aside0 (Kin l x y) := ⟨by have h := way_stay (l := l) (known := known) (y := y) (HG.out.piece i hi) (to_no HG.out hi) (by rw [← HXE.out]; exact HW.out); rw [← HXE.out] at h; exact h⟩
      have HC2 : Aside0 (Ch (fun k => k = bk) w wc) := ⟨⟨HCY.out.os.trans HC1.out.os, HCY.out.tape.trans HC1.out.tape, HCY.out.output.trans HC1.out.output, Nat.le_trans HC1.out.size HCY.out.size, fun k hk hS => (HCY.out.block k (Nat.lt_of_lt_of_le hk HC1.out.size) (fun e => by omega)).trans (HC1.out.block k hk hS)⟩⟩
      have HM2 : Aside0 (IMap Try.prog 3 2 wc bk m known) := ⟨IMap.ch HM1.out HCY.out (fun e => hgxb e.symm)⟩
      have HB2 : Aside0 (Below w0.heap.size w0 wc) := ⟨HCY.out.below HB1.out (fun k hk => by have := HB1.out.size; have := hgxl; have hw := HB.out.size; omega)⟩
      clear HBX HC1 HB1 HM1 HCY
      have cy := fun j => blk_cell HBY.out j
      have cy0 := cy 0; have cy1 := cy 1; have cy6 := cy 6
      clear cy
      simp only [List.getElem?_toArray, List.getElem?_cons_zero, List.getElem?_cons_succ] at cy0 cy1 cy6
      go_upto_if 124 with (fail)
      go_cut [] (fun wd => Aside0 (BoxAt wd gx y) ∧ Aside0 (Ch (fun k => k = bk) w wd) ∧ Aside0 (IMap Try.prog 3 2 wd bk (m + 1) (learn known y)) ∧ Aside0 (Below w0.heap.size w0 wd))
      case first =>
        by_cases h1 : y.f0 = 1
        · have b1 : (y.f0 == 1) = true := beq_iff_eq.2 h1
          have H1 := Aside0.mk h1
          have HWD : Aside0 ((Lit.int .i64 y.f1).wf = true) := ⟨by
            have := D_of_piece HKIN.out.piece (by rw [h1]; decide)
            exact WalkArith.wf_i64 (by omega)⟩
          clear h1
          go_wp2_with (at_mapUpdate; refine IMap.put rfl _ _ _ 47 rfl 3 2 Try.underlying3 Try.underlying47 bk m known rfl HM2.out (by unfold maxLen; omega) y.f1 y.f6 rfl rfl HWD.out ?_; intro W4 hM4 hg4; have HM4 := Aside0.mk hM4; have HG4 := Aside0.mk hg4; clear hM4 hg4)
          go_meet
          case rel => exact ⟨⟨blk_grown HBY.out HG4.out (by simpa using hgxb)⟩, ⟨HC2.out.trans (Ch.ofGrown HG4.out rfl)⟩, ⟨by unfold learn; rw [if_pos H1.out]; exact HM4.out⟩, ⟨(Ch.ofGrown (S := fun k => k = bk) HG4.out rfl).below HB2.out (fun k hk => by omega)⟩⟩
        · have b1 : (y.f0 == 1) = false := beq_eq_false_iff_ne.2 h1
          have H1 := Aside0.mk h1
          clear h1
          go_wp2
          go_meet
          case rel => exact ⟨HBY, HC2, ⟨by unfold learn; rw [if_neg H1.out]; exact IMap.mono HM2.out (by omega)⟩, HB2⟩
      case rest =>
        clear HBY HC2 HM2 HB2 cy0 cy1 cy6
        obtain ⟨HBY, HC2, HM2, HB2⟩ := hcut
        have cy := fun j => blk_cell HBY.out j
        have cy0 := cy 0; have cy1 := cy 1; have cy2 := cy 2; have cy3 := cy 3; have cy4 := cy 4; have cy5 := cy 5; have cy6 := cy 6; have cy7 := cy 7
        clear cy
        simp only [List.getElem?_toArray, List.getElem?_cons_zero, List.getElem?_cons_succ] at cy0 cy1 cy2 cy3 cy4 cy5 cy6 cy7
        go_upto_region 28 with (fail)
        obtain ⟨gn, hgn⟩ : ∃ g, g = wc.heap.size := ⟨_, rfl⟩
        obtain ⟨w4, hw4⟩ : ∃ w4, w4 = wc.alloc (.cells #[.int .i64 y.f0, .int .i64 y.f1, .int .i64 y.f2, .int .i64 y.f3, .int .i64 y.f4, .int .i64 y.f5, .int .i64 y.f6, .int .i64 y.f7, .pointer none, .pointer none] 74) := ⟨_, rfl⟩
        rw [← hw4, ← hgn]
        have HN4 : Aside0 (w4.heap[gn]? = some (.cells #[.int .i64 y.f0, .int .i64 y.f1, .int .i64 y.f2, .int .i64 y.f3, .int .i64 y.f4, .int .i64 y.f5, .int .i64 y.f6, .int .i64 y.f7, .pointer none, .pointer none] 74 (0, 0))) := ⟨by rw [hw4, hgn]; exact blk_new _ _⟩
        have HBY4 : Aside0 (BoxAt w4 gx y) := ⟨by rw [hw4]; exact blk_alloc HBY.out _⟩
        have HC4 : Aside0 (Ch (fun k => k = bk) w w4) := ⟨by rw [hw4]; exact HC2.out.alloc _⟩
        have HM4 : Aside0 (IMap Try.prog 3 2 w4 bk (m + 1) (learn known y)) := ⟨by rw [hw4]; exact HM2.out.alloc _⟩
        have HB4 : Aside0 (Below w0.heap.size w0 w4) := ⟨by rw [hw4]; exact HB2.out.alloc HB2.out.size _⟩
        have hgnw : w.heap.size ≤ gn := by rw [hgn]; exact HC2.out.size
        have hgn4 : gn < w4.heap.size := blk_lt HN4.out
        have hgnb : gn ≠ bk := by omega
        have hgxn : gx ≠ gn := by have := blk_lt HBY.out; omega
        have HNS : Aside0 (growT code (k + 1) i known = .node y (growT code k (i + 1) (learn known y)) (if y.f7 = 0 then .leaf else growT code k y.f7.toNat (learn known y))) := ⟨by simp only [growT]; rw [← HXE.out, if_neg H18.out, HW.out]⟩
        have hnl := next_lt HG.out hi (by rw [← HXE.out]; exact H18.out)
        clear hw4 hgn HBY HC2 HM2 HB2 cy0 cy1 cy2 cy3 cy4 cy5 cy6 cy7
        have cy := blk_cell HBY4.out 7
        simp only [List.getElem?_toArray, List.getElem?_cons_zero, List.getElem?_cons_succ] at cy
        by_cases h7 : y.f7 = 0
        · have b7 : (y.f7 != 0) = false := bne_eq_false_iff_eq.2 h7
          have H7 := Aside0.mk h7
          clear h7
          have HCL : Aside0 (Calls Try.prog 17 #[.slice (some ad_) code.length c, .int .i64 ((i : Int) + 1), .map (some bk)] w4 (GrowPost w4 bk (growT code k (i + 1) (learn known y)))) := ⟨by
            have := HIH.out (i + 1) bk (m + 1) (learn known y) w4 hnl (by omega) (by omega) HB4.out HM4.out hbk
            rwa [show ((i + 1 : Nat) : Int) = (i : Int) + 1 from by omega] at this⟩
          go_wp2_with (go_at_call 17; refine HCL.out.mono ?_; rintro e w5 ⟨v1, bs1, rfl, hp⟩; have HPO := Aside0.mk hp; clear hp; have HN5 := Aside0.mk (Ch.blk HPO.out.2.2.2 HN4.out hgnb); have cn8 := blk_cell HN5.out 8; have fn8 := blk_frozen HN5.out 8; (simp only [List.getElem?_toArray, List.getElem?_cons_zero, List.getElem?_cons_succ] at cn8))
          go_ret
          rw [HNS.out, if_pos H7.out]
          obtain ⟨p1, p2, p3, p4⟩ := HPO.out
          have hbs : ∀ b ∈ bs1, b ≠ gn := fun b hb => by have := p3 b hb; omega
          have hset : Ch (fun k => k = gn) w5 (w5.setCell ⟨gn, 8, none⟩ (.pointer v1)) := (Ch.refl _ _).setCell _ _ (fun _ => rfl)
          refine ⟨_, gn :: bs1, rfl, ⟨gn, .pointer v1, .pointer none, bs1, [], rfl, ?_, p1.ch hset hbs, ⟨rfl, rfl⟩, by simp⟩, ?_, ?_, ?_⟩
          · have := blk_set HN5.out 8 (.pointer v1); simpa using this
          · exact List.nodup_cons.2 ⟨fun h => hbs gn h rfl, p2⟩
          · intro b hb
            rcases List.mem_cons.1 hb with e | e
            · rw [e]; exact hgnw
            · exact Nat.le_trans HC4.out.size (p3 b e)
          · exact (HC4.out.trans p4).setCell _ _ (fun h => by exact absurd (show gn < w.heap.size from h) (by omega))
        · have b7 : (y.f7 != 0) = true := bne_iff_ne.2 h7
          have H7 := Aside0.mk h7
          have HTY : Aside0 (hasTo x.f0 = true) := ⟨by
            cases hh : hasTo x.f0 with
            | true => rfl
            | false => exact absurd (by rw [HKIN.out.to_, HXE.out]; exact to_no HG.out hi (by rw [← HXE.out]; exact hh)) h7⟩
          clear h7
          obtain ⟨t0, t1⟩ := to_lt HG.out hi (by rw [← HXE.out]; exact HTY.out)
          rw [← HXE.out, ← HKIN.out.to_] at t0 t1
          have HIHT : Aside0 (∀ (bk2 : Nat) (W : World), Below w0.heap.size w0 W → IMap Try.prog 3 2 W bk2 (m + 1) (learn known y) → w0.heap.size ≤ bk2 →
              Calls Try.prog 17 #[.slice (some ad_) code.length c, .int .i64 y.f7, .map (some bk2)] W (GrowPost W bk2 (growT code k y.f7.toNat (learn known y)))) := ⟨fun bk2 W b1 b2 b3 => by
            have := HIH.out y.f7.toNat bk2 (m + 1) (learn known y) W (by omega) (by omega) (by omega) b1 b2 b3
            rwa [show ((y.f7.toNat : Nat) : Int) = y.f7 from by omega] at this⟩
          clear t0 t1
          go_upto_region 29 with (fail)
          go_cut [] (fun wd => ∃ (p2 : Option Addr) (bs2 : List Nat), Aside0 (wd.heap[gn]? = some (.cells #[.int .i64 y.f0, .int .i64 y.f1, .int .i64 y.f2, .int .i64 y.f3, .int .i64 y.f4, .int .i64 y.f5, .int .i64 y.f6, .int .i64 y.f7, .pointer none, .pointer p2] 74 (0, 0))) ∧
            Aside0 (FTAt wd (growT code k y.f7.toNat (learn known y)) (.pointer p2) bs2 ∧ bs2.Nodup ∧ ∀ b ∈ bs2, w4.heap.size ≤ b) ∧ Aside0 (Ch (fun k => k = gn) w4 wd))
          case first =>
            go_region_held3 (fun w' => w'.cell? ⟨gx, 7, none⟩ = some (.int .i64 y.f7))
              (first | go_keep | exact K5 | exact K6 | exact (World.cell?_setCell_other _ _ _ _ (by intro e; injection e with e; omega)).trans K6)
              ((first
                | (go_at_call 32; refine (clone_c bk (m + 1) (learn known y) _ ?ha).mono ?_; (case ha => exact HM4.out); rintro e w5 ⟨rfl, hm5, hb5, hs5⟩; have HM5 := Aside0.mk hm5; have HB5 : Aside0 (Below w4.heap.size w4 w5) := ⟨by exact ⟨hb5.os, hb5.tape, hb5.output, hb5.size, hb5.block⟩⟩; have hs5' : w4.heap.size < w5.heap.size := hs5; clear hm5 hb5 hs5; have K5 : w5.cell? ⟨gx, 7, none⟩ = some (.int .i64 y.f7) := blk_cell (blk_below HBY4.out HB5.out) 7)
                | (go_at_call 17; refine (HIHT.out _ _ ?ha ?hb ?hc).mono ?_; (case ha => exact below_then HB4.out HB4.out.size HB5.out); (case hb => exact HM5.out); (case hc => exact HB4.out.size); rintro e w6 ⟨p2, bs2, rfl, hp⟩; have HPO := Aside0.mk hp; clear hp; have HN6 := Aside0.mk (Ch.blk HPO.out.2.2.2 (blk_below HN4.out HB5.out) (fun h => by have h : gn = w4.heap.size := h; omega)); have K6 : w6.cell? ⟨gx, 7, none⟩ = some (.int .i64 y.f7) := blk_cell (Ch.blk HPO.out.2.2.2 (blk_below HBY4.out HB5.out) (fun h => by have h : gx = w4.heap.size := h; have := blk_lt HBY4.out; omega)) 7; have cn9 := blk_cell HN6.out 9; have fn9 := blk_frozen HN6.out 9; (try simp only [List.getElem?_toArray, List.getElem?_cons_zero, List.getElem?_cons_succ] at cn9))))
            go_wp2
            go_meet
            case rel =>
              obtain ⟨p1, p2', p3, p4⟩ := HPO.out
              have c5 : Ch (fun k => k = gn) w4 w5 := Ch.ofBelow HB5.out
              have c6 : Ch (fun k => k = gn) w4 w6 := ⟨p4.os.trans c5.os, p4.tape.trans c5.tape, p4.output.trans c5.output, Nat.le_trans c5.size p4.size, fun k hk hS => (p4.block k (Nat.lt_of_lt_of_le hk c5.size) (fun e => by have e : k = w4.heap.size := e; omega)).trans (c5.block k hk hS)⟩
              have hset : Ch (fun k => k = gn) w6 (w6.setCell ⟨gn, 9, none⟩ (.pointer p2)) := (Ch.refl _ _).setCell _ _ (fun _ => rfl)
              refine ⟨p2, bs2, ⟨?_⟩, ⟨p1.ch hset (fun b hb e => ?_), p2', fun b hb => Nat.le_trans (Nat.le_of_lt hs5') (p3 b hb)⟩, ⟨c6.trans hset⟩⟩
              · have := blk_set HN6.out 9 (.pointer p2); simpa using this
              · have := p3 b hb; have e : b = gn := e; omega
          case rest =>
            clear HN4 HBY4 cy HIHT
            obtain ⟨p2, bs2, HN5, HT2, HC5⟩ := hcut
            have HM5 : Aside0 (IMap Try.prog 3 2 wc bk (m + 1) (learn known y)) := ⟨IMap.ch HM4.out HC5.out (fun e => hgnb e.symm)⟩
            have HB5 : Aside0 (Below w0.heap.size w0 wc) := ⟨HC5.out.below HB4.out (fun k hk => by have hk : k = gn := hk; have := HB.out.size; omega)⟩
            have hsz := HC5.out.size
            have HCL : Aside0 (Calls Try.prog 17 #[.slice (some ad_) code.length c, .int .i64 ((i : Int) + 1), .map (some bk)] wc (GrowPost wc bk (growT code k (i + 1) (learn known y)))) := ⟨by
              have := HIH.out (i + 1) bk (m + 1) (learn known y) wc hnl (by omega) (by omega) HB5.out HM5.out hbk
              rwa [show ((i + 1 : Nat) : Int) = (i : Int) + 1 from by omega] at this⟩
            go_wp2_with (go_at_call 17; refine HCL.out.mono ?_; rintro e w5 ⟨v1, bs1, rfl, hp⟩; have HPO := Aside0.mk hp; clear hp; have HN6 := Aside0.mk (Ch.blk HPO.out.2.2.2 HN5.out hgnb); have cn8 := blk_cell HN6.out 8; have fn8 := blk_frozen HN6.out 8; (simp only [List.getElem?_toArray, List.getElem?_cons_zero, List.getElem?_cons_succ] at cn8))
            go_ret
            rw [HNS.out, if_neg H7.out]
            obtain ⟨p1, p2', p3, p4⟩ := HPO.out
            obtain ⟨q1, q2, q3⟩ := HT2.out
            have hbs : ∀ b ∈ bs1, b ≠ gn := fun b hb => by have := p3 b hb; omega
            have hbs2 : ∀ b ∈ bs2, b ≠ gn ∧ b < wc.heap.size ∧ b ≠ bk := fun b hb => by have := q3 b hb; have := q1.lt b hb; omega
            have hset : Ch (fun k => k = gn) w5 (w5.setCell ⟨gn, 8, none⟩ (.pointer v1)) := (Ch.refl _ _).setCell _ _ (fun _ => rfl)
            refine ⟨_, gn :: (bs1 ++ bs2), rfl, ⟨gn, .pointer v1, .pointer p2, bs1, bs2, rfl, ?_, p1.ch hset hbs, (q1.ch p4 (fun b hb => (hbs2 b hb).2.2)).ch hset (fun b hb => (hbs2 b hb).1), rfl⟩, ?_, ?_, ?_⟩
            · have := blk_set HN6.out 8 (.pointer v1); simpa using this
            · refine List.nodup_cons.2 ⟨fun h => ?_, List.nodup_append.2 ⟨p2', q2, fun a ha b hb e => ?_⟩⟩
              · rcases List.mem_append.1 h with h | h
                · exact hbs gn h rfl
                · exact (hbs2 gn h).1 rfl
              · have := p3 a ha; have := (hbs2 b hb).2.1; omega
            · intro b hb
              rcases List.mem_cons.1 hb with e | e
              · rw [e]; exact hgnw
              · rcases List.mem_append.1 e with e | e
                · have := p3 b e; have := HC4.out.size; omega
                · have := q3 b e; have := HC4.out.size; omega
            · have c5 : Ch (fun k => k = bk) w wc := ⟨HC5.out.os.trans HC4.out.os, HC5.out.tape.trans HC4.out.tape, HC5.out.output.trans HC4.out.output, Nat.le_trans HC4.out.size HC5.out.size, fun k hk hS => (HC5.out.block k (Nat.lt_of_lt_of_le hk HC4.out.size) (fun e => by have e : k = gn := e; omega)).trans (HC4.out.block k hk hS)⟩
              exact (c5.trans p4).setCell _ _ (fun h => absurd (show gn < w.heap.size from h) (by omega))
end Go.Proofs.Ytaoefdbhfhcplaa.Q
