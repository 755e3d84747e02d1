/- The contract of (*node).count: it counts what cntT and knT tell. -/
import Derived.Test.YtaoefdbhfhcplaaFoldHeap
import Derived.Test.YtaoefdbhfhcplaaFoldTrim2
import Derived.StillTailTactics
namespace Go.Proofs.Ytaoefdbhfhcplaa.Q
open Go.RowKit Go.Proofs.YtaoefdbhfhcplaaW.PrintWords Go.Proofs.YtaoefdbhfhcplaaW.PrintLast Go.Proofs.YtaoefdbhfhcplaaW.PrintMore Go.Proofs.Ytaoefdbhfhcplaa.IM
set_option linter.unusedVariables false
set_option linter.unusedSimpArgs false

theorem zero_i64c (w : World) : (zeroValue 2).run Try.prog w = .ok (.int .i64 0) w := by kernel_rfl
theorem cell_not_map {P : Program} {k e : TypeId} {w : World} {b n : Nat} {M : Int → Option Int} (h : IMap P k e w b n M) {a : Addr} {v : Value} (hc : w.cell? a = some v) : a.block ≠ b := by
 intro he
 obtain ⟨D, ⟨es, clock, h1, _⟩, _⟩ := h
 subst he
 simp [World.cell?, h1] at hc
theorem ch_cell {S : Nat → Prop} {w w' : World} (h : Ch S w w') {a : Addr} {v : Value} (hc : w.cell? a = some v) (hS : ¬ S a.block) : w'.cell? a = some v :=
 (World.cell?_of_block (h.block a.block (World.block_lt_of_cell? w a hc) hS)).trans hc
theorem temps_range {l : List S80} {x : S39} (h : pieceA l x = true) : ∀ a ∈ tempsOf x, 0 ≤ a ∧ a < 400 := by
 intro a ha
 unfold tempsOf at ha
 split at ha
 ·
  rcases List.mem_cons.1 ha with e | e
  ·
   rw [e]; exact A_of_piece h
  ·
   rw [List.mem_singleton] at e; rw [e]; exact B_of_piece h
 ·
  split at ha
  ·
   rw [List.mem_singleton] at ha; rw [ha]; exact A_of_piece h
  ·
   simp at ha
theorem take_snoc_rd (L : List Int) (j : Nat) (h : j < L.length) : L.take (j + 1) = L.take j ++ [rd L (j : Int)] := by
 rw [List.take_succ_eq_append_getElem h]
 simp [rd, List.getD_eq_getElem?_getD, List.getElem?_eq_getElem h]
theorem bump_take (L : List Int) (U : Int → Option Int) (j : Nat) (h : j < L.length) : (L.take (j + 1)).foldl bump U = bump ((L.take j).foldl bump U) (rd L (j : Int)) := by
 rw [take_snoc_rd L j h, List.foldl_append]; rfl
/-- The maps, the tree that is left, what else is as it was. -/
structure CntAt (w wr : World) (bu bk nu nk : Nat) (t : FT) (v : Value) (bs : List Nat) (U K : Int → Option Int) : Prop where
 mu : IMap Try.prog 3 3 wr bu nu U
 mk_ : IMap Try.prog 3 2 wr bk nk K
 at_ : FTAt wr t v bs
 dis : ∀ b ∈ bs, b ≠ bu ∧ b ≠ bk
 ch : Ch (fun k => k = bu ∨ k = bk) w wr
def CntPost (w : World) (bu bk nu nk : Nat) (t : FT) (U K : Int → Option Int) (e : Ending) (w' : World) : Prop :=
 e = .returned (.tuple #[]) ∧ IMap Try.prog 3 3 w' bu (nu + 2 * t.size) (cntT t U) ∧ IMap Try.prog 3 2 w' bk (nk + t.size) (knT t K) ∧ Ch (fun k => k = bu ∨ k = bk) w w'

set_option maxRecDepth 100000 in
set_option maxHeartbeats 8000000 in
theorem count_step (l : List S80) (N : Nat) (ih : ∀ (t : FT) (p : Option Addr) (bs : List Nat) (bu bk nu nk : Nat) (U K : Int → Option Int) (w : World), t.size ≤ N → Shape l t → FTAt w t (.pointer p) bs → (∀ b ∈ bs, b ≠ bu ∧ b ≠ bk) → bu ≠ bk → nu + 2 * t.size ≤ 100000 → nk + t.size ≤ 100000 →
 IMap Try.prog 3 3 w bu nu U → IMap Try.prog 3 2 w bk nk K → Calls Try.prog 18 #[.pointer p, .map (some bu), .map (some bk)] w (CntPost w bu bk nu nk t U K))
 (t : FT) (p : Option Addr) (bs : List Nat) (bu bk nu nk : Nat) (U K : Int → Option Int) (w : World) (hN : t.size ≤ N + 1) (hsh : Shape l t) (hat : FTAt w t (.pointer p) bs) (hdis : ∀ b ∈ bs, b ≠ bu ∧ b ≠ bk) (hne : bu ≠ bk) (hnu : nu + 2 * t.size ≤ 100000) (hnk : nk + t.size ≤ 100000)
 (hU : IMap Try.prog 3 3 w bu nu U) (hK : IMap Try.prog 3 2 w bk nk K) : Calls Try.prog 18 #[.pointer p, .map (some bu), .map (some bk)] w (CntPost w bu bk nu nk t U K) := by
 have HIH := Aside0.mk ih
 have HSH := Aside0.mk hsh
 have HA : Aside0 (CntAt w w bu bk nu nk t (.pointer p) bs U K) := ⟨⟨hU, hK, hat, hdis, Ch.refl _ _⟩⟩
 clear ih hsh hat hdis hU hK
 go_enter Try.func18, Try.ntmps18
 go_wp2_with (fail)
 go_loopg [0] t.size (fun kq v0 wr => ∃ (t' : FT) (p' : Option Addr) (bs' : List Nat) (nu' nk' : Nat) (U' K' : Int → Option Int), v0 = .pointer p' ∧ t'.size = kq ∧ t'.size ≤ t.size ∧ nu' + 2 * t'.size ≤ nu + 2 * t.size ∧ nk' + t'.size ≤ nk + t.size ∧
  Aside0 (Shape l t' ∧ cntT t' U' = cntT t U ∧ knT t' K' = knT t K) ∧ Aside0 (CntAt w wr bu bk nu' nk' t' (.pointer p') bs' U' K'))
 case atStart => exact ⟨t, p, bs, nu, nk, U, K, rfl, rfl, Nat.le_refl _, Nat.le_refl _, Nat.le_refl _, ⟨HSH.out, rfl, rfl⟩, HA⟩
 case round =>
  clear HA
  obtain ⟨t', p', bs', nu', nk', U', K', rfl, hsz, hst, hnu', hnk', HT, HA⟩ := hrel
  cases t' with
  | leaf =>
   have hp : p' = none := by have := HA.out.at_.1; injection this
   subst hp
   go_wp2_with (fail)
   go_end0
   obtain ⟨h1, h2, h3⟩ := HT.out
   have a1 := HA.out.mu
   have a2 := HA.out.mk_
   exact ⟨rfl, by rw [← h2]; exact IMap.mono a1 (by simp [FT.size] at hnu'; omega), by rw [← h3]; exact IMap.mono a2 (by simp [FT.size] at hnk'; omega), HA.out.ch⟩
  | node x n s =>
   obtain ⟨g, pn, ps, bn, bt, hv, hb, hnt, hss, hbs⟩ := HA.out.at_
   injection hv with hv
   subst hv
   obtain ⟨⟨hpx, hnl, hsl, hto, hshn, hshs⟩, hcn, hkn⟩ := HT.out
   have HPX := Aside0.mk hpx
   have HSN := Aside0.mk hshn
   have HSS := Aside0.mk hshs
   have HNT := Aside0.mk hnt
   have HST := Aside0.mk hss
   have HBS := Aside0.mk hbs
   have HB := Aside0.mk hb
   have HDIS := Aside0.mk HA.out.dis
   have HMU := Aside0.mk HA.out.mu
   have HMK := Aside0.mk HA.out.mk_
   have HCH := Aside0.mk HA.out.ch
   have HCN : Aside0 (cntT n (cntT s (addUses U' x)) = cntT t U) := ⟨hcn⟩
   have HKN : Aside0 (knT n (knT s (learn K' x)) = knT t K) := ⟨hkn⟩
   obtain ⟨pn', hpn⟩ : ∃ q, pn = .pointer q := by
    cases n with
    | leaf => exact ⟨none, hnt.1⟩
    | node y a b => obtain ⟨g', _, _, _, _, e, _⟩ := hnt; exact ⟨_, e⟩
   obtain ⟨ps', hps⟩ : ∃ q, ps = .pointer q := by
    cases s with
    | leaf => exact ⟨none, hss.1⟩
    | node y a b => obtain ⟨g', _, _, _, _, e, _⟩ := hss; exact ⟨_, e⟩
   subst hpn
   subst hps
   clear hpx hnl hsl hto hshn hshs hcn hkn hnt hss hbs hb HA HT
   have hgu : g ≠ bu := (HDIS.out g (by rw [HBS.out]; simp)).1
   have hgk : g ≠ bk := (HDIS.out g (by rw [HBS.out]; simp)).2
   simp only [FT.size] at hsz hst hnu' hnk'
   have cx := fun j => blk_cell HB.out j
   have cx0 := cx 0; have cx1 := cx 1; have cx2 := cx 2; have cx3 := cx 3; have cx4 := cx 4; have cx5 := cx 5; have cx6 := cx 6; have cx7 := cx 7
   clear cx
   simp only [List.getElem?_toArray, List.getElem?_cons_zero, List.getElem?_cons_succ] at cx0 cx1 cx2 cx3 cx4 cx5 cx6 cx7
   go_wp2_with (go_at_call 33; refine (temps_c x _).mono ?_; rintro e W1 ⟨v, rfl, hR, hB1⟩; have HB1 := Aside0.mk hB1; obtain ⟨Av, cv, rfl, hcv, hCv⟩ := Kd.R_reads hR; have HCV := Aside0.mk hCv; clear hB1 hR hCv hcv)
   clear cx0 cx1 cx2 cx3 cx4 cx5 cx6 cx7
   obtain ⟨L, hL⟩ : ∃ L, L = tempsOf x := ⟨_, rfl⟩
   rw [← hL] at HCV ⊢
   have HL := Aside0.mk hL
   have hL2 : L.length ≤ 2 := by rw [hL]; exact temps_len x
   clear hL
   have HMU1 : Aside0 (IMap Try.prog 3 3 W1 bu nu' U') := ⟨IMap.ch (S := fun _ => False) HMU.out (Ch.ofBelow HB1.out) id⟩
   have HW1 : Aside0 (Ch (fun k => k = bu ∨ k = bk) wr W1) := ⟨Ch.ofBelow HB1.out⟩
   clear HMU
   have HCELL : Aside0 (∀ j : Nat, j < L.length → ∃ av, Av = some av ∧ W1.cell? (av.add j) = some (.int .i64 (rd L (j : Int))) ∧ (av.add j).block ≠ bu) := ⟨fun j hj => by
    obtain ⟨av, e1, e2⟩ := Kd.at_int HCV.out (j : Int) (by omega) (by omega)
    rw [Int.toNat_natCast] at e2
    exact ⟨av, e1, e2, cell_not_map HMU1.out e2⟩⟩
   clear HCV
   have HRG : Aside0 (∀ a ∈ L, 0 ≤ a ∧ a < 400) := ⟨by rw [HL.out]; exact temps_range HPX.out⟩
   obtain ⟨wo, rfl⟩ : ∃ wo : World, wo = wr := ⟨_, rfl⟩
   go_loopw [7, 20] (fun _ v W => ∃ j : Nat, v = .int .i64 j ∧ j ≤ L.length ∧ Aside0 (IMap Try.prog 3 3 W bu (nu' + j) ((L.take j).foldl bump U')) ∧ Aside0 (Ch (fun k => k = bu) W1 W)) (fun _ v _ => L.length - (intOf v).toNat)
   case atStart => exact ⟨0, rfl, Nat.zero_le _, ⟨HMU1.out⟩, ⟨Ch.refl _ _⟩⟩
   case round =>
    clear HMU1
    obtain ⟨j, rfl, hj, HMU1, HCW⟩ := hrel
    by_cases hjl : j < L.length
    ·
     obtain ⟨av, rfl, hc, hcb⟩ := HCELL.out j hjl
     have hc2 := ch_cell HCW.out hc hcb
     obtain ⟨a, ha⟩ : ∃ a, a = rd L (j : Int) := ⟨_, rfl⟩
     rw [← ha] at hc2
     have HAE := Aside0.mk ha
     have hr : 0 ≤ a ∧ a < 400 := HRG.out a (by rw [ha]; simp [rd, List.getD_eq_getElem?_getD, List.getElem?_eq_getElem hjl])
     have HWF : Aside0 ((Lit.int .i64 a).wf = true) := ⟨WalkArith.wf_i64 (by omega)⟩
     obtain ⟨hr0, hr1⟩ := hr
     clear hc hcb ha
     go_wp2_with (first
      | (at_lookup; refine IMap.lookup rfl _ _ 48 rfl 3 3 Try.underlying3 Try.underlying48 Try.underlying3 (zero_int _) bu _ _ rfl HMU1.out a rfl HWF.out ?_)
      | (at_mapUpdate; refine IMap.put rfl _ _ _ 48 rfl 3 3 Try.underlying3 Try.underlying48 bu _ _ rfl HMU1.out (by unfold maxLen; omega) a _ rfl rfl HWF.out ?_; intro W4 hM4 hg4; have HM4 := Aside0.mk hM4; have HG4 := Aside0.mk hg4; clear hM4 hg4))
     go_roundw
     case rel => exact ⟨j + 1, by go_num, by omega, ⟨by rw [bump_take L U' j hjl, ← HAE.out]; exact HM4.out⟩, ⟨HCW.out.trans (Ch.ofGrown HG4.out rfl)⟩⟩
     case measure => simp [intOf]; omega
    ·
     have hjL : j = L.length := by omega
     have HMU2 : Aside0 (IMap Try.prog 3 3 wr bu (nu' + 2) (addUses U' x)) := ⟨by
      have h := HMU1.out
      rw [hjL, List.take_length] at h
      rw [HL.out] at h
      have h2 := temps_len x
      exact IMap.mono h (by omega)⟩
     clear HMU1
     have HCW2 : Aside0 (Ch (fun k => k = bu ∨ k = bk) wo wr) := ⟨HW1.out.trans (HCW.out.mono (fun k _ h => .inl h))⟩
     have HB2 := Aside0.mk (Ch.blk HCW2.out HB.out (fun h => h.elim hgu hgk))
     have HMK2 : Aside0 (IMap Try.prog 3 2 wr bk nk' K') := ⟨IMap.ch (S := fun k => k = bu) (IMap.ch (S := fun _ => False) HMK.out (Ch.ofBelow HB1.out) id) HCW.out (fun h => hne h.symm)⟩
     clear HCW HB HMK HCELL HW1 HB1
     have cx := fun j => blk_cell HB2.out j
     have cx0 := cx 0; have cx1 := cx 1; have cx6 := cx 6
     clear cx
     simp only [List.getElem?_toArray, List.getElem?_cons_zero, List.getElem?_cons_succ] at cx0 cx1 cx6
     subst hjL
     go_upto_if 34 with (fail)
     go_cut [] (fun wd => Aside0 (IMap Try.prog 3 2 wd bk (nk' + 1) (learn K' x)) ∧ Aside0 (Ch (fun k => k = bk) wr wd))
     case first =>
      by_cases h1 : x.f0 = 1
      ·
       have b1 : (x.f0 == 1) = true := beq_iff_eq.2 h1
       have H1 := Aside0.mk h1
       have HWD : Aside0 ((Lit.int .i64 x.f1).wf = true) := ⟨by
        have := D_of_piece HPX.out (by rw [h1]; decide)
        exact WalkArith.wf_i64 (by omega)⟩
       clear h1
       go_upto_region 8 with (fail)
       go_still_tail 11, (by kernel_rfl)
       change wpList _ _ _ _ _ wr.drew
       have HM3 : Aside0 (IMap Try.prog 3 2 wr.drew bk nk' K') := ⟨HMK2.out⟩
       go_wp2_with (at_mapUpdate; refine IMap.put rfl _ _ _ 47 rfl 3 2 Try.underlying3 Try.underlying47 bk _ _ rfl HM3.out (by unfold maxLen; omega) x.f1 x.f6 rfl rfl HWD.out ?_; intro W4 hM4 hg4; have HM4 := Aside0.mk hM4; have HG4 := Aside0.mk hg4; clear hM4 hg4)
       go_meet
       case rel => exact ⟨⟨by unfold learn; rw [if_pos H1.out]; exact HM4.out⟩, ⟨(Ch.refl _ _).drew.trans (Ch.ofGrown HG4.out rfl)⟩⟩
      ·
       have b1 : (x.f0 == 1) = false := beq_eq_false_iff_ne.2 h1
       have H1 := Aside0.mk h1
       clear h1
       go_wp2
       go_meet
       case rel => exact ⟨⟨by unfold learn; rw [if_neg H1.out]; exact IMap.mono HMK2.out (by omega)⟩, ⟨Ch.refl _ _⟩⟩
     case rest =>
      clear cx0 cx1 cx6
      obtain ⟨HMK3, HC3⟩ := hcut
      have HMU3 : Aside0 (IMap Try.prog 3 3 wc bu (nu' + 2) (addUses U' x)) := ⟨IMap.ch HMU2.out HC3.out hne⟩
      have HC4 : Aside0 (Ch (fun k => k = bu ∨ k = bk) wo wc) := ⟨HCW2.out.trans (HC3.out.mono (fun k _ h => .inr h))⟩
      have HB3 := Aside0.mk (Ch.blk HC3.out HB2.out hgk)
      have HST3 : Aside0 (FTAt wc s (.pointer ps') bt) := ⟨HST.out.ch HC4.out (fun b hb h => by have := HDIS.out b (by rw [HBS.out]; simp [hb]); rcases h with h | h; exact this.1 h; exact this.2 h)⟩
      have HNT3 : Aside0 (FTAt wc n (.pointer pn') bn) := ⟨HNT.out.ch HC4.out (fun b hb h => by have := HDIS.out b (by rw [HBS.out]; simp [hb]); rcases h with h | h; exact this.1 h; exact this.2 h)⟩
      clear HMU2 HMK2 HCW2 HB2 HST HNT HC3
      have cx := fun j => blk_cell HB3.out j
      have cx8 := cx 8; have cx9 := cx 9
      clear cx
      simp only [List.getElem?_toArray, List.getElem?_cons_zero, List.getElem?_cons_succ] at cx8 cx9
      have HCL := Aside0.mk (HIH.out s ps' bt bu bk (nu' + 2) (nk' + 1) (addUses U' x) (learn K' x) wc (by omega) HSS.out HST3.out (fun b hb => HDIS.out b (by rw [HBS.out]; simp [hb])) hne (by omega) (by omega) HMU3.out HMK3.out)
      go_upto_region 1 with (go_at_call 18; refine HCL.out.mono ?_; rintro e W5 ⟨rfl, hp⟩; have HPO := Aside0.mk hp; clear hp; have HB4 := Aside0.mk (Ch.blk HPO.out.2.2 HB3.out (fun h => h.elim hgu hgk)))
      clear cx8 cx9
      have cx8 := blk_cell HB4.out 8
      simp only [List.getElem?_toArray, List.getElem?_cons_zero, List.getElem?_cons_succ] at cx8
      have HA5 : Aside0 (CntAt w W5 bu bk (nu' + 2 + 2 * s.size) (nk' + 1 + s.size) n (.pointer pn') bn (cntT s (addUses U' x)) (knT s (learn K' x))) := ⟨⟨HPO.out.1, HPO.out.2.1, HNT3.out.ch HPO.out.2.2 (fun b hb h => by have := HDIS.out b (by rw [HBS.out]; simp [hb]); rcases h with h | h; exact this.1 h; exact this.2 h), fun b hb => HDIS.out b (by rw [HBS.out]; simp [hb]), HCH.out.trans (HC4.out.trans HPO.out.2.2)⟩⟩
      go_wp2
      go_roundg n.size
      case measure => omega
      case rel => exact ⟨n, pn', bn, _, _, _, _, rfl, rfl, by omega, by omega, by omega, ⟨HSN.out, HCN.out, HKN.out⟩, HA5⟩
/-- The contract of count. -/
theorem count_c (l : List S80) : ∀ (N : Nat) (t : FT) (p : Option Addr) (bs : List Nat) (bu bk nu nk : Nat) (U K : Int → Option Int) (w : World), t.size ≤ N → Shape l t → FTAt w t (.pointer p) bs → (∀ b ∈ bs, b ≠ bu ∧ b ≠ bk) → bu ≠ bk → nu + 2 * t.size ≤ 100000 → nk + t.size ≤ 100000 →
 IMap Try.prog 3 3 w bu nu U → IMap Try.prog 3 2 w bk nk K → Calls Try.prog 18 #[.pointer p, .map (some bu), .map (some bk)] w (CntPost w bu bk nu nk t U K) := by
 intro N
 induction N with
 | zero =>
  intro t p bs bu bk nu nk U K w hN hsh hat hdis hne hnu hnk hU hK
  exact count_step l 0 (fun t' p' bs' bu' bk' nu' nk' U' K' w' hN' hsh' hat' hdis' hne' hnu' hnk' hU' hK' => by
   cases t' with
   | node x n s => simp [FT.size] at hN'
   | leaf =>
    have hp : p' = none := by have := hat'.1; injection this
    subst hp
    go_enter Try.func18, Try.ntmps18
    go_wp2_with (fail)
    go_loopg [0] 0 (fun _ v0 wr => v0 = .pointer none ∧ wr = w')
    case atStart => exact ⟨rfl, rfl⟩
    case round =>
     obtain ⟨rfl, rfl⟩ := hrel
     go_wp2_with (fail)
     go_end0
     exact ⟨rfl, IMap.mono hU' (by omega), IMap.mono hK' (by omega), Ch.refl _ _⟩) t p bs bu bk nu nk U K w (by omega) hsh hat hdis hne hnu hnk hU hK
 | succ N ih => intro t p bs bu bk nu nk U K w hN hsh hat hdis hne hnu hnk hU hK; exact count_step l N ih t p bs bu bk nu nk U K w hN hsh hat hdis hne hnu hnk hU hK
end Go.Proofs.Ytaoefdbhfhcplaa.Q
