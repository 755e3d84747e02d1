/- The contract of (*node).trim: it leaves the tree that trimT tells, and says how many pieces were idle. -/
import Derived.Test.YtaoefdbhfhcplaaFoldCount
namespace Go.Proofs.Ytaoefdbhfhcplaa.Q
open Go.RowKit Go.Proofs.YtaoefdbhfhcplaaW.PrintWords Go.Proofs.YtaoefdbhfhcplaaW.PrintLast Go.Proofs.YtaoefdbhfhcplaaW.PrintMore Go.Proofs.Ytaoefdbhfhcplaa.IM
set_option linter.unusedVariables false
set_option linter.unusedSimpArgs false

def TrimPost (w : World) (U K : Int → Option Int) (t : FT) (bs : List Nat) (e : Ending) (w' : World) : Prop :=
 ∃ (p' : Option Addr) (bs' : List Nat), e = .returned (.tuple #[.pointer p', .int .i64 (((trimT U K t).2 : Nat) : Int)]) ∧ FTAt w' (trimT U K t).1 (.pointer p') bs' ∧ (∀ b ∈ bs', b ∈ bs) ∧ bs'.Nodup ∧ Ch (fun k => k ∈ bs) w w'

set_option maxRecDepth 100000 in
set_option maxHeartbeats 8000000 in
theorem trim_node (l : List S80) (x : S39) (n s : FT)
 (ihn : ∀ (p : Option Addr) (bs : List Nat) (bu bk nu nk : Nat) (U K : Int → Option Int) (w : World), Shape l n → FTAt w n (.pointer p) bs → bs.Nodup → (∀ b ∈ bs, b ≠ bu ∧ b ≠ bk) → n.size ≤ 1000 →
  IMap Try.prog 3 3 w bu nu U → IMap Try.prog 3 2 w bk nk K → Calls Try.prog 19 #[.pointer p, .map (some bu), .map (some bk)] w (TrimPost w U K n bs))
 (ihs : ∀ (p : Option Addr) (bs : List Nat) (bu bk nu nk : Nat) (U K : Int → Option Int) (w : World), Shape l s → FTAt w s (.pointer p) bs → bs.Nodup → (∀ b ∈ bs, b ≠ bu ∧ b ≠ bk) → s.size ≤ 1000 →
  IMap Try.prog 3 3 w bu nu U → IMap Try.prog 3 2 w bk nk K → Calls Try.prog 19 #[.pointer p, .map (some bu), .map (some bk)] w (TrimPost w U K s bs))
 (p : Option Addr) (bs : List Nat) (bu bk nu nk : Nat) (U K : Int → Option Int) (w : World) (hsh : Shape l (.node x n s)) (hat : FTAt w (.node x n s) (.pointer p) bs) (hnd : bs.Nodup) (hdis : ∀ b ∈ bs, b ≠ bu ∧ b ≠ bk) (hsz : (FT.node x n s).size ≤ 1000)
 (hU : IMap Try.prog 3 3 w bu nu U) (hK : IMap Try.prog 3 2 w bk nk K) : Calls Try.prog 19 #[.pointer p, .map (some bu), .map (some bk)] w (TrimPost w U K (.node x n s) bs) := by
 obtain ⟨g, pn, ps, bn, bt, hv, hb, hnt, hss, hbs⟩ := hat
 injection hv with hv
 subst hv
 obtain ⟨hpx, hnl, hsl, hto, hshn, hshs⟩ := hsh
 obtain ⟨pn', hpn⟩ : ∃ q, pn = .pointer q := by
  cases n with
  | leaf => exact ⟨none, hnt.1⟩
  | node y a b => obtain ⟨g', _, _, _, _, e, _⟩ := hnt; exact ⟨_, e⟩
 obtain ⟨ps', hps⟩ : ∃ q, ps = .pointer q := by
  cases s with
  | leaf => exact ⟨none, hss.1⟩
  | node y a b => obtain ⟨g', _, _, _, _, e, _⟩ := hss; exact ⟨_, e⟩
 subst hpn
 subst hps
 rw [hbs] at hnd hdis
 obtain ⟨hg1, hnd2⟩ := List.nodup_cons.1 hnd
 obtain ⟨hndn, hnds, hnds2⟩ := List.nodup_append.1 hnd2
 have HBS := Aside0.mk hbs
 have HPX := Aside0.mk hpx
 have HNT := Aside0.mk hnt
 have HST := Aside0.mk hss
 have HB := Aside0.mk hb
 have HU := Aside0.mk hU
 have HK := Aside0.mk hK
 have HDIS := Aside0.mk hdis
 have HG1 : Aside0 (g ∉ bn ∧ g ∉ bt) := ⟨fun h => hg1 (List.mem_append.2 (.inl h)), fun h => hg1 (List.mem_append.2 (.inr h))⟩
 have HND : Aside0 (bn.Nodup ∧ bt.Nodup ∧ ∀ a ∈ bn, ∀ b ∈ bt, a ≠ b) := ⟨hndn, hnds, hnds2⟩
 simp only [FT.size] at hsz
 have HCN := Aside0.mk (ihn pn' bn bu bk nu nk U K w hshn hnt hndn (fun b hb => hdis b (by simp [hb])) (by omega) hU hK)
 have HCS : Aside0 (∀ W : World, Ch (fun k => k ∈ bn) w W → Calls Try.prog 19 #[.pointer ps', .map (some bu), .map (some bk)] W (TrimPost W U K s bt)) := ⟨fun W hW =>
  ihs ps' bt bu bk nu nk U K W hshs (hss.ch hW (fun b hb h => hnds2 b h b hb rfl)) hnds (fun b hb => hdis b (by simp [hb])) (by omega)
   (IMap.ch hU hW (fun h => (hdis bu (by simp [h])).1 rfl)) (IMap.ch hK hW (fun h => (hdis bk (by simp [h])).2 rfl))⟩
 have hkn : (trimT U K n).2 ≤ 1000 := by have := trim_size U K n; omega
 have hks : (trimT U K s).2 ≤ 1000 := by have := trim_size U K s; omega
 have HTR : Aside0 (trimT U K (.node x n s) = if idleB U K x then ((trimT U K n).1, (trimT U K n).2 + 1) else (.node x (trimT U K n).1 (trimT U K s).1, (trimT U K n).2 + (trimT U K s).2)) := ⟨rfl⟩
 obtain ⟨hD0, hD1⟩ : -1000 ≤ (if hasD x.f0 then x.f1 else 0) ∧ (if hasD x.f0 then x.f1 else 0) ≤ 1000 := by
  cases hd : hasD x.f0 with
  | true => have := D_of_piece hpx hd; simp; omega
  | false => simp
 have HWD : Aside0 (hasD x.f0 = true → (Lit.int .i64 x.f1).wf = true) := ⟨fun h => by rw [h] at hD0 hD1; simp at hD0 hD1; exact WalkArith.wf_i64 (by omega)⟩
 have HWB : Aside0 ((Lit.int .i64 x.f3).wf = true) := ⟨by have := B_of_piece hpx; exact WalkArith.wf_i64 (by omega)⟩
 clear hD0 hD1 hbs hpx hnl hsl hto hshn hshs hnt hss hb hnd hnd2 hdis hg1 hndn hnds hnds2 hU hK ihn ihs
 have cx := fun j => blk_cell HB.out j
 have cx0 := cx 0; have cx1 := cx 1; have cx3 := cx 3; have cx8 := cx 8; have cx9 := cx 9
 clear cx
 simp only [List.getElem?_toArray, List.getElem?_cons_zero, List.getElem?_cons_succ] at cx0 cx1 cx3 cx8 cx9
 obtain ⟨ua, hua⟩ : ∃ u, u = (U x.f1).getD 0 := ⟨_, rfl⟩
 obtain ⟨kb, hkb⟩ : ∃ u, u = (K x.f3).getD 0 := ⟨_, rfl⟩
 have HUA := Aside0.mk hua
 have HKB := Aside0.mk hkb
 clear hua hkb
 go_enter Try.func19, Try.ntmps19
 go_upto_block 0 with (fail)
 obtain ⟨idle, hidle⟩ : ∃ b, b = idleB U K x := ⟨_, rfl⟩
 have HID := Aside0.mk hidle
 clear hidle
 go_cut [8] (fun v8 wc => v8 = .bool idle ∧ wc = w)
 case first =>
  have LK : True := trivial
  by_cases h14 : x.f0 = 1 ∨ x.f0 = 2 ∨ x.f0 = 3 ∨ x.f0 = 4
  ·
   have HE : Aside0 (idle = (ua == 0)) := ⟨by rw [HID.out]; unfold idleB; rw [if_pos h14, HUA.out]⟩
   have HW1 : Aside0 ((Lit.int .i64 x.f1).wf = true) := ⟨HWD.out (by rcases h14 with e | e | e | e <;> rw [e] <;> decide)⟩
   by_cases h1 : x.f0 = 1
   ·
    have b1 : (x.f0 == 1) = true := beq_iff_eq.2 h1
    clear h14 h1
    go_wp2_with (at_lookup; refine IMap.lookup rfl _ _ 48 rfl 3 3 Try.underlying3 Try.underlying48 Try.underlying3 (zero_int _) bu _ _ rfl HU.out x.f1 rfl HW1.out ?_; rw [← HUA.out])
    go_meet
    case rel => exact ⟨by rw [HE.out], rfl⟩
   ·
    have b1 : (x.f0 == 1) = false := beq_eq_false_iff_ne.2 h1
    by_cases h2 : x.f0 = 2
    ·
     have b2 : (x.f0 == 2) = true := beq_iff_eq.2 h2
     clear h14 h1 h2
     go_wp2_with (at_lookup; refine IMap.lookup rfl _ _ 48 rfl 3 3 Try.underlying3 Try.underlying48 Try.underlying3 (zero_int _) bu _ _ rfl HU.out x.f1 rfl HW1.out ?_; rw [← HUA.out])
     go_meet
     case rel => exact ⟨by rw [HE.out], rfl⟩
    ·
     have b2 : (x.f0 == 2) = false := beq_eq_false_iff_ne.2 h2
     by_cases h3 : x.f0 = 3
     ·
      have b3 : (x.f0 == 3) = true := beq_iff_eq.2 h3
      clear h14 h1 h2 h3
      go_wp2_with (at_lookup; refine IMap.lookup rfl _ _ 48 rfl 3 3 Try.underlying3 Try.underlying48 Try.underlying3 (zero_int _) bu _ _ rfl HU.out x.f1 rfl HW1.out ?_; rw [← HUA.out])
      go_meet
      case rel => exact ⟨by rw [HE.out], rfl⟩
     ·
      have b3 : (x.f0 == 3) = false := beq_eq_false_iff_ne.2 h3
      have b4 : (x.f0 == 4) = true := beq_iff_eq.2 (by omega)
      clear h14 h1 h2 h3
      go_wp2_with (at_lookup; refine IMap.lookup rfl _ _ 48 rfl 3 3 Try.underlying3 Try.underlying48 Try.underlying3 (zero_int _) bu _ _ rfl HU.out x.f1 rfl HW1.out ?_; rw [← HUA.out])
      go_meet
      case rel => exact ⟨by rw [HE.out], rfl⟩
  ·
   have b1 : (x.f0 == 1) = false := beq_eq_false_iff_ne.2 (by omega)
   have b2 : (x.f0 == 2) = false := beq_eq_false_iff_ne.2 (by omega)
   have b3 : (x.f0 == 3) = false := beq_eq_false_iff_ne.2 (by omega)
   have b4 : (x.f0 == 4) = false := beq_eq_false_iff_ne.2 (by omega)
   by_cases h5 : x.f0 = 5
   ·
    have b5 : (x.f0 == 5) = true := beq_iff_eq.2 h5
    have HE : Aside0 (idle = (ua == 0 && kb != 0)) := ⟨by rw [HID.out]; unfold idleB; rw [if_neg h14, if_pos h5, HUA.out, HKB.out]⟩
    have HW1 : Aside0 ((Lit.int .i64 x.f1).wf = true) := ⟨HWD.out (by rw [h5]; decide)⟩
    clear h14 h5
    by_cases hu0 : ua = 0
    ·
     have bu0 : (ua == 0) = true := beq_iff_eq.2 hu0
     have HU0 := Aside0.mk hu0
     clear hu0
     go_wp2_with (first
      | (at_lookup; refine IMap.look ?hw _ _ 48 rfl 3 3 Try.underlying3 Try.underlying48 (zero_int _) bu _ _ rfl HU.out x.f1 rfl HW1.out ?_; (case hw => first | rfl | (simp [Region.wanted]; done) | (simp [Region.wanted, yielded]; done)); rw [← HUA.out])
      | (at_lookup; refine IMap.look ?hw _ _ 47 rfl 3 2 Try.underlying3 Try.underlying47 (zero_i64c _) bk _ _ rfl HK.out x.f3 rfl HWB.out ?_; (case hw => first | rfl | (simp [Region.wanted]; done) | (simp [Region.wanted, yielded]; done)); rw [← HKB.out]))
     go_meet
     case rel => exact ⟨by rw [HE.out, HU0.out]; rfl, rfl⟩
    ·
     have bu0 : (ua == 0) = false := beq_eq_false_iff_ne.2 hu0
     have HU0 := Aside0.mk bu0
     clear hu0
     go_wp2_with (at_lookup; refine IMap.lookup rfl _ _ 48 rfl 3 3 Try.underlying3 Try.underlying48 Try.underlying3 (zero_int _) bu _ _ rfl HU.out x.f1 rfl HW1.out ?_; rw [← HUA.out])
     go_meet
     case rel => exact ⟨by rw [HE.out, HU0.out]; rfl, rfl⟩
   ·
    have b5 : (x.f0 == 5) = false := beq_eq_false_iff_ne.2 h5
    have HE : Aside0 (idle = false) := ⟨by rw [HID.out]; unfold idleB; rw [if_neg h14, if_neg h5]⟩
    clear h14 h5
    go_wp2
    go_meet
    case rel => exact ⟨by rw [HE.out], rfl⟩
 case rest =>
  obtain ⟨rfl, hwc⟩ := hcut
  obtain rfl : w = wc := hwc.symm
  clear hwc
  go_upto_region 13 with (go_at_call 19; refine HCN.out.mono ?_; rintro e w5 ⟨q1, bs1, rfl, hp⟩; have HP1 := Aside0.mk hp; clear hp; have HB5 := Aside0.mk (Ch.blk HP1.out.2.2.2 HB.out HG1.out.1))
  clear cx0 cx1 cx3 cx8 cx9
  cases idle with
  | true =>
   go_wp2
   have HE : Aside0 (trimT U K (.node x n s) = ((trimT U K n).1, (trimT U K n).2 + 1)) := ⟨by rw [HTR.out, ← HID.out]; rfl⟩
   go_ret2
   obtain ⟨h1, h2, h3, h4⟩ := HP1.out
   unfold TrimPost
   rw [HE.out]
   exact ⟨q1, bs1, by simp, h1, fun b hb => by rw [HBS.out]; simp [h2 b hb], h3, h4.mono (fun k _ hk => by rw [HBS.out]; simp [show k ∈ bn from hk])⟩
  | false =>
   have cx9 := blk_cell HB5.out 9
   simp only [List.getElem?_toArray, List.getElem?_cons_zero, List.getElem?_cons_succ] at cx9
   go_upto_region 16 with (go_at_call 19; refine (HCS.out _ HP1.out.2.2.2).mono ?_; rintro e w6 ⟨q2, bs2, rfl, hp⟩; have HP2 := Aside0.mk hp; clear hp; have HB6 := Aside0.mk (Ch.blk HP2.out.2.2.2 HB5.out HG1.out.2))
   clear cx9
   have cx := fun j => blk_cell HB6.out j
   have fx := fun j => blk_frozen HB6.out j
   have cx8 := cx 8; have cx9 := cx 9
   clear cx
   simp only [List.getElem?_toArray, List.getElem?_cons_zero, List.getElem?_cons_succ] at cx8 cx9
   go_wp2
   have HE : Aside0 (trimT U K (.node x n s) = (.node x (trimT U K n).1 (trimT U K s).1, (trimT U K n).2 + (trimT U K s).2)) := ⟨by rw [HTR.out, ← HID.out]; rfl⟩
   go_ret2
   obtain ⟨h1, h2, h3, h4⟩ := HP1.out
   obtain ⟨k1, k2, k3, k4⟩ := HP2.out
   unfold TrimPost
   rw [HE.out]
   have c1 : Ch (fun k => k = g) w6 ((w6.setCell ⟨g, 8, none⟩ (.pointer q1)).setCell ⟨g, 9, none⟩ (.pointer q2)) := ((Ch.refl (fun k => k = g) _).setCell _ _ (fun _ => rfl)).setCell _ _ (fun _ => rfl)
   have hb1 := blk_set (blk_set HB6.out 8 (.pointer q1)) 9 (.pointer q2)
   refine ⟨some ⟨g, 0, none⟩, g :: (bs1 ++ bs2), by simp, ⟨g, .pointer q1, .pointer q2, bs1, bs2, rfl, by simpa using hb1, (h1.ch k4 (fun b hb hk => HND.out.2.2 b (h2 b hb) b hk rfl)).ch c1 (fun b hb e => ?_), k1.ch c1 (fun b hb e => ?_), rfl⟩, ?_, ?_, ?_⟩
   ·
    have e : b = g := e
    exact HG1.out.1 (by rw [← e]; exact h2 b hb)
   ·
    have e : b = g := e
    exact HG1.out.2 (by rw [← e]; exact k2 b hb)
   ·
    intro b hb
    rw [HBS.out]
    rcases List.mem_cons.1 hb with e | e
    ·
     rw [e]; simp
    ·
     rcases List.mem_append.1 e with e | e
     ·
      simp [h2 b e]
     ·
      simp [k2 b e]
   ·
    refine List.nodup_cons.2 ⟨fun h => ?_, List.nodup_append.2 ⟨h3, k3, fun a ha b hb e => HND.out.2.2 a (h2 a ha) b (k2 b hb) e⟩⟩
    rcases List.mem_append.1 h with h | h
    ·
     exact HG1.out.1 (h2 g h)
    ·
     exact HG1.out.2 (k2 g h)
   ·
    exact ((h4.mono (fun k _ hk => by rw [HBS.out]; simp [show k ∈ bn from hk])).trans (k4.mono (fun k _ hk => by rw [HBS.out]; simp [show k ∈ bt from hk]))).trans (c1.mono (fun k _ hk => by rw [HBS.out]; simp [show k = g from hk]))
/-- The contract of trim. -/
theorem trim_c (l : List S80) : ∀ (t : FT) (p : Option Addr) (bs : List Nat) (bu bk nu nk : Nat) (U K : Int → Option Int) (w : World), Shape l t → FTAt w t (.pointer p) bs → bs.Nodup → (∀ b ∈ bs, b ≠ bu ∧ b ≠ bk) → t.size ≤ 1000 →
 IMap Try.prog 3 3 w bu nu U → IMap Try.prog 3 2 w bk nk K → Calls Try.prog 19 #[.pointer p, .map (some bu), .map (some bk)] w (TrimPost w U K t bs) := by
 intro t
 induction t with
 | leaf =>
  intro p bs bu bk nu nk U K w _ hat _ _ _ hU hK
  have hp : p = none := by have := hat.1; injection this
  subst hp
  go_enter Try.func19, Try.ntmps19
  go_wp2
  go_ret2
  exact ⟨none, [], rfl, ⟨rfl, rfl⟩, fun b hb => by simp at hb, List.nodup_nil, Ch.refl _ _⟩
 | node x n s ihn ihs =>
  intro p bs bu bk nu nk U K w hsh hat hnd hdis hsz hU hK
  exact trim_node l x n s ihn ihs p bs bu bk nu nk U K w hsh hat hnd hdis hsz hU hK
end Go.Proofs.Ytaoefdbhfhcplaa.Q
