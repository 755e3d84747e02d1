/- The contract of fold.Fold: it answers foldOut. -/
import Derived.Test.YtaoefdbhfhcplaaFoldWalk
import Derived.Test.YtaoefdbhfhcplaaFoldLayW
namespace Go.Proofs.Ytaoefdbhfhcplaa.Q
open Go.RowKit Go.Proofs.YtaoefdbhfhcplaaW.PrintWords Go.Proofs.YtaoefdbhfhcplaaW.PrintLast Go.Proofs.YtaoefdbhfhcplaaW.PrintMore Go.Proofs.Ytaoefdbhfhcplaa.IM
set_option linter.unusedVariables false
set_option linter.unusedSimpArgs false

/-- What holds at the head of a round of trimming: how many were trimmed last, and what all trimming comes to. -/
structure TrimAt (w wr : World) (l : List S80) (code : List S39) (kq kv : Nat) (t : FT) (p : Option Addr) (bs : List Nat) : Prop where
 at_ : FTAt wr t (.pointer p) bs
 nd : bs.Nodup
 lo : ∀ b ∈ bs, w.heap.size ≤ b
 right : RightT l t
 bel : Below w.heap.size w wr
 more : 0 < kv → t.size < kq ∧ trimAll kq t = trimAll (code.length + 1) (growT code code.length 0 fun _ => none)
 few : t.size ≤ 400
 kfew : kv ≤ 1000
 last : kv = 0 → t = trimAll (code.length + 1) (growT code code.length 0 fun _ => none)

set_option maxRecDepth 100000 in
set_option maxHeartbeats 8000000 in
theorem fold_body (A0 : Option Addr) (c0 : Nat) (l0 : List S39) (A1 : Option Addr) (c1 : Nat) (l1 : List S80) (w : World) (hr0 : Kd.C k39 w A0 l0.length l0) (hc0 : l0.length ≤ c0) (hr1 : Kd.C k80 w A1 l1.length l1) (hc1 : l1.length ≤ c1) (hR : rightB l0 l1 = true) :
 Calls Try.prog 9 #[.slice A0 l0.length c0, .slice A1 l1.length c1] w fun e w' => ∃ v0_ : Value, e = .returned (.tuple #[v0_, .int .i64 0]) ∧ Kd.R k39 39 w' w.heap.size (fun _ => True) v0_ (foldOut l0) ∧ Below w.heap.size w w' := by
 have hmm := @run_makeMap Try.prog
 have HR0 := Aside0.mk hr0
 have HR1 := Aside0.mk hr1
 have HRT := Aside0.mk hR
 have hg := (rightB_iff l0 l1).1 hR
 have HG := Aside0.mk hg
 have hn1 := hg.len1
 have hn2 := hg.len2
 have HGR := Aside0.mk (grow_right hg)
 clear hr0 hr1 hR hg
 go_enter Try.func9, Try.ntmps9
 go_upto_region 4 with (first
  | (go_at_call 16; refine (tree_Right.calls A0 c0 l0 A1 c1 l1 true _ HR0.out hc0 HR1.out hc1 (by unfold tree_Right.f; rw [HRT.out])).mono ?_; rintro e w1 ⟨rfl, hB1⟩; have HB1 := Aside0.mk hB1; clear hB1)
  | (go_at_call 17; refine Calls.mono (show Calls Try.prog 17 #[.slice A0 l0.length c0, .int .i64 0, .map (some _)] _ _ from grow_c w A0 c0 l0 l1 HG.out HR0.out l0.length 0 _ 0 (fun _ => none) _ (by omega) (by omega) (Nat.le_refl _) (HB1.out.alloc HB1.out.size _) (IMap.made _ _ _ _) HB1.out.size) ?_; rintro e w2 ⟨p, bs, rfl, hp⟩; have HPO := Aside0.mk hp; clear hp))
 have HB2 : Aside0 (Below w.heap.size w w2) := ⟨by
  obtain ⟨_, _, _, hch⟩ := HPO.out
  exact hch.below (HB1.out.alloc HB1.out.size _) (fun k hk => by have hk : k = w1.heap.size := hk; have := HB1.out.size; omega)⟩
 have HT0 : Aside0 (TrimAt w w2 l1 l0 (l0.length + 1) 1 (growT l0 l0.length 0 fun _ => none) p bs) := ⟨⟨HPO.out.1, HPO.out.2.1, fun b hb => by
  have h1 := HPO.out.2.2.1 b hb
  have h2 := HB1.out.size
  have h3 : w1.heap.size ≤ (w1.alloc (.map #[] 0)).heap.size := by simp
  exact Nat.le_trans h2 (Nat.le_trans h3 h1), HGR.out.1, HB2.out, fun _ => ⟨by have := HGR.out.2; omega, rfl⟩, by have := HGR.out.2; omega, by omega, fun h => by omega⟩⟩
 clear HPO HB2 HB1
 go_wp2
 go_loopg [6, 7] (l0.length + 2) (fun kq v6 v7 wr => ∃ (kv : Nat) (t : FT) (p : Option Addr) (bs : List Nat), v6 = .pointer p ∧ v7 = .int .i64 kv ∧ Aside0 (TrimAt w wr l1 l0 (kq - 1) kv t p bs) ∧ (0 < kv → 0 < kq))
 case atStart => exact ⟨1, _, p, bs, rfl, rfl, HT0, fun _ => by omega⟩
 case round =>
  clear HT0
  obtain ⟨kv, t, p2, bs2, rfl, rfl, HT, hkq⟩ := hrel
  cases kv with
  | zero =>
   have HTL := Aside0.mk (HT.out.last rfl)
   have hbase : w.heap.size ≤ wr.heap.size := HT.out.bel.size
   have HL := Aside0.mk (lay_c t p2 bs2 w.heap.size (.slice none 0 0) [] wr HT.out.right.some_ HT.out.at_ (Kd.R_nil _ _ _ _ _) hbase (by have := HT.out.few; simp; omega))
   --BEGIN Z
   go_wp2_with (go_at_call 20; refine HL.out.mono ?_; rintro e w3 ⟨v3, rfl, ho3, hc3, -⟩; obtain ⟨A3, c3, hv3⟩ := Kd.R_slice ho3; subst hv3; have HO3 := Aside0.mk ho3; have HC3 := Aside0.mk hc3; clear ho3 hc3)
   go_ret2
   refine ⟨_, rfl, by unfold foldOut; rw [← HTL.out]; exact HO3.out, HC3.out.below HT.out.bel (fun k hk => by cases hk)⟩
   --END Z
  | succ kv =>
   have bk : (0 : Int) < (kv : Int) + 1 := by omega
   obtain ⟨bu, hbu⟩ : ∃ k, k = wr.heap.size := ⟨_, rfl⟩
   obtain ⟨w3, hw3⟩ : ∃ w3, w3 = (wr.alloc (.map #[] 0)).alloc (.map #[] 0) := ⟨_, rfl⟩
   have hs3 : (wr.alloc (.map #[] 0)).heap.size = bu + 1 := by rw [hbu]; simp
   have HU3 : Aside0 (IMap Try.prog 3 3 w3 bu 0 (fun _ => none)) := ⟨by rw [hw3, hbu]; exact (IMap.made _ _ _ _).alloc _⟩
   have HK3 : Aside0 (IMap Try.prog 3 2 w3 (bu + 1) 0 (fun _ => none)) := ⟨by rw [hw3, ← hs3]; exact IMap.made _ _ _ _⟩
   have HC3 : Aside0 (Below wr.heap.size wr w3) := ⟨by rw [hw3]; exact below_alloc (below_alloc (Below.refl _ _) _) _⟩
   have hlt : ∀ b ∈ bs2, b ≠ bu ∧ b ≠ bu + 1 := fun b hb => by have := HT.out.at_.lt b hb; omega
   have HLT := Aside0.mk hlt
   have HAT3 : Aside0 (FTAt w3 t (.pointer p2) bs2) := ⟨HT.out.at_.ch (Ch.ofBelow (S := fun _ => False) HC3.out) (fun b _ h => h)⟩
   have HCN := Aside0.mk (count_c l1 t.size t p2 bs2 bu (bu + 1) 0 0 (fun _ => none) (fun _ => none) w3 (Nat.le_refl _) HT.out.right.shape HAT3.out hlt (by omega) (by have := HT.out.few; omega) (by have := HT.out.few; omega) HU3.out HK3.out)
   have HTR : Aside0 (∀ W : World, IMap Try.prog 3 3 W bu (0 + 2 * t.size) (cntT t fun _ => none) → IMap Try.prog 3 2 W (bu + 1) (0 + t.size) (knT t fun _ => none) → Ch (fun k => k = bu ∨ k = bu + 1) w3 W →
    Calls Try.prog 19 #[.pointer p2, .map (some bu), .map (some (bu + 1))] W (TrimPost W (cntT t fun _ => none) (knT t fun _ => none) t bs2)) := ⟨fun W h1 h2 h3 =>
    trim_c l1 t p2 bs2 bu (bu + 1) _ _ _ _ W HT.out.right.shape (HAT3.out.ch h3 (fun b hb h => by have := HLT.out b hb; omega)) HT.out.nd hlt (by have := HT.out.few; omega) h1 h2⟩
   have HMO := Aside0.mk (HT.out.more (by omega))
   have HKQ : Aside0 (0 < gk) := ⟨hkq (by omega)⟩
   have hkw : (trimT (cntT t fun _ => none) (knT t fun _ => none) t).2 ≤ 400 := by have := trim_size (cntT t fun _ => none) (knT t fun _ => none) t; have := HT.out.few; omega
   clear hlt hkq hs3
   --BEGIN S
   go_upto_region 7 with (fail)
   change Code.wp _ _ _ _ ((wr.alloc (.map #[] 0)).alloc (.map #[] 0))
   rw [← hw3, ← hbu]
   clear hw3
   have HBU := Aside0.mk hbu
   clear hbu
   go_wp2_with (first
    | (go_at_call 18; refine HCN.out.mono ?_; rintro e w4 ⟨rfl, hu4, hk4, hc4⟩; have HTC := Aside0.mk (HTR.out _ hu4 hk4 hc4); have HC4 := Aside0.mk hc4; clear hu4 hk4 hc4)
    | (go_at_call 19; refine HTC.out.mono ?_; rintro e w5 ⟨p5, bs5, rfl, hp⟩; have HP5 := Aside0.mk hp; clear hp))
   go_roundg (gk - 1)
   case rel =>
    obtain ⟨p1, p2', p3, p4⟩ := HP5.out
    have hts := trim_size (cntT t fun _ => none) (knT t fun _ => none) t
    obtain ⟨m1, m2⟩ := HMO.out
    obtain ⟨m, hm⟩ : ∃ m, gk - 1 = m + 1 := ⟨gk - 1 - 1, by omega⟩
    have hm2 : gk - 1 - 1 = m := by omega
    rw [hm] at m1 m2
    obtain ⟨T, hTT⟩ : ∃ T, T = trimAll (l0.length + 1) (growT l0 l0.length 0 fun _ => none) := ⟨_, rfl⟩
    rw [← hTT] at m2
    simp only [trimAll] at m2
    have hbw : w.heap.size ≤ bu := by rw [HBU.out]; exact HT.out.bel.size
    have hb3 : Below w.heap.size w w3 := below_then HT.out.bel HT.out.bel.size HC3.out
    have hb4 : Below w.heap.size w w4 := HC4.out.below hb3 (fun k hk => by rcases hk with hk | hk <;> omega)
    have hb5 : Below w.heap.size w w5 := p4.below hb4 (fun k hk => HT.out.lo k hk)
    refine ⟨_, _, p5, bs5, rfl, rfl, ⟨⟨p1, p3, fun b hb => HT.out.lo b (p2' b hb), trim_right HT.out.right, hb5, fun hk => ⟨by omega, ?_⟩, by have := HT.out.few; omega, by omega, fun hk => ?_⟩⟩, fun _ => by omega⟩
    ·
     rw [← hTT, hm2, ← m2, if_neg (by omega)]
    ·
     rw [← hTT, ← m2, if_pos hk]
   case measure => have := HKQ.out; omega
   --END S
/-- The contract of fold.Fold. -/
theorem fold_Fold.calls (A0 : Option Addr) (c0 : Nat) (l0 : List S39) (A1 : Option Addr) (c1 : Nat) (l1 : List S80) (r1 : List S39) (r2 : Int) (w : World) (hr0 : Kd.C k39 w A0 l0.length l0) (hc0 : l0.length ≤ c0) (hr1 : Kd.C k80 w A1 l1.length l1) (hc1 : l1.length ≤ c1) (h : fold_Fold.f l0 l1 = some (r1, r2)) :
 Calls Try.prog 9 #[.slice A0 l0.length c0, .slice A1 l1.length c1] w fun e w' => ∃ v0_ : Value, e = .returned (.tuple #[v0_, .int .i64 r2]) ∧ Kd.R k39 39 w' w.heap.size (fun _ => True) v0_ r1 ∧ Below w.heap.size w w' := by
 unfold fold_Fold.f at h
 cases hR : rightB l0 l1 with
 | true =>
  rw [if_pos hR] at h
  obtain ⟨rfl, rfl⟩ : foldOut l0 = r1 ∧ 0 = r2 := by simpa using h
  exact fold_body A0 c0 l0 A1 c1 l1 w hr0 hc0 hr1 hc1 hR
 | false =>
  rw [if_neg (by rw [hR]; decide)] at h
  obtain ⟨rfl, rfl⟩ : ([] : List S39) = r1 ∧ 3 = r2 := by simpa using h
  have HR0 := Aside0.mk hr0
  have HR1 := Aside0.mk hr1
  have HRT := Aside0.mk hR
  clear hr0 hr1 hR h
  go_enter Try.func9, Try.ntmps9
  go_wp2_with (go_at_call 16; refine (tree_Right.calls A0 c0 l0 A1 c1 l1 false _ HR0.out hc0 HR1.out hc1 (by unfold tree_Right.f; rw [HRT.out])).mono ?_; rintro e w1 ⟨rfl, hB1⟩; have HB1 := Aside0.mk hB1; clear hB1)
  go_ret2
  exact ⟨_, rfl, Kd.R_nil _ _ _ _ _, HB1.out⟩
end Go.Proofs.Ytaoefdbhfhcplaa.Q
