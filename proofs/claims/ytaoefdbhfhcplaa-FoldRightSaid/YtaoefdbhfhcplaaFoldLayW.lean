/- The contract of (*node).lay: it appends what layT tells. -/
import Derived.Test.YtaoefdbhfhcplaaFoldTrimW
import Derived.Test.YtaoefdbhfhcplaaFoldLay
namespace Go.Proofs.Ytaoefdbhfhcplaa.Q
open Go.RowKit Go.Proofs.YtaoefdbhfhcplaaW.PrintWords Go.Proofs.YtaoefdbhfhcplaaW.PrintLast Go.Proofs.YtaoefdbhfhcplaaW.PrintMore Go.Proofs.Ytaoefdbhfhcplaa.IM
set_option linter.unusedVariables false
set_option linter.unusedSimpArgs false

theorem info_ins : (Try.prog.info? 39).map (fun i => (i.zero, i.size, i.bytes)) = some (some (.agg #[.int .i64 0, .int .i64 0, .int .i64 0, .int .i64 0, .int .i64 0, .int .i64 0, .int .i64 0, .int .i64 0]), 8, 64) := by kernel_rfl
theorem FTAt.typed {w : World} : ∀ {t : FT} {v : Value} {bs : List Nat}, FTAt w t v bs → ∀ b ∈ bs, ∃ cells, w.heap[b]? = some (.cells cells 74 (0, 0)) := by
 intro t
 induction t with
 | leaf => intro v bs ⟨_, h⟩ b hb; rw [h] at hb; simp at hb
 | node x n s ihn ihs =>
  intro v bs ⟨g, pn, ps, bn, bt, h1, h2, h3, h4, h5⟩ b hb
  rw [h5] at hb
  rcases List.mem_cons.1 hb with e | e
  ·
   rw [e]; exact ⟨_, h2⟩
  ·
   rcases List.mem_append.1 e with e | e
   ·
    exact ihn h3 b e
   ·
    exact ihs h4 b e
abbrev OwnI (W : World) (base : Nat) (v : Value) (xs : List S39) : Prop := Kd.R k39 39 W base (fun _ => True) v xs
theorem tree_row {w : World} {base : Nat} {t : FT} {p v : Value} {bs : List Nat} {xs : List S39} (h : FTAt w t p bs) (hr : OwnI w base v xs) : ∀ b ∈ bs, ¬ some b = v.ownBlock := by
 intro b hb he
 obtain ⟨c, hc⟩ := h.typed b hb
 obtain ⟨inner, ho⟩ := Kd.R_own hr
 obtain ⟨c2, hc2⟩ := own_typed ho b he.symm
 rw [hc] at hc2
 injection hc2 with hc2
 injection hc2 with _ hc2
 exact absurd hc2 (by decide)
def LayPost (w : World) (base : Nat) (v : Value) (t : FT) (xs : List S39) (e : Ending) (w' : World) : Prop :=
 ∃ v' : Value, e = .returned v' ∧ OwnI w' base v' (layT t xs) ∧ Ch (fun k => some k = v.ownBlock) w w' ∧ (v'.ownBlock = v.ownBlock ∨ ∃ b, v'.ownBlock = some b ∧ w.heap.size ≤ b)
theorem ch_then {w w1 w2 : World} {v v1 : Value} (h : Ch (fun k => some k = v.ownBlock) w w1) (hv : v1.ownBlock = v.ownBlock ∨ ∃ b, v1.ownBlock = some b ∧ w.heap.size ≤ b) (k : Ch (fun k => some k = v1.ownBlock) w1 w2) : Ch (fun k => some k = v.ownBlock) w w2 :=
 ⟨k.os.trans h.os, k.tape.trans h.tape, k.output.trans h.output, Nat.le_trans h.size k.size, fun i hi hS => (k.block i (Nat.lt_of_lt_of_le hi h.size) (fun e => by
  rcases hv with hv | ⟨b, hb, hl⟩
  ·
   exact hS (by rw [← hv]; exact e)
  ·
   rw [hb] at e; injection e with e; omega)).trans (h.block i hi hS)⟩
theorem own_then {w w1 : World} {v v1 v2 : Value} (hs : w.heap.size ≤ w1.heap.size) (h : v1.ownBlock = v.ownBlock ∨ ∃ b, v1.ownBlock = some b ∧ w.heap.size ≤ b) (k : v2.ownBlock = v1.ownBlock ∨ ∃ b, v2.ownBlock = some b ∧ w1.heap.size ≤ b) : v2.ownBlock = v.ownBlock ∨ ∃ b, v2.ownBlock = some b ∧ w.heap.size ≤ b := by
 rcases k with k | ⟨b, hb, hl⟩
 ·
  rw [k]; exact h
 ·
  exact .inr ⟨b, hb, by omega⟩
theorem ch_of_grown {w w' : World} {v : Value} (h : w.grownBy w' v.ownBlock) : Ch (fun k => some k = v.ownBlock) w w' := ⟨h.os, h.tape, h.output, h.size, fun k hk hS => h.block k hk hS⟩
theorem tree_node_row {w : World} {base g : Nat} {v : Value} {xs : List S39} {cs : Array Value} (h : w.heap[g]? = some (.cells cs 74 (0, 0))) (hr : OwnI w base v xs) : ¬ some g = v.ownBlock := by
 intro he
 obtain ⟨inner, ho⟩ := Kd.R_own hr
 obtain ⟨c2, hc2⟩ := own_typed ho g he.symm
 rw [h] at hc2
 injection hc2 with hc2
 injection hc2 with _ hc2
 exact absurd hc2 (by decide)
/-- A piece's To is stored. -/
theorem to_put {W : World} {base g n cap : Nat} {ys : List S39} (HO : OwnI W base (.slice (some ⟨g, 0, none⟩) n cap) ys) (i : Nat) (hi : i < n) (j : Int) :
 OwnI (W.setCell ⟨g, i * 8 + 7, none⟩ (.int .i64 j)) base (.slice (some ⟨g, 0, none⟩) n cap) (ys.set i (goTo (rd_T39 ys i) j)) ∧ W.grownBy (W.setCell ⟨g, i * 8 + 7, none⟩ (.int .i64 j)) (some g) ∧ W.cell? ⟨g, i * 8 + 7, none⟩ = some (.int .i64 (rd_T39 ys i).f7) ∧ W.frozen? ⟨g, i * 8 + 7, none⟩ = false := by
 obtain ⟨hn, _, hC⟩ := Kd.R_reads' HO
 obtain ⟨ad, c, hae, hcl, hK, hcell⟩ := Kd.C_get hC z39 (i : Int) (by omega) (by omega)
 injection hae with hae
 subst hae
 rw [Int.toNat_natCast] at hcell
 have hc := k39_open hK
 have hcc : ∀ j u, c[j]? = some u → W.cell? ⟨g, i * 8 + j, none⟩ = some u := fun j u hu => by have := hcell j u hu; rwa [add_plain] at this
 have h := Kd.R_seg HO (i : Int) (by omega) (by omega) (c := c) (seg := [.int .i64 j]) (j := 7) (x' := goTo (rd_T39 ys i) j) (okp := fun _ => False) hcl (fun j u hu => by rw [Int.toNat_natCast]; exact hcc j u hu) (by show 7 + 1 ≤ 8; omega) (by
  rw [hc]
  exact k39_mkM _ _ _ _) (fun _ h => h.elim)
 rw [Int.toNat_natCast] at h
 obtain ⟨_, inner, ho, _⟩ := HO
 obtain ⟨cells, hh⟩ := own_typed ho g (by simp [Value.ownBlock])
 refine ⟨h.1, h.2, ?_, blk_frozen hh _⟩
 have := hcc 7 (.int .i64 (rd_T39 ys i).f7) (by rw [hc]; rfl)
 exact this

set_option maxRecDepth 100000 in
set_option maxHeartbeats 8000000 in
theorem lay_node (x : S39) (n s : FT)
 (ihn : ∀ (p : Option Addr) (bs : List Nat) (base : Nat) (v : Value) (xs : List S39) (w : World), n.isLeaf = false → FTAt w n (.pointer p) bs → OwnI w base v xs → base ≤ w.heap.size → xs.length + n.size ≤ 1000 → Calls Try.prog 20 #[.pointer p, v] w (LayPost w base v n xs))
 (ihs : ∀ (p : Option Addr) (bs : List Nat) (base : Nat) (v : Value) (xs : List S39) (w : World), s.isLeaf = false → FTAt w s (.pointer p) bs → OwnI w base v xs → base ≤ w.heap.size → xs.length + s.size ≤ 1000 → Calls Try.prog 20 #[.pointer p, v] w (LayPost w base v s xs))
 (p : Option Addr) (bs : List Nat) (base : Nat) (v : Value) (xs : List S39) (w : World) (hat : FTAt w (.node x n s) (.pointer p) bs) (hO : OwnI w base v xs) (hbase : base ≤ w.heap.size) (hsz : xs.length + (FT.node x n s).size ≤ 1000) :
 Calls Try.prog 20 #[.pointer p, v] w (LayPost w base v (.node x n s) xs) := by
 have hbt := tree_row hat hO
 obtain ⟨g, pn, ps, bn, bt, hv, hb, hnt, hss, hbs⟩ := hat
 injection hv with hv
 subst hv
 obtain ⟨pn', hpn⟩ : ∃ q, pn = .pointer q := by
  cases n with
  | leaf => exact ⟨none, hnt.1⟩
  | node y a b => obtain ⟨g', _, _, _, _, e, _⟩ := hnt; exact ⟨_, e⟩
 obtain ⟨ps', hps⟩ : ∃ q, ps = .pointer q := by
  cases s with
  | leaf => exact ⟨none, hss.1⟩
  | node y a b => obtain ⟨g', _, _, _, _, e, _⟩ := hss; exact ⟨_, e⟩
 subst hpn
 subst hps
 have HNL := Aside0.mk hnt.leaf_iff
 have HSL := Aside0.mk hss.leaf_iff
 simp only [FT.size] at hsz
 have HBT : Aside0 (¬ some g = v.ownBlock ∧ (∀ b ∈ bn, ¬ some b = v.ownBlock) ∧ (∀ b ∈ bt, ¬ some b = v.ownBlock)) := ⟨hbt g (by rw [hbs]; simp), fun b h => hbt b (by rw [hbs]; simp [h]), fun b h => hbt b (by rw [hbs]; simp [h])⟩
 obtain ⟨A, c, hva⟩ := Kd.R_slice hO
 have HB := Aside0.mk hb
 have HNT := Aside0.mk hnt
 have HST := Aside0.mk hss
 have HO := Aside0.mk hO
 obtain ⟨N, hN⟩ : ∃ N, N = xs.length := ⟨_, rfl⟩
 rw [← hN] at hva hsz
 have HN := Aside0.mk hN
 subst hva
 have cx := fun j => blk_cell HB.out j
 have cx0 := cx 0; have cx1 := cx 1; have cx2 := cx 2; have cx3 := cx 3; have cx4 := cx 4; have cx5 := cx 5; have cx6 := cx 6; have cx7 := cx 7
 clear cx
 simp only [List.getElem?_toArray, List.getElem?_cons_zero, List.getElem?_cons_succ] at cx0 cx1 cx2 cx3 cx4 cx5 cx6 cx7
 clear hbt hb hnt hss hbs hO hN
 go_enter Try.func20, Try.ntmps20
 go_upto_region 3 with (at_builtin; refine Kd.R_append k39 (w0 := w) base rfl _ _ 22 39 (.agg #[.int .i64 0, .int .i64 0, .int .i64 0, .int .i64 0, .int .i64 0, .int .i64 0, .int .i64 0, .int .i64 0]) 64 rfl Try.underlying22 info_ins rfl (by decide) (by decide) (.slice A N c) xs x [.int .i64 x.f0, .int .i64 x.f1, .int .i64 x.f2, .int .i64 x.f3, .int .i64 x.f4, .int .i64 x.f5, .int .i64 x.f6, .int .i64 x.f7] (fun _ => True) (fun _ => False) rfl rfl (k39_mkM _ _ _ _) (fun _ h => h.elim) (fun _ _ => trivial) HO.out (Below.refl _ _) hbase ?hlen ?_; (case hlen => have := HN.out; omega); intro v1 w1 hO1 hB1 hG1 hat1; have HO1 := Aside0.mk hO1; have HG1 : Aside0 (Ch (fun k => some k = (Value.slice A N c).ownBlock) w w1) := ⟨ch_of_grown hG1⟩; have HAT1 := Aside0.mk hat1; clear hO1 hB1 hG1 hat1)
 have HB1 := Aside0.mk (Ch.blk HG1.out HB.out HBT.out.1)
 have HNT1 : Aside0 (FTAt w1 n (.pointer pn') bn) := ⟨HNT.out.ch HG1.out HBT.out.2.1⟩
 have HST1 : Aside0 (FTAt w1 s (.pointer ps') bt) := ⟨HST.out.ch HG1.out HBT.out.2.2⟩
 have hs1 := HG1.out.size
 clear cx0 cx1 cx2 cx3 cx4 cx5 cx6 cx7 HB HNT HST HO
 obtain ⟨A1, c1, hv1⟩ := Kd.R_slice HO1.out
 have hl1 : (xs ++ [x]).length = N + 1 := by simp [HN.out]
 rw [hl1] at hv1
 subst hv1
 have cx8 := blk_cell HB1.out 8
 simp only [List.getElem?_toArray, List.getElem?_cons_zero, List.getElem?_cons_succ] at cx8
 go_upto_if 19 with (fail)
 obtain ⟨o2, ho2⟩ : ∃ o, o = (if n.isLeaf then xs ++ [x] else layT n (xs ++ [x])) := ⟨_, rfl⟩
 have HO2 := Aside0.mk ho2
 have HLEN2 : Aside0 (o2.length = N + 1 + n.size ∧ rd_T39 o2 N = x) := ⟨by
  rw [ho2]
  cases hn : n.isLeaf with
  | true =>
   cases n with
   | leaf => rw [if_pos rfl, HN.out]; exact ⟨by simp [FT.size], RD_snoc⟩
   | node => cases hn
  | false =>
   simp only [Bool.false_eq_true, if_false]
   obtain ⟨a, b, _⟩ := lay_laid n (xs ++ [x]) hn
   exact ⟨by rw [a, hl1], by rw [b N (by omega), HN.out]; exact RD_snoc⟩⟩
 have hsz2 : 0 ≤ n.size := Nat.zero_le _
 clear ho2 hl1
 go_cut [1] (fun v1_ wc => ∃ (A2 : Option Addr) (c2 n2 : Nat), v1_ = .slice A2 n2 c2 ∧ Aside0 (n2 = o2.length ∧ OwnI wc base (.slice A2 n2 c2) o2 ∧ Ch (fun k => some k = (Value.slice A N c).ownBlock) w wc ∧ ((Value.slice A2 n2 c2).ownBlock = (Value.slice A N c).ownBlock ∨ ∃ b, (Value.slice A2 n2 c2).ownBlock = some b ∧ w.heap.size ≤ b)) ∧
  Aside0 (wc.heap[g]? = some (.cells #[.int .i64 x.f0, .int .i64 x.f1, .int .i64 x.f2, .int .i64 x.f3, .int .i64 x.f4, .int .i64 x.f5, .int .i64 x.f6, .int .i64 x.f7, .pointer pn', .pointer ps'] 74 (0, 0)) ∧ FTAt wc s (.pointer ps') bt))
 case first =>
  cases hnl : n.isLeaf with
  | true =>
   have hp : pn' = none := by have := HNL.out.1 hnl; injection this
   subst hp
   have HNLF := Aside0.mk hnl
   clear hnl
   go_wp2
   go_meet
   case rel => exact ⟨A1, c1, N + 1, rfl, ⟨by rw [HLEN2.out.1]; have : n.size = 0 := (by cases n with | leaf => rfl | node => exact absurd HNLF.out (by simp [FT.isLeaf])); omega, by rw [HO2.out, HNLF.out, if_pos rfl]; exact HO1.out, HG1.out, HAT1.out⟩, ⟨HB1.out, HST1.out⟩⟩
  | false =>
   obtain ⟨pa, hp⟩ : ∃ a, pn' = some a := by
    cases pn' with
    | none => exact absurd (HNL.out.2 rfl) (by rw [hnl]; decide)
    | some a => exact ⟨a, rfl⟩
   subst hp
   have HNLF := Aside0.mk hnl
   clear hnl
   have HCL := Aside0.mk (ihn (some pa) bn base (.slice A1 (N + 1) c1) (xs ++ [x]) w1 HNLF.out HNT1.out HO1.out (by omega) (by simp; have := HN.out; omega))
   clear ihn ihs
   go_wp2_with (go_at_call 20; refine HCL.out.mono ?_; rintro e w5 ⟨v2, rfl, hp⟩; have HPO := Aside0.mk hp; clear hp)
   obtain ⟨A2, c2, hv2⟩ := Kd.R_slice HPO.out.1
   subst hv2
   go_meet
   case rel =>
    have e2 : o2 = layT n (xs ++ [x]) := by rw [HO2.out, HNLF.out]; rfl
    rw [e2]
    obtain ⟨p1, p2, p3⟩ := HPO.out
    exact ⟨A2, c2, _, rfl, ⟨rfl, p1, ch_then HG1.out HAT1.out p2, own_then hs1 HAT1.out p3⟩, ⟨Ch.blk p2 HB1.out (tree_node_row HB1.out HO1.out), HST1.out.ch p2 (tree_row HST1.out HO1.out)⟩⟩
 case rest =>
  clear HO1 HG1 HAT1 HB1 HNT1 HST1 cx8 ihn
  obtain ⟨A2, c2, n2, rfl, HO3, HB3⟩ := hcut
  have hn2 : n2 = N + 1 + n.size := by have := HO3.out.1; have := HLEN2.out.1; omega
  have hn2b : n2 ≤ 1000 := by omega
  have hNn2 : N < n2 := by omega
  clear hn2
  have cx9 := blk_cell HB3.out.1 9
  simp only [List.getElem?_toArray, List.getElem?_cons_zero, List.getElem?_cons_succ] at cx9
  cases hsl : s.isLeaf with
  | true =>
   have hp : ps' = none := by have := HSL.out.1 hsl; injection this
   subst hp
   have HSLF := Aside0.mk hsl
   clear hsl
   go_wp2
   go_ret
   obtain ⟨q1, q2, q3, q4⟩ := HO3.out
   refine ⟨_, rfl, ?_, q3, q4⟩
   have e2 : layT (.node x n s) xs = o2 := by simp only [layT]; rw [HSLF.out, if_pos rfl, HO2.out]
   rw [e2]; exact q2
  | false =>
   obtain ⟨pa, hp⟩ : ∃ a, ps' = some a := by
    cases ps' with
    | none => exact absurd (HSL.out.2 rfl) (by rw [hsl]; decide)
    | some a => exact ⟨a, rfl⟩
   subst hp
   have HSLF := Aside0.mk hsl
   clear hsl
   obtain ⟨g2, cap2, hf2, hg2b, hg2l, -⟩ := Kd.R_form HO3.out.2.1 (by have := HO3.out.1; omega)
   injection hf2 with hfa hfn hfc
   clear hfn
   subst hfa; subst hfc
   obtain ⟨t1, t2, t3, t4⟩ := to_put HO3.out.2.1 N hNn2 (n2 : Int)
   have HT1 := Aside0.mk t1
   have HT2 := Aside0.mk t2
   have hgg : g ≠ g2 := fun e => by
    have := tree_node_row HB3.out.1 HO3.out.2.1
    exact this (by simp [Value.ownBlock, e])
   have hgg' : g2 ≠ g := fun e => hgg e.symm
   clear t1 t2
   go_upto_region 7 with (fail)
   clear t3 t4 cx9
   obtain ⟨w6, hw6⟩ : ∃ w6, w6 = wc.setCell ⟨g2, N * 8 + 7, none⟩ (.int .i64 (n2 : Int)) := ⟨_, rfl⟩
   rw [← hw6]
   rw [← hw6] at HT1 HT2
   have HG6 : Aside0 (Ch (fun k => some k = (Value.slice (some ⟨g2, 0, none⟩) n2 c2).ownBlock) wc w6) := ⟨ch_of_grown (v := .slice (some ⟨g2, 0, none⟩) n2 c2) HT2.out⟩
   have HB6 := Aside0.mk (Ch.blk HG6.out HB3.out.1 (tree_node_row HB3.out.1 HO3.out.2.1))
   have HST6 : Aside0 (FTAt w6 s (.pointer (some pa)) bt) := ⟨HB3.out.2.ch HG6.out (tree_row HB3.out.2 HO3.out.2.1)⟩
   have hs6 := HG6.out.size
   have hs3 := HO3.out.2.2.1.size
   have HCL := Aside0.mk (ihs (some pa) bt base (.slice (some ⟨g2, 0, none⟩) n2 c2) (o2.set N (goTo (rd_T39 o2 N) n2)) w6 HSLF.out HST6.out HT1.out (by omega) (by rw [List.length_set, HLEN2.out.1]; omega))
   clear hw6 ihs
   have cx9 := blk_cell HB6.out 9
   simp only [List.getElem?_toArray, List.getElem?_cons_zero, List.getElem?_cons_succ] at cx9
   go_wp2_with (go_at_call 20; refine HCL.out.mono ?_; rintro e w7 ⟨v7, rfl, hp⟩; have HPO := Aside0.mk hp; clear hp)
   go_ret
   obtain ⟨q1, q2, q3, q4⟩ := HO3.out
   obtain ⟨p1, p2, p3⟩ := HPO.out
   have e2 : layT (.node x n s) xs = layT s (o2.set N (goTo (rd_T39 o2 N) n2)) := by
    simp only [layT]
    rw [← HO2.out, HSLF.out, ← HN.out, q1]
    rfl
   refine ⟨_, rfl, by rw [e2]; exact p1, ch_then (v1 := .slice (some ⟨g2, 0, none⟩) n2 c2) q3 q4 (HG6.out.trans p2), own_then (v1 := .slice (some ⟨g2, 0, none⟩) n2 c2) hs3 q4 ?_⟩
   rcases p3 with p3 | ⟨b, hb, hl⟩
   ·
    exact .inl p3
   ·
    exact .inr ⟨b, hb, by omega⟩
/-- The contract of lay. -/
theorem lay_c : ∀ (t : FT) (p : Option Addr) (bs : List Nat) (base : Nat) (v : Value) (xs : List S39) (w : World), t.isLeaf = false → FTAt w t (.pointer p) bs → OwnI w base v xs → base ≤ w.heap.size → xs.length + t.size ≤ 1000 → Calls Try.prog 20 #[.pointer p, v] w (LayPost w base v t xs) := by
 intro t
 induction t with
 | leaf => intro p bs base v xs w h; cases h
 | node x n s ihn ihs => intro p bs base v xs w _ hat hO hb hsz; exact lay_node x n s ihn ihs p bs base v xs w hat hO hb hsz
end Go.Proofs.Ytaoefdbhfhcplaa.Q
