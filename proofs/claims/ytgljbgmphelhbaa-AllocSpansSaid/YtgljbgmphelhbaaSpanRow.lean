/- A row of spans of the call's own: its tail cleared; slices.DeleteFunc at it. -/
import Derived.Test.YtgljbgmphelhbaaLeastReg
namespace Go.Proofs.Ytgljbgmphelhbaa.Q
open Go.RowKit Go.Proofs.YtgljbgmphelhbaaW.PrintWords Go.Proofs.YtgljbgmphelhbaaW.PrintLast Go.Proofs.YtgljbgmphelhbaaW.PrintMore
set_option linter.unusedVariables false
set_option linter.unusedSimpArgs false

theorem zero_span (w : World) : (zeroValue 44).run Try.prog w = .ok (.agg #[.int .i64 0, .int .i64 0, .int .i64 0, .int .i64 0]) w := by kernel_rfl
/-- A write behind the first m elements of a row leaves these. -/
theorem R_behind {α : Type} {d : Kd α} {e base g m cap o : Nat} {W : World} {ok : Nat → Prop} {xs : List α} (h : d.R e W base ok (.slice (some ⟨g, 0, none⟩) m cap) xs) (hM : ∀ {w w' : World} {x : α} {cs : List Value}, d.M w base (fun k => ok k ∧ some k ≠ some g) x cs → d.M w' base (fun k => ok k ∧ some k ≠ some g) x cs)
    (vs : List Value) (ho : m * d.sz ≤ o) (hl : o + vs.length ≤ cap * d.sz) : d.R e (W.setCells g o vs) base ok (.slice (some ⟨g, 0, none⟩) m cap) xs ∧ W.grownBy (W.setCells g o vs) (some g) := by
  obtain ⟨hok, inner, hown, hr⟩ := h
  obtain ⟨s1, s2, s3, s4⟩ := setCells_same g vs o W
  refine ⟨⟨hok, inner, ?_, hr.imp_ fun _ _ hp => hM hp⟩, ⟨s1, s2, s3, by omega, fun k _ hne => setCells_far vs o k (fun e => hne (by rw [e]))⟩⟩
  refine ⟨hown.1, ?_⟩
  rcases hown.2 with ⟨hv, _⟩ | ⟨g', cap', cur, hv, hb, hh, hnc, hcm, hcs, htake⟩
  · cases hv
  injection hv with ha hn hc
  injection ha with ha
  injection ha with hg
  subst hg; subst hc; 
  obtain ⟨cur', h1, h2, h3⟩ := setCells_row vs o W cur hh (by omega)
  refine .inr ⟨g, cap, cur', by rw [hn], hb, h1, hnc, hcm, by omega, ?_⟩
  have hm2 : xs.length * d.sz ≤ o := by rw [← hn]; exact ho
  have hlc : xs.length * d.sz ≤ cur.toList.length := by
    have h5 : xs.length * d.sz ≤ cap * d.sz := Nat.mul_le_mul_right _ hnc
    simp; omega
  rw [h3, ← htake, List.append_assoc, List.take_append_of_le_length (by simp; omega), List.take_take, Nat.min_eq_left hm2]
theorem k44_move {w w' : World} {base : Nat} {ok : Nat → Prop} {x : S44} {cs : List Value} (h : k44.M w base ok x cs) : k44.M w' base ok x cs := by
  rw [k44_openM h]
  exact k44_mkM w' base ok x
theorem clear_span {W : World} {base g n cap i : Nat} {ok : Nat → Prop} {ys : List S44} (h : k44.R 44 W base ok (.slice (some ⟨g, 0, none⟩) n cap) ys) (hi : i < n) (c2 : Nat) (ty : TypeId) :
    ∃ w1, (Builtin.clear_ #[47] ty #[.slice (some ⟨g, i * 4, none⟩) (n - i) c2]).run Try.prog W = .ok (.tuple #[]) w1 ∧ k44.R 44 w1 base ok (.slice (some ⟨g, 0, none⟩) i cap) (ys.take i) ∧ W.grownBy w1 (some g) := by
  obtain ⟨hn, hnc, _⟩ := Kd.R_reads' h
  obtain ⟨seg, hseg⟩ : ∃ seg, seg = (Builtin.zeroCells #[.int .i64 0, .int .i64 0, .int .i64 0, .int .i64 0] (n - i)).toList := ⟨_, rfl⟩
  have hlen : seg.length = (n - i) * 4 := by rw [hseg, Array.length_toList, size_zeroCells]; rfl
  have hone : ∀ q ∈ seg, q.oneCell' = true := by
    intro q hq
    rw [hseg] at hq
    simp only [Builtin.zeroCells] at hq
    have : q = .int .i64 0 := by
      simp at hq
      obtain ⟨j, hj, hq⟩ := hq
      have h4 : j % 4 = 0 ∨ j % 4 = 1 ∨ j % 4 = 2 ∨ j % 4 = 3 := by omega
      rcases h4 with h4 | h4 | h4 | h4 <;> simp [h4] at hq <;> exact hq.symm
    rw [this]; rfl
  have hb := R_behind (Kd.R_take h (m := i) (by omega)) (fun hp => k44_move hp) seg (o := i * 4) (Nat.le_refl _) (by
    have : k44.sz = 4 := rfl
    rw [hlen, this]; omega)
  refine ⟨_, ?_, hb.1, hb.2⟩
  have hown := h.2
  obtain ⟨inner, hown, _⟩ := hown
  rcases hown.2 with ⟨hv, _⟩ | ⟨g', cap', cur, hv, _, hh, _, _, hcs, _⟩
  · cases hv
  injection hv with ha _ hc
  injection ha with ha
  injection ha with hg
  subst hg; subst hc
  have hcs' : cur.size = cap * 4 := hcs
  have hst := run_storeCells_cells (P := Try.prog) g (i * 4) seg 0 W (fun j hj => by rw [cell_of_row W g _ cur 44 (0, 0) hh]; simp; omega) (fun j _ => blk_frozen hh _) hone
  simp only [Nat.add_zero] at hst
  obtain ⟨m, hm⟩ : ∃ m, n - i = m + 1 := ⟨n - i - 1, by omega⟩
  have hz := zero_span W
  have hu : (underlying 47).run Try.prog W = .ok (.slice 44) W := run_underlying Try.underlying47 W
  have hcl : (Value.agg #[.int .i64 0, .int .i64 0, .int .i64 0, .int .i64 0]).cells = #[.int .i64 0, .int .i64 0, .int .i64 0, .int .i64 0] := rfl
  rw [hm] at hseg ⊢
  simp [Builtin.clear_, hu, hz, hcl, ← hseg, hst]

theorem idxFrom_spec {α : Type} (p : α → Bool) : ∀ (xs : List α) (i : Nat), (idxFrom p xs i = -1 ∧ ∀ x ∈ xs, p x = false) ∨ (∃ k, ∃ hk : k < xs.length, idxFrom p xs i = (i : Int) + k ∧ (∀ x ∈ xs.take k, p x = false) ∧ p xs[k] = true) := by
  intro xs
  induction xs with
  | nil => intro i; exact .inl ⟨rfl, by simp⟩
  | cons x xs ih =>
    intro i
    simp only [idxFrom]
    by_cases h : p x = true
    · rw [if_pos h]
      exact .inr ⟨0, by simp, by simp, by simp, by simpa using h⟩
    · have hf := Bool.eq_false_iff.mpr h
      rw [if_neg h]
      rcases ih (i + 1) with ⟨h1, h2⟩ | ⟨k, hk, h1, h2, h3⟩
      · refine .inl ⟨h1, fun y hy => ?_⟩
        rcases List.mem_cons.1 hy with rfl | hy
        · exact hf
        · exact h2 y hy
      · refine .inr ⟨k + 1, by simp; omega, by rw [h1]; omega, fun y hy => ?_, by simpa using h3⟩
        rw [List.take_succ_cons] at hy
        rcases List.mem_cons.1 hy with rfl | hy
        · exact hf
        · exact h2 y hy

theorem span_cells {W : World} {base g n cap : Nat} {ok : Nat → Prop} {ys : List S44} (HO : k44.R 44 W base ok (.slice (some ⟨g, 0, none⟩) n cap) ys) (i : Nat) (hi : i < n) :
    ∃ c : List Value, c.length = k44.sz ∧ ∀ j u, c[j]? = some u → W.cell? ⟨g, (i : Int).toNat * k44.sz + j, none⟩ = some u := by
  obtain ⟨hn, _, hC⟩ := Kd.R_reads' HO
  obtain ⟨ad, c, hae, hcl, _, hcell⟩ := Kd.C_get hC z44 (i : Int) (by omega) (by omega)
  injection hae with hae
  subst hae
  refine ⟨c, hcl, fun j u hu => ?_⟩
  have := hcell j u hu
  rwa [add_plain] at this
def keepB (s x : S44) : Bool := !ended x s

set_option maxRecDepth 100000 in
set_option maxHeartbeats 4000000 in
theorem deleteFunc_c (base : Nat) (v : Value) (xs : List S44) (ok : Nat → Prop) (g : Nat) (s : S44) (w : World) (HO : k44.R 44 w base ok v xs) (hg : w.heap[g]? = some (.cells #[.int .i64 s.f0, .int .i64 s.f1, .int .i64 s.f2, .int .i64 s.f3] 44 (0, 0))) (hok : ∀ k, ok k → k ≠ g) (hbase : base ≤ w.heap.size) (hn : xs.length ≤ 100000) :
    Calls Try.prog 19 #[v, .func (.func 20) #[] #[.pointer (some ⟨g, 0, none⟩)]] w fun e w' => ∃ v', e = .returned v' ∧ k44.R 44 w' base ok v' (xs.filter (keepB s)) ∧ w.grownBy w' v.ownBlock ∧ (v'.ownBlock = v.ownBlock) := by
  obtain ⟨A, c, rfl, hlc, hC⟩ := Kd.R_reads HO
  have HOA := Aside0.mk HO
  have HG := Aside0.mk hg
  have HOK := Aside0.mk hok
  have HCA := Aside0.mk hC
  clear HO hg hok hC
  rcases idxFrom_spec (fun x => ended x s) xs 0 with ⟨h1, h2⟩ | ⟨k, hk, h1, h2, h3⟩
  · have H1 := Aside0.mk h1
    have HF : Aside0 (xs.filter (keepB s) = xs) := ⟨List.filter_eq_self.2 fun x hx => by simp only [keepB, h2 x hx]; rfl⟩
    clear h1 h2
    go_enter Try.func19, Try.ntmps19
    go_wp2_with (go_at_call 38; refine (indexSpan_c A c xs g s _ HCA.out hlc HG.out).mono ?_; rintro e W2 ⟨rfl, hB2⟩; rw [H1.out])
    go_ret
    exact ⟨_, rfl, by rw [HF.out]; exact Kd.R_below HOA.out hB2, ⟨hB2.os, hB2.tape, hB2.output, hB2.size, fun k hk _ => hB2.block k hk⟩, rfl⟩
  · have H1 : Aside0 (idxFrom (fun x => ended x s) xs 0 = (k : Int)) := ⟨by rw [h1]; omega⟩
    have H2 := Aside0.mk h2
    have H3 := Aside0.mk h3
    obtain ⟨gv, cap, hv, hgb, hgl, -⟩ := Kd.R_form HOA.out (by omega)
    injection hv with ha _ hcc
    subst ha; subst hcc
    have hk1 : ((k : Int) == -1) = false := beq_eq_false_iff_ne.mpr (by omega)
    have hgg : gv ≠ g := HOK.out gv (HOA.out.1 gv (by simp [Value.ownBlock]))
    clear h1 h2 h3
    go_enter Try.func19, Try.ntmps19
    go_upto_region 2 with (go_at_call 38; refine (indexSpan_c (some ⟨gv, 0, none⟩) c xs g s _ HCA.out hlc HG.out).mono ?_; rintro e W2 ⟨rfl, hB2⟩; rw [H1.out])
    have HO2 : Aside0 (k44.R 44 W2 base ok (.slice (some ⟨gv, 0, none⟩) xs.length c) xs) := ⟨Kd.R_below HOA.out hB2⟩
    have HG2 := Aside0.mk (blk_below HG.out hB2)
    have HGR : Aside0 (w.grownBy W2 (some gv)) := ⟨⟨hB2.os, hB2.tape, hB2.output, hB2.size, fun k hk _ => hB2.block k hk⟩⟩
    clear hB2
    go_wp2_with (fail)
    have hks : (xs.take (k + 1)).filter (keepB s) = xs.take k := by
      rw [List.take_succ_eq_append_getElem hk, List.filter_append]
      have e1 : (xs.take k).filter (keepB s) = xs.take k := List.filter_eq_self.2 fun x hx => by simp only [keepB, H2.out x hx]; rfl
      have e2 : [xs[k]].filter (keepB s) = [] := by
        have h3 : ended xs[k] s = true := H3.out
        simp [keepB, h3]
      rw [e1, e2, List.append_nil]
    have HKS := Aside0.mk hks
    clear hks
    go_loopw [5, 6] (fun v5 v6 wr => ∃ (i j : Nat) (ys : List S44), v5 = .int .i64 i ∧ v6 = .int .i64 j ∧ i < j ∧ j ≤ xs.length ∧ Aside0 (ys.length = xs.length) ∧ Aside0 (ys.take i = (xs.take j).filter (keepB s)) ∧ Aside0 (ys.drop j = xs.drop j) ∧
        Aside0 (k44.R 44 wr base ok (.slice (some ⟨gv, 0, none⟩) xs.length c) ys) ∧ Aside0 (wr.heap[g]? = some (.cells #[.int .i64 s.f0, .int .i64 s.f1, .int .i64 s.f2, .int .i64 s.f3] 44 (0, 0))) ∧ Aside0 (w.grownBy wr (some gv))) (fun _ v _ => xs.length - (intOf v).toNat)
    case atStart => exact ⟨k, k + 1, xs, rfl, by go_num, by omega, by omega, ⟨rfl⟩, ⟨HKS.out.symm⟩, ⟨rfl⟩, HO2, HG2, HGR⟩
    case round =>
      clear HO2 HG2 HGR
      obtain ⟨i, j, ys, rfl, rfl, hij, hj, HL, HT, HD, HO2, HG2, HGR⟩ := hrel
      by_cases hlt : j < xs.length
      · obtain ⟨hn2, _, hC2⟩ := Kd.R_reads' HO2.out
        obtain ⟨ad, hae, hx0, hx1, hx2, hx3⟩ := at_T44 hC2 (j : Int) (by omega) (by omega)
        injection hae with hae
        subst hae
        rw [Int.toNat_natCast] at hx0 hx1 hx2 hx3
        simp only [add_plain] at hx0 hx1 hx2 hx3
        obtain ⟨x, hxe⟩ : ∃ x, x = rd_T44 ys j := ⟨_, rfl⟩
        rw [← hxe] at hx0 hx1 hx2 hx3
        have hjl : j < ys.length := by omega
        have hxg : ys[j] = x := by rw [hxe]; simp [rd_T44, List.getD_eq_getElem?_getD, List.getElem?_eq_getElem hjl]
        have hxx : xs[j] = x := by
          have h1 := HD.out
          rw [List.drop_eq_getElem_cons hjl, List.drop_eq_getElem_cons hlt] at h1
          injection h1 with h1 _
          rw [← h1, hxg]
        have HTK : Aside0 ((xs.take (j + 1)).filter (keepB s) = (xs.take j).filter (keepB s) ++ (if keepB s x then [x] else [])) := ⟨by
          rw [List.take_succ_eq_append_getElem hlt, List.filter_append, hxx]
          congr 1
          by_cases hkb : keepB s x = true
          · rw [if_pos hkb]; simp [hkb]
          · rw [if_neg hkb]; simp [hkb]⟩
        have HDR : Aside0 (ys.drop (j + 1) = xs.drop (j + 1)) := ⟨by
          have h1 := HD.out
          rw [List.drop_eq_getElem_cons hjl, List.drop_eq_getElem_cons hlt] at h1
          injection h1⟩
        have hgv2 : gv < wr.heap.size := Nat.lt_of_lt_of_le hgl HGR.out.size
        have hgn : gv ≠ wr.heap.size := by omega
        have hcn : (fun k => xs.length ≤ k) c := hlc
        clear hC2 hxe hxg hxx hn2 hcn
        cases hm : ended x s with
        | true =>
          have HM := Aside0.mk hm
          have HKB : Aside0 (keepB s x = false) := ⟨by simp [keepB, hm]⟩
          go_wp2_with (go_at_call 20; refine (homes1_c x s g _ (blk_alloc HG2.out _)).mono ?_; rintro e W3 ⟨rfl, hB3⟩; rw [HM.out])
          have hB4 : Below wr.heap.size wr W3 := ((Below.refl _ wr).alloc (Nat.le_refl _) _).trans (hB3.mono (by simp))
          go_roundw
          case rel => exact ⟨i, j + 1, ys, rfl, by go_num, by omega, by omega, HL, ⟨by rw [HTK.out, HKB.out, HT.out]; simp⟩, HDR, ⟨Kd.R_below HO2.out hB4⟩, ⟨blk_below HG2.out hB4⟩, ⟨HGR.out.trans ⟨hB4.os, hB4.tape, hB4.output, hB4.size, fun k hk _ => hB4.block k hk⟩⟩⟩
          case measure => simp [intOf]; omega
        | false =>
          have HM := Aside0.mk hm
          have HKB : Aside0 (keepB s x = true) := ⟨by simp [keepB, hm]⟩
          go_upto_if 29 with (go_at_call 20; refine (homes1_c x s g _ (blk_alloc HG2.out _)).mono ?_; rintro e W3 ⟨rfl, hB3⟩; rw [HM.out])
          have hB4 : Below wr.heap.size wr W3 := ((Below.refl _ wr).alloc (Nat.le_refl _) _).trans (hB3.mono (by simp))
          have HO3 : Aside0 (k44.R 44 W3 base ok (.slice (some ⟨gv, 0, none⟩) xs.length c) ys) := ⟨Kd.R_below HO2.out hB4⟩
          have HG3 := Aside0.mk (blk_below HG2.out hB4)
          have HGR3 : Aside0 (w.grownBy W3 (some gv)) := ⟨HGR.out.trans ⟨hB4.os, hB4.tape, hB4.output, hB4.size, fun k hk _ => hB4.block k hk⟩⟩
          have HBX : Aside0 (W3.heap[wr.heap.size]? = some (.cells #[.int .i64 x.f0, .int .i64 x.f1, .int .i64 x.f2, .int .i64 x.f3] 44 (0, 0))) := ⟨blk_below (blk_new _ _) hB3⟩
          have cb0 := blk_cell HBX.out 0; have cb1 := blk_cell HBX.out 1; have cb2 := blk_cell HBX.out 2; have cb3 := blk_cell HBX.out 3
          simp only [List.getElem?_toArray, List.getElem?_cons_zero, List.getElem?_cons_succ] at cb0 cb1 cb2 cb3
          obtain ⟨cold, hcl, hcc⟩ := span_cells HO3.out i (by omega)
          have HCL := Aside0.mk hcl
          have HCC := Aside0.mk hcc
          have hsz : 4 = k44.sz := rfl
          have HTE : Aside0 ((cold.take 0 ++ [Value.int .i64 x.f0, .int .i64 x.f1, .int .i64 x.f2, .int .i64 x.f3] ++ cold.drop (0 + [Value.int .i64 x.f0, .int .i64 x.f1, .int .i64 x.f2, .int .i64 x.f3].length)) = [Value.int .i64 x.f0, .int .i64 x.f1, .int .i64 x.f2, .int .i64 x.f3]) := ⟨by
            rw [List.drop_of_length_le (by rw [hcl]; exact Nat.le_refl _)]; simp⟩
          clear hB3 hB4 hcl hcc hx0 hx1 hx2 hx3 hsz
          go_wp2_with ((with_reducible refine gate_store (t := 44) (p := 33) rfl ?_); refine Kd.R_store k44 (w0 := W3) base rfl rfl 44 _ _ rfl 44 (i : Int) 0 ys x (spanV x) [Value.int .i64 x.f0, .int .i64 x.f1, .int .i64 x.f2, .int .i64 x.f3] cold ok (fun _ => False) rfl (by show i * 4 = (i : Int).toNat * 4 + 0; omega) rfl rfl (by kernel_rfl) (by simp [Value.oneCell']) HO3.out (by omega) (by omega) HCL.out HCC.out (by show 0 + 4 ≤ 4; omega) (by rw [HTE.out]; exact k44_mkM _ _ _ _) (fun _ h => h.elim) (Below.refl _ _) ?_; intro W4 hO4 hB4 hG4)
          go_roundw
          case rel =>
            have hil : i < ys.length := by rw [HL.out]; omega
            refine ⟨i + 1, j + 1, ys.set i x, by go_num, by go_num, by omega, by omega, ⟨by rw [List.length_set]; exact HL.out⟩, ⟨?_⟩, ⟨?_⟩, ⟨by simpa using hO4⟩, ⟨blk_grown HG3.out hG4 (by intro he; injection he with he; exact hgg he.symm)⟩, ⟨HGR3.out.trans hG4⟩⟩
            · rw [HTK.out, HKB.out, if_pos rfl, ← HT.out, List.take_succ_eq_append_getElem (by rw [List.length_set]; exact hil), List.getElem_set_self, List.take_set_of_le (Nat.le_refl _)]
            · rw [List.drop_set_of_lt (by omega)]; exact HDR.out
          case measure => simp [intOf]; omega
      · have hjn : j = xs.length := by omega
        subst hjn
        have HTF : Aside0 (ys.take i = xs.filter (keepB s)) := ⟨by rw [HT.out, List.take_length]⟩
        obtain ⟨W5, hclr, hO5, hG5⟩ := clear_span HO2.out hij (c - i) 0
        have HO5 := Aside0.mk hO5
        have HG5 := Aside0.mk hG5
        have hci : (c = i) = False := by simp; omega
        have hci2 : ¬ c = i := by omega
        have hic : i ≤ c := by omega
        clear hO5 hG5
        go_wp2
        go_ret
        exact ⟨_, rfl, by rw [← HTF.out]; exact HO5.out, HGR.out.trans HG5.out, rfl⟩
end Go.Proofs.Ytgljbgmphelhbaa.Q
