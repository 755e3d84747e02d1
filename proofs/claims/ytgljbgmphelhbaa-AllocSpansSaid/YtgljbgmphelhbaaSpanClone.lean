/- slices.Clone and slices.Delete at rows of spans. -/
import Derived.Test.YtgljbgmphelhbaaSpanRow
import Derived.Lib.SliceRun
import Derived.Deep.RegionLaw
namespace Go.Proofs.Ytgljbgmphelhbaa.Q
open Go.RowKit Go.Proofs.YtgljbgmphelhbaaW.PrintWords Go.Proofs.YtgljbgmphelhbaaW.PrintLast Go.Proofs.YtgljbgmphelhbaaW.PrintMore
set_option linter.unusedVariables false
set_option linter.unusedSimpArgs false

theorem info_span : (Try.prog.info? 44).map (fun i => (i.zero, i.size, i.bytes)) = some (some (.agg #[.int .i64 0, .int .i64 0, .int .i64 0, .int .i64 0]), 4, 32) := by kernel_rfl

set_option maxHeartbeats 1000000 in
theorem clone_c (A : Option Addr) (c : Nat) (xs : List S44) (w : World) (hC : Kd.C k44 w A xs.length xs) (hn : xs.length ≤ 100000) :
    Calls Try.prog 21 #[.slice A xs.length c] w fun e w' => ∃ v', e = .returned v' ∧ k44.R 44 w' w.heap.size (fun _ => True) v' xs ∧ Below w.heap.size w w' := by
  have HCA := Aside0.mk hC
  cases A with
  | none =>
    have hz : xs = [] := by
      rcases Nat.eq_zero_or_pos xs.length with h | h
      · exact List.length_eq_zero_iff.mp h
      · obtain ⟨ad, he, _⟩ := hC.2.2 h; cases he
    clear hC
    subst hz
    have heq := fun w => Lib.run_eql_slice_nil (P := Try.prog) w 47 44 none 0 c 0 0 Try.underlying47
    go_enter Try.func21, Try.ntmps21
    go_wp2
    go_ret
    exact ⟨_, rfl, Kd.R_nil _ _ _ _ _, Below.refl _ _⟩
  | some ad =>
    have heq := fun w => Lib.run_eql_slice_nil (P := Try.prog) w 47 44 (some ad) xs.length c 0 0 Try.underlying47
    clear hC
    go_enter Try.func21, Try.ntmps21
    go_wp2_with (first
      | ((with_reducible refine gate_dst (N := 5) rfl ?_); refine Kd.R_lit k44 (w0 := w) w.heap.size 44 ?hg (N := 5) ?hd (xs := []) (inner := []) (ok := fun _ => True) (okp := fun _ => False) ?hr ⟨rfl, by simp⟩ (fun _ _ => trivial) trivial (Below.refl _ _) (Nat.le_refl _) (by simp) ?_; (case hd => rfl); (case hg => rfl); (case hr => first | (go_simp; done) | (go_simp; rfl)); intro v1 w1 hO1 hB1 hG1 hb1; have HO1 := Aside0.mk hO1; have HB1 := Aside0.mk hB1; clear hO1 hG1 hb1 hB1)
      | (at_builtin; refine Kd.R_append_rows k44 (w0 := w) w.heap.size rfl _ _ 47 44 (.agg #[.int .i64 0, .int .i64 0, .int .i64 0, .int .i64 0]) 32 rfl Try.underlying47 info_span rfl (by decide) (by decide) v1 [] xs (some ad) xs.length c (fun _ => True) (fun _ => False) rfl rfl HO1.out (Kd.C_below HCA.out HB1.out) (fun x cs h => by rw [k44_open h]; exact k44_mkM _ _ _ _) (fun _ h => h.elim) (fun _ _ => trivial) HB1.out HB1.out.size (by simp; omega) ?_; intro v2 w2 hO2 hB2 hG2 hb2))
    go_ret
    exact ⟨v2, rfl, by simpa using hO2, hB2⟩
theorem clear_behind {W : World} {base g i q cap : Nat} {ok : Nat → Prop} {ys : List S44} (h : k44.R 44 W base ok (.slice (some ⟨g, 0, none⟩) i cap) ys) (hq : 0 < q) (hcap : i + q ≤ cap) (c2 : Nat) (ty : TypeId) :
    ∃ w1, (Builtin.clear_ #[47] ty #[.slice (some ⟨g, i * 4, none⟩) q c2]).run Try.prog W = .ok (.tuple #[]) w1 ∧ k44.R 44 w1 base ok (.slice (some ⟨g, 0, none⟩) i cap) ys ∧ W.grownBy w1 (some g) := by
  obtain ⟨hn, hnc, _⟩ := Kd.R_reads' h
  obtain ⟨seg, hseg⟩ : ∃ seg, seg = (Builtin.zeroCells #[.int .i64 0, .int .i64 0, .int .i64 0, .int .i64 0] q).toList := ⟨_, rfl⟩
  have hlen : seg.length = q * 4 := by rw [hseg, Array.length_toList, size_zeroCells]; rfl
  have hone : ∀ q ∈ seg, q.oneCell' = true := by
    intro q hq
    rw [hseg] at hq
    simp only [Builtin.zeroCells] at hq
    have : q = .int .i64 0 := by
      simp at hq
      obtain ⟨j, hj, hq⟩ := hq
      have h4 : j % 4 = 0 ∨ j % 4 = 1 ∨ j % 4 = 2 ∨ j % 4 = 3 := by omega
      rcases h4 with h4 | h4 | h4 | h4 <;> simp [h4] at hq <;> exact hq.symm
    rw [this]; rfl
  have hb := R_behind h (fun hp => k44_move hp) seg (o := i * 4) (Nat.le_refl _) (by
    have : k44.sz = 4 := rfl
    rw [hlen, this]; omega)
  refine ⟨_, ?_, hb.1, hb.2⟩
  have hown := h.2
  obtain ⟨inner, hown, _⟩ := hown
  rcases hown.2 with ⟨hv, _⟩ | ⟨g', cap', cur, hv, _, hh, _, _, hcs, _⟩
  · cases hv
  injection hv with ha _ hc
  injection ha with ha
  injection ha with hg
  subst hg; subst hc
  have hcs' : cur.size = cap * 4 := hcs
  have hst := run_storeCells_cells (P := Try.prog) g (i * 4) seg 0 W (fun j hj => by rw [cell_of_row W g _ cur 44 (0, 0) hh]; simp; omega) (fun j _ => blk_frozen hh _) hone
  simp only [Nat.add_zero] at hst
  obtain ⟨m, hm⟩ : ∃ m, q = m + 1 := ⟨q - 1, by omega⟩
  have hz := zero_span W
  have hu : (underlying 47).run Try.prog W = .ok (.slice 44) W := run_underlying Try.underlying47 W
  have hcl : (Value.agg #[.int .i64 0, .int .i64 0, .int .i64 0, .int .i64 0]).cells = #[.int .i64 0, .int .i64 0, .int .i64 0, .int .i64 0] := rfl
  rw [hm] at hseg ⊢
  simp [Builtin.clear_, hu, hz, hcl, ← hseg, hst]

/-- An element is taken out: one step of a region that draws its order. -/
theorem step_delete {ops : Array Oper} {o : Oper} {a : Act} {W : World} {K : Act → World → Prop} {Q : Exit → Act → World → Prop} {E : Prop}
    (hg : o.guard = none) (s x : Operand) (hop : o.op = Op.call { callee := Callee.builtin Builtin.append, args := #[s, x], argTypes := #[47, 47] })
    (base g n c k : Nat) (xs : List S44) (ok : Nat → Prop) (HO : k44.R 44 W base ok (.slice (some ⟨g, 0, none⟩) n c) xs) (hk : k < n) (A : Option Addr) (c2 : Nat) (hA : A = if c = k + 1 then some ⟨g, 0, none⟩ else (some (⟨g, 0, none⟩ : Addr)).map (·.add ((k + 1) * k44.sz)))
    (hs : a.eval s = .slice (some ⟨g, 0, none⟩) k c) (hx : a.eval x = .slice A (n - (k + 1)) c2)
    (hK : ∀ w1, k44.R 44 w1 base ok (.slice (some ⟨g, 0, none⟩) (n - 1) c) (xs.eraseIdx k) → W.grownBy w1 (some g) → K (a.put o.dst (.slice (some ⟨g, 0, none⟩) (n - 1) c)) w1) :
    if Region.wanted o (yielded ops a.tmps) = true then Oper.wp Try.prog o a W K Q else E := by
  have hw : Region.wanted o (yielded ops a.tmps) = true := by simp [Region.wanted, hg]
  rw [if_pos hw]
  obtain ⟨i0, hi, hzz⟩ := Option.map_eq_some_iff.1 info_span
  simp only [Prod.mk.injEq] at hzz
  obtain ⟨w1, hrun, h1, h2⟩ := Kd.R_delete_run (P := Try.prog) k44 base 47 o.type 44 i0 Try.underlying47 hi hzz.2.1 HO hk hA c2
  unfold Oper.wp
  simp [execOp, hop, resolve, invoke, builtin, hs, hx, hrun, Result.andThen]
  exact hK w1 h1 h2

set_option maxRecDepth 100000 in
set_option maxHeartbeats 2000000 in
theorem deleteSpan_c (base g m c k : Nat) (xs : List S44) (ok : Nat → Prop) (w : World) (HO : k44.R 44 w base ok (.slice (some ⟨g, 0, none⟩) (m + 1) c) xs) (hk : k < m + 1) (hn : m + 1 ≤ 100000) :
    Calls Try.prog 25 #[.slice (some ⟨g, 0, none⟩) (m + 1) c, .int .i64 k, .int .i64 (k + 1)] w fun e w' => e = .returned (.slice (some ⟨g, 0, none⟩) m c) ∧ k44.R 44 w' base ok (.slice (some ⟨g, 0, none⟩) m c) (xs.eraseIdx k) ∧ w.grownBy w' (some g) := by
  obtain ⟨hnl, hnc, _⟩ := Kd.R_reads' HO
  have HNL := Aside0.mk hnl
  have HOA := Aside0.mk HO
  clear hnl
  have hkk : ((k : Int) == (k : Int) + 1) = false := beq_eq_false_iff_ne.mpr (by omega)
  clear HO
  go_enter Try.func25, Try.ntmps25
  go_wp2
  have i1 : (0 : Int) ≤ (k : Int) := by omega
  have i2 : (k : Int) ≤ (c : Int) := by omega
  have i3 : (0 : Int) ≤ (k : Int) + 1 := by omega
  have i4 : (k : Int) + 1 ≤ (m : Int) + 1 := by omega
  have i5 : (m : Int) + 1 ≤ (c : Int) := by omega
  have i6 : k ≤ c := by omega
  have i7 : k + 1 ≤ m + 1 := by omega
  have i8 : ((k : Int) + 1).toNat = k + 1 := by omega
  have i9 : (k : Int) ≤ (k : Int) + 1 := by omega
  have i10 : m ≤ c := by omega
  by_cases hc1 : c = k + 1
  · have hmk : m = k := by omega
    subst hmk; subst hc1
    have HA : Aside0 ((some ⟨g, 0, none⟩ : Option Addr) = if m + 1 = m + 1 then some ⟨g, 0, none⟩ else (some (⟨g, 0, none⟩ : Addr)).map (·.add ((m + 1) * k44.sz))) := ⟨by rw [if_pos rfl]⟩
    go_region_law ((refine step_delete rfl (.tmp 22) (.tmp 25) rfl base g (m + 1) (m + 1) m xs ok (Kd.R_drew HOA.out) hk (some ⟨g, 0, none⟩) 0 HA.out (by simp [Act.eval, Act.put]) (by simp [Act.eval, Act.put]) ?_; intro w1 h1 h2))
    simp only [Nat.add_sub_cancel] at h1
    obtain ⟨w2, hclr, hO5, hG5⟩ := clear_behind (q := 1) h1 (by decide) (by omega) 1 0
    have HO5 := Aside0.mk hO5
    have HG5 := Aside0.mk hG5
    have HG1 := Aside0.mk h2
    clear h1 h2 hO5 hG5
    go_wp2
    go_ret
    exact ⟨rfl, HO5.out, ((⟨rfl, rfl, rfl, Nat.le_refl _, fun _ _ _ => rfl⟩ : w.grownBy w.drew (some g)).trans HG1.out).trans HG5.out⟩
  · have HA : Aside0 ((some ⟨g, (k + 1) * 4, none⟩ : Option Addr) = if c = k + 1 then some ⟨g, 0, none⟩ else (some (⟨g, 0, none⟩ : Addr)).map (·.add ((k + 1) * k44.sz))) := ⟨by rw [if_neg hc1]; simp [add_plain]; rfl⟩
    go_region_law ((refine step_delete rfl (.tmp 22) (.tmp 25) rfl base g (m + 1) c k xs ok (Kd.R_drew HOA.out) hk (some ⟨g, (k + 1) * 4, none⟩) (c - (k + 1)) HA.out (by simp [Act.eval, Act.put]) (by simp [Act.eval, Act.put]) ?_; intro w1 h1 h2))
    simp only [Nat.add_sub_cancel] at h1
    obtain ⟨w2, hclr, hO5, hG5⟩ := clear_behind (q := 1) h1 (by decide) (by omega) (c - m) 0
    have HO5 := Aside0.mk hO5
    have HG5 := Aside0.mk hG5
    have HG1 := Aside0.mk h2
    clear h1 h2 hO5 hG5
    go_wp2
    go_ret
    exact ⟨rfl, HO5.out, ((⟨rfl, rfl, rfl, Nat.le_refl _, fun _ _ _ => rfl⟩ : w.grownBy w.drew (some g)).trans HG1.out).trans HG5.out⟩
end Go.Proofs.Ytgljbgmphelhbaa.Q
