/- The contract of alloc.Homes. -/
import Derived.Test.YtgljbgmphelhbaaHomesModel
import Derived.Deep.LoopGhost
import Derived.Deep.RegionHeld3
namespace Go.Proofs.Ytgljbgmphelhbaa.Q
open Go.RowKit Go.Proofs.YtgljbgmphelhbaaW.PrintWords Go.Proofs.YtgljbgmphelhbaaW.PrintLast Go.Proofs.YtgljbgmphelhbaaW.PrintMore
set_option linter.unusedVariables false
set_option linter.unusedSimpArgs false

abbrev OwnH (W : World) (base : Nat) (v : Value) (xs : List S36) : Prop := Kd.R k36 36 W base (fun k => some k = v.ownBlock) v xs
abbrev OwnS (W : World) (base : Nat) (v : Value) (xs : List S44) : Prop := Kd.R k44 44 W base (fun k => some k = v.ownBlock) v xs
theorem k36_move {w w' : World} {base : Nat} {ok ok' : Nat → Prop} {x : S36} {cs : List Value} (h : k36.M w base ok x cs) : k36.M w' base ok' x cs := by
  rw [k36_openM h]
  exact k36_mkM w' base ok' x
theorem k44_move' {w w' : World} {base : Nat} {ok ok' : Nat → Prop} {x : S44} {cs : List Value} (h : k44.M w base ok x cs) : k44.M w' base ok' x cs := by
  rw [k44_openM h]
  exact k44_mkM w' base ok' x
theorem ownH_any {W : World} {base : Nat} {ok ok' : Nat → Prop} {v : Value} {xs : List S36} (h : Kd.R k36 36 W base ok v xs) (hok : ∀ k, v.ownBlock = some k → ok' k) : Kd.R k36 36 W base ok' v xs := by
  obtain ⟨h0, inner, ho, hr⟩ := h
  exact ⟨hok, inner, ho, hr.imp_ fun _ _ hp => k36_move hp⟩
theorem ownS_any {W : World} {base : Nat} {ok ok' : Nat → Prop} {v : Value} {xs : List S44} (h : Kd.R k44 44 W base ok v xs) (hok : ∀ k, v.ownBlock = some k → ok' k) : Kd.R k44 44 W base ok' v xs := by
  obtain ⟨h0, inner, ho, hr⟩ := h
  exact ⟨hok, inner, ho, hr.imp_ fun _ _ hp => k44_move' hp⟩
theorem row_ne {e e' : Nat} (hne : e ≠ e') {w : World} {base base' size size' n n' : Nat} {v v' : Value} {xs xs' : List Value} (h : w.ownsRow base e size v n xs) (h' : w.ownsRow base' e' size' v' n' xs') (k : Nat) (hk : some k = v.ownBlock) : some k ≠ v'.ownBlock := by
  intro hk'
  obtain ⟨c1, h1⟩ := own_typed h k hk.symm
  obtain ⟨c2, h2⟩ := own_typed h' k hk'.symm
  rw [h1] at h2
  injection h2 with h2
  injection h2 with _ h2
  exact hne h2
theorem row_lt {e : Nat} {w : World} {base size n : Nat} {v : Value} {xs : List Value} (h : w.ownsRow base e size v n xs) (k : Nat) (hk : some k = v.ownBlock) : k < w.heap.size := own_lt h k hk.symm

/-- The two rows that a round of Homes keeps. -/
structure HRows (w W : World) (v8 v9 : Value) (out : List S36) (act : List S44) : Prop where
  r8 : OwnH W w.heap.size v8 out
  r9 : OwnS W w.heap.size v9 act
  bel : Below w.heap.size w W
theorem HRows.below {w W W' : World} {v8 v9 : Value} {out : List S36} {act : List S44} (h : HRows w W v8 v9 out act) (hb : Below W.heap.size W W') : HRows w W' v8 v9 out act :=
  ⟨Kd.R_below h.r8 hb, Kd.R_below h.r9 hb, below_then h.bel h.bel.size hb⟩
theorem HRows.ne {w W : World} {v8 v9 : Value} {out : List S36} {act : List S44} (h : HRows w W v8 v9 out act) (k : Nat) (hk : some k = v8.ownBlock) : some k ≠ v9.ownBlock := by
  obtain ⟨_, i1, o1, _⟩ := h.r8
  obtain ⟨_, i2, o2, _⟩ := h.r9
  exact row_ne (by decide) o1 o2 k hk
theorem HRows.ne' {w W : World} {v8 v9 : Value} {out : List S36} {act : List S44} (h : HRows w W v8 v9 out act) (k : Nat) (hk : some k = v9.ownBlock) : some k ≠ v8.ownBlock := by
  obtain ⟨_, i1, o1, _⟩ := h.r8
  obtain ⟨_, i2, o2, _⟩ := h.r9
  exact row_ne (by decide) o2 o1 k hk
theorem HRows.base8 {w W : World} {v8 v9 : Value} {out : List S36} {act : List S44} (h : HRows w W v8 v9 out act) (k : Nat) (hk : v8.ownBlock = some k) : w.heap.size ≤ k := by
  obtain ⟨_, i1, o1, _⟩ := h.r8
  exact own_base o1 k hk
theorem HRows.base9 {w W : World} {v8 v9 : Value} {out : List S36} {act : List S44} (h : HRows w W v8 v9 out act) (k : Nat) (hk : v9.ownBlock = some k) : w.heap.size ≤ k := by
  obtain ⟨_, i1, o1, _⟩ := h.r9
  exact own_base o1 k hk

theorem C_box {W : World} {g : Nat} {s : S44} (h : W.heap[g]? = some (.cells #[.int .i64 s.f0, .int .i64 s.f1, .int .i64 s.f2, .int .i64 s.f3] 44 (0, 0))) : Kd.C k44 W (some ⟨g, 0, none⟩) 1 [s] := by
  refine ⟨rfl, by decide, fun _ => ⟨⟨g, 0, none⟩, rfl, fun j p hj => ?_⟩⟩
  cases j with
  | zero =>
    have : p = s := by simpa using hj.symm
    subst this
    refine ⟨_, rfl, k44_mk W p, fun i u hu => ?_⟩
    rw [add_plain, show 0 * k44.sz + i = i from by omega, blk_cell h i]
    simpa using hu
  | succ j => simp at hj
theorem gate_s {P : Program} {ops : Array Oper} {o : Oper} {a : Act} {W : World} {Kc : Act → World → Prop} {Q : Exit → Act → World → Prop} {N : Tmp} (_h : o.dst = some N) (h : if Region.wanted o (yielded ops a.tmps) = true then Oper.wp P o a W Kc Q else Kc (a.put o.dst undef) W) :
    if Region.wanted o (yielded ops a.tmps) = true then Oper.wp P o a W Kc Q else Kc (a.put o.dst undef) W := h
theorem span_append_step {ops : Array Oper} {o : Oper} {a : Act} {W : World} {Kc : Act → World → Prop} {Q : Exit → Act → World → Prop} {w0 : World} {base : Nat} (hw : Region.wanted o (yielded ops a.tmps) = true) (s x : Operand)
    (ho : o.op = .call { callee := .builtin .append, args := #[s, x], argTypes := #[47, 47] }) (v : Value) (xs : List S44) (p : S44) (b : Nat) (hs : a.eval s = v) (hx : a.eval x = .slice (some ⟨b, 0, none⟩) 1 1)
    (HO : Kd.R k44 44 W base (fun _ => True) v xs) (hb : W.heap[b]? = some (.cells #[.int .i64 p.f0, .int .i64 p.f1, .int .i64 p.f2, .int .i64 p.f3] 44 (0, 0))) (HB : Below base w0 W) (hbase : base ≤ W.heap.size) (hl : xs.length ≤ 400)
    (h : ∀ v1 w1, Kd.R k44 44 w1 base (fun _ => True) v1 (xs ++ [p]) → Below base w0 w1 → W.grownBy w1 v.ownBlock → Kc (a.put o.dst v1) w1) :
    if Region.wanted o (yielded ops a.tmps) = true then Oper.wp Try.prog o a W Kc Q else Kc (a.put o.dst undef) W :=
  Kd.R_append_rows_step k44 (w0 := w0) base hw s x 47 44 (.agg #[.int .i64 0, .int .i64 0, .int .i64 0, .int .i64 0]) 32 ho Try.underlying47 info_span rfl (by decide) (by decide) v xs [p] _ 1 1 (fun _ => True) (fun _ => False) hs hx HO (C_box hb) (fun x cs h => by rw [k44_open h]; exact k44_mkM _ _ _ _) (fun _ h => h.elim) (fun _ _ => trivial) HB hbase (by omega) (fun v1 w1 h1 h2 h3 _ => h v1 w1 h1 h2 h3)
theorem least_reg_c2 (A : Option Addr) (c n m : Nat) (xs : List S44) (A2 : Option Addr) (c2 : Nat) (out : List S36) (w : World) (hx : xs.length = m) (ho : out.length = n) (hr : Kd.C k44 w A xs.length xs) (hc : m ≤ c) (hC2 : Kd.C k36 w A2 out.length out) (hin : ∀ x ∈ xs, 0 ≤ x.f0 ∧ x.f0 < out.length) (hn : m ≤ 100000) :
    Calls Try.prog 22 #[.slice A m c, .slice A2 n c2] w fun e w' => e = .returned (.int .i64 (leastReg out xs)) ∧ Below w.heap.size w w' := by
  subst hx; subst ho
  exact least_reg_c A c xs A2 c2 out w hr hc hC2 hin hn
theorem home_cells {W : World} {base g n cap : Nat} {ok : Nat → Prop} {ys : List S36} (HO : k36.R 36 W base ok (.slice (some ⟨g, 0, none⟩) n cap) ys) (i : Int) (h0 : 0 ≤ i) (hi : i < n) :
    W.cell? ⟨g, i.toNat * 2, none⟩ = some (.int .i64 (rd_T36 ys i).f0) ∧ W.cell? ⟨g, i.toNat * 2 + 1, none⟩ = some (.int .i64 (rd_T36 ys i).f1) ∧ W.frozen? ⟨g, i.toNat * 2, none⟩ = false ∧ W.frozen? ⟨g, i.toNat * 2 + 1, none⟩ = false := by
  obtain ⟨hn, _, hC⟩ := Kd.R_reads' HO
  obtain ⟨ad, hae, h1, h2⟩ := at_T36 hC i h0 (by omega)
  injection hae with hae
  subst hae
  simp only [add_plain] at h1 h2
  obtain ⟨_, inner, ho, _⟩ := HO
  obtain ⟨cells, hh⟩ := own_typed ho g (by simp [Value.ownBlock])
  exact ⟨h1, h2, blk_frozen hh _, blk_frozen hh _⟩
/-- A home is stored. -/
theorem home_put {W : World} {base g n cap : Nat} {ys : List S36} (HO : OwnH W base (.slice (some ⟨g, 0, none⟩) n cap) ys) (i : Int) (h0 : 0 ≤ i) (hi : i < n) (p : S36) :
    OwnH ((W.setCell ⟨g, i.toNat * 2, none⟩ (.int .i64 p.f0)).setCell ⟨g, i.toNat * 2 + 1, none⟩ (.int .i64 p.f1)) base (.slice (some ⟨g, 0, none⟩) n cap) (ys.set i.toNat p) ∧ W.grownBy ((W.setCell ⟨g, i.toNat * 2, none⟩ (.int .i64 p.f0)).setCell ⟨g, i.toNat * 2 + 1, none⟩ (.int .i64 p.f1)) (some g) := by
  obtain ⟨hn, _, hC⟩ := Kd.R_reads' HO
  obtain ⟨ad, c, hae, hcl, _, hcell⟩ := Kd.C_get hC z36 i h0 (by omega)
  injection hae with hae
  subst hae
  have h := Kd.R_seg HO i h0 hi (c := c) (seg := [.int .i64 p.f0, .int .i64 p.f1]) (j := 0) (x' := p) (okp := fun _ => False) hcl (fun j u hu => by have := hcell j u hu; rwa [add_plain] at this) (by show 0 + 2 ≤ 2; omega) (by
    have : c.length = 2 := hcl
    rw [List.drop_of_length_le (by simp; omega)]
    exact k36_mkM _ _ _ _) (fun _ h => h.elim)
  exact h
theorem info_float : (Try.prog.info? 54).map (fun i => (i.zero, i.size, i.bytes)) = some (some (.float .f64 0), 1, 8) := by kernel_rfl
theorem least_c2 (A : Option Addr) (c n : Nat) (bs : List Nat) (w : World) (hb : bs.length = n) (hr : Kd.C kF w A bs.length bs) (hn : n ≤ 100000) :
    Calls Try.prog 24 #[.slice A n c] w fun e w' => e = .returned (.int .i64 (leastW bs)) ∧ Below w.heap.size w w' := by
  subst hb
  exact least_c A c bs w hr hn
theorem deleteSpan_c2 (base g n c k : Nat) (xs : List S44) (ok : Nat → Prop) (w : World) (HO : k44.R 44 w base ok (.slice (some ⟨g, 0, none⟩) n c) xs) (hk : k < n) (hn : n ≤ 100000) :
    Calls Try.prog 25 #[.slice (some ⟨g, 0, none⟩) n c, .int .i64 k, .int .i64 (k + 1)] w fun e w' => e = .returned (.slice (some ⟨g, 0, none⟩) (n - 1) c) ∧ k44.R 44 w' base ok (.slice (some ⟨g, 0, none⟩) (n - 1) c) (xs.eraseIdx k) ∧ w.grownBy w' (some g) := by
  obtain ⟨m, rfl⟩ : ∃ m, n = m + 1 := ⟨n - 1, by omega⟩
  exact deleteSpan_c base g m c k xs ok w HO hk hn
theorem keep4 {W W' : World} {g : Nat} {s : S44} (h : W.heap[g]? = some (.cells #[.int .i64 s.f0, .int .i64 s.f1, .int .i64 s.f2, .int .i64 s.f3] 44 (0, 0))) (hb : Below W.heap.size W W') :
    W'.cell? ⟨g, 0, none⟩ = some (.int .i64 s.f0) ∧ W'.cell? ⟨g, 1, none⟩ = some (.int .i64 s.f1) ∧ W'.cell? ⟨g, 2, none⟩ = some (.int .i64 s.f2) ∧ W'.cell? ⟨g, 3, none⟩ = some (.int .i64 s.f3) := by
  have h2 := blk_below h hb
  exact ⟨blk_cell h2 0, blk_cell h2 1, blk_cell h2 2, blk_cell h2 3⟩
theorem info_home : (Try.prog.info? 36).map (fun i => (i.zero, i.size, i.bytes)) = some (some (.agg #[.int .i64 0, .int .i64 0]), 2, 16) := by kernel_rfl

set_option maxRecDepth 100000 in
set_option maxHeartbeats 8000000 in
theorem homes_body (A0 : Option Addr) (c0 : Nat) (l0 : List S40) (A1 : Option Addr) (c1 : Nat) (l1 : List S83) (a2 : Int) (w : World) (hr0 : Kd.C k40 w A0 l0.length l0) (hc0 : l0.length ≤ c0) (hr1 : Kd.C k83 w A1 l1.length l1) (hc1 : l1.length ≤ c1)
    (hR : rightB l0 l1 = true) (hg1 : 1 ≤ a2) (hg2 : a2 ≤ 8) :
    Calls Try.prog 10 #[.slice A0 l0.length c0, .slice A1 l1.length c1, .int .i64 a2] w fun e w' => ∃ v0_ : Value, e = .returned (.tuple #[v0_, .int .i64 0]) ∧ Kd.R k36 36 w' w.heap.size (fun _ => True) v0_ (hAt l0 a2 l0.length).out ∧ Below w.heap.size w w' := by
  have hmf : ∀ (fn : Fn) (first cap : Array Value) (w : World), (Instr.makeFunc fn first cap).run Try.prog w = .ok (.func fn first cap) w := fun _ _ _ _ => rfl
  obtain ⟨hn1, hn2⟩ := right_len hR
  have HR0 := Aside0.mk hr0
  have HR1 := Aside0.mk hr1
  have HRT := Aside0.mk hR
  have d1 : decide (a2 < 1) = false := decide_eq_false (by omega)
  have d2 : decide (8 < a2) = false := decide_eq_false (by omega)
  clear hr0 hr1 hR
  go_enter Try.func10, Try.ntmps10
  go_wp2_with (go_at_call 17; refine (tree_Right.calls A0 c0 l0 A1 c1 l1 true _ HR0.out hc0 HR1.out hc1 (by unfold tree_Right.f; rw [HRT.out])).mono ?_; rintro e w1 ⟨rfl, hB1⟩; have HB1 := Aside0.mk hB1; clear hB1)
  go_loopw [8, 9, 10, 32] (fun v8 v9 v10 v wr => ∃ i : Nat, v10 = .int .i64 (hAt l0 a2 i).slots ∧ v = .int .i64 i ∧ i ≤ l0.length ∧ Aside0 (HRows w wr v8 v9 (hAt l0 a2 i).out (hAt l0 a2 i).act)) (fun _ _ _ v _ => l0.length - (intOf v).toNat)
  case atStart => exact ⟨0, rfl, rfl, Nat.zero_le _, ⟨⟨Kd.R_nil _ _ _ _ _, Kd.R_nil _ _ _ _ _, HB1.out⟩⟩⟩
  case round =>
    clear HB1
    obtain ⟨i, rfl, rfl, hi, HH⟩ := hrel
    obtain ⟨st, hst⟩ : ∃ st, st = hAt l0 a2 i := ⟨_, rfl⟩
    rw [← hst] at HH ⊢
    have HST := Aside0.mk hst
    have HINV : Aside0 (HInv i st) := ⟨by rw [hst]; exact hinv_at HRT.out i hi⟩
    clear hst
    by_cases hlt : i < l0.length
    · have hC := Kd.C_below HR0.out HH.out.bel
      obtain ⟨ad, rfl, hx0, hx1, hx2, hx3, hx4, hx5, hx6, hx7⟩ := at_T40 hC (i : Int) (by omega) (by omega)
      rw [Int.toNat_natCast] at hx0 hx1 hx2 hx3 hx4 hx5 hx6 hx7
      obtain ⟨x, hxe⟩ : ∃ x, x = rd_T40 l0 i := ⟨_, rfl⟩
      rw [← hxe] at hx0 hx1 hx2 hx3 hx4 hx5 hx6 hx7
      have HXE := Aside0.mk hxe
      have HNX : Aside0 (hAt l0 a2 (i + 1) = hStep l0 a2 x st) := ⟨by rw [hxe, HST.out]; rfl⟩
      clear hC hxe
      cases hd : hasD x.f0 with
      | false =>
        have HD := Aside0.mk hd
        have HNX2 : Aside0 (hAt l0 a2 (i + 1) = st) := ⟨by rw [HNX.out]; unfold hStep; rw [HD.out]; rfl⟩
        go_wp2_with (go_at_call 18; refine (makes_c x _).mono ?_; rintro e W1 ⟨rfl, hB1⟩; rw [HD.out])
        have hB2 : Below wr.heap.size wr W1 := ((Below.refl _ wr).alloc (Nat.le_refl _) _).trans (hB1.mono (by simp))
        go_roundw
        case rel => exact ⟨i + 1, by rw [HNX2.out], by go_num, by omega, ⟨by rw [HNX2.out]; exact HH.out.below hB2⟩⟩
        case measure => simp [intOf]; omega
      | true =>
        have HD := Aside0.mk hd
        have hD2 : 0 ≤ x.f1 ∧ x.f1 < 400 := by
          have := right_D HRT.out i hlt (by rw [← HXE.out]; exact hd)
          rw [← HXE.out] at this; exact this
        obtain ⟨hx10, hx11⟩ := hD2
        go_upto_if 38 with (go_at_call 18; refine (makes_c x _).mono ?_; rintro e W1 ⟨rfl, hB1⟩; rw [HD.out])
        obtain ⟨gx, hgx⟩ : ∃ g, g = wr.heap.size := ⟨_, rfl⟩
        have HBX : Aside0 (W1.heap[gx]? = some (.cells #[.int .i64 x.f0, .int .i64 x.f1, .int .i64 x.f2, .int .i64 x.f3, .int .i64 x.f4, .int .i64 x.f5, .int .i64 x.f6, .int .i64 x.f7] 40 (0, 0))) := ⟨by rw [hgx]; exact blk_below (blk_new _ _) hB1⟩
        have HH1 : Aside0 (HRows w W1 u8 u9 st.out st.act) := ⟨HH.out.below (((Below.refl _ wr).alloc (Nat.le_refl _) _).trans (hB1.mono (by simp)))⟩
        rw [← hgx]
        clear hgx hB1 HH hx0 hx1 hx2 hx3 hx4 hx5 hx6 hx7 hd
        have cx1 := blk_cell HBX.out 1
        simp only [List.getElem?_toArray, List.getElem?_cons_zero, List.getElem?_cons_succ] at cx1
        go_upto_region 12 with (fail)
        obtain ⟨K, hK⟩ : ∃ K, K = (x.f1 + 1 - st.out.length).toNat := ⟨_, rfl⟩
        have HK := Aside0.mk hK
        clear hK cx1
        go_loopg [8] K (fun kq v8 wr => ∃ j : Nat, kq + j = K ∧ Aside0 (HRows w wr v8 u9 (st.out ++ List.replicate j ⟨-1, -1⟩) st.act) ∧ Aside0 (wr.heap[gx]? = some (.cells #[.int .i64 x.f0, .int .i64 x.f1, .int .i64 x.f2, .int .i64 x.f3, .int .i64 x.f4, .int .i64 x.f5, .int .i64 x.f6, .int .i64 x.f7] 40 (0, 0))))
        case atStart => exact ⟨0, by omega, ⟨by simpa using HH1.out⟩, HBX⟩
        case round =>
          clear HH1 HBX
          obtain ⟨j, hjk, HH1, HBX⟩ := hrel
          obtain ⟨A8, c8, hv8⟩ := Kd.R_slice HH1.out.r8
          subst hv8
          have cx1 := blk_cell HBX.out 1
          simp only [List.getElem?_toArray, List.getElem?_cons_zero, List.getElem?_cons_succ] at cx1
          obtain ⟨n8, hn8⟩ : ∃ n, n = (st.out ++ List.replicate j (⟨-1, -1⟩ : S36)).length := ⟨_, rfl⟩
          rw [← hn8] at HH1 ⊢
          have HN8 : Aside0 (n8 = st.out.length + j) := ⟨by rw [hn8]; simp⟩
          have hol := HINV.out.ol
          by_cases hle : (n8 : Int) ≤ x.f1
          · have hjK : j < K := by have := HN8.out; have := HK.out; omega
            have hn8b : n8 ≤ 400 := by omega
            clear hn8
            go_wp2_with (at_builtin; refine Kd.R_append k36 (w0 := w) w.heap.size rfl _ _ 27 36 (.agg #[.int .i64 0, .int .i64 0]) 16 rfl Try.underlying27 info_home rfl (by decide) (by decide) (.slice A8 n8 c8) (st.out ++ List.replicate j ⟨-1, -1⟩) ⟨-1, -1⟩ [.int .i64 (-1), .int .i64 (-1)] (fun _ => True) (fun _ => False) rfl rfl (k36_mkM _ _ _ _) (fun _ h => h.elim) (fun _ _ => trivial) (Kd.R_mono HH1.out.r8 (fun _ _ => trivial)) HH1.out.bel HH1.out.bel.size (by have := HN8.out; simp; omega) ?_; intro v1 W2 hO hB hG hat)
            have HH2 : Aside0 (HRows w W2 v1 u9 (st.out ++ List.replicate (j + 1) ⟨-1, -1⟩) st.act) := ⟨⟨by
              rw [List.replicate_succ', ← List.append_assoc]
              exact ownH_any hO (fun k hk => hk.symm), Kd.R_grown HH1.out.r9 hG (fun k hk => HH1.out.ne' k hk), hB⟩⟩
            have HBX2 : Aside0 (W2.heap[gx]? = some (.cells #[.int .i64 x.f0, .int .i64 x.f1, .int .i64 x.f2, .int .i64 x.f3, .int .i64 x.f4, .int .i64 x.f5, .int .i64 x.f6, .int .i64 x.f7] 40 (0, 0))) := ⟨blk_grown HBX.out hG (by
              intro he
              obtain ⟨_, i1, o1, _⟩ := HH1.out.r8
              obtain ⟨c1, h1⟩ := own_typed o1 gx he.symm
              rw [HBX.out] at h1
              injection h1 with h1
              injection h1 with _ h1
              exact absurd h1 (by decide))⟩
            clear hO hB hG hat
            go_roundg (gk - 1)
            case rel => exact ⟨j + 1, by omega, HH2, HBX2⟩
            case measure => omega
          · have hjK : j = K := by have := HN8.out; have := HK.out; omega
            have hpad : st.out ++ List.replicate j ⟨-1, -1⟩ = padTo st.out x.f1 := by rw [hjK, HK.out]; rfl
            rw [hpad] at HH1 hn8
            have HN9 := Aside0.mk hn8
            clear hpad hn8 hjk hjK
            obtain ⟨s, hs⟩ : ∃ s, s = spanV_ l0 x.f1 := ⟨_, rfl⟩
            have hsf := span_facts hlt (by rw [← HXE.out]; exact HD.out)
            rw [← HXE.out, ← hs] at hsf
            obtain ⟨s0, s1, s2, s3, r5, hsp⟩ := hsf
            have HS0 := Aside0.mk s0
            have HSP := Aside0.mk hsp
            have HMID := hinv_mid HINV.out hlt hn2 (by rw [← HXE.out]; exact HD.out) (by rw [← HXE.out]; exact hx10) (by rw [← HXE.out]; exact hx11)
            rw [← HXE.out, ← hs] at HMID
            have HMID' := Aside0.mk HMID
            have HSE := Aside0.mk hs
            clear s0 hsp HMID hs
            go_upto_region 15 with (go_at_call 16; refine (alloc_spanOf.calls (some ad) c0 l0 x.f1 s.f0 s.f1 s.f2 s.f3 r5 _ (Kd.C_below HR0.out HH1.out.bel) hc0 HSP.out).mono ?_; rintro e W3 ⟨rfl, hB3⟩)
            obtain ⟨gs, hgs⟩ : ∃ g, g = W3.heap.size := ⟨_, rfl⟩
            obtain ⟨W4, hW4⟩ : ∃ W4, W4 = W3.alloc (.cells #[.int .i64 s.f0, .int .i64 s.f1, .int .i64 s.f2, .int .i64 s.f3] 44) := ⟨_, rfl⟩
            have HGS : Aside0 (W4.heap[gs]? = some (.cells #[.int .i64 s.f0, .int .i64 s.f1, .int .i64 s.f2, .int .i64 s.f3] 44 (0, 0))) := ⟨by rw [hW4, hgs]; exact blk_new _ _⟩
            have HH3 : Aside0 (HRows w W3 (.slice A8 n8 c8) u9 (padTo st.out x.f1) st.act) := ⟨HH1.out.below hB3⟩
            have HH4 : Aside0 (HRows w W4 (.slice A8 n8 c8) u9 (padTo st.out x.f1) st.act) := ⟨by rw [hW4]; exact HH3.out.below ((Below.refl _ _).alloc (Nat.le_refl _) _)⟩
            have hgs9 : ∀ k, some k = u9.ownBlock → k ≠ gs := fun k hk => by
              obtain ⟨_, i1, o1, _⟩ := HH3.out.r9
              have := row_lt o1 k hk
              omega
            have hgs8 : ∀ k, some k = (Value.slice A8 n8 c8).ownBlock → k ≠ gs := fun k hk => by
              obtain ⟨_, i1, o1, _⟩ := HH3.out.r8
              have := row_lt o1 k hk
              omega
            have hgsw : w.heap.size ≤ gs := by rw [hgs]; exact HH3.out.bel.size
            have HGS9 := Aside0.mk hgs9
            have HGS8 := Aside0.mk hgs8
            rw [← hW4, ← hgs]
            clear hW4 hgs hB3 HH1 HH3 hgs9 hgs8 HBX
            go_upto_region 16 with (go_at_call 19; refine (deleteFunc_c w.heap.size u9 st.act _ gs s _ HH4.out.r9 HGS.out HGS9.out HH4.out.bel.size (by have := HINV.out.al; omega)).mono ?_; rintro e W5 ⟨v9, rfl, hO5, hG5, hE5⟩)
            obtain ⟨act1, hact⟩ : ∃ a, a = st.act.filter (keepB s) := ⟨_, rfl⟩
            rw [← hact] at hO5 HMID'
            have HH5 : Aside0 (HRows w W5 (.slice A8 n8 c8) v9 (padTo st.out x.f1) act1) := ⟨⟨Kd.R_grown HH4.out.r8 hG5 (fun k hk => HH4.out.ne k hk), ownS_any hO5 (fun k hk => hk.symm), HH4.out.bel.grown hG5 HH4.out.bel.size (fun k hk => HH4.out.base9 k hk)⟩⟩
            have HGS5 : Aside0 (W5.heap[gs]? = some (.cells #[.int .i64 s.f0, .int .i64 s.f1, .int .i64 s.f2, .int .i64 s.f3] 44 (0, 0))) := ⟨blk_grown HGS.out hG5 (fun he => HGS9.out gs he rfl)⟩
            have HACT := Aside0.mk hact
            clear hact hO5 hG5 hE5 HH4 HGS HGS9
            obtain ⟨A9, c9, hv9⟩ := Kd.R_slice HH5.out.r9
            subst hv9
            have hal : act1.length ≤ 400 := by have := HMID'.out.2.1; omega
            go_cut [15] (fun v15 wc => Aside0 (HRows w wc (.slice A8 n8 c8) (.slice A9 act1.length c9) (padTo st.out x.f1) act1) ∧ Aside0 (OwnS wc w.heap.size v15 (act1 ++ [s])) ∧ Aside0 (wc.heap[gs]? = some (.cells #[.int .i64 s.f0, .int .i64 s.f1, .int .i64 s.f2, .int .i64 s.f3] 44 (0, 0))))
            case first =>
              have cg := fun j => blk_cell HGS5.out j
              have cg0 := cg 0; have cg1 := cg 1; have cg2 := cg 2; have cg3 := cg 3
              clear cg
              simp only [List.getElem?_toArray, List.getElem?_cons_zero, List.getElem?_cons_succ] at cg0 cg1 cg2 cg3
              have hgs5 : gs < W5.heap.size := blk_lt HGS5.out
              have hgs5n : gs ≠ W5.heap.size := by omega
              have HL8 : Aside0 (∀ k, some k = (Value.slice A8 n8 c8).ownBlock → k < W5.heap.size) := ⟨fun k hk => by obtain ⟨_, i1, o1, _⟩ := HH5.out.r8; exact row_lt o1 k hk⟩
              have HL9 : Aside0 (∀ k, some k = (Value.slice A9 act1.length c9).ownBlock → k < W5.heap.size) := ⟨fun k hk => by obtain ⟨_, i1, o1, _⟩ := HH5.out.r9; exact row_lt o1 k hk⟩
              have HC9 : Aside0 (Kd.C k44 W5 A9 act1.length act1) := ⟨by
                obtain ⟨A, c, h1, h2, h3⟩ := Kd.R_reads HH5.out.r9
                injection h1 with h1 _ _
                rw [h1]; exact h3⟩
              go_region_held3 (fun w' => w'.cell? ⟨gs, 0, none⟩ = some (.int .i64 s.f0) ∧ w'.cell? ⟨gs, 1, none⟩ = some (.int .i64 s.f1) ∧ w'.cell? ⟨gs, 2, none⟩ = some (.int .i64 s.f2) ∧ w'.cell? ⟨gs, 3, none⟩ = some (.int .i64 s.f3))
                (first | go_keep | exact keep4 HG7.out (Below.refl _ _) | exact keep4 HGS5.out (by repeat (first | exact Below.refl _ _ | apply below_alloc | apply below_drew | exact below_step (by repeat (first | exact Below.refl _ _ | apply below_alloc | apply below_drew)) hB6)))
                ((first
                  | ((with_reducible refine gate_s (N := 62) rfl ?_); refine span_append_step (w0 := w) (base := w.heap.size) (by simp [Region.wanted]) _ _ (by rfl) v1 act1 s _ (by rfl) (by rfl) ?ha ?hb ?hc ?hd hal ?_; (case ha => repeat (first | exact hO7 | apply Kd.R_alloc | apply Kd.R_drew)); (case hb => first | exact blk_new _ _ | exact blk_below (blk_new _ _) hB6 | exact blk_below (blk_drew (blk_new _ _)) hB6); (case hc => repeat (first | exact HB6.out | apply below_alloc)); (case hd => first | exact HB6.out.size | exact (below_alloc HB6.out _).size); intro v15 W7 hO15 hB15 hG15; have HG7 : Aside0 (W7.heap[gs]? = some (.cells #[.int .i64 s.f0, .int .i64 s.f1, .int .i64 s.f2, .int .i64 s.f3] 44 (0, 0))) := (by refine ⟨blk_grown ?_ hG15 ?_⟩; (repeat (first | exact HG6.out | refine blk_alloc ?_ _)); (intro he; have h5 := HV1.out gs he.symm; omega)))
                  | (go_at_call 21; refine (clone_c A9 c9 act1 _ (Kd.C_below HC9.out (by repeat (first | exact Below.refl _ _ | apply below_alloc | apply below_drew))) (by omega)).mono ?_; rintro e W6 ⟨v1, rfl, hO6, hB6⟩; have hB56 : Below W5.heap.size W5 W6 := below_step (by repeat (first | exact Below.refl _ _ | apply below_alloc | apply below_drew)) hB6; have HB6 : Aside0 (Below w.heap.size w W6) := ⟨below_step HH5.out.bel hB56⟩; have hO7 : Kd.R k44 44 W6 w.heap.size (fun _ => True) v1 act1 := Kd.R_lower hO6 (by have := HH5.out.bel.size; first | omega | (simp; omega)); have HG6 := Aside0.mk (blk_below HGS5.out hB56); have HH6 := Aside0.mk (HH5.out.below hB56); have HV1 : Aside0 (∀ k, v1.ownBlock = some k → W5.heap.size ≤ k) := ⟨fun k hk => by obtain ⟨_, i1, o1, _⟩ := hO6; have h := own_base o1 k hk; first | exact h | (simp at h; omega)⟩)))
              all_goals
                have HR7 : Aside0 (HRows w W7 (.slice A8 n8 c8) (.slice A9 act1.length c9) (padTo st.out x.f1) act1) := by
                  refine ⟨⟨Kd.R_grown ?_ hG15 (fun k hk he => ?_), Kd.R_grown ?_ hG15 (fun k hk he => ?_), hB15⟩⟩
                  · repeat (first | exact HH6.out.r8 | apply Kd.R_alloc)
                  · have h1 := HV1.out k he.symm; have h2 := HL8.out k hk; omega
                  · repeat (first | exact HH6.out.r9 | apply Kd.R_alloc)
                  · have h1 := HV1.out k he.symm; have h2 := HL9.out k hk; omega
                have HO15 : Aside0 (OwnS W7 w.heap.size v15 (act1 ++ [s])) := ⟨ownS_any hO15 (fun k hk => hk.symm)⟩
                go_wp2
                go_meet
                case rel => exact ⟨HR7, HO15, HG7⟩
            case rest =>
              clear HH5 HGS5
              obtain ⟨HH7, HO15, HG7⟩ := hcut
              have hx1n : x.f1 < n8 := by have := length_padTo_gt st.out x.f1 hx10; have := HN9.out; omega
              obtain ⟨g8, cap8, hv8, hg8b, hg8l, -⟩ := Kd.R_form HH7.out.r8 (by have := HN9.out; omega)
              injection hv8 with ha8 hnn8 hc8
              clear hnn8
              subst ha8; subst hc8
              have hs0n : 0 ≤ s.f0 ∧ s.f0 < n8 := by rw [HS0.out]; omega
              obtain ⟨hs00, hs01⟩ := hs0n
              have HOB : Aside0 (∀ k, some k = u15.ownBlock → some k ≠ some g8) := ⟨fun k hk => by
                obtain ⟨_, i1, o1, _⟩ := HO15.out
                obtain ⟨_, i2, o2, _⟩ := HH7.out.r8
                exact row_ne (by decide) o1 o2 k hk⟩
              have hgs8n : gs ≠ g8 := fun he => HGS8.out g8 (by simp [Value.ownBlock]) he.symm
              have hgs8n' : g8 ≠ gs := fun he => hgs8n he.symm
              by_cases hfew : (act1.length : Int) < a2
              · have HFEW := Aside0.mk hfew
                go_upto_region 18 with (fail)
                have cg := fun j => blk_cell HG7.out j
                have cg0 := cg 0; have cg1 := cg 1; have cg2 := cg 2; have cg3 := cg 3
                clear cg
                simp only [List.getElem?_toArray, List.getElem?_cons_zero, List.getElem?_cons_succ] at cg0 cg1 cg2 cg3
                have HC9 : Aside0 (Kd.C k44 wc A9 act1.length act1) := ⟨by
                  obtain ⟨A, c, h1, h2, h3⟩ := Kd.R_reads HH7.out.r9
                  injection h1 with h1 _ _
                  rw [h1]; exact h3⟩
                have hc9 : act1.length ≤ c9 := (Kd.R_reads' HH7.out.r9).2.1
                have HC8 : Aside0 (Kd.C k36 wc (some ⟨g8, 0, none⟩) (padTo st.out x.f1).length (padTo st.out x.f1)) := ⟨by
                  obtain ⟨A, c, h1, h2, h3⟩ := Kd.R_reads HH7.out.r8
                  injection h1 with h1 _ _
                  rw [h1]; exact h3⟩
                have HIN : Aside0 (∀ x_1 ∈ act1, 0 ≤ x_1.f0 ∧ x_1.f0 < (padTo st.out x.f1).length) := ⟨fun a ha => by
                  have := HMID'.out.2.2 a (List.mem_append.2 (.inl ha)); exact ⟨this.1, this.2.1⟩⟩
                go_region_held3 (fun w' => w'.cell? ⟨gs, 0, none⟩ = some (.int .i64 s.f0))
                  (first | go_keep | exact hk0 | exact (World.cell?_setCell_other _ (by simp; omega)).trans hk0)
                  ((go_at_call 22; refine (least_reg_c2 A9 c9 n8 act1.length act1 (some ⟨g8, 0, none⟩) c8 (padTo st.out x.f1) _ rfl HN9.out.symm (Kd.C_below HC9.out (by repeat (first | exact Below.refl _ _ | apply below_alloc | apply below_drew))) hc9 (Kd.C_below HC8.out (by repeat (first | exact Below.refl _ _ | apply below_alloc | apply below_drew))) HIN.out (by omega)).mono ?_; rintro e W8 ⟨rfl, hB8⟩; have hB78 : Below wc.heap.size wc W8 := below_step (by repeat (first | exact Below.refl _ _ | apply below_alloc | apply below_drew)) hB8; have HB78 := Aside0.mk hB78; obtain ⟨hm0, hm1, hm2, hm3⟩ := home_cells (Kd.R_below HH7.out.r8 hB78) s.f0 hs00 hs01; have hk0 : W8.cell? ⟨gs, 0, none⟩ = some (.int .i64 s.f0) := blk_cell (blk_below HG7.out hB78) 0))
                obtain ⟨hp1, hp2⟩ := home_put (Kd.R_below HH7.out.r8 HB78.out) s.f0 hs00 hs01 ⟨leastReg (padTo st.out x.f1) act1, 0⟩
                have HNXa : Aside0 (hAt l0 a2 (i + 1) = ⟨(padTo st.out x.f1).set s.f0.toNat ⟨leastReg (padTo st.out x.f1) act1, 0⟩, act1 ++ [s], st.slots⟩) := ⟨by
                  rw [HNX.out]
                  unfold hStep
                  rw [if_pos HD.out]
                  dsimp only
                  rw [← HSE.out, ← HACT.out, if_pos HFEW.out]⟩
                have HH8 : Aside0 (HRows w ((W8.setCell ⟨g8, s.f0.toNat * 2, none⟩ (.int .i64 (leastReg (padTo st.out x.f1) act1))).setCell ⟨g8, s.f0.toNat * 2 + 1, none⟩ (.int .i64 0)) (.slice (some ⟨g8, 0, none⟩) n8 c8) u15 ((padTo st.out x.f1).set s.f0.toNat ⟨leastReg (padTo st.out x.f1) act1, 0⟩) (act1 ++ [s])) :=
                  ⟨⟨hp1, Kd.R_grown (Kd.R_below HO15.out HB78.out) hp2 (fun k hk => HOB.out k hk), (HH7.out.below HB78.out).bel.grown hp2 (HH7.out.below HB78.out).bel.size (fun k hk => by cases hk; exact hg8b)⟩⟩
                clear hp1 hp2 hB78
                go_wp2_with (fail)
                go_roundw
                case rel => exact ⟨i + 1, by rw [HNXa.out], by go_num, by omega, ⟨by rw [HNXa.out]; exact HH8.out⟩⟩
                case measure => simp [intOf]; omega
              · have HFEW := Aside0.mk hfew
                obtain ⟨ga, ca, hv15, hgab, hgal, -⟩ := Kd.R_form HO15.out (by simp)
                subst hv15
                obtain ⟨na, hna⟩ : ∃ n, n = (act1 ++ [s]).length := ⟨_, rfl⟩
                rw [← hna] at HO15 ⊢
                have hna1 : na = act1.length + 1 := by rw [hna]; simp
                have HNA := Aside0.mk hna
                have HNA1 := Aside0.mk hna1
                have hna2 : 1 ≤ na := by omega
                have hna3 : na ≤ 401 := by omega
                clear hna hna1
                go_upto_region 21 with ((with_reducible refine gate_dst (N := 78) rfl ?_); refine Kd.R_make kF (w0 := w) w.heap.size 54 rfl (N := 78) rfl 53 _ _ rfl (na : Int) rfl rfl Try.underlying53 (.float .f64 0) 8 info_float rfl (by decide) (by decide) 0 (ok := fun _ => True) (okp := fun _ => False) rfl (fun _ h => h.elim) trivial (by omega) (by omega) HH7.out.bel HH7.out.bel.size ?_; intro vw W8 hOw hBw hGw hbw)
                obtain ⟨gw, cw, hvw, hgwb, hgwl, -⟩ := Kd.R_form hOw (by simp; omega)
                subst hvw
                simp only [List.length_replicate, Int.toNat_natCast] at hOw ⊢
                have HOW : Aside0 (Kd.R kF 54 W8 w.heap.size (fun k => k = gw) (.slice (some ⟨gw, 0, none⟩) na cw) (List.replicate na 0)) := ⟨Kd.R_of_own (by simpa using Kd.own_of_R hOw) (fun k hk => by simpa [Value.ownBlock] using hk.symm)⟩
                have HH8 : Aside0 (HRows w W8 (.slice (some ⟨g8, 0, none⟩) n8 c8) (.slice A9 act1.length c9) (padTo st.out x.f1) act1) := ⟨⟨Kd.R_grown HH7.out.r8 hGw (by simp), Kd.R_grown HH7.out.r9 hGw (by simp), hBw⟩⟩
                have HO8 : Aside0 (OwnS W8 w.heap.size (.slice (some ⟨ga, 0, none⟩) na ca) (act1 ++ [s])) := ⟨Kd.R_grown HO15.out hGw (by simp)⟩
                have HG8 := Aside0.mk (blk_grown HG7.out hGw (by simp))
                have hwc : ∀ k, k < wc.heap.size → k ≠ gw := fun k hk he => by
                  obtain ⟨b, hb, hle⟩ := hbw
                  have : b = gw := by simpa [Value.ownBlock] using hb.symm
                  omega
                have hga8 : ga ≠ g8 := fun he => HOB.out ga (by simp [Value.ownBlock]) (by rw [he])
                have hgaw : ga ≠ gw := hwc ga (by obtain ⟨_, i1, o1, _⟩ := HO15.out; exact row_lt o1 ga (by simp [Value.ownBlock]))
                have hg8w : g8 ≠ gw := hwc g8 hg8l
                have hgsw2 : gs ≠ gw := hwc gs (blk_lt HG7.out)
                have H9W : Aside0 (∀ k, some k = (Value.slice A9 act1.length c9).ownBlock → some k ≠ some gw) := ⟨fun k hk => by
                  obtain ⟨_, i1, o1, _⟩ := HH7.out.r9
                  have := hwc k (row_lt o1 k hk)
                  simpa using this⟩
                clear hwc hOw hBw hGw hbw HH7 HO15 HG7
                go_wp2_with (fail)
                go_loopw [81] (fun v wr => ∃ (j : Nat) (bs : List Nat), v = .int .i64 j ∧ j ≤ na ∧ Aside0 (bs.length = na) ∧ Aside0 (∀ m : Nat, m < j → KB (wkey (rd_T44 (act1 ++ [s]) m)) (rdN bs m)) ∧
                    Aside0 (Kd.R kF 54 wr w.heap.size (fun k => k = gw) (.slice (some ⟨gw, 0, none⟩) na cw) bs) ∧ Aside0 (HRows w wr (.slice (some ⟨g8, 0, none⟩) n8 c8) (.slice A9 act1.length c9) (padTo st.out x.f1) act1) ∧
                    Aside0 (OwnS wr w.heap.size (.slice (some ⟨ga, 0, none⟩) na ca) (act1 ++ [s])) ∧ Aside0 (wr.heap[gs]? = some (.cells #[.int .i64 s.f0, .int .i64 s.f1, .int .i64 s.f2, .int .i64 s.f3] 44 (0, 0)))) (fun v _ => na - (intOf v).toNat)
                case atStart => exact ⟨0, List.replicate na 0, rfl, Nat.zero_le _, ⟨by simp⟩, ⟨fun m hm => by omega⟩, HOW, HH8, HO8, HG8⟩
                case round =>
                  clear HOW HH8 HO8 HG8
                  obtain ⟨j, bs, rfl, hj, HBL, HKB, HOW, HH8, HO8, HG8⟩ := hrel
                  by_cases hjl : j < na
                  · obtain ⟨hnl, _, hC2⟩ := Kd.R_reads' HO8.out
                    obtain ⟨ad2, hae, hx0, hx1, hx2, hx3⟩ := at_T44 hC2 (j : Int) (by omega) (by omega)
                    injection hae with hae
                    subst hae
                    rw [Int.toNat_natCast] at hx0 hx1 hx2 hx3
                    simp only [add_plain] at hx0 hx1 hx2 hx3
                    obtain ⟨y, hye⟩ : ∃ y, y = rd_T44 (act1 ++ [s]) j := ⟨_, rfl⟩
                    rw [← hye] at hx0 hx1 hx2 hx3
                    have hjlen : j < (act1 ++ [s]).length := by omega
                    have hym : y ∈ act1 ++ [s] := by
                      rw [hye]; simp only [rd_T44, Int.toNat_natCast, List.getD_eq_getElem?_getD, List.getElem?_eq_getElem hjlen, Option.getD_some]
                      exact List.getElem_mem hjlen
                    have HYF := Aside0.mk (HMID'.out.2.2 y hym)
                    have HYE := Aside0.mk hye
                    have hgal2 : ga < wr.heap.size := by
                      obtain ⟨_, i1, o1, _⟩ := HO8.out
                      exact row_lt o1 ga (by simp [Value.ownBlock])
                    have hgan : ga ≠ wr.heap.size := by omega
                    have hgwl2 : gw < wr.heap.size := by
                      obtain ⟨_, i1, o1, _⟩ := HOW.out
                      exact row_lt o1 gw (by simp [Value.ownBlock])
                    clear hnl hC2 hye hjlen hym
                    go_upto_region 25 with (go_at_call 23; refine (weightOf_c y _ HYF.out.2.2.1 HYF.out.2.2.2.1 (by have := HYF.out.2.2.2.2; omega)).mono ?_; rintro e W9 ⟨b, rfl, hwb, hB9⟩; have hB10 : Below wr.heap.size wr W9 := ((Below.refl _ wr).alloc (Nat.le_refl _) _).trans (hB9.mono (by simp)); have HWB := Aside0.mk hwb; have HB10 := Aside0.mk hB10; obtain ⟨hcw, hfw⟩ := Kd.R_celln 0 (Kd.R_below HOW.out hB10) (j : Int) (by omega) (by omega); rw [Int.toNat_natCast] at hcw hfw; have hst : (store (⟨gw, j, none⟩ : Addr) (Value.float .f64 b)).run Try.prog W9 = .ok () (W9.setCell ⟨gw, j, none⟩ (Value.float .f64 b)) := (by rw [run_store _ _ _ _ _ rfl, hcw]; dsimp only; rw [hfw]; rfl); clear hwb hB9 hB10)
                    obtain ⟨hp1, hp2⟩ := Kd.R_putg (Kd.R_below HOW.out HB10.out) (j : Int) b
                    rw [Int.toNat_natCast] at hp1 hp2
                    have HOW3 : Aside0 (Kd.R kF 54 (W9.setCell ⟨gw, j, none⟩ (.float .f64 b)) w.heap.size (fun k => k = gw) (.slice (some ⟨gw, 0, none⟩) na cw) (bs.set j b)) := ⟨hp1⟩
                    have HH9 := Aside0.mk (HH8.out.below HB10.out)
                    have HHa : Aside0 (HRows w (W9.setCell ⟨gw, j, none⟩ (.float .f64 b)) (.slice (some ⟨g8, 0, none⟩) n8 c8) (.slice A9 act1.length c9) (padTo st.out x.f1) act1) := ⟨⟨Kd.R_grown HH9.out.r8 hp2 (fun k hk he => by
                      have h1 : k = g8 := by simpa [Value.ownBlock] using hk
                      injection he with he; omega), Kd.R_grown HH9.out.r9 hp2 (fun k hk => H9W.out k hk), HH9.out.bel.grown hp2 HH9.out.bel.size (fun k hk => by cases hk; exact hgwb)⟩⟩
                    have HOa : Aside0 (OwnS (W9.setCell ⟨gw, j, none⟩ (.float .f64 b)) w.heap.size (.slice (some ⟨ga, 0, none⟩) na ca) (act1 ++ [s])) := ⟨Kd.R_grown (Kd.R_below HO8.out HB10.out) hp2 (fun k hk he => by
                      have h1 : k = ga := by simpa [Value.ownBlock] using hk
                      injection he with he; omega)⟩
                    have HGa : Aside0 ((W9.setCell ⟨gw, j, none⟩ (.float .f64 b)).heap[gs]? = some (.cells #[.int .i64 s.f0, .int .i64 s.f1, .int .i64 s.f2, .int .i64 s.f3] 44 (0, 0))) := ⟨blk_grown (blk_below HG8.out HB10.out) hp2 (fun he => by injection he with he; omega)⟩
                    clear hp1 hp2
                    go_wp2_with (fail)
                    go_roundw
                    case rel =>
                      refine ⟨j + 1, bs.set j b, by go_num, by omega, ⟨by rw [List.length_set]; exact HBL.out⟩, ⟨fun m hm => ?_⟩, HOW3, HHa, HOa, HGa⟩
                      by_cases hmj : m = j
                      · subst hmj
                        rw [← HYE.out]
                        have e : rdN (bs.set m b) m = b := by
                          have := HBL.out
                          simp [rdN, List.getD_eq_getElem?_getD, List.getElem?_set_self (show m < bs.length by omega)]
                        rw [e]
                        exact KB_of y b HWB.out
                      · have e : rdN (bs.set j b) m = rdN bs m := by
                          simp only [rdN, Int.toNat_natCast, List.getD_eq_getElem?_getD, List.getElem?_set]
                          rw [if_neg (fun h => hmj h.symm)]
                        rw [e]
                        exact HKB.out m (by omega)
                    case measure => simp [intOf]; omega
                  · have hjn : na = j := by omega
                    subst hjn
                    obtain ⟨k, hke⟩ : ∃ k, k = leastK ((act1 ++ [s]).map wkey) := ⟨_, rfl⟩
                    have hkl : k < na := by
                      rw [hke]
                      have := leastK_lt ((act1 ++ [s]).map wkey) (by simp)
                      rw [List.length_map, ← HNA.out] at this
                      exact this
                    have HLW : Aside0 (leastW bs = (k : Int)) := ⟨by
                      rw [hke]
                      refine leastW_eq _ bs (by rw [List.length_map, ← HNA.out]; exact HBL.out) (fun m hm => ?_) (by simp)
                      rw [List.length_map, ← HNA.out] at hm
                      have h1 := HKB.out m hm
                      have h2 : rdK ((act1 ++ [s]).map wkey) m = wkey (rd_T44 (act1 ++ [s]) m) := by
                        have h3 : m < (act1 ++ [s]).length := by rw [← HNA.out]; exact hm
                        simp only [rdK, rd_T44, Int.toNat_natCast, List.getD_eq_getElem?_getD, List.getElem?_map, List.getElem?_eq_getElem h3, Option.map_some, Option.getD_some]
                      rw [h2]; exact h1⟩
                    obtain ⟨y, hye⟩ : ∃ y, y = rd_T44 (act1 ++ [s]) k := ⟨_, rfl⟩
                    have hym : y ∈ act1 ++ [s] := by
                      have h3 : k < (act1 ++ [s]).length := by rw [← HNA.out]; exact hkl
                      rw [hye]; simp only [rd_T44, Int.toNat_natCast, List.getD_eq_getElem?_getD, List.getElem?_eq_getElem h3, Option.getD_some]
                      exact List.getElem_mem h3
                    have hyf := HMID'.out.2.2 y hym
                    have hy0 := hyf.1
                    have hy1 : y.f0 < n8 := by rw [HN9.out]; exact hyf.2.1
                    have HYE := Aside0.mk hye
                    have HKE := Aside0.mk hke
                    have HCW : Aside0 (Kd.C kF wr (some ⟨gw, 0, none⟩) bs.length bs) := ⟨by
                      obtain ⟨A, c, h1, h2, h3⟩ := Kd.R_reads HOW.out
                      injection h1 with h1 _ _
                      rw [h1]; exact h3⟩
                    clear hke hye hym hyf
                    go_upto_region 27 with (go_at_call 24; refine (least_c2 (some ⟨gw, 0, none⟩) cw na bs _ HBL.out HCW.out (by omega)).mono ?_; rintro e W10 ⟨rfl, hB10⟩; rw [HLW.out])
                    have HH10 := Aside0.mk (HH8.out.below hB10)
                    have HO10 : Aside0 (OwnS W10 w.heap.size (.slice (some ⟨ga, 0, none⟩) na ca) (act1 ++ [s])) := ⟨Kd.R_below HO8.out hB10⟩
                    have HG10 := Aside0.mk (blk_below HG8.out hB10)
                    clear hB10 HH8 HO8 HG8 HOW HCW HKB HBL HLW
                    obtain ⟨hm0, hm1, hm2, hm3⟩ := home_cells HH10.out.r8 s.f0 hs00 hs01
                    obtain ⟨hq0, hq1, -, -⟩ := home_cells HH10.out.r8 y.f0 hy0 hy1
                    have hcg : W10.cell? ⟨gs, 0, none⟩ = some (.int .i64 s.f0) := blk_cell HG10.out 0
                    have hca : W10.cell? ⟨ga, k * 4, none⟩ = some (.int .i64 y.f0) := by
                      obtain ⟨hnl, _, hC2⟩ := Kd.R_reads' HO10.out
                      obtain ⟨ad2, hae, hx0, -⟩ := at_T44 hC2 (k : Int) (by omega) (by omega)
                      injection hae with hae
                      subst hae
                      rw [Int.toNat_natCast, add_plain, ← HYE.out] at hx0
                      exact hx0
                    obtain ⟨z, hz⟩ : ∃ z, z = rd_T36 (padTo st.out x.f1) y.f0 := ⟨_, rfl⟩
                    rw [← hz] at hq0 hq1
                    have HZ := Aside0.mk hz
                    clear hz
                    go_cut [] (fun wc => Aside0 (HRows w wc (.slice (some ⟨g8, 0, none⟩) n8 c8) (.slice A9 act1.length c9) ((padTo st.out x.f1).set s.f0.toNat z) act1) ∧ Aside0 (OwnS wc w.heap.size (.slice (some ⟨ga, 0, none⟩) na ca) (act1 ++ [s])))
                    case first =>
                      go_region_law (fail)
                      all_goals
                        obtain ⟨hp1, hp2⟩ := home_put (Kd.R_drew HH10.out.r8) s.f0 hs00 hs01 z
                        have HHa : Aside0 (HRows w ((W10.drew.setCell ⟨g8, s.f0.toNat * 2, none⟩ (.int .i64 z.f0)).setCell ⟨g8, s.f0.toNat * 2 + 1, none⟩ (.int .i64 z.f1)) (.slice (some ⟨g8, 0, none⟩) n8 c8) (.slice A9 act1.length c9) ((padTo st.out x.f1).set s.f0.toNat z) act1) :=
                          ⟨⟨hp1, Kd.R_grown (Kd.R_drew HH10.out.r9) hp2 (fun k hk he => HH10.out.ne' k hk (by simp [Value.ownBlock]; injection he)), HH10.out.bel.drew.grown hp2 HH10.out.bel.size (fun k hk => by cases hk; exact hg8b)⟩⟩
                        have HOa : Aside0 (OwnS ((W10.drew.setCell ⟨g8, s.f0.toNat * 2, none⟩ (.int .i64 z.f0)).setCell ⟨g8, s.f0.toNat * 2 + 1, none⟩ (.int .i64 z.f1)) w.heap.size (.slice (some ⟨ga, 0, none⟩) na ca) (act1 ++ [s])) := ⟨Kd.R_grown (Kd.R_drew HO10.out) hp2 (fun k hk he => by
                          have h1 : k = ga := by simpa [Value.ownBlock] using hk
                          injection he with he; omega)⟩
                        clear hp1 hp2
                        go_wp2
                        go_meet
                        case rel => exact ⟨HHa, HOa⟩
                    case rest =>
                      clear HH10 HO10 HG10 hm0 hm1 hm2 hm3 hq0 hq1 hcg hca
                      obtain ⟨HHa, HOa⟩ := hcut
                      have hca : wc.cell? ⟨ga, k * 4, none⟩ = some (.int .i64 y.f0) := by
                        obtain ⟨hnl, _, hC2⟩ := Kd.R_reads' HOa.out
                        obtain ⟨ad2, hae, hx0, -⟩ := at_T44 hC2 (k : Int) (by omega) (by omega)
                        injection hae with hae
                        subst hae
                        rw [Int.toNat_natCast, add_plain, ← HYE.out] at hx0
                        exact hx0
                      obtain ⟨hm0, hm1, hm2, hm3⟩ := home_cells HHa.out.r8 y.f0 hy0 hy1
                      have hsl := HINV.out.sl
                      have HNXb : Aside0 (hAt l0 a2 (i + 1) = ⟨((padTo st.out x.f1).set s.f0.toNat z).set y.f0.toNat ⟨-1, st.slots⟩, (act1 ++ [s]).eraseIdx k, st.slots + 1⟩) := ⟨by
                        rw [HNX.out]
                        unfold hStep
                        rw [if_pos HD.out]
                        dsimp only
                        rw [← HSE.out, ← HACT.out, if_neg (Int.not_lt.mpr HFEW.out), ← HKE.out, ← HYE.out, ← HZ.out]⟩
                      go_upto_region 29 with (fail)
                      obtain ⟨hp1, hp2⟩ := home_put HHa.out.r8 y.f0 hy0 hy1 ⟨-1, st.slots⟩
                      obtain ⟨W12, hW12⟩ : ∃ W, W = (wc.setCell ⟨g8, y.f0.toNat * 2, none⟩ (.int .i64 (-1))).setCell ⟨g8, y.f0.toNat * 2 + 1, none⟩ (.int .i64 st.slots) := ⟨_, rfl⟩
                      have HHb : Aside0 (HRows w W12 (.slice (some ⟨g8, 0, none⟩) n8 c8) (.slice A9 act1.length c9) (((padTo st.out x.f1).set s.f0.toNat z).set y.f0.toNat ⟨-1, st.slots⟩) act1) := ⟨by
                        rw [hW12]
                        exact ⟨hp1, Kd.R_grown HHa.out.r9 hp2 (fun k hk he => HHa.out.ne' k hk (by simp [Value.ownBlock]; injection he)), HHa.out.bel.grown hp2 HHa.out.bel.size (fun k hk => by cases hk; exact hg8b)⟩⟩
                      have HOb : Aside0 (OwnS W12 w.heap.size (.slice (some ⟨ga, 0, none⟩) na ca) (act1 ++ [s])) := ⟨by
                        rw [hW12]
                        exact Kd.R_grown HOa.out hp2 (fun k hk he => by
                          have h1 : k = ga := by simpa [Value.ownBlock] using hk
                          injection he with he; omega)⟩
                      rw [← hW12]
                      clear hp1 hp2 hW12 HHa HOa hca hm0 hm1 hm2 hm3
                      go_upto_region 31 with (go_at_call 25; refine (deleteSpan_c2 w.heap.size ga na ca k (act1 ++ [s]) _ _ HOb.out hkl (by omega)).mono ?_; rintro e W13 ⟨rfl, hO13, hG13⟩)
                      have HHc : Aside0 (HRows w W13 (.slice (some ⟨g8, 0, none⟩) n8 c8) (.slice (some ⟨ga, 0, none⟩) (na - 1) ca) (((padTo st.out x.f1).set s.f0.toNat z).set y.f0.toNat ⟨-1, st.slots⟩) ((act1 ++ [s]).eraseIdx k)) := ⟨⟨Kd.R_grown HHb.out.r8 hG13 (fun k hk he => by
                          have h1 : k = g8 := by simpa [Value.ownBlock] using hk
                          injection he with he; omega), ownS_any hO13 (fun k hk => hk.symm), HHb.out.bel.grown hG13 HHb.out.bel.size (fun k hk => by cases hk; exact hgab)⟩⟩
                      clear hO13 hG13
                      go_wp2_with (fail)
                      go_roundw
                      case rel => exact ⟨i + 1, by rw [HNXb.out]; go_num, by go_num, by omega, ⟨by rw [HNXb.out]; exact HHc.out⟩⟩
                      case measure => simp [intOf]; omega
    · have hin : i = l0.length := by omega
      subst hin
      go_wp2
      go_ret2
      exact ⟨_, rfl, by rw [← HST.out]; exact ownH_any HH.out.r8 (fun _ _ => trivial), HH.out.bel⟩
end Go.Proofs.Ytgljbgmphelhbaa.Q
