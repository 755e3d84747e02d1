/- The contract of tree.Run. -/
import Derived.Test.YtaoefdbhfhcplaaRunDo
import Derived.Test.YtaoefdbhfhcplaaFoldGrow
import Derived.Test.YtaoefdbhfhcplaaTreeRightAll
namespace Go.Proofs.Ytaoefdbhfhcplaa.Q
open Go.RowKit Go.Proofs.YtaoefdbhfhcplaaW.PrintWords Go.Proofs.YtaoefdbhfhcplaaW.PrintLast Go.Proofs.YtaoefdbhfhcplaaW.PrintMore Go.Proofs.Ytaoefdbhfhcplaa.IM
set_option linter.unusedVariables false
set_option linter.unusedSimpArgs false

theorem doable_of_piece {l : List S80} {x : S39} (hl : l.length ≤ 9223372036854775807) (h : pieceA l x = true) : Doable x := by
 refine ⟨kind_split (op_of_piece h), ?_, A_of_piece h, B_of_piece h, fun hr => ?_⟩
 ·
  cases hd : hasD x.f0 with
  | true => exact D_of_piece h hd
  | false =>
   simp only [pieceA, Bool.and_eq_true] at h
   have := h.1.1.1.1.2
   rw [hd] at this
   simp [tempB] at this
   omega
 ·
  simp only [pieceA, Bool.and_eq_true] at h
  have h2 := h.2
  have hp : hasPlace x.f0 = true ∧ hasRow x.f0 = true := by rcases hr with e | e <;> rw [e] <;> decide
  unfold placesB rowB at h2
  rw [hp.1, hp.2] at h2
  simp only [if_true, Bool.and_eq_true, decide_eq_true_eq] at h2
  omega

theorem zero_cells : (Try.prog.info? 60).map (fun i => i.zero) = some (some (Value.agg (List.replicate 400 (Value.int .i64 0) ++ [Value.slice none 0 0, Value.slice none 0 0]).toArray)) := by kernel_rfl
theorem zero_runner (l2 : List Int) (W : World) : (zeroValue 60).run Try.prog W = .ok (.agg (rCells (runSt0 l2) (.slice none 0 0) (.slice none 0 0)).toArray) W := by
 obtain ⟨i, hi, hz⟩ := Option.map_eq_some_iff.1 zero_cells
 have e : (runSt0 l2).temps.map (Value.int .i64) = List.replicate 400 (Value.int .i64 0) := by unfold runSt0; rw [List.map_replicate]
 unfold rCells
 rw [e]
 have key : ∀ zs : Array Value, i.zero = some (.agg zs) → (zeroValue 60).run Try.prog W = .ok (.agg zs) W := fun zs h => by simp [zeroValue, typeInfo, hi, h]
 exact key _ hz
theorem acts_ok {w : World} {base : Nat} {ok ok' : Nat → Prop} {v : Value} {xs : List S44} (h : Kd.R k44 44 w base ok v xs) (h0 : ∀ k, v.ownBlock = some k → ok' k) : Kd.R k44 44 w base ok' v xs := by
 obtain ⟨_, inner, hown, hr⟩ := h
 refine ⟨h0, inner, hown, hr.imp_ (fun p c hp => ?_)⟩
 have hc := k44_open (Kd.K_of_M _ hp)
 rw [hc]
 exact k44_mkM _ _ _ _
theorem acts_far {w : World} {base g : Nat} {ok : Nat → Prop} {v : Value} {xs : List S44} {cs : Array Value} (h : Kd.R k44 44 w base ok v xs) (hg : w.heap[g]? = some (.cells cs 35 (0, 0))) : Kd.R k44 44 w base (fun k => k ≠ g) v xs :=
 acts_ok h (fun k hk e => by
  obtain ⟨inner, ho⟩ := Kd.R_own h
  obtain ⟨c2, hc2⟩ := own_typed ho k hk
  rw [e, hg] at hc2
  injection hc2 with hc2
  injection hc2 with _ hc2
  exact absurd hc2 (by decide))
theorem step_kept {x : S39} (hop : 1 ≤ x.f0 ∧ x.f0 ≤ 18) {s s' : RunSt} (h : stepP x s = .next s' ∨ stepP x s = .jump s') : s'.acts.length ≤ s.acts.length + 1 := by
 obtain ⟨f0, f1, f2, f3, f4, f5, f6, f7⟩ := x
 dsimp only at hop
 obtain ⟨tm, ts_, ac⟩ := s
 rcases kind_split hop with e | e | e | e | e | e | e | e | e | e | e | e | e | e | e | e | e | e <;> subst e <;>
  simp [stepP, askR, RunSt.put, RunSt.tell] at h
 all_goals (repeat' split at h)
 all_goals (first | (cases h; done) | skip)
 all_goals (first | (rcases h with h | h) | skip)
 all_goals (first | (cases h; done) | skip)
 all_goals (first | (injection h with h; subst h) | subst h | skip)
 all_goals simp_all
theorem step_status {x : S39} (hop : 1 ≤ x.f0 ∧ x.f0 ≤ 18) {s : RunSt} {ac : List S44} {st : Int} (h : stepP x s = .done ac st) : st ≠ 0 := by
 obtain ⟨f0, f1, f2, f3, f4, f5, f6, f7⟩ := x
 dsimp only at hop
 obtain ⟨tm, ts_, ac⟩ := s
 rcases kind_split hop with e | e | e | e | e | e | e | e | e | e | e | e | e | e | e | e | e | e <;> subst e <;>
  simp [stepP, askR, RunSt.put, RunSt.tell] at h
 all_goals (repeat' split at h)
 all_goals (first | (cases h; done) | skip)
 all_goals simp_all
 all_goals omega
theorem results_c1 {P : Program} {fn : Func} {p : Tmp} {ty : TypeId} (h : fn.results = #[.cell p ty]) (tmps : Array Value) (w : World) (g : Nat) (t : TypeId) (cs : Array Value) (fr : Nat × Nat) (d : TypeDesc)
 (hp : tmps.getD p undef = .pointer (some ⟨g, 0, none⟩)) (hg : w.heap[g]? = some (.cells cs t fr))
 (hu : P.underlying ty = some d) (hd : (match d with | .struct _ | .array _ _ => true | _ => false) = true) (hi : (P.info? ty).map (·.size) = some cs.size) :
 (results fn tmps).run P w = .ok (.agg cs) w := by
 have hp' : tmps[p]?.getD undef = .pointer (some ⟨g, 0, none⟩) := by simpa using hp
 simp [results, h, hp', asAddr, run_loadVar_row w g t ty cs fr d hg hu hd hi]

set_option maxRecDepth 100000 in
set_option maxHeartbeats 8000000 in
theorem tree_Run.calls (A0 : Option Addr) (c0 : Nat) (l0 : List S39) (A1 : Option Addr) (c1 : Nat) (l1 : List S80) (A2 : Option Addr) (c2 : Nat) (l2 : List Int) (r1 : List S44) (r2 : Int) (w : World) (hr0 : Kd.C k39 w A0 l0.length l0) (hc0 : l0.length ≤ c0) (hr1 : Kd.C k80 w A1 l1.length l1) (hc1 : l1.length ≤ c1) (hr2 : Kd.C (Kd.int .i64) w A2 l2.length l2) (hc2 : l2.length ≤ c2) (h : tree_Run.f l0 l1 l2 = some (r1, r2)) :
 Calls Try.prog 13 #[.slice A0 l0.length c0, .slice A1 l1.length c1, .slice A2 l2.length c2] w fun e w' => ∃ v, e = .returned (.agg #[v, .int .i64 r2]) ∧ Kd.R k44 44 w' w.heap.size (fun _ => True) v r1 ∧ Below w.heap.size w w' := by
 have HR0 := Aside0.mk hr0
 have HR1 := Aside0.mk hr1
 have HR2 := Aside0.mk hr2
 obtain ⟨wa, hwa⟩ : ∃ wa, wa = w.alloc (.cells #[.slice none 0 0, .int .i64 0] 35 (0, 0)) := ⟨_, rfl⟩
 obtain ⟨gt, hgt⟩ : ∃ k, k = w.heap.size := ⟨_, rfl⟩
 have hta : wa.heap[gt]? = some (.cells #[.slice none 0 0, .int .i64 0] 35 (0, 0)) := by
  rw [hwa, hgt]
  show (w.heap.push _)[w.heap.size]? = _
  exact Array.getElem?_push_size
 have hba : Below w.heap.size w wa := by rw [hwa]; exact below_alloc (Below.refl _ _) _
 have HTA := Aside0.mk hta
 have HBA := Aside0.mk hba
 have HWA := Aside0.mk hwa
 have HGT := Aside0.mk hgt
 have HRA0 := Aside0.mk (Kd.C_below hr0 hba)
 have HRA1 := Aside0.mk (Kd.C_below hr1 hba)
 clear hta hba hwa hgt
 have hlen1 := hr1.2.1
 obtain ⟨rt, hrt⟩ : ∃ b, b = rightB l0 l1 := ⟨_, rfl⟩
 have HRT := Aside0.mk hrt
 unfold tree_Run.f at h
 rw [← hrt] at h
 clear hr0 hr1 hr2 hrt
 cases rt with
 | false =>
  simp only [Bool.false_eq_true, if_false, Option.some.injEq, Prod.mk.injEq] at h
  obtain ⟨rfl, rfl⟩ := h
  go_enter Try.func13, Try.ntmps13
  go_upto_region 1 with (fail)
  change Code.wp _ _ _ _ (w.alloc (.cells #[.slice none 0 0, .int .i64 0] 35 (0, 0)))
  rw [← HWA.out, ← HGT.out]
  go_wp2_with (go_at_call 16; refine (tree_Right.calls A0 c0 l0 A1 c1 l1 false wa HRA0.out hc0 HRA1.out hc1 (by unfold tree_Right.f; rw [← HRT.out])).mono ?_; rintro e w1 ⟨rfl, hB1⟩; have HB1 := Aside0.mk hB1; have HT1 := Aside0.mk (blk_below HTA.out hB1); clear hB1; have ct0 := blk_cell HT1.out 0; have ct1 := blk_cell HT1.out 1; have ft0 := blk_frozen HT1.out 0; have ft1 := blk_frozen HT1.out 1; (simp only [List.getElem?_toArray, List.getElem?_cons_zero, List.getElem?_cons_succ] at ct0 ct1))
  have e1 : ((w1.setCell ⟨gt, 0, none⟩ (.slice none 0 0)).setCell ⟨gt, 1, none⟩ (.int .i64 0)).heap[gt]? = some (.cells #[.slice none 0 0, .int .i64 0] 35 (0, 0)) := blk_set (blk_set HT1.out 0 _) 1 _
  refine bodyPost_ret (results_c1 (by rfl) _ _ gt 35 _ _ _ (by rfl) e1 Try.underlying35 rfl (by kernel_rfl)) rfl ?_
  exact ⟨_, rfl, Kd.R_nil _ _ _ _ _, below_set (below_set (below_then HBA.out HBA.out.size HB1.out) (Nat.le_of_eq HGT.out.symm)) (Nat.le_of_eq HGT.out.symm)⟩
 | true =>
  simp only [if_true, Option.some.injEq] at h
  have hg := (rightB_iff l0 l1).1 HRT.out.symm
  have HG := Aside0.mk hg
  have hn1 := hg.len1
  have hn2 := hg.len2
  have HH := Aside0.mk h
  clear hg h
  go_enter Try.func13, Try.ntmps13
  go_upto_region 1 with (fail)
  change Code.wp _ _ _ _ (w.alloc (.cells #[.slice none 0 0, .int .i64 0] 35 (0, 0)))
  rw [← HWA.out, ← HGT.out]
  go_upto_region 3 with (go_at_call 16; refine (tree_Right.calls A0 c0 l0 A1 c1 l1 true wa HRA0.out hc0 HRA1.out hc1 (by unfold tree_Right.f; rw [← HRT.out])).mono ?_; rintro e w1 ⟨rfl, hB1⟩; have HB1 := Aside0.mk hB1; have HT1 := Aside0.mk (blk_below HTA.out hB1); clear hB1; have ct0 := blk_cell HT1.out 0; have ct1 := blk_cell HT1.out 1; have ft0 := blk_frozen HT1.out 0; have ft1 := blk_frozen HT1.out 1; (simp only [List.getElem?_toArray, List.getElem?_cons_zero, List.getElem?_cons_succ] at ct0 ct1))
  obtain ⟨zs, hzs⟩ : ∃ zs : Array Value, zs = (rCells (runSt0 l2) (.slice none 0 0) (.slice none 0 0)).toArray := ⟨_, rfl⟩
  have hzn : zs.size = 402 := by rw [hzs, List.size_toArray, rc_len _ _ _ (runSt0_len l2)]
  have hz : ∀ W : World, (zeroValue 60).run Try.prog W = .ok (.agg zs) W := fun W => by rw [hzs]; exact zero_runner l2 W
  have HZ := Aside0.mk hzs
  clear hzs
  go_upto_region 4 with (fail)
  change Code.wp _ _ _ _ (w1.alloc (.cells (zs.setIfInBounds 400 (.slice A2 l2.length c2)) 60 (0, 0)))
  obtain ⟨gr, hgr⟩ : ∃ k, k = w1.heap.size := ⟨_, rfl⟩
  obtain ⟨w2, hw2⟩ : ∃ w2, w2 = w1.alloc (.cells (zs.setIfInBounds 400 (.slice A2 l2.length c2)) 60 (0, 0)) := ⟨_, rfl⟩
  have hb1 : Below w.heap.size w w1 := below_then HBA.out HBA.out.size HB1.out
  have hb2 : Below w.heap.size w w2 := by rw [hw2]; exact below_alloc hb1 _
  have hg2 : w2.heap[gr]? = some (.cells (zs.setIfInBounds 400 (.slice A2 l2.length c2)) 60 (0, 0)) := by rw [hw2, hgr]; exact blk_new _ _
  have hr : RunAt w w2 gr (runSt0 l2) (.slice A2 l2.length c2) (.slice none 0 0) := by
   refine ⟨runSt0_len l2, ?_, ⟨A2, c2, rfl, hc2, HR2.out⟩, Kd.R_nil _ _ _ _ _, hb2, by rw [hgr]; exact hb1.size⟩
   rw [hg2, HZ.out, List.setIfInBounds_toArray, rc_set_ans _ _ _ _ (runSt0_len l2)]
  have hT2 : w2.heap[gt]? = some (.cells #[.slice none 0 0, .int .i64 0] 35 (0, 0)) := by rw [hw2]; exact blk_alloc HT1.out _
  have HT2 := Aside0.mk hT2
  have HR := Aside0.mk hr
  rw [← hw2, ← hgr]
  have hnl : Aside0 (∀ (i : Nat) (s s' : RunSt), i < l0.length → stepP (rd_T39 l0 i) s = .next s' → i + 1 < l0.length) := ⟨fun i s s' hi hst => by
   have h18 := (step_next (op_of_piece (HG.out.piece i hi)) hst).2
   by_cases e : i + 1 = l0.length
   ·
    exact absurd (by rw [show (i : Int) = (l0.length : Int) - 1 from by omega]; exact HG.out.last) h18
   ·
    omega⟩
  clear hw2 hb1 hb2 hg2 hr hT2 hz hzn HZ hgr HT1 HB1 HTA HWA HBA HRA0 HRA1 ct0 ct1 ft0 ft1
  go_wp2
  go_loopg [8] l0.length (fun kq v8 wr => ∃ (i : Nat) (s : RunSt) (av kv : Value), v8 = .int .i64 i ∧ i < l0.length ∧ l0.length ≤ kq + i ∧ s.acts.length ≤ i ∧ Aside0 (RunAt w wr gr s av kv) ∧ Aside0 (runC l0 kq i s = (r1, r2)) ∧ Aside0 (wr.heap[gt]? = some (.cells #[.slice none 0 0, .int .i64 0] 35 (0, 0))))
  case atStart => exact ⟨0, _, _, _, rfl, by omega, by omega, Nat.zero_le _, HR, HH, HT2⟩
  case round =>
   clear HR HT2 HH
   obtain ⟨i, s, av, kv, rfl, hi, hki, hac, HR, HH, HT⟩ := hrel
   obtain ⟨ad_, hae, hx0, hx1, hx2, hx3, hx4, hx5, hx6, hx7⟩ := at_T39 (Kd.C_below HR0.out HR.out.bel) (i : Int) (by omega) (by omega)
   subst hae
   rw [Int.toNat_natCast] at hx0 hx1 hx2 hx3 hx4 hx5 hx6 hx7
   obtain ⟨x, hxe⟩ : ∃ x, x = rd_T39 l0 i := ⟨_, rfl⟩
   rw [← hxe] at hx0 hx1 hx2 hx3 hx4 hx5 hx6 hx7
   have HP : Aside0 (pieceA l1 x = true) := ⟨by rw [hxe]; exact HG.out.piece i hi⟩
   have HD := Aside0.mk (do_c w wr gr s av kv HR.out (by omega) i (by omega) x (doable_of_piece hlen1 HP.out))
   unfold xCells at HD
   obtain ⟨k, hk⟩ : ∃ k, gk = k + 1 := ⟨gk - 1, by omega⟩
   have HH' := HH.out
   rw [hk] at HH'
   simp only [runC] at HH'
   rw [← hxe] at HH'
   have HXE := Aside0.mk hxe
   have HKK := Aside0.mk hk
   obtain ⟨r, hr⟩ : ∃ r, r = stepP x s := ⟨_, rfl⟩
   have HST := Aside0.mk hr.symm
   rw [← hr] at HD HH'
   have HI : Aside0 (i < l0.length) := ⟨hi⟩
   clear hr hxe HH hk
   cases r with
   | done ac st =>
    obtain ⟨rfl, rfl⟩ : ac = r1 ∧ st = r2 := by simpa using HH'
    have b0 : (st != 0) = true := bne_iff_ne.2 (step_status (op_of_piece HP.out) HST.out)
    clear HH'
    go_wp2_with (go_at_call 25; refine HD.out.mono ?_; rintro e w3 ⟨rfl, ⟨s', av', kv', hs', hr3⟩, hk3⟩; obtain ⟨A3, c3, hkv⟩ := Kd.R_slice hr3.acts; subst hkv; have HS3 := Aside0.mk hs'; have HR3 := Aside0.mk hr3; have HT3 := Aside0.mk (hk3.kept gt _ _ (by decide) (by decide) HT.out); clear hs' hr3 hk3; have cK := HR3.out.cK; have ct0 := blk_cell HT3.out 0; have ct1 := blk_cell HT3.out 1; have ft0 := blk_frozen HT3.out 0; have ft1 := blk_frozen HT3.out 1; (simp only [List.getElem?_toArray, List.getElem?_cons_zero, List.getElem?_cons_succ] at ct0 ct1))
    have e1 : ((w3.setCell ⟨gt, 0, none⟩ (.slice A3 s'.acts.length c3)).setCell ⟨gt, 1, none⟩ (.int .i64 st)).heap[gt]? = some (.cells #[.slice A3 s'.acts.length c3, .int .i64 st] 35 (0, 0)) := blk_set (blk_set HT3.out 0 _) 1 _
    refine bodyPost_ret (results_c1 (by rfl) _ _ gt 35 _ _ _ (by rfl) e1 Try.underlying35 rfl (by kernel_rfl)) rfl ?_
    refine ⟨_, rfl, ?_, below_set (below_set HR3.out.bel (Nat.le_of_eq HGT.out.symm)) (Nat.le_of_eq HGT.out.symm)⟩
    rw [← HS3.out]
    exact Kd.R_mono (Kd.R_far (p := ⟨gt, 1, none⟩) (Kd.R_far (p := ⟨gt, 0, none⟩) (acts_far HR3.out.acts HT3.out) (fun _ hk => hk) _) (fun _ hk => hk) _) (fun _ _ => trivial)
   | next s2 =>
    have hn := hnl.out i s s2 hi (by rw [← HXE.out]; exact HST.out)
    have hac2 := step_kept (op_of_piece HP.out) (.inl HST.out)
    have HHN := Aside0.mk HH'
    clear HH'
    go_wp2_with (go_at_call 25; refine HD.out.mono ?_; rintro e w3 ⟨rfl, ⟨av', kv', hr3⟩, hk3⟩; have HR3 := Aside0.mk hr3; have HT3 := Aside0.mk (hk3.kept gt _ _ (by decide) (by decide) HT.out); clear hr3 hk3)
    go_roundg (gk - 1)
    case rel => exact ⟨i + 1, s2, av', kv', rfl, hn, by omega, by omega, HR3, ⟨by have := HHN.out; rw [show gk - 1 = k from by have := HKK.out; omega]; exact this⟩, HT3⟩
    case measure => omega
   | jump s2 =>
    obtain ⟨_, hto, _⟩ := step_jump (op_of_piece HP.out) HST.out
    obtain ⟨t0, t1⟩ := to_lt HG.out hi (by rw [← HXE.out]; exact hto)
    rw [← HXE.out] at t0 t1
    have hac2 := step_kept (op_of_piece HP.out) (.inr HST.out)
    have HHN := Aside0.mk HH'
    clear HH'
    have HTO := Aside0.mk (And.intro t0 t1)
    clear hto t0 t1
    go_wp2_with (go_at_call 25; refine HD.out.mono ?_; rintro e w3 ⟨rfl, ⟨av', kv', hr3⟩, hk3⟩; have HR3 := Aside0.mk hr3; have HT3 := Aside0.mk (hk3.kept gt _ _ (by decide) (by decide) HT.out); clear hr3 hk3)
    go_roundg (gk - 1)
    case rel =>
     obtain ⟨t0, t1⟩ := HTO.out
     have hj : ((x.f7.toNat : Nat) : Int) = x.f7 := by omega
     exact ⟨x.f7.toNat, s2, av', kv', by rw [hj], by omega, by omega, by omega, HR3, ⟨by have := HHN.out; rw [show gk - 1 = k from by have := HKK.out; omega, hj]; exact this⟩, HT3⟩
    case measure => omega
end Go.Proofs.Ytaoefdbhfhcplaa.Q
