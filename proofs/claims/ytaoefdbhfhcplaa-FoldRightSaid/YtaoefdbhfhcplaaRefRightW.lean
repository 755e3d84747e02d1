/- The contract of the reference's Right, walked: it answers what tree.Right asks. -/
import Derived.Test.YtaoefdbhfhcplaaRefPlainIs
import Derived.Test.YtaoefdbhfhcplaaRefPlain
namespace Go.Proofs.Ytaoefdbhfhcplaa.Q
open Go.RowKit Go.Proofs.YtaoefdbhfhcplaaW.PrintWords Go.Proofs.YtaoefdbhfhcplaaW.PrintLast Go.Proofs.YtaoefdbhfhcplaaW.PrintMore Go.Proofs.Ytaoefdbhfhcplaa.IM
set_option linter.unusedVariables false
set_option linter.unusedSimpArgs false

theorem clF_fuel {code : List S39} {i : Nat} : ∀ {N : Nat} (hw : ∀ u : Nat, 0 < u → u ≤ N → (beforeL code u).length = 1) (k m : Nat) (a b : Bool) (x : Nat), x ≤ k → x ≤ m → x ≤ N → clF code i k a b x = clF code i m a b x := by
  intro N hw k
  induction k with
  | zero =>
    intro m a b x hk hm hN
    have : x = 0 := by omega
    subst this
    cases m with
    | zero => rfl
    | succ m => simp [clF]
  | succ k ih =>
    intro m a b x hk hm hN
    by_cases h0 : x = 0
    · subst h0
      cases m with
      | zero => simp [clF]
      | succ m => simp [clF]
    · obtain ⟨m, rfl⟩ : ∃ q, m = q + 1 := ⟨m - 1, by omega⟩
      have hp := (prd_of (hw x (by omega) hN)).2.1
      simp only [clF]
      rw [if_neg h0, if_neg h0]
      split
      · exact ih m _ _ _ (by omega) (by omega) (by omega)
      · exact ih m _ _ _ (by omega) (by omega) (by omega)
theorem hasD_c (op : Int) (w : World) : Calls Try.prog 22 #[.int .i64 op, .int .u8 100] w fun e w' => e = .returned (.bool (hasD op)) ∧ Drawn0 w w' :=
  selvageref10_Has.calls 12 op 100 _ w (has_d op)
theorem hasA_c (op : Int) (w : World) : Calls Try.prog 22 #[.int .i64 op, .int .u8 97] w fun e w' => e = .returned (.bool (hasA op)) ∧ Drawn0 w w' :=
  selvageref10_Has.calls 12 op 97 _ w (has_a op)
theorem hasB_c (op : Int) (w : World) : Calls Try.prog 22 #[.int .i64 op, .int .u8 98] w fun e w' => e = .returned (.bool (hasB op)) ∧ Drawn0 w w' :=
  selvageref10_Has.calls 12 op 98 _ w (has_b op)
theorem plain_c (x : S39) (i n : Nat) (A : Option Addr) (c : Nat) (l : List S80) (w : World) (hr : Kd.C k80 w A l.length l) (hc : l.length ≤ c) (hl : l.length ≤ 16) (hi : i ≤ 100000) (hn : 1 ≤ n ∧ n ≤ 100000) :
    Calls Try.prog 21 #[.agg #[.int .i64 x.f0, .int .i64 x.f1, .int .i64 x.f2, .int .i64 x.f3, .int .i64 x.f4, .int .i64 x.f5, .int .i64 x.f6, .int .i64 x.f7], .int .i64 i, .int .i64 n, .slice A l.length c] w fun e w' => e = .returned (.bool (plainB l n i x)) ∧ Below w.heap.size w w' :=
  selvageref10_plain.calls _ _ _ _ _ _ _ _ _ _ A c l _ w hr hc (plain_is l hl x i n hi hn)
theorem before_c (A : Option Addr) (c : Nat) (code : List S39) (i : Nat) (w : World) (hr : Kd.C k39 w A code.length code) (hc : code.length ≤ c) (hi : i ≤ 400) (hn : code.length ≤ 400) :
    Calls Try.prog 23 #[.slice A code.length c, .int .i64 i] w fun e w' => ∃ v : Value, e = .returned v ∧ Kd.R (Kd.int .i64) 3 w' w.heap.size (fun _ => True) v (beforeL code i) ∧ Below w.heap.size w w' := by
  obtain ⟨K, h⟩ := before_is code i hi hn
  exact selvageref10_Before.calls K A c code i _ w hr hc h

set_option maxRecDepth 100000 in
set_option maxHeartbeats 8000000 in
theorem refRight_w (A0 : Option Addr) (c0 : Nat) (code : List S39) (A1 : Option Addr) (c1 : Nat) (l : List S80) (w : World) (hr0 : Kd.C k39 w A0 code.length code) (hc0 : code.length ≤ c0) (hr1 : Kd.C k80 w A1 l.length l) (hc1 : l.length ≤ c1) (hl : l.length ≤ 16)
    (e1 : 1 ≤ code.length) (e2 : code.length ≤ 400) (c3 : (rd_T39 code ((code.length : Int) - 1)).f0 = 18) :
    Calls Try.prog 10 #[.slice A0 code.length c0, .slice A1 l.length c1] w fun e w' => e = .returned (.bool (upTo (q1 code l) code.length && upTo (q2 code) code.length)) ∧ Below w.heap.size w w' := by
  have HR0 := Aside0.mk hr0
  have HR1 := Aside0.mk hr1
  clear hr0 hr1
  obtain ⟨adl, hadl, hl0, -⟩ := at_T39 HR0.out ((code.length : Int) - 1) (by omega) (by omega)
  subst hadl
  rw [show ((code.length : Int) - 1).toNat = code.length - 1 from by omega] at hl0
  have d1 : decide ((code.length : Int) < 1) = false := by simp; omega
  have d2 : decide (400 < (code.length : Int)) = false := by simp; omega
  have c3b : ((rd_T39 code ((code.length : Int) - 1)).f0 != 18) = false := bne_eq_false_iff_eq.mpr c3
  clear c3
  go_enter Try.func10, Try.ntmps10
  go_wp2_with (fail)
  clear hl0 d1 d2 c3b
  go_loopw [5] (fun v wr => ∃ i : Nat, v = .int .i64 i ∧ i ≤ code.length ∧ Aside0 (upTo (q1 code l) i = true) ∧ Aside0 (Below w.heap.size w wr)) (fun v _ => code.length - (intOf v).toNat)
  case atStart => exact ⟨0, rfl, Nat.zero_le _, ⟨rfl⟩, ⟨Below.refl _ _⟩⟩
  case round =>
    obtain ⟨i, rfl, hi, HU, HB⟩ := hrel
    by_cases hlt : i < code.length
    · have hC := Kd.C_below HR0.out HB.out
      obtain ⟨ad_, hae, hx0, hx1, hx2, hx3, hx4, hx5, hx6, hx7⟩ := at_T39 hC (i : Int) (by omega) (by omega)
      injection hae with hae
      subst hae
      rw [Int.toNat_natCast] at hx0 hx1 hx2 hx3 hx4 hx5 hx6 hx7
      obtain ⟨x, hxe⟩ : ∃ x, x = rd_T39 code i := ⟨_, rfl⟩
      rw [← hxe] at hx0 hx1 hx2 hx3 hx4 hx5 hx6 hx7
      have HXE := Aside0.mk hxe
      clear hxe hC
      cases hp : plainB l code.length i x with
      | false =>
        have HF : Aside0 (q1 code l i = false) := ⟨by unfold q1; rw [← HXE.out, hp]; rfl⟩
        have HP := Aside0.mk hp
        clear hp
        go_wp2_with (go_at_call 21; refine (plain_c x i code.length A1 c1 l _ (Kd.C_below HR1.out HB.out) hc1 hl (by omega) (by omega)).mono ?_; rintro e W1 ⟨rfl, hB1⟩; rw [HP.out]; have HB1 := Aside0.mk hB1; clear hB1)
        go_ret
        exact ⟨by rw [upTo_false hlt HF.out]; rfl, below_then HB.out HB.out.size HB1.out⟩
      | true =>
        have HP := Aside0.mk hp
        clear hp
        go_wp2_with (go_at_call 21; refine (plain_c x i code.length A1 c1 l _ (Kd.C_below HR1.out HB.out) hc1 hl (by omega) (by omega)).mono ?_; rintro e W1 ⟨rfl, hB1⟩; rw [HP.out]; have HB1 := Aside0.mk hB1; clear hB1)
        clear hx0 hx1 hx2 hx3 hx4 hx5 hx6 hx7
        have HB2 : Aside0 (Below w.heap.size w W1) := ⟨below_then HB.out HB.out.size HB1.out⟩
        clear HB HB1
        obtain ⟨wo, rfl⟩ : ∃ wo : World, wo = W1 := ⟨_, rfl⟩
        go_loopw [6] (fun v wr => ∃ y : Nat, v = .int .i64 y ∧ y ≤ i ∧ Aside0 (upTo (uB code i) y = true) ∧ Aside0 (Below w.heap.size w wr)) (fun v _ => i - (intOf v).toNat)
        case atStart => exact ⟨0, rfl, Nat.zero_le _, ⟨rfl⟩, HB2⟩
        case round =>
          clear HB2
          obtain ⟨y, rfl, hy, HUY, HB⟩ := hrel
          by_cases hyl : y < i
          · have hC := Kd.C_below HR0.out HB.out
            obtain ⟨ad_, hae, hx0, hx1, -⟩ := at_T39 hC (i : Int) (by omega) (by omega)
            injection hae with hae
            subst hae
            obtain ⟨ad_, hae, hy0, hy1, -⟩ := at_T39 hC (y : Int) (by omega) (by omega)
            injection hae with hae
            subst hae
            rw [Int.toNat_natCast] at hx0 hx1 hy0 hy1
            rw [← HXE.out] at hx0 hx1
            obtain ⟨z, hze⟩ : ∃ z, z = rd_T39 code y := ⟨_, rfl⟩
            rw [← hze] at hy0 hy1
            have HZE := Aside0.mk hze
            clear hze hC
            obtain ⟨dx, hdx⟩ : ∃ d, d = hasD x.f0 := ⟨_, rfl⟩
            obtain ⟨dz, hdz⟩ : ∃ d, d = hasD z.f0 := ⟨_, rfl⟩
            have HDX := Aside0.mk hdx
            have HDZ := Aside0.mk hdz
            clear hdx hdz
            have HCX : Aside0 (∀ W : World, Calls Try.prog 22 #[.int .i64 x.f0, .int .u8 100] W fun e w' => e = .returned (.bool dx) ∧ Drawn0 W w') := ⟨fun W => by rw [HDX.out]; exact hasD_c x.f0 W⟩
            have HCZ : Aside0 (∀ W : World, Calls Try.prog 22 #[.int .i64 z.f0, .int .u8 100] W fun e w' => e = .returned (.bool dz) ∧ Drawn0 W w') := ⟨fun W => by rw [HDZ.out]; exact hasD_c z.f0 W⟩
            have HNX : Aside0 (uB code i y = true → upTo (uB code i) (y + 1) = true) := ⟨fun h => by simp only [upTo]; rw [HUY.out, h]; rfl⟩
            have HUB : Aside0 (uB code i y = !(dx && dz && x.f1 == z.f1)) := ⟨by unfold uB; rw [HDX.out, HDZ.out, HXE.out, HZE.out]⟩
            cases dx with
            | false =>
              have HN : Aside0 (Aside0 (upTo (uB code i) (y + 1) = true)) := ⟨⟨HNX.out (by rw [HUB.out]; rfl)⟩⟩
              go_upto_region 11 with (fail)
              go_quiet (first | (go_at_call_of 22 (Value.int .i64 x.f0); refine (HCX.out _).mono ?_; rintro e w' ⟨rfl, ⟨⟨nd, rfl⟩⟩⟩; (try first | exact ⟨rfl, _, World.drewN_drewN _ _ _⟩ | exact ⟨rfl, _, Eq.trans (World.drewN_drewN _ _ _) (congrArg (World.drewN _) (Nat.add_assoc _ _ _))⟩ | exact ⟨rfl, _, rfl⟩)) | (go_at_call_of 22 (Value.int .i64 z.f0); refine (HCZ.out _).mono ?_; rintro e w' ⟨rfl, ⟨⟨nd, rfl⟩⟩⟩; (try first | exact ⟨rfl, _, World.drewN_drewN _ _ _⟩ | exact ⟨rfl, _, Eq.trans (World.drewN_drewN _ _ _) (congrArg (World.drewN _) (Nat.add_assoc _ _ _))⟩ | exact ⟨rfl, _, rfl⟩)))
              go_wp2_with (fail)
              go_roundw
              case rel => exact ⟨y + 1, by go_num, by omega, HN.out, ⟨by repeat (first | exact HB.out | apply below_drew1 | apply pw_below_drewN)⟩⟩
              case measure => simp [intOf]; omega
            | true =>
              cases dz with
              | false =>
                have HN : Aside0 (Aside0 (upTo (uB code i) (y + 1) = true)) := ⟨⟨HNX.out (by rw [HUB.out]; rfl)⟩⟩
                go_upto_region 11 with (fail)
                go_quiet (first | (go_at_call_of 22 (Value.int .i64 x.f0); refine (HCX.out _).mono ?_; rintro e w' ⟨rfl, ⟨⟨nd, rfl⟩⟩⟩; (try first | exact ⟨rfl, _, World.drewN_drewN _ _ _⟩ | exact ⟨rfl, _, Eq.trans (World.drewN_drewN _ _ _) (congrArg (World.drewN _) (Nat.add_assoc _ _ _))⟩ | exact ⟨rfl, _, rfl⟩)) | (go_at_call_of 22 (Value.int .i64 z.f0); refine (HCZ.out _).mono ?_; rintro e w' ⟨rfl, ⟨⟨nd, rfl⟩⟩⟩; (try first | exact ⟨rfl, _, World.drewN_drewN _ _ _⟩ | exact ⟨rfl, _, Eq.trans (World.drewN_drewN _ _ _) (congrArg (World.drewN _) (Nat.add_assoc _ _ _))⟩ | exact ⟨rfl, _, rfl⟩)))
                go_wp2_with (fail)
                go_roundw
                case rel => exact ⟨y + 1, by go_num, by omega, HN.out, ⟨by repeat (first | exact HB.out | apply below_drew1 | apply pw_below_drewN)⟩⟩
                case measure => simp [intOf]; omega
              | true =>
                by_cases hdd : x.f1 = z.f1
                · have bdd : (x.f1 == z.f1) = true := beq_iff_eq.2 hdd
                  have HF : Aside0 (q1 code l i = false) := ⟨by
                    have h0 : uB code i y = false := by rw [HUB.out, bdd]; rfl
                    have h1 : upTo (uB code i) i = false := upTo_false hyl h0
                    unfold q1; rw [h1, Bool.and_false]⟩
                  clear hdd
                  go_upto_region 11 with (fail)
                  go_quiet (first | (go_at_call_of 22 (Value.int .i64 x.f0); refine (HCX.out _).mono ?_; rintro e w' ⟨rfl, ⟨⟨nd, rfl⟩⟩⟩; (try first | exact ⟨rfl, _, World.drewN_drewN _ _ _⟩ | exact ⟨rfl, _, Eq.trans (World.drewN_drewN _ _ _) (congrArg (World.drewN _) (Nat.add_assoc _ _ _))⟩ | exact ⟨rfl, _, rfl⟩)) | (go_at_call_of 22 (Value.int .i64 z.f0); refine (HCZ.out _).mono ?_; rintro e w' ⟨rfl, ⟨⟨nd, rfl⟩⟩⟩; (try first | exact ⟨rfl, _, World.drewN_drewN _ _ _⟩ | exact ⟨rfl, _, Eq.trans (World.drewN_drewN _ _ _) (congrArg (World.drewN _) (Nat.add_assoc _ _ _))⟩ | exact ⟨rfl, _, rfl⟩)))
                  go_wp2_with (fail)
                  go_ret
                  exact ⟨by rw [upTo_false hlt HF.out]; rfl, by repeat (first | exact HB.out | apply below_drew1 | apply pw_below_drewN)⟩
                · have bdd : (x.f1 == z.f1) = false := beq_eq_false_iff_ne.2 hdd
                  have HN : Aside0 (Aside0 (upTo (uB code i) (y + 1) = true)) := ⟨⟨HNX.out (by rw [HUB.out, bdd]; rfl)⟩⟩
                  clear hdd
                  go_upto_region 11 with (fail)
                  go_quiet (first | (go_at_call_of 22 (Value.int .i64 x.f0); refine (HCX.out _).mono ?_; rintro e w' ⟨rfl, ⟨⟨nd, rfl⟩⟩⟩; (try first | exact ⟨rfl, _, World.drewN_drewN _ _ _⟩ | exact ⟨rfl, _, Eq.trans (World.drewN_drewN _ _ _) (congrArg (World.drewN _) (Nat.add_assoc _ _ _))⟩ | exact ⟨rfl, _, rfl⟩)) | (go_at_call_of 22 (Value.int .i64 z.f0); refine (HCZ.out _).mono ?_; rintro e w' ⟨rfl, ⟨⟨nd, rfl⟩⟩⟩; (try first | exact ⟨rfl, _, World.drewN_drewN _ _ _⟩ | exact ⟨rfl, _, Eq.trans (World.drewN_drewN _ _ _) (congrArg (World.drewN _) (Nat.add_assoc _ _ _))⟩ | exact ⟨rfl, _, rfl⟩)))
                  go_wp2_with (fail)
                  go_roundw
                  case rel => exact ⟨y + 1, by go_num, by omega, HN.out, ⟨by repeat (first | exact HB.out | apply below_drew1 | apply pw_below_drewN)⟩⟩
                  case measure => simp [intOf]; omega
          · have hyi : y = i := by omega
            subst hyi
            have HN : Aside0 (Aside0 (upTo (q1 code l) (y + 1) = true)) := ⟨⟨by simp only [upTo]; rw [HU.out]; unfold q1; rw [← HXE.out, HP.out, HUY.out]; rfl⟩⟩
            go_wp2_with (fail)
            go_roundw
            case rel => exact ⟨y + 1, by go_num, by omega, HN.out, HB⟩
            case measure => simp [intOf]; omega
    · have hin : i = code.length := by omega
      subst hin
      have HU1 := HU
      clear HU
      go_wp2_with (fail)
      obtain ⟨wo, rfl⟩ : ∃ wo : World, wo = wr := ⟨_, rfl⟩
      go_loopw [7] (fun v wr => ∃ i : Nat, v = .int .i64 i ∧ i ≤ code.length ∧ Aside0 (upTo (q2 code) i = true) ∧ Aside0 (Below w.heap.size w wr)) (fun v _ => code.length - (intOf v).toNat)
      case atStart => exact ⟨0, rfl, Nat.zero_le _, ⟨rfl⟩, HB⟩
      case round =>
        clear HB
        obtain ⟨i, rfl, hi, HU, HB⟩ := hrel
        by_cases hlt : i < code.length
        · have hC := Kd.C_below HR0.out HB.out
          obtain ⟨ad_, hae, hx0, hx1, hx2, hx3, -⟩ := at_T39 hC (i : Int) (by omega) (by omega)
          injection hae with hae
          subst hae
          rw [Int.toNat_natCast] at hx0 hx1 hx2 hx3
          obtain ⟨x, hxe⟩ : ∃ x, x = rd_T39 code i := ⟨_, rfl⟩
          rw [← hxe] at hx0 hx1 hx2 hx3
          have HXE := Aside0.mk hxe
          clear hxe hC hx1 hx2 hx3
          have HLEN : Aside0 (∀ j : Nat, 0 < j → j < i → (beforeL code j).length = 1) := ⟨fun j h0 hj => by
            have := (upTo_iff _ _).1 HU.out j hj
            simp only [q2, okWay, Bool.and_eq_true, Bool.or_eq_true, beq_iff_eq] at this
            rcases this.1 with h | h
            · omega
            · exact h⟩
          obtain ⟨a0, ha0⟩ : ∃ d, d = hasA x.f0 := ⟨_, rfl⟩
          obtain ⟨b0, hb0⟩ : ∃ d, d = hasB x.f0 := ⟨_, rfl⟩
          have HA0 := Aside0.mk ha0
          have HB0 := Aside0.mk hb0
          clear ha0 hb0
          have HCA : Aside0 (∀ W : World, Calls Try.prog 22 #[.int .i64 x.f0, .int .u8 97] W fun e w' => e = .returned (.bool a0) ∧ Drawn0 W w') := ⟨fun W => by rw [HA0.out]; exact hasA_c x.f0 W⟩
          have HCB : Aside0 (∀ W : World, Calls Try.prog 22 #[.int .i64 x.f0, .int .u8 98] W fun e w' => e = .returned (.bool b0) ∧ Drawn0 W w') := ⟨fun W => by rw [HB0.out]; exact hasB_c x.f0 W⟩
          obtain ⟨nb, hnb⟩ : ∃ n, n = (beforeL code i).length := ⟨_, rfl⟩
          have HNB := Aside0.mk hnb
          clear hnb
          by_cases hway : i = 0 ∨ nb = 1
          · have HW : Aside0 (okWay code i = true) := ⟨by unfold okWay; rw [← HNB.out]; simpa using hway⟩
            go_upto_region 16 with (fail)
            go_cut [91] (fun v91 wc => v91 = .bool false ∧ Aside0 (Below w.heap.size w wc))
            case first =>
              clear hx0
              by_cases h0 : i = 0
              · have hd : decide ((0 : Int) < (i : Int)) = false := by simp; omega
                have hd2 : decide (0 < i) = false := by simp; omega
                have hd3 : ¬ 0 < i := by omega
                clear h0 hway
                go_wp2
                go_meet
                case rel => exact ⟨rfl, HB⟩
              · have hnb1 : nb = 1 := by omega
                have hd : decide ((0 : Int) < (i : Int)) = true := by simp; omega
                have hd3 : 0 < i := by omega
                clear h0 hway
                go_wp2_with (go_at_call 23; refine (before_c (some adl) c0 code i _ (Kd.C_below HR0.out HB.out) hc0 (by omega) e2).mono ?_; rintro e W1 ⟨v, rfl, hR, hB1⟩; have HB1 := Aside0.mk hB1; obtain ⟨Av, cv, rfl, hcv, hCv⟩ := Kd.R_reads hR; rw [← HNB.out, hnb1]; clear hB1 hR hCv hcv)
                go_meet
                case rel => exact ⟨rfl, ⟨below_then HB.out HB.out.size HB1.out⟩⟩
            case rest =>
              clear HB hx0
              obtain ⟨rfl, HB⟩ := hcut
              have HLEN2 : Aside0 (∀ j : Nat, 0 < j → j ≤ i → (beforeL code j).length = 1) := ⟨fun j h0 hj => by
                by_cases e : j = i
                · subst e; rw [← HNB.out]; omega
                · exact HLEN.out j h0 (by omega)⟩
              clear hway
              have hC := Kd.C_below HR0.out HB.out
              obtain ⟨ad_, hae, hx0, hx1, hx2, hx3, -⟩ := at_T39 hC (i : Int) (by omega) (by omega)
              injection hae with hae
              subst hae
              rw [Int.toNat_natCast] at hx0 hx1 hx2 hx3
              rw [← HXE.out] at hx0 hx1 hx2 hx3
              clear hC hx1 hx2 hx3
              go_upto_region 18 with (fail)
              go_quiet (first | (go_at_call_of 22 (Value.int .u8 97); refine (HCA.out _).mono ?_; rintro e w' ⟨rfl, ⟨⟨nd, rfl⟩⟩⟩; (try first | exact ⟨rfl, _, World.drewN_drewN _ _ _⟩ | exact ⟨rfl, _, Eq.trans (World.drewN_drewN _ _ _) (congrArg (World.drewN _) (Nat.add_assoc _ _ _))⟩ | exact ⟨rfl, _, rfl⟩)) | (go_at_call_of 22 (Value.int .u8 98); refine (HCB.out _).mono ?_; rintro e w' ⟨rfl, ⟨⟨nd, rfl⟩⟩⟩; (try first | exact ⟨rfl, _, World.drewN_drewN _ _ _⟩ | exact ⟨rfl, _, Eq.trans (World.drewN_drewN _ _ _) (congrArg (World.drewN _) (Nat.add_assoc _ _ _))⟩ | exact ⟨rfl, _, rfl⟩)))
              go_wp2_with (fail)
              clear hx0
              obtain ⟨na, hna⟩ : ∃ d, d = !a0 := ⟨_, rfl⟩
              obtain ⟨nb_, hnb_⟩ : ∃ d, d = !b0 := ⟨_, rfl⟩
              rw [← hna, ← hnb_]
              have HNA := Aside0.mk hna
              have HNB_ := Aside0.mk hnb_
              clear hna hnb_
              have HUSE : Aside0 (okUse code i = ((clF code i i na nb_ i).1 && (clF code i i na nb_ i).2)) := ⟨by unfold okUse; rw [← HXE.out, ← HA0.out, ← HB0.out, HNA.out, HNB_.out]⟩
              have HB3 : Aside0 (Below w.heap.size w wc) := HB
              clear HB
              obtain ⟨wp, hwp⟩ : ∃ wp : World, wp = wc := ⟨_, rfl⟩
              go_loopw [8, 9, 10] (fun v8 v9 v10 wr => ∃ (a b : Bool) (x : Nat), v8 = .bool a ∧ v9 = .bool b ∧ v10 = .int .i64 x ∧ x ≤ i ∧ Aside0 (clF code i x a b x = clF code i i na nb_ i) ∧ Aside0 (Below w.heap.size w wr)) (fun _ _ v _ => (intOf v).toNat)
              case atStart => exact ⟨na, nb_, i, rfl, rfl, rfl, Nat.le_refl _, ⟨rfl⟩, ⟨by repeat (first | exact HB3.out | apply below_drew1 | apply pw_below_drewN)⟩⟩
              case round =>
                clear HB3 hwp
                obtain ⟨a, b, y, rfl, rfl, rfl, hy, HCF, HB⟩ := hrel
                by_cases h0 : 0 < y
                · have hd : decide ((0 : Int) < (y : Int)) = true := by simp; omega
                  have HL1 : Aside0 ((beforeL code y).length = 1) := ⟨HLEN2.out y h0 hy⟩
                  have HPR := Aside0.mk (prd_of HL1.out)
                  obtain ⟨q, hq⟩ : ∃ q, q = prd code y := ⟨_, rfl⟩
                  rw [← hq] at HPR
                  have hq1 : q < y := HPR.out.2.1
                  have hq2 : q < code.length := HPR.out.2.2.1
                  have hC := Kd.C_below HR0.out HB.out
                  obtain ⟨z, hze⟩ : ∃ z, z = rd_T39 code q := ⟨_, rfl⟩
                  have HST : Aside0 (clF code i i na nb_ i = if hasD z.f0 then clF code i (y - 1) (a || z.f1 == x.f2) (b || z.f1 == x.f3) q else clF code i (y - 1) a b q) := ⟨by
                    rw [← HCF.out]
                    obtain ⟨y', rfl⟩ : ∃ y', y = y' + 1 := ⟨y - 1, by omega⟩
                    simp only [clF]
                    rw [if_neg (by omega), ← hq, ← hze, ← HXE.out]; rfl⟩
                  have HZE := Aside0.mk hze
                  clear hze hq hC HCF
                  obtain ⟨dz, hdz⟩ : ∃ d, d = hasD z.f0 := ⟨_, rfl⟩
                  have HDZ := Aside0.mk hdz
                  clear hdz
                  have HCZ : Aside0 (∀ W : World, Calls Try.prog 22 #[.int .i64 z.f0, .int .u8 100] W fun e w' => e = .returned (.bool dz) ∧ Drawn0 W w') := ⟨fun W => by rw [HDZ.out]; exact hasD_c z.f0 W⟩
                  go_upto_region 22 with (go_at_call 23; refine (before_c (some adl) c0 code y _ (Kd.C_below HR0.out HB.out) hc0 (by omega) e2).mono ?_; rintro e W1 ⟨v, rfl, hR, hB1⟩; have HB1 := Aside0.mk hB1; obtain ⟨Av, cv, rfl, hcv, hCv⟩ := Kd.R_reads hR; rw [HL1.out] at hCv hcv ⊢; obtain ⟨av, hav, hcell⟩ := Kd.at_int hCv 0 (by omega) (by omega); subst hav; rw [HPR.out.1] at hcell; rw [show av.add (0 : Int).toNat = av from by unfold Addr.add; split <;> simp_all] at hcell; clear hB1 hR hCv hcv)
                  have HB2 : Aside0 (Below w.heap.size w W1) := ⟨below_then HB.out HB.out.size HB1.out⟩
                  clear hcell HB HB1
                  have hC := Kd.C_below HR0.out HB2.out
                  obtain ⟨ad_, hae, hz0, hz1, -⟩ := at_T39 hC (q : Int) (by omega) (by omega)
                  injection hae with hae
                  subst hae
                  obtain ⟨ad_, hae, hx0, hx1, hx2, hx3, -⟩ := at_T39 hC (i : Int) (by omega) (by omega)
                  injection hae with hae
                  subst hae
                  rw [Int.toNat_natCast] at hz0 hz1 hx2 hx3
                  rw [← HZE.out] at hz0 hz1
                  rw [← HXE.out] at hx2 hx3
                  clear hC hx0 hx1
                  obtain ⟨ea, hea⟩ : ∃ d, d = (z.f1 == x.f2) := ⟨_, rfl⟩
                  obtain ⟨eb, heb⟩ : ∃ d, d = (z.f1 == x.f3) := ⟨_, rfl⟩
                  rw [← hea, ← heb] at HST
                  have hea' := hea.symm
                  have heb' := heb.symm
                  clear hea heb
                  cases dz with
                  | false =>
                    have HN : Aside0 (clF code i q a b q = clF code i i na nb_ i) := ⟨by
                      rw [HST.out, ← HDZ.out]; simp only [Bool.false_eq_true, if_false]
                      exact clF_fuel (fun u h0 hu => HLEN2.out u h0 (by omega)) q (y - 1) a b q (by omega) (by omega) (by omega)⟩
                    go_wp2_with (go_at_call 22; refine (HCZ.out _).mono ?_; rintro e w' ⟨rfl, ⟨⟨nd, rfl⟩⟩⟩)
                    go_roundw
                    case rel => exact ⟨a, b, q, rfl, rfl, rfl, by omega, HN, ⟨by repeat (first | exact HB2.out | apply below_drew1 | apply pw_below_drewN)⟩⟩
                    case measure => simp [intOf]; omega
                  | true =>
                    have HN : Aside0 (clF code i q (a || ea) (b || eb) q = clF code i i na nb_ i) := ⟨by
                      rw [HST.out, ← HDZ.out]; simp only [if_true]
                      exact clF_fuel (fun u h0 hu => HLEN2.out u h0 (by omega)) q (y - 1) (a || ea) (b || eb) q (by omega) (by omega) (by omega)⟩
                    go_upto_region 23 with (go_at_call 22; refine (HCZ.out _).mono ?_; rintro e w' ⟨rfl, ⟨⟨nd, rfl⟩⟩⟩)
                    clear hz0
                    cases a with
                    | true =>
                      go_quiet (fail)
                      go_upto_region 24 with (fail)
                      cases b with
                      | true =>
                        go_quiet (fail)
                        go_wp2_with (fail)
                        go_roundw
                        case rel => exact ⟨_, _, q, by first | rfl | simp, by first | rfl | simp, rfl, by omega, HN, ⟨by repeat (first | exact HB2.out | apply below_drew1 | apply pw_below_drewN)⟩⟩
                        case measure => simp [intOf]; omega
                      | false =>
                        go_quiet (fail)
                        go_wp2_with (fail)
                        go_roundw
                        case rel => exact ⟨_, _, q, by first | rfl | simp, by first | rfl | simp, rfl, by omega, HN, ⟨by repeat (first | exact HB2.out | apply below_drew1 | apply pw_below_drewN)⟩⟩
                        case measure => simp [intOf]; omega
                    | false =>
                      go_quiet (fail)
                      go_upto_region 24 with (fail)
                      cases b with
                      | true =>
                        go_quiet (fail)
                        go_wp2_with (fail)
                        go_roundw
                        case rel => exact ⟨_, _, q, by first | rfl | simp, by first | rfl | simp, rfl, by omega, HN, ⟨by repeat (first | exact HB2.out | apply below_drew1 | apply pw_below_drewN)⟩⟩
                        case measure => simp [intOf]; omega
                      | false =>
                        go_quiet (fail)
                        go_wp2_with (fail)
                        go_roundw
                        case rel => exact ⟨_, _, q, by first | rfl | simp, by first | rfl | simp, rfl, by omega, HN, ⟨by repeat (first | exact HB2.out | apply below_drew1 | apply pw_below_drewN)⟩⟩
                        case measure => simp [intOf]; omega
                · have hd : decide ((0 : Int) < (y : Int)) = false := by simp; omega
                  have hy0 : y = 0 := by omega
                  have HEND : Aside0 (okUse code i = (a && b)) := ⟨by rw [HUSE.out, ← HCF.out, hy0]; rfl⟩
                  subst hy0
                  clear hd HCF h0
                  have HQ : Aside0 (q2 code i = (a && b)) := ⟨by unfold q2; rw [HW.out, HEND.out]; rfl⟩
                  cases a with
                  | false =>
                    have HF : Aside0 (q2 code i = false) := ⟨by rw [HQ.out]; rfl⟩
                    go_wp2_with (fail)
                    go_ret
                    exact ⟨by rw [upTo_false hlt HF.out]; simp, HB.out⟩
                  | true =>
                    cases b with
                    | false =>
                      have HF : Aside0 (q2 code i = false) := ⟨by rw [HQ.out]; rfl⟩
                      go_wp2_with (fail)
                      go_ret
                      exact ⟨by rw [upTo_false hlt HF.out]; simp, HB.out⟩
                    | true =>
                      have HN : Aside0 (Aside0 (upTo (q2 code) (i + 1) = true)) := ⟨⟨by simp only [upTo]; rw [HU.out, HQ.out]; rfl⟩⟩
                      go_wp2_with (fail)
                      go_roundw
                      case rel => exact ⟨i + 1, by go_num, by omega, HN.out, HB⟩
                      case measure => simp [intOf]; omega
          · have HF : Aside0 (q2 code i = false) := ⟨by
              have h0 : okWay code i = false := by unfold okWay; rw [← HNB.out]; simp; omega
              unfold q2; rw [h0]; rfl⟩
            have hd : decide ((0 : Int) < (i : Int)) = true := by simp; omega
            have hd3 : 0 < i := by omega
            have hn1 : ((nb : Int) != 1) = true := bne_iff_ne.2 (by omega)
            have hn2 : (nb != 1) = true := bne_iff_ne.2 (by omega)
            clear hway hx0
            go_wp2_with (go_at_call 23; refine (before_c (some adl) c0 code i _ (Kd.C_below HR0.out HB.out) hc0 (by omega) e2).mono ?_; rintro e W1 ⟨v, rfl, hR, hB1⟩; have HB1 := Aside0.mk hB1; obtain ⟨Av, cv, rfl, hcv, hCv⟩ := Kd.R_reads hR; rw [← HNB.out]; clear hB1 hR hCv hcv)
            go_ret
            exact ⟨by rw [upTo_false hlt HF.out]; simp, below_then HB.out HB.out.size HB1.out⟩
        · have hin : i = code.length := by omega
          subst hin
          go_wp2_with (fail)
          go_ret
          exact ⟨by rw [HU1.out, HU.out]; rfl, HB.out⟩
end Go.Proofs.Ytaoefdbhfhcplaa.Q
