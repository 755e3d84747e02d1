/- The contracts of package weight's Of, Less and Least, and of alloc.weightOf: floats are told by their bits. -/
import Derived.Test.YtgljbgmphelhbaaCode
import Derived.WalkLawsBesides
import Derived.Laws.Externs
namespace Go.Proofs.Ytgljbgmphelhbaa.Q
open Go.RowKit Go.Proofs.YtgljbgmphelhbaaW.PrintWords Go.Proofs.YtgljbgmphelhbaaW.PrintLast Go.Proofs.YtgljbgmphelhbaaW.PrintMore
set_option linter.unusedVariables false
set_option linter.unusedSimpArgs false

def fOrd (a b : Nat) : Option Ordering := FloatKind.f64.format.order a b
def fEq0 (a : Nat) : Bool := fOrd a 0 == some .eq
def fNan (a : Nat) : Bool := fOrd a a != some .eq
def fLt (a b : Nat) : Bool := fOrd a b == some .lt
def fSign (a : Nat) : Bool := decide (wrap64 (a : Int) < 0)
def cmpLess (a b : Nat) : Bool := (fNan a && !fNan b) || fLt a b
def wLess (a b : Nat) : Bool := if fEq0 a && fEq0 b then fSign a && !fSign b else cmpLess a b
/-- b are the bits of u over l (of 0 over 0: of any NaN). -/
def fNum (n : Int) : Nat := FloatKind.f64.nearest n
def WBits (u l : Int) (b : Nat) : Prop :=
  match FloatKind.f64.format.div (fNum u) (fNum l) with
  | some r => b = r
  | none => ∃ t : Nat, b = (t % 2) * 2 ^ 63 + 0x7ff0000000000000 + 1 + (t / 2) % (2 ^ 52 - 1)

theorem float64bits_run (b : Nat) (w : World) : (callFunc 44 #[.float .f64 b]).run Try.prog w = .ok (.value (.int .u64 b)) w :=
  run_callFunc_extern (e := Extern.MathFloatBits.float64bits) Try.func44 (by kernel_rfl) (by kernel_rfl) (by kernel_rfl) (by kernel_rfl) _ w

theorem isNaN_c (a : Nat) (w : World) : Calls Try.prog 48 #[.float .f64 a] w fun e w' => e = .returned (.bool (fNan a)) ∧ w = w' := by
  go_enter Try.func48, Try.ntmps48
  go_wp2
  go_ret
  exact ⟨rfl, rfl⟩
theorem signbit_c (a : Nat) (w : World) : Calls Try.prog 46 #[.float .f64 a] w fun e w' => e = .returned (.bool (fSign a)) ∧ w = w' := by
  have hb := float64bits_run a
  go_enter Try.func46, Try.ntmps46
  go_wp2
  go_ret
  exact ⟨rfl, rfl⟩
set_option maxHeartbeats 800000 in
theorem cmpLess_c (a b : Nat) (w : World) : Calls Try.prog 47 #[.float .f64 a, .float .f64 b] w fun e w' => e = .returned (.bool (cmpLess a b)) ∧ w = w' := by
  cases h1 : fNan a with
  | true =>
    have H1 := Aside0.mk h1
    cases h2 : fNan b with
    | true =>
      have H2 := Aside0.mk h2
      go_enter Try.func47, Try.ntmps47
      go_wp2_with (go_at_call 48; refine (isNaN_c _ _).mono ?_; rintro e w' ⟨rfl, rfl⟩; first | rw [H1.out] | rw [H2.out])
      go_ret
      exact ⟨by simp [cmpLess, H1.out, H2.out, fLt, fOrd], rfl⟩
    | false =>
      have H2 := Aside0.mk h2
      go_enter Try.func47, Try.ntmps47
      go_wp2_with (go_at_call 48; refine (isNaN_c _ _).mono ?_; rintro e w' ⟨rfl, rfl⟩; first | rw [H1.out] | rw [H2.out])
      go_ret
      exact ⟨by simp [cmpLess, H1.out, H2.out, fLt, fOrd], rfl⟩
  | false =>
    have H1 := Aside0.mk h1
    go_enter Try.func47, Try.ntmps47
    go_wp2_with (go_at_call 48; refine (isNaN_c _ _).mono ?_; rintro e w' ⟨rfl, rfl⟩; rw [H1.out])
    go_ret
    exact ⟨by simp [cmpLess, H1.out, fLt, fOrd], rfl⟩
set_option maxHeartbeats 1000000 in
theorem wLess_c (a b : Nat) (w : World) : Calls Try.prog 42 #[.float .f64 a, .float .f64 b] w fun e w' => e = .returned (.bool (wLess a b)) ∧ w = w' := by
  obtain ⟨sa, hsa⟩ : ∃ s, s = fSign a := ⟨_, rfl⟩
  obtain ⟨sb, hsb⟩ : ∃ s, s = fSign b := ⟨_, rfl⟩
  have HA := Aside0.mk hsa.symm
  have HB := Aside0.mk hsb.symm
  clear hsa hsb
  cases h1 : fEq0 a with
  | false =>
    have H1 := Aside0.mk h1
    have e1 : (FloatKind.f64.format.order a 0 == some .eq) = false := h1
    clear h1
    go_enter Try.func42, Try.ntmps42
    go_wp2_with (first | (go_at_call 46; refine (signbit_c _ _).mono ?_; rintro e w' ⟨rfl, rfl⟩; first | rw [HA.out] | rw [HB.out]) | (go_at_call 47; refine (cmpLess_c _ _ _).mono ?_; rintro e w' ⟨rfl, rfl⟩))
    go_ret
    exact ⟨by rw [wLess, H1.out]; rfl, rfl⟩
  | true =>
    have H1 := Aside0.mk h1
    have e1 : (FloatKind.f64.format.order a 0 == some .eq) = true := h1
    clear h1
    cases h2 : fEq0 b with
    | false =>
      have H2 := Aside0.mk h2
      have e2 : (FloatKind.f64.format.order b 0 == some .eq) = false := h2
      clear h2
      go_enter Try.func42, Try.ntmps42
      go_wp2_with (first | (go_at_call 46; refine (signbit_c _ _).mono ?_; rintro e w' ⟨rfl, rfl⟩; first | rw [HA.out] | rw [HB.out]) | (go_at_call 47; refine (cmpLess_c _ _ _).mono ?_; rintro e w' ⟨rfl, rfl⟩))
      go_ret
      exact ⟨by rw [wLess, H1.out, H2.out]; rfl, rfl⟩
    | true =>
      have H2 := Aside0.mk h2
      have e2 : (FloatKind.f64.format.order b 0 == some .eq) = true := h2
      clear h2
      cases sa with
      | false =>
        go_enter Try.func42, Try.ntmps42
        go_wp2_with (first | (go_at_call 46; refine (signbit_c _ _).mono ?_; rintro e w' ⟨rfl, rfl⟩; first | rw [HA.out] | rw [HB.out]) | (go_at_call 47; refine (cmpLess_c _ _ _).mono ?_; rintro e w' ⟨rfl, rfl⟩))
        go_ret
        exact ⟨by rw [wLess, H1.out, H2.out, HA.out]; rfl, rfl⟩
      | true =>
        cases sb with
        | false =>
          go_enter Try.func42, Try.ntmps42
          go_wp2_with (first | (go_at_call 46; refine (signbit_c _ _).mono ?_; rintro e w' ⟨rfl, rfl⟩; first | rw [HA.out] | rw [HB.out]) | (go_at_call 47; refine (cmpLess_c _ _ _).mono ?_; rintro e w' ⟨rfl, rfl⟩))
          go_ret
          exact ⟨by rw [wLess, H1.out, H2.out, HA.out, HB.out]; rfl, rfl⟩
        | true =>
          go_enter Try.func42, Try.ntmps42
          go_wp2_with (first | (go_at_call 46; refine (signbit_c _ _).mono ?_; rintro e w' ⟨rfl, rfl⟩; first | rw [HA.out] | rw [HB.out]) | (go_at_call 47; refine (cmpLess_c _ _ _).mono ?_; rintro e w' ⟨rfl, rfl⟩))
          go_ret
          exact ⟨by rw [wLess, H1.out, H2.out, HA.out, HB.out]; rfl, rfl⟩

/-- The place of the first least one, from place i on, the best till now being 'best' (-1: none). -/
def leastFrom : List Nat → Nat → Int → (Int → Nat) → Int
  | [], _, best, _ => best
  | b :: bs, i, best, at_ => if best < 0 ∨ wLess b (at_ best) = true then leastFrom bs (i + 1) i at_ else leastFrom bs (i + 1) best at_
def rdN (bs : List Nat) (i : Int) : Nat := bs.getD i.toNat 0
def leastW (bs : List Nat) : Int := leastFrom bs 0 (-1) (rdN bs)
def kF : Kd Nat := Kd.scalar (Value.float .f64) (fun _ => rfl)

set_option maxHeartbeats 2000000 in
theorem least_c (A : Option Addr) (c : Nat) (bs : List Nat) (w : World) (hr : Kd.C kF w A bs.length bs) (hn : bs.length ≤ 100000) :
    Calls Try.prog 24 #[.slice A bs.length c] w fun e w' => e = .returned (.int .i64 (leastW bs)) ∧ Below w.heap.size w w' := by
  have HR := Aside0.mk hr
  clear hr
  go_enter Try.func24, Try.ntmps24
  go_wp2_with (fail)
  go_loopw [3, 7] (fun v3 v wr => ∃ (i : Nat) (best : Int), v3 = .int .i64 best ∧ v = .int .i64 i ∧ i ≤ bs.length ∧ -1 ≤ best ∧ best < bs.length ∧ Aside0 (leastFrom (bs.drop i) i best (rdN bs) = leastW bs) ∧ Aside0 (Below w.heap.size w wr)) (fun _ v _ => bs.length - (intOf v).toNat)
  case atStart => exact ⟨0, -1, rfl, rfl, Nat.zero_le _, by omega, by omega, ⟨by simp [leastW]⟩, ⟨Below.refl _ _⟩⟩
  case round =>
    obtain ⟨i, best, rfl, rfl, hi, hb0, hb1, HL, HB⟩ := hrel
    by_cases hlt : i < bs.length
    · have HC := Kd.reads_of_C (d := 0) (Kd.C_below HR.out HB.out)
      obtain ⟨ad, rfl, hx⟩ := ReadsOf.at_ HC (i : Int) (by omega) (by omega)
      rw [Int.toNat_natCast] at hx
      obtain ⟨x, hxe⟩ : ∃ x, x = rdOf 0 bs (i : Int) := ⟨_, rfl⟩
      rw [← hxe] at hx
      have hxg : bs[i]'hlt = x := by rw [hxe]; simp [rdOf, List.getD_eq_getElem?_getD, List.getElem?_eq_getElem hlt]
      have HS : Aside0 (leastW bs = if best < 0 ∨ wLess x (rdN bs best) = true then leastFrom (bs.drop (i + 1)) (i + 1) i (rdN bs) else leastFrom (bs.drop (i + 1)) (i + 1) best (rdN bs)) := ⟨by
        rw [← HL.out, List.drop_eq_getElem_cons hlt, hxg]; rfl⟩
      have hc63 : ((i : Int)) < 9223372036854775807 := by omega
      clear hxe hxg HL
      by_cases hneg : best < 0
      · have hnb : decide (best < 0) = true := decide_eq_true hneg
        have HN := Aside0.mk hneg
        clear HC hneg
        go_upto_region 5 with (fail)
        go_quiet (fail)
        go_wp2
        go_roundw
        case rel => exact ⟨i + 1, i, rfl, by go_num, by omega, by omega, by omega, ⟨by rw [HS.out, if_pos (Or.inl HN.out)]⟩, ⟨by repeat (first | exact HB.out | apply pw_below_drewN | apply below_drew1)⟩⟩
        case measure => simp [intOf]; omega
      · have hnb : decide (best < 0) = false := decide_eq_false hneg
        have HN := Aside0.mk hneg
        obtain ⟨ad2, hae, hy⟩ := ReadsOf.at_ HC best (by omega) (by omega)
        injection hae with hae
        subst hae
        obtain ⟨y, hye⟩ : ∃ y, y = rdOf 0 bs best := ⟨_, rfl⟩
        rw [← hye] at hy
        have HY : Aside0 (rdN bs best = y) := ⟨hye.symm⟩
        have hb2 : 0 ≤ best := by omega
        clear HC hneg hye
        go_upto_region 5 with (fail)
        go_quiet ((go_at_call 42; exact Calls.quiet_of_same ((wLess_c _ _ _).mono fun _ _ ⟨h1, h2⟩ => ⟨h1, h2.symm⟩)))
        cases hw : wLess x y with
        | true =>
          have HW := Aside0.mk hw
          go_wp2
          go_roundw
          case rel => exact ⟨i + 1, i, rfl, by go_num, by omega, by omega, by omega, ⟨by rw [HS.out, HY.out, if_pos (Or.inr HW.out)]⟩, ⟨by repeat (first | exact HB.out | apply pw_below_drewN | apply below_drew1)⟩⟩
          case measure => simp [intOf]; omega
        | false =>
          have HW := Aside0.mk hw
          go_wp2
          go_roundw
          case rel => exact ⟨i + 1, best, rfl, by go_num, by omega, by omega, by omega, ⟨by rw [HS.out, HY.out, HW.out, if_neg (by simp; exact Int.not_lt.mp HN.out)]⟩, ⟨by repeat (first | exact HB.out | apply pw_below_drewN | apply below_drew1)⟩⟩
          case measure => simp [intOf]; omega
    · have hin : i = bs.length := by omega
      subst hin
      have HE : Aside0 (leastW bs = best) := ⟨by rw [← HL.out, List.drop_length]; rfl⟩
      go_wp2
      go_ret
      exact ⟨by rw [HE.out]; rfl, HB.out⟩

theorem quo_none (t : TypeId) (a b : Nat) (w : World) (h : FloatKind.f64.format.div a b = none) :
    (binOp .quo t (.float .f64 a) (.float .f64 b)).run Try.prog w = .ok (.float .f64 (Question.cut (.nanBits .f64 a b) (w.tape w.drawn (.nanBits .f64 a b)))) w.drew := by
  simp [binOp, Op.floatArith, h, run_choose_drew, Question.forced]
set_option maxHeartbeats 800000 in
theorem of_c (u l : Int) (w : World) : Calls Try.prog 41 #[.int .i64 u, .int .i64 l] w fun e w' => ∃ b, e = .returned (.float .f64 b) ∧ WBits u l b ∧ Below w.heap.size w w' := by
  cases hd : FloatKind.f64.format.div (fNum u) (fNum l) with
  | some r =>
    have HD : Aside0 (WBits u l r) := ⟨by unfold WBits; rw [hd]⟩
    have hq : ∀ w, (binOp .quo 54 (.float .f64 (floatOfInt .f64 u)) (.float .f64 (floatOfInt .f64 l))).run Try.prog w = .ok (.float .f64 r) w := fun w => run_float_arith w .quo _ .f64 _ _ r hd
    clear hd
    go_enter Try.func41, Try.ntmps41
    go_wp2
    go_ret
    exact ⟨r, rfl, HD.out, Below.refl _ _⟩
  | none =>
    obtain ⟨r, hr⟩ : ∃ r, r = Question.cut (.nanBits .f64 (floatOfInt .f64 u) (floatOfInt .f64 l)) (w.tape w.drawn (.nanBits .f64 (floatOfInt .f64 u) (floatOfInt .f64 l))) := ⟨_, rfl⟩
    have HD : Aside0 (WBits u l r) := ⟨by
      unfold WBits; rw [hd]
      exact ⟨_, hr⟩⟩
    have hq : (binOp .quo 54 (.float .f64 (floatOfInt .f64 u)) (.float .f64 (floatOfInt .f64 l))).run Try.prog w = .ok (.float .f64 r) w.drew := by rw [hr]; exact quo_none _ _ _ w hd
    clear hd hr
    go_enter Try.func41, Try.ntmps41
    go_wp2
    go_ret
    exact ⟨r, rfl, HD.out, (Below.refl _ _).drew⟩
set_option maxHeartbeats 800000 in
/-- The weight of a span. -/
theorem weightOf_c (s : S44) (w : World) (h0 : 0 ≤ s.f1) (h1 : s.f1 ≤ s.f2) (h2 : s.f2 ≤ 9223372036854775807) : Calls Try.prog 23 #[.agg #[.int .i64 s.f0, .int .i64 s.f1, .int .i64 s.f2, .int .i64 s.f3]] w fun e w' => ∃ b, e = .returned (.float .f64 b) ∧ WBits s.f3 (s.f2 - s.f1) b ∧ Below w.heap.size w w' := by
  go_enter Try.func23, Try.ntmps23
  go_wp2_with (go_at_call 41; refine (of_c _ _ _).mono ?_; rintro e w' ⟨b, rfl, hb, hB⟩)
  go_ret
  exact ⟨b, rfl, hb, ((Below.refl _ w).alloc (Nat.le_refl _) _).trans (hB.mono (by simp))⟩
end Go.Proofs.Ytgljbgmphelhbaa.Q
