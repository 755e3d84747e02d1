/- Rows of spans: the contracts of the library's IndexFunc, ContainsFunc, DeleteFunc, Clone and Delete at them. -/
import Derived.Test.YtgljbgmphelhbaaSpanOf
namespace Go.Proofs.Ytgljbgmphelhbaa.Q
open Go.RowKit Go.Proofs.YtgljbgmphelhbaaW.PrintWords Go.Proofs.YtgljbgmphelhbaaW.PrintLast Go.Proofs.YtgljbgmphelhbaaW.PrintMore
set_option linter.unusedVariables false
set_option linter.unusedSimpArgs false

def ended (x s : S44) : Bool := decide (x.f2 < s.f1)
abbrev spanV (x : S44) : Value := .agg #[.int .i64 x.f0, .int .i64 x.f1, .int .i64 x.f2, .int .i64 x.f3]

set_option maxHeartbeats 1000000 in
theorem homes1_c (x s : S44) (g : Nat) (w : World) (hg : w.heap[g]? = some (.cells #[.int .i64 s.f0, .int .i64 s.f1, .int .i64 s.f2, .int .i64 s.f3] 44 (0, 0))) :
    Calls Try.prog 20 #[.agg #[.int .i64 x.f0, .int .i64 x.f1, .int .i64 x.f2, .int .i64 x.f3], .pointer (some ⟨g, 0, none⟩)] w fun e w' => e = .returned (.bool (ended x s)) ∧ Below w.heap.size w w' := by
  have hlt : g < w.heap.size := blk_lt hg
  have hne : g ≠ w.heap.size := by omega
  have c1 := blk_cell hg 1
  simp only [List.getElem?_toArray, List.getElem?_cons_zero, List.getElem?_cons_succ] at c1
  clear hg
  go_enter Try.func20, Try.ntmps20
  go_wp2
  go_ret
  exact ⟨rfl, (Below.refl _ _).alloc (Nat.le_refl _) _⟩

set_option maxHeartbeats 1000000 in
theorem indexSpan_c (A : Option Addr) (c : Nat) (xs : List S44) (g : Nat) (s : S44) (w : World) (hr : Kd.C k44 w A xs.length xs) (hc : xs.length ≤ c) (hg : w.heap[g]? = some (.cells #[.int .i64 s.f0, .int .i64 s.f1, .int .i64 s.f2, .int .i64 s.f3] 44 (0, 0))) :
    Calls Try.prog 38 #[.slice A xs.length c, .func (.func 20) #[] #[.pointer (some ⟨g, 0, none⟩)]] w fun e w' => e = .returned (.int .i64 (idxFrom (fun x => ended x s) xs 0)) ∧ Below w.heap.size w w' := by
  have hlen := hr.2.1
  have HR := Aside0.mk hr
  have HG := Aside0.mk hg
  clear hr hg
  go_enter Try.func38, Try.ntmps38
  go_wp2_with (fail)
  go_loopw [8] (fun v wr => ∃ i : Nat, v = .int .i64 i ∧ i ≤ xs.length ∧ Aside0 (idxFrom (fun x => ended x s) (xs.drop i) i = idxFrom (fun x => ended x s) xs 0) ∧ Aside0 (Below w.heap.size w wr)) (fun v _ => xs.length - (intOf v).toNat)
  case atStart => exact ⟨0, rfl, Nat.zero_le _, ⟨by simp⟩, ⟨Below.refl _ _⟩⟩
  case round =>
    obtain ⟨i, rfl, hi, HI, HB⟩ := hrel
    by_cases hlt : i < xs.length
    · have hC := Kd.C_below HR.out HB.out
      obtain ⟨ad, rfl, hx0, hx1, hx2, hx3⟩ := at_T44 hC (i : Int) (by omega) (by omega)
      rw [Int.toNat_natCast] at hx0 hx1 hx2 hx3
      obtain ⟨x, hxe⟩ : ∃ x, x = rd_T44 xs i := ⟨_, rfl⟩
      rw [← hxe] at hx0 hx1 hx2 hx3
      have hxg : xs[i]'hlt = x := by rw [hxe]; simp [rd_T44, List.getD_eq_getElem?_getD, List.getElem?_eq_getElem hlt]
      have HS : Aside0 (idxFrom (fun x => ended x s) xs 0 = if ended x s then (i : Int) else idxFrom (fun x => ended x s) (xs.drop (i + 1)) (i + 1)) := ⟨by
        rw [← HI.out, List.drop_eq_getElem_cons hlt, hxg]; rfl⟩
      have HG2 := Aside0.mk (blk_below HG.out HB.out)
      clear hC hxe hxg HI
      cases hm : ended x s with
      | true =>
        have HM := Aside0.mk hm
        go_wp2_with (go_at_call 20; refine (homes1_c x s g _ HG2.out).mono ?_; rintro e W2 ⟨rfl, hB2⟩; rw [HM.out])
        go_ret
        exact ⟨by rw [HS.out, HM.out]; rfl, below_then HB.out HB.out.size hB2⟩
      | false =>
        have HM := Aside0.mk hm
        go_wp2_with (go_at_call 20; refine (homes1_c x s g _ HG2.out).mono ?_; rintro e W2 ⟨rfl, hB2⟩; rw [HM.out])
        go_roundw
        case rel => exact ⟨i + 1, by go_num, by omega, ⟨by rw [HS.out, HM.out]; rfl⟩, ⟨below_then HB.out HB.out.size hB2⟩⟩
        case measure => simp [intOf]; omega
    · have hin : i = xs.length := by omega
      subst hin
      have HS : Aside0 (idxFrom (fun x => ended x s) xs 0 = -1) := ⟨by rw [← HI.out, List.drop_length]; rfl⟩
      go_wp2
      go_ret
      exact ⟨by rw [HS.out]; rfl, HB.out⟩
end Go.Proofs.Ytgljbgmphelhbaa.Q
