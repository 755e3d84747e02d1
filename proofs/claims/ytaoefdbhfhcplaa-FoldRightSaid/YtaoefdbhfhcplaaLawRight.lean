/- The row of FoldRight, out of its plain law and the printed walk. -/
import Derived.Test.YtaoefdbhfhcplaaRows
import Derived.Test.YtaoefdbhfhcplaaFoldRightLaw
import Derived.Test.YtaoefdbhfhcplaaQ11
import Derived.Test.YtaoefdbhfhcplaaOpen
import Derived.WalkKit
import Derived.ProofKit
import Derived.OpenShut
import Derived.ShutString
import Derived.ChangeOld
import Derived.Below
import Derived.SizedLaws
namespace Go.Proofs.Ytaoefdbhfhcplaa.foldRight
open Go.ChangeShapes Go.WideShapes Go.ChangeAt Go.RowKit
open Go.Proofs.Ytaoefdbhfhcplaa.Q Go.Proofs.YtaoefdbhfhcplaaW.PrintWords
set_option linter.unusedVariables false
theorem own : ownKnob Try.prog.godebug = none := by kernel_rfl
theorem laidOut : laidOutB Try.prog = true := by kernel_rfl
theorem run (l0 : List S39) (c0 : Nat) (A0 : Option Addr) (l1 : List S80) (c1 : Nat) (A1 : Option Addr) (w : World) (hr0 : Kd.C k39 w A0 l0.length l0) (hc0 : l0.length ≤ c0) (hr1 : Kd.C k80 w A1 l1.length l1) (hc1 : l1.length ≤ c1) :
 Calls Try.prog 4 #[.slice A0 l0.length c0, .slice A1 l1.length c1] w fun e w' => e = .returned (.bool true) ∧ Below w.heap.size w w' := by
 obtain ⟨k, h⟩ := FoldRight_true l0 l1
 exact selvagelaw12_FoldRight.calls k A0 c0 l0 A1 c1 l1 true w hr0 hc0 hr1 hc1 h
set_option maxRecDepth 100000 in
theorem lifted (os : Os) (started : os.Started) (H : Type) (enc : TypeId × Value → H) :
 ReturnsInHanded {} Try.checked os 4 .any (Rows.foldRightSpec.pre6 enc Try.prog Try.f4 Rows.foldRightRow.domain false) (Rows.foldRightSpec.post enc Try.prog Try.f4 false true false false) := by
 refine returnsInHanded_of_change_sized (C := Try.checked) own started (by kernel_rfl) Try.func4
  (ChangeSpec.witness6 (enc := enc) (C := Try.checked) false ⟨#[], #[.slice none 0 0, .slice none 0 0], []⟩ 8 (by kernel_rfl) (by kernel_rfl) (by kernel_rfl) (by kernel_rfl)) ?_
 intro W base args ds gs before hval0 hW hcnd hsz0 _
 have hval : ∀ (j : Nat) t v, Try.f4.params[j]? = some t → args[j]? = some v → Value.okWide Try.prog W .any base t v := hval0
 have hW' := hW
 obtain ⟨p, q, hA0, hV, rfl, hfz, hnd⟩ := hW
 have hA : DataW.TrodAll enc Try.prog W 0 (fun _ => true) true Try.f4.params.toList args.toList ds p := hA0
 rw [Try.params4] at hA hval
 obtain ⟨v0, vs0, d0, ds0, p0, q0, hargs, rfl, rfl, h0, r0⟩ := trodAll_cons hA
 obtain ⟨v1, vs1, d1, ds1, p1, q1, rfl, rfl, rfl, h1, r1⟩ := trodAll_cons r0
 obtain ⟨rfl, rfl, rfl⟩ := trodAll_nil r1
 obtain rfl : args = #[v0, v1] := by cases args; simp_all
 obtain ⟨rfl, rfl⟩ := trodVars_none hV
 obtain ⟨a0, len0, cap0, rfl⟩ := okWide_slice Try.underlying22 (hval 0 22 v0 rfl rfl)
 obtain ⟨a1, len1, cap1, rfl⟩ := okWide_slice Try.underlying23 (hval 1 23 v1 rfl rfl)
 have lt0 : ∀ x ∈ p0, x.block < W.heap.size := by obtain ⟨m, hm⟩ := h0; exact DataW.trod_lt m _ _ _ hm
 have lt1 : ∀ x ∈ p1, x.block < W.heap.size := by obtain ⟨m, hm⟩ := h1; exact DataW.trod_lt m _ _ _ hm
 obtain ⟨l0, rfl, hc0, hr0⟩ := slice_open k39 Try.underlying22 (by kernel_rfl) ins_open h0
 obtain ⟨l1, rfl, hc1, hr1⟩ := slice_open k80 Try.underlying23 (by kernel_rfl) loc_open h1
 clear hA0 hval0 hsz0
 refine (run l0 cap0 a0 l1 cap1 a1 W hr0 hc0 hr1 hc1).mono fun e W' ⟨he, bel⟩ => ?_
 subst he
 exact ⟨_, rfl, _, _, _, [], _, [], hW', trodAll_mk1 (shut_bool Try.underlying4 _), (trodAll_cons_mk (Below.trod laidOut (by kernel_rfl) (of_decide_eq_true (by kernel_rfl)) h0 bel lt0) (trodAll_cons_mk (Below.trod laidOut (by kernel_rfl) (of_decide_eq_true (by kernel_rfl)) h1 bel lt1) trodAll_mk0)), rfl, bel.frame _, fun h => by cases h⟩
theorem over : Rows.foldRightRow.holds Try.pinned (OpenSpec.ofChange Rows.foldRightSpec) :=
 OpenClaim.holds_of_wide 4 Try.f4 rfl rfl rfl rfl rfl rfl rfl ⟨rfl, rfl, rfl, rfl, rfl⟩ rfl rfl rfl rfl rfl (by kernel_rfl) Try.func4 (by kernel_rfl)
  (of_decide_eq_true (by kernel_rfl)) (by unfold Func.isWrapper; first | (rw [if_pos (by decide +kernel)]; kernel_rfl) | (rw [if_neg (by decide +kernel)]; exact ⟨rfl, rfl⟩))
  (fun os started H enc _ => lifted os started H enc)
theorem proved : Rows.FoldRightSaid := over
#print axioms proved
end Go.Proofs.Ytaoefdbhfhcplaa.foldRight
namespace Go.Proofs.Ytaoefdbhfhcplaa
/-- The row, under a short name, for the claim. -/
theorem foldRight_holds : Rows.FoldRightSaid := foldRight.proved
end Go.Proofs.Ytaoefdbhfhcplaa
