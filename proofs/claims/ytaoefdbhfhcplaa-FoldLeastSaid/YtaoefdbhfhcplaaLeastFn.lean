/- Written for this claim by a program: functions, their contracts and rows. -/
import Derived.Test.YtaoefdbhfhcplaaQ0
import Derived.Test.YtaoefdbhfhcplaaQ8
import Derived.Test.YtaoefdbhfhcplaaAwakeFn
import Derived.Test.YtaoefdbhfhcplaaFoldModel
namespace Go.Proofs.Ytaoefdbhfhcplaa.Q
open Go.RowKit Go.Proofs.YtaoefdbhfhcplaaW.PrintWords Go.Proofs.YtaoefdbhfhcplaaW.PrintLast Go.Proofs.YtaoefdbhfhcplaaW.PrintMore
attribute [local go_sem] max2_int min2_int max_two min_two max_three min_three max_four min_four   -- for this text's walks alone
set_option linter.unusedVariables false
set_option linter.unusedSimpArgs false

/-! ### selvagelaw12_FoldLeast: function 5 -/
mutual
def selvagelaw12_FoldLeast.j0 : Nat → List (S39) → List (S80) → Bool → Option (Bool)
  | 0, _, _, _ => none
  | k + 1, x0, x1, x22 => if x22 = true then (some true) else ((fold_Fold.f x0 x1).bind fun bt227 => (if bt227.2 = 0 then (selvagelaw12_FoldLeast.l0 k bt227.1 0) else (some true)))
def selvagelaw12_FoldLeast.l0 : Nat → List (S39) → Int → Option (Bool)
  | 0, _, _ => none
  | k + 1, x5, x7 => if x7 < (x5.length : Int) then (if 0 ≤ x7 then ((selvagelaw12_known.f k x5 ((rd_T39 x5 x7).f2)).bind fun bt233 => ((selvagelaw12_known.f k x5 ((rd_T39 x5 x7).f3)).bind fun bt235 => (if ((rd_T39 x5 x7).f0) = 2 then (selvagelaw12_FoldLeast.j2 k x5 x7 bt233.2 bt235.1 bt235.2 ((rd_T39 x5 x7).f0) (((rd_T39 x5 x7).f0) == 2) ((rd_T39 x5 x7).f0) ((rd_T39 x5 x7).f1) ((rd_T39 x5 x7).f2) ((rd_T39 x5 x7).f3) ((rd_T39 x5 x7).f4) ((rd_T39 x5 x7).f5) ((rd_T39 x5 x7).f6) ((rd_T39 x5 x7).f7)) else (if ((rd_T39 x5 x7).f0) = 3 then (selvagelaw12_FoldLeast.j2 k x5 x7 bt233.2 bt235.1 bt235.2 ((rd_T39 x5 x7).f0) (((rd_T39 x5 x7).f0) == 3) ((rd_T39 x5 x7).f0) ((rd_T39 x5 x7).f1) ((rd_T39 x5 x7).f2) ((rd_T39 x5 x7).f3) ((rd_T39 x5 x7).f4) ((rd_T39 x5 x7).f5) ((rd_T39 x5 x7).f6) ((rd_T39 x5 x7).f7)) else (selvagelaw12_FoldLeast.j2 k x5 x7 bt233.2 bt235.1 bt235.2 ((rd_T39 x5 x7).f0) (((rd_T39 x5 x7).f0) == 4) ((rd_T39 x5 x7).f0) ((rd_T39 x5 x7).f1) ((rd_T39 x5 x7).f2) ((rd_T39 x5 x7).f3) ((rd_T39 x5 x7).f4) ((rd_T39 x5 x7).f5) ((rd_T39 x5 x7).f6) ((rd_T39 x5 x7).f7)))))) else (none)) else (some true)
def selvagelaw12_FoldLeast.j2 : Nat → List (S39) → Int → Bool → Int → Bool → Int → Bool → Int → Int → Int → Int → Int → Int → Int → Int → Option (Bool)
  | 0, _, _, _, _, _, _, _, _, _, _, _, _, _, _, _ => none
  | k + 1, x5, x7, x10, x11, x12, x56, x57, x233000, x233001, x233002, x233003, x233004, x233005, x233006, x233007 => if x57 = true then (if x10 = true then (if x12 = true then (some false) else ((selvagelaw12_used.f k x5 x233001).bind fun t237 => (if t237 = true then (selvagelaw12_FoldLeast.l0 k x5 (wrap64 (x7 + 1))) else (some false)))) else ((selvagelaw12_used.f k x5 x233001).bind fun t238 => (if t238 = true then (selvagelaw12_FoldLeast.l0 k x5 (wrap64 (x7 + 1))) else (some false)))) else (if x56 = 1 then ((selvagelaw12_used.f k x5 x233001).bind fun t239 => (if t239 = true then (selvagelaw12_FoldLeast.l0 k x5 (wrap64 (x7 + 1))) else (some false))) else (if x56 = 5 then (if x12 = true then (if x11 = 0 then (selvagelaw12_FoldLeast.l0 k x5 (wrap64 (x7 + 1))) else (if x10 = true then (some false) else ((selvagelaw12_used.f k x5 x233001).bind fun t240 => (if t240 = true then (selvagelaw12_FoldLeast.l0 k x5 (wrap64 (x7 + 1))) else (some false))))) else (selvagelaw12_FoldLeast.l0 k x5 (wrap64 (x7 + 1)))) else (if x56 = 16 then (selvagelaw12_FoldLeast.j3 k x5 x7 x10 x12 (x56 == 16) x233000 x233001 x233002 x233003 x233004 x233005 x233006 x233007) else (selvagelaw12_FoldLeast.j3 k x5 x7 x10 x12 (x56 == 17) x233000 x233001 x233002 x233003 x233004 x233005 x233006 x233007))))
def selvagelaw12_FoldLeast.j3 : Nat → List (S39) → Int → Bool → Bool → Bool → Int → Int → Int → Int → Int → Int → Int → Int → Option (Bool)
  | 0, _, _, _, _, _, _, _, _, _, _, _, _, _ => none
  | k + 1, x5, x7, x10, x12, x96, x233000, x233001, x233002, x233003, x233004, x233005, x233006, x233007 => if x96 = true then (if x10 = true then (if x12 = true then (some false) else (if x233002 = x233003 then (some false) else (selvagelaw12_FoldLeast.l0 k x5 (wrap64 (x7 + 1))))) else (if x233002 = x233003 then (some false) else (selvagelaw12_FoldLeast.l0 k x5 (wrap64 (x7 + 1))))) else (selvagelaw12_FoldLeast.l0 k x5 (wrap64 (x7 + 1)))
end
def selvagelaw12_FoldLeast.f (k : Nat) (l0 : List (S39)) (l1 : List (S80)) : Option (Bool) := (selvagelaw12_awake.f k).bind fun t226 => (if t226 = true then (if (l0.length : Int) > 410 then (selvagelaw12_FoldLeast.j0 k l0 l1 true) else (selvagelaw12_FoldLeast.j0 k l0 l1 (decide ((l1.length : Int) > 16)))) else (some false))
theorem selvagelaw12_FoldLeast.mono_l : ∀ k, (∀ y0 y1 y2, LeO (selvagelaw12_FoldLeast.j0 k y0 y1 y2) (selvagelaw12_FoldLeast.j0 (k + 1) y0 y1 y2)) ∧ (∀ y0 y1, LeO (selvagelaw12_FoldLeast.l0 k y0 y1) (selvagelaw12_FoldLeast.l0 (k + 1) y0 y1)) ∧ (∀ y0 y1 y2 y3 y4 y5 y6 y7 y8 y9 y10 y11 y12 y13 y14, LeO (selvagelaw12_FoldLeast.j2 k y0 y1 y2 y3 y4 y5 y6 y7 y8 y9 y10 y11 y12 y13 y14) (selvagelaw12_FoldLeast.j2 (k + 1) y0 y1 y2 y3 y4 y5 y6 y7 y8 y9 y10 y11 y12 y13 y14)) ∧ (∀ y0 y1 y2 y3 y4 y5 y6 y7 y8 y9 y10 y11 y12, LeO (selvagelaw12_FoldLeast.j3 k y0 y1 y2 y3 y4 y5 y6 y7 y8 y9 y10 y11 y12) (selvagelaw12_FoldLeast.j3 (k + 1) y0 y1 y2 y3 y4 y5 y6 y7 y8 y9 y10 y11 y12))
  | 0 => ⟨fun _ _ _ r h => by simp [selvagelaw12_FoldLeast.j0] at h, fun _ _ r h => by simp [selvagelaw12_FoldLeast.l0] at h, fun _ _ _ _ _ _ _ _ _ _ _ _ _ _ _ r h => by simp [selvagelaw12_FoldLeast.j2] at h, fun _ _ _ _ _ _ _ _ _ _ _ _ _ r h => by simp [selvagelaw12_FoldLeast.j3] at h⟩
  | k + 1 => by
    obtain ⟨ih0, ih1, ih2, ih3⟩ := selvagelaw12_FoldLeast.mono_l k
    refine ⟨?_, ?_, ?_, ?_⟩
    · intro y0 y1 y2
      unfold selvagelaw12_FoldLeast.j0
      repeat' first
      | (with_reducible exact ih0 _ _ _)
      | (with_reducible exact ih1 _ _)
      | (with_reducible exact ih2 _ _ _ _ _ _ _ _ _ _ _ _ _ _ _)
      | (with_reducible exact ih3 _ _ _ _ _ _ _ _ _ _ _ _ _)
      | (with_reducible exact selvagelaw12_awake.mono _)
      | (with_reducible exact selvagelaw12_known.mono _ _ _)
      | (with_reducible exact selvagelaw12_used.mono _ _ _)
      | (with_reducible exact LeO.refl _)
      | (with_reducible exact LeO.none _)
      | (with_reducible refine LeO.ite ?_ ?_)
      | (with_reducible refine LeO.bind ?_ (fun _ => ?_))
      | exact ih0 _ _ _
      | exact ih1 _ _
      | exact ih2 _ _ _ _ _ _ _ _ _ _ _ _ _ _ _
      | exact ih3 _ _ _ _ _ _ _ _ _ _ _ _ _
      | exact selvagelaw12_awake.mono _
      | exact selvagelaw12_known.mono _ _ _
      | exact selvagelaw12_used.mono _ _ _
      | exact LeO.none _
      | refine LeO.ite ?_ ?_
      | refine LeO.bind ?_ (fun _ => ?_)
    · intro y0 y1
      unfold selvagelaw12_FoldLeast.l0
      repeat' first
      | (with_reducible exact ih0 _ _ _)
      | (with_reducible exact ih1 _ _)
      | (with_reducible exact ih2 _ _ _ _ _ _ _ _ _ _ _ _ _ _ _)
      | (with_reducible exact ih3 _ _ _ _ _ _ _ _ _ _ _ _ _)
      | (with_reducible exact selvagelaw12_awake.mono _)
      | (with_reducible exact selvagelaw12_known.mono _ _ _)
      | (with_reducible exact selvagelaw12_used.mono _ _ _)
      | (with_reducible exact LeO.refl _)
      | (with_reducible exact LeO.none _)
      | (with_reducible refine LeO.ite ?_ ?_)
      | (with_reducible refine LeO.bind ?_ (fun _ => ?_))
      | exact ih0 _ _ _
      | exact ih1 _ _
      | exact ih2 _ _ _ _ _ _ _ _ _ _ _ _ _ _ _
      | exact ih3 _ _ _ _ _ _ _ _ _ _ _ _ _
      | exact selvagelaw12_awake.mono _
      | exact selvagelaw12_known.mono _ _ _
      | exact selvagelaw12_used.mono _ _ _
      | exact LeO.none _
      | refine LeO.ite ?_ ?_
      | refine LeO.bind ?_ (fun _ => ?_)
    · intro y0 y1 y2 y3 y4 y5 y6 y7 y8 y9 y10 y11 y12 y13 y14
      unfold selvagelaw12_FoldLeast.j2
      repeat' first
      | (with_reducible exact ih0 _ _ _)
      | (with_reducible exact ih1 _ _)
      | (with_reducible exact ih2 _ _ _ _ _ _ _ _ _ _ _ _ _ _ _)
      | (with_reducible exact ih3 _ _ _ _ _ _ _ _ _ _ _ _ _)
      | (with_reducible exact selvagelaw12_awake.mono _)
      | (with_reducible exact selvagelaw12_known.mono _ _ _)
      | (with_reducible exact selvagelaw12_used.mono _ _ _)
      | (with_reducible exact LeO.refl _)
      | (with_reducible exact LeO.none _)
      | (with_reducible refine LeO.ite ?_ ?_)
      | (with_reducible refine LeO.bind ?_ (fun _ => ?_))
      | exact ih0 _ _ _
      | exact ih1 _ _
      | exact ih2 _ _ _ _ _ _ _ _ _ _ _ _ _ _ _
      | exact ih3 _ _ _ _ _ _ _ _ _ _ _ _ _
      | exact selvagelaw12_awake.mono _
      | exact selvagelaw12_known.mono _ _ _
      | exact selvagelaw12_used.mono _ _ _
      | exact LeO.none _
      | refine LeO.ite ?_ ?_
      | refine LeO.bind ?_ (fun _ => ?_)
    · intro y0 y1 y2 y3 y4 y5 y6 y7 y8 y9 y10 y11 y12
      unfold selvagelaw12_FoldLeast.j3
      repeat' first
      | (with_reducible exact ih0 _ _ _)
      | (with_reducible exact ih1 _ _)
      | (with_reducible exact ih2 _ _ _ _ _ _ _ _ _ _ _ _ _ _ _)
      | (with_reducible exact ih3 _ _ _ _ _ _ _ _ _ _ _ _ _)
      | (with_reducible exact selvagelaw12_awake.mono _)
      | (with_reducible exact selvagelaw12_known.mono _ _ _)
      | (with_reducible exact selvagelaw12_used.mono _ _ _)
      | (with_reducible exact LeO.refl _)
      | (with_reducible exact LeO.none _)
      | (with_reducible refine LeO.ite ?_ ?_)
      | (with_reducible refine LeO.bind ?_ (fun _ => ?_))
      | exact ih0 _ _ _
      | exact ih1 _ _
      | exact ih2 _ _ _ _ _ _ _ _ _ _ _ _ _ _ _
      | exact ih3 _ _ _ _ _ _ _ _ _ _ _ _ _
      | exact selvagelaw12_awake.mono _
      | exact selvagelaw12_known.mono _ _ _
      | exact selvagelaw12_used.mono _ _ _
      | exact LeO.none _
      | refine LeO.ite ?_ ?_
      | refine LeO.bind ?_ (fun _ => ?_)
theorem selvagelaw12_FoldLeast.mono : ∀ a0 a1 k, LeO (selvagelaw12_FoldLeast.f k a0 a1) (selvagelaw12_FoldLeast.f (k + 1) a0 a1) := by
  intro a0 a1 k
  obtain ⟨ih0, ih1, ih2, ih3⟩ := selvagelaw12_FoldLeast.mono_l k
  unfold selvagelaw12_FoldLeast.f
  repeat' first
      | (with_reducible exact ih0 _ _ _)
      | (with_reducible exact ih1 _ _)
      | (with_reducible exact ih2 _ _ _ _ _ _ _ _ _ _ _ _ _ _ _)
      | (with_reducible exact ih3 _ _ _ _ _ _ _ _ _ _ _ _ _)
      | (with_reducible exact selvagelaw12_awake.mono _)
      | (with_reducible exact selvagelaw12_known.mono _ _ _)
      | (with_reducible exact selvagelaw12_used.mono _ _ _)
      | (with_reducible exact LeO.refl _)
      | (with_reducible exact LeO.none _)
      | (with_reducible refine LeO.ite ?_ ?_)
      | (with_reducible refine LeO.bind ?_ (fun _ => ?_))
      | exact ih0 _ _ _
      | exact ih1 _ _
      | exact ih2 _ _ _ _ _ _ _ _ _ _ _ _ _ _ _
      | exact ih3 _ _ _ _ _ _ _ _ _ _ _ _ _
      | exact selvagelaw12_awake.mono _
      | exact selvagelaw12_known.mono _ _ _
      | exact selvagelaw12_used.mono _ _ _
      | exact LeO.none _
      | refine LeO.ite ?_ ?_
      | refine LeO.bind ?_ (fun _ => ?_)
end Go.Proofs.Ytaoefdbhfhcplaa.Q
