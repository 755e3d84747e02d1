/- What fold.Fold reckons, told plainly: a tree grown out of code, trimmed, and laid out as code. -/
import Derived.Test.YtaoefdbhfhcplaaRunModel
namespace Go.Proofs.Ytaoefdbhfhcplaa.Q
open Go.RowKit Go.Proofs.YtaoefdbhfhcplaaW.PrintWords Go.Proofs.YtaoefdbhfhcplaaW.PrintLast Go.Proofs.YtaoefdbhfhcplaaW.PrintMore Go.Proofs.Ytaoefdbhfhcplaa.IM
set_option linter.unusedVariables false
set_option linter.unusedSimpArgs false

inductive FT where
  | leaf : FT
  | node (x : S39) (next side : FT) : FT
def FT.size : FT → Nat
  | .leaf => 0
  | .node _ n s => n.size + s.size + 1
def FT.pre : FT → List S39
  | .leaf => []
  | .node x n s => x :: (n.pre ++ s.pre)
def FT.isLeaf : FT → Bool
  | .leaf => true
  | _ => false
inductive GWay where
  | leap
  | on
  | stay (x : S39)
def reckonV (op a b : Int) : Int := if op = 2 then wrap64 (a + b) else if op = 3 then wrap64 (a - b) else wrap64 (a * b)
def gWay (known : Int → Option Int) (x : S39) : GWay :=
  if x.f0 = 16 ∨ x.f0 = 17 then
    match known x.f2, known x.f3 with
    | some a, some b =>
      if x.f0 = 16 then (if x.f2 = x.f3 ∨ b ≤ a then .leap else .on) else (if a = b then .on else .leap)
    | _, _ => if x.f2 = x.f3 then (if x.f0 = 16 then .leap else .on) else .stay x
  else if x.f0 = 2 ∨ x.f0 = 3 ∨ x.f0 = 4 then
    match known x.f2, known x.f3 with
    | some a, some b => .stay ⟨1, x.f1, 0, 0, 0, 0, reckonV x.f0 a b, 0⟩
    | _, _ => .stay x
  else if x.f0 = 5 then
    match known x.f2, known x.f3 with
    | some a, some b => if b = 0 then .stay x else .stay ⟨1, x.f1, 0, 0, 0, 0, wrap64 (a.tdiv b), 0⟩
    | _, _ => .stay x
  else .stay x
def learn (known : Int → Option Int) (y : S39) : Int → Option Int := if y.f0 = 1 then upd known y.f1 y.f6 else known
def growT (code : List S39) : Nat → Nat → (Int → Option Int) → FT
  | 0, _, _ => .leaf
  | k + 1, i, known =>
    if (rd_T39 code i).f0 = 18 then .node (rd_T39 code i) .leaf .leaf
    else match gWay known (rd_T39 code i) with
      | .leap => growT code k (rd_T39 code i).f7.toNat known
      | .on => growT code k (i + 1) known
      | .stay y => .node y (growT code k (i + 1) (learn known y)) (if y.f7 = 0 then .leaf else growT code k y.f7.toNat (learn known y))
/-! ### counting and trimming -/
def tempsOf (x : S39) : List Int := if hasB x.f0 then [x.f2, x.f3] else if hasA x.f0 then [x.f2] else []
def bump (used : Int → Option Int) (t : Int) : Int → Option Int := upd used t (wrap64 ((used t).getD 0 + 1))
def addUses (used : Int → Option Int) (x : S39) : Int → Option Int := (tempsOf x).foldl bump used
def cntT : FT → (Int → Option Int) → (Int → Option Int)
  | .leaf, used => used
  | .node x n s, used => cntT n (cntT s (addUses used x))
def knT : FT → (Int → Option Int) → (Int → Option Int)
  | .leaf, known => known
  | .node x n s, known => knT n (knT s (learn known x))
def idleB (used known : Int → Option Int) (x : S39) : Bool :=
  if x.f0 = 1 ∨ x.f0 = 2 ∨ x.f0 = 3 ∨ x.f0 = 4 then (used x.f1).getD 0 == 0
  else if x.f0 = 5 then (used x.f1).getD 0 == 0 && (known x.f3).getD 0 != 0
  else false
def trimT (used known : Int → Option Int) : FT → FT × Nat
  | .leaf => (.leaf, 0)
  | .node x n s =>
    if idleB used known x then ((trimT used known n).1, (trimT used known n).2 + 1)
    else (.node x (trimT used known n).1 (trimT used known s).1, (trimT used known n).2 + (trimT used known s).2)
def trimAll : Nat → FT → FT
  | 0, t => t
  | k + 1, t =>
    let r := trimT (cntT t fun _ => none) (knT t fun _ => none) t
    if r.2 = 0 then r.1 else trimAll k r.1
def layT : FT → List S39 → List S39
  | .leaf, out => out
  | .node x n s, out =>
    let out2 := if n.isLeaf then out ++ [x] else layT n (out ++ [x])
    if s.isLeaf then out2
    else layT s (out2.set out.length ⟨(rd_T39 out2 out.length).f0, (rd_T39 out2 out.length).f1, (rd_T39 out2 out.length).f2, (rd_T39 out2 out.length).f3, (rd_T39 out2 out.length).f4, (rd_T39 out2 out.length).f5, (rd_T39 out2 out.length).f6, out2.length⟩)
def foldOut (code : List S39) : List S39 := layT (trimAll (code.length + 1) (growT code code.length 0 fun _ => none)) []
def fold_Fold.f (code : List S39) (l : List S80) : Option (List S39 × Int) :=
  if rightB code l = true then some (foldOut code, 0) else some ([], 3)

theorem trim_size (used known : Int → Option Int) : ∀ t : FT, (trimT used known t).1.size + (trimT used known t).2 ≤ t.size := by
  intro t
  induction t with
  | leaf => simp [trimT, FT.size]
  | node x n s ihn ihs =>
    simp only [trimT]
    split
    · simp only [FT.size]; omega
    · simp only [FT.size]; omega
theorem trimAll_more : ∀ (k m : Nat) (t : FT), t.size < k → t.size < m → trimAll k t = trimAll m t := by
  intro k
  induction k with
  | zero => intro m t h; omega
  | succ k ih =>
    intro m t hk hm
    cases m with
    | zero => omega
    | succ m =>
      simp only [trimAll]
      have h := trim_size (cntT t fun _ => none) (knT t fun _ => none) t
      split
      · rfl
      · exact ih m _ (by omega) (by omega)
end Go.Proofs.Ytaoefdbhfhcplaa.Q
