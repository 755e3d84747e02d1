/- What tree.Run reckons, told plainly: a piece's step, and a run. -/
import Derived.Test.YtaoefdbhfhcplaaGood
namespace Go.Proofs.Ytaoefdbhfhcplaa.Q
open Go.RowKit Go.Proofs.YtaoefdbhfhcplaaW.PrintWords Go.Proofs.YtaoefdbhfhcplaaW.PrintLast Go.Proofs.YtaoefdbhfhcplaaW.PrintMore Go.Proofs.Ytaoefdbhfhcplaa.IM
set_option linter.unusedVariables false
set_option linter.unusedSimpArgs false

structure RunSt where
  temps : List Int
  ans : List Int
  acts : List S44
inductive StepR where
  | done (acts : List S44) (status : Int)
  | next (s : RunSt)
  | jump (s : RunSt)
def RunSt.put (s : RunSt) (d v : Int) : RunSt := ⟨s.temps.set d.toNat v, s.ans, s.acts⟩
def RunSt.tell (s : RunSt) (a : S44) : RunSt := ⟨s.temps, s.ans, s.acts ++ [a]⟩
/-- What a piece asks: nothing left: starved (8?); else the temp is what was answered. -/
def askR (x : S39) (kind loc : Int) (s : RunSt) : StepR :=
  match s.ans with
  | [] => .done s.acts 4
  | o :: ts_ => .next ⟨s.temps.set x.f1.toNat o, ts_, s.acts ++ [⟨kind, loc, o, if x.f0 = 10 then rd s.temps x.f2 else if x.f0 = 11 then wrap64 (o + rd s.temps x.f2) else 0⟩]⟩
def stepP (x : S39) (s : RunSt) : StepR :=
  let a := rd s.temps x.f2
  let b := rd s.temps x.f3
  if x.f0 = 1 then .next (s.put x.f1 x.f6)
  else if x.f0 = 2 then .next (s.put x.f1 (wrap64 (a + b)))
  else if x.f0 = 3 then .next (s.put x.f1 (wrap64 (a - b)))
  else if x.f0 = 4 then .next (s.put x.f1 (wrap64 (a * b)))
  else if x.f0 = 5 then (if b = 0 then .done s.acts 2 else .next (s.put x.f1 (wrap64 (a.tdiv b))))
  else if x.f0 = 6 then askR x 1 x.f4 s
  else if x.f0 = 7 then .next (s.tell ⟨2, x.f4, 0, a⟩)
  else if x.f0 = 8 then askR x 3 x.f4 s
  else if x.f0 = 9 then .next (s.tell ⟨4, x.f4, 0, a⟩)
  else if x.f0 = 10 ∨ x.f0 = 11 then askR x 5 x.f4 s
  else if x.f0 = 12 then
    match s.ans with
    | [] => .done s.acts 4
    | o :: ts_ => if o = a then .next ⟨s.temps, ts_, s.acts ++ [⟨5, x.f4, o, b⟩]⟩ else .jump ⟨s.temps, ts_, s.acts ++ [⟨3, x.f4, o, 0⟩]⟩
  else if x.f0 = 13 then (if a < 0 ∨ x.f5 ≤ a then .done s.acts 3 else askR x 1 (x.f4 + a) s)
  else if x.f0 = 14 then (if a < 0 ∨ x.f5 ≤ a then .done s.acts 3 else .next (s.tell ⟨2, x.f4 + a, 0, b⟩))
  else if x.f0 = 15 then .next (s.tell ⟨6, 0, 0, a⟩)
  else if x.f0 = 16 then (if a < b then .next s else .jump s)
  else if x.f0 = 17 then (if a = b then .next s else .jump s)
  else .done s.acts 1
def runC (code : List S39) : Nat → Int → RunSt → List S44 × Int
  | 0, _, s => (s.acts, 0)
  | k + 1, i, s =>
    match stepP (rd_T39 code i) s with
    | .done a st => (a, st)
    | .next s' => runC code k (i + 1) s'
    | .jump s' => runC code k (rd_T39 code i).f7 s'
def runSt0 (answers : List Int) : RunSt := ⟨List.replicate 400 0, answers, []⟩
theorem runSt0_len (answers : List Int) : (runSt0 answers).temps.length = 400 := List.length_replicate
def tree_Run.f (code : List S39) (l : List S80) (answers : List Int) : Option (List S44 × Int) :=
  if rightB code l = true then some (runC code code.length 0 (runSt0 answers)) else some ([], 0)
end Go.Proofs.Ytaoefdbhfhcplaa.Q
