/-
  No cell of these rows narrows 'for every input' (looked for: loops, veiled, ifaces, maps, wideKeys, modest, calm, conditions, laid).
  DERIVED. THE GIVEN ROWS OF THIS SEAT. 4 by the template 'for every input the law returns true; each argument reads behind the call as it read before'; 0 by the template 'total and deterministic' (their statements: YtaoefdbhfhcplaaTotals.lean).
  GIVEN WITH THE SEED: the statements are not yours to turn. If you find one false, say at which input.
  Laid BY PROGRAM, IN A SANDBOX (cutbox-rows.mjs): the forced cells as the released guide's own fill.sh prints them over the translation 27a113e4d4f80d15… (all of the seat's roots in one cut). By AI agents, Wed Nov 11 2026. No macro, syntax, notation, axiom, sorry.
-/
import Derived.Test.YtaoefdbhfhcplaaChecked
import GoSem.Claim
import GoSem.ClaimJoined
import GoSem.ClaimMapViews
import Derived.JoinedTies
import Derived.KernelRfl
namespace Go.Proofs.Ytaoefdbhfhcplaa
/- THE CELL 'sum', in the pinned program and in every row, IS THE sha256 OF THE DUMP (.gsa) THAT YtaoefdbhfhcplaaProg.lean LOADS. Nothing in Lean hashes anything: it is a label: what it is worth is what the hold of that sum in a sandbox is worth. -/
noncomputable def Try.pinned : Pinned := { name := "ytaoefdbhfhcplaa", sum := "27a113e4d4f80d15a29685730b6d1eba43f17911c9099d05577cba24c8e88378", checked := Try.checked }
namespace Rows
def none {H : Type} : Left H := { results := [], args := [] }

/-- 'selvagelaw12.FoldSame': WHATEVER THE INPUT: true; the input reads as it did. -/
def foldSameSpec : ChangeSpec := { name := "foldSame", fn := fun _ => fun
  | [d1, d2, d3] => { results := [.lit (.bool true)], args := [d1, d2, d3] }
  | _ => none }
def foldSameRow : OpenClaim := { program := "ytaoefdbhfhcplaa", sum := "27a113e4d4f80d15a29685730b6d1eba43f17911c9099d05577cba24c8e88378", func := "selvage/selvagelaw12.FoldSame", spec := "foldSame", inPlace := ["maps.clone"], unfollowed := true, recurses := true, apart := false }
def FoldSameSaid : Prop := foldSameRow.holds Try.pinned (OpenSpec.ofChange foldSameSpec)

/-- ITS FALSE NEIGHBOUR: 'it returns false'. Refute it at one input. -/
def foldSameWrong : ChangeSpec := { name := "foldSame", fn := fun _ => fun
  | [d1, d2, d3] => { results := [.lit (.bool false)], args := [d1, d2, d3] }
  | _ => none }
def FoldSameWrongFalsely : Prop := foldSameRow.holds Try.pinned (OpenSpec.ofChange foldSameWrong)

/-- 'selvagelaw12.FoldRight': WHATEVER THE INPUT: true; the input reads as it did. -/
def foldRightSpec : ChangeSpec := { name := "foldRight", fn := fun _ => fun
  | [d1, d2] => { results := [.lit (.bool true)], args := [d1, d2] }
  | _ => none }
def foldRightRow : OpenClaim := { program := "ytaoefdbhfhcplaa", sum := "27a113e4d4f80d15a29685730b6d1eba43f17911c9099d05577cba24c8e88378", func := "selvage/selvagelaw12.FoldRight", spec := "foldRight", inPlace := ["maps.clone"], unfollowed := true, recurses := true, apart := false }
def FoldRightSaid : Prop := foldRightRow.holds Try.pinned (OpenSpec.ofChange foldRightSpec)

/-- ITS FALSE NEIGHBOUR: 'it returns false'. Refute it at one input. -/
def foldRightWrong : ChangeSpec := { name := "foldRight", fn := fun _ => fun
  | [d1, d2] => { results := [.lit (.bool false)], args := [d1, d2] }
  | _ => none }
def FoldRightWrongFalsely : Prop := foldRightRow.holds Try.pinned (OpenSpec.ofChange foldRightWrong)

/-- 'selvagelaw12.FoldLeast': WHATEVER THE INPUT: true; the input reads as it did. -/
def foldLeastSpec : ChangeSpec := { name := "foldLeast", fn := fun _ => fun
  | [d1, d2] => { results := [.lit (.bool true)], args := [d1, d2] }
  | _ => none }
def foldLeastRow : OpenClaim := { program := "ytaoefdbhfhcplaa", sum := "27a113e4d4f80d15a29685730b6d1eba43f17911c9099d05577cba24c8e88378", func := "selvage/selvagelaw12.FoldLeast", spec := "foldLeast", inPlace := ["maps.clone"], unfollowed := true, recurses := true, apart := false }
def FoldLeastSaid : Prop := foldLeastRow.holds Try.pinned (OpenSpec.ofChange foldLeastSpec)

/-- ITS FALSE NEIGHBOUR: 'it returns false'. Refute it at one input. -/
def foldLeastWrong : ChangeSpec := { name := "foldLeast", fn := fun _ => fun
  | [d1, d2] => { results := [.lit (.bool false)], args := [d1, d2] }
  | _ => none }
def FoldLeastWrongFalsely : Prop := foldLeastRow.holds Try.pinned (OpenSpec.ofChange foldLeastWrong)

/-- 'selvagelaw12.FoldTwice': WHATEVER THE INPUT: true; the input reads as it did. -/
def foldTwiceSpec : ChangeSpec := { name := "foldTwice", fn := fun _ => fun
  | [d1, d2, d3] => { results := [.lit (.bool true)], args := [d1, d2, d3] }
  | _ => none }
def foldTwiceRow : OpenClaim := { program := "ytaoefdbhfhcplaa", sum := "27a113e4d4f80d15a29685730b6d1eba43f17911c9099d05577cba24c8e88378", func := "selvage/selvagelaw12.FoldTwice", spec := "foldTwice", inPlace := ["maps.clone"], unfollowed := true, recurses := true, apart := false }
def FoldTwiceSaid : Prop := foldTwiceRow.holds Try.pinned (OpenSpec.ofChange foldTwiceSpec)

/-- ITS FALSE NEIGHBOUR: 'it returns false'. Refute it at one input. -/
def foldTwiceWrong : ChangeSpec := { name := "foldTwice", fn := fun _ => fun
  | [d1, d2, d3] => { results := [.lit (.bool false)], args := [d1, d2, d3] }
  | _ => none }
def FoldTwiceWrongFalsely : Prop := foldTwiceRow.holds Try.pinned (OpenSpec.ofChange foldTwiceWrong)

/- THE SECOND FORM. 'bulk': how many values and letters a reading holds, each counted each time it is reached (what is shared counts as often as it is met; a slice's spare places count too). A statement '..UptoSaid' is the law's where the arguments, and the package variables that the reading takes, are together of bulk at most 1048576: NARROWER than '..Said'. Prove '..Said' where nothing that the law and all that it calls make is longer than what came in: it says more and counts as full. Else prove '..UptoSaid'. A law counts once. -/
mutual
def uptoBulk {H : Type} : DataW H → Nat
  | .lit (.string bytes) => bytes.length + 1
  | .lit _ => 1
  | .nil => 1
  | .ptr d => uptoBulk d + 1
  | .slice elems spare => uptoBulkAll elems + uptoBulkAll spare + 1
  | .agg parts => uptoBulkAll parts + 1
  | .iface _ d => uptoBulk d + 1
  | .map entries => uptoBulkEntries entries + 1
  | .held _ => 1
def uptoBulkAll {H : Type} : List (DataW H) → Nat
  | [] => 0
  | d :: r => uptoBulk d + uptoBulkAll r
def uptoBulkEntries {H : Type} : List (Lit × DataW H) → Nat
  | [] => 0
  | x :: r => uptoBulkEntry x + uptoBulkEntries r
def uptoBulkEntry {H : Type} : Lit × DataW H → Nat
  | (.string bytes, d) => bytes.length + uptoBulk d + 1
  | (_, d) => uptoBulk d + 1
 end
def uptoSmall : (H : Type) → List (DataW H) → Bool := fun _ ds => decide (uptoBulkAll ds ≤ 1048576)
def OpenSpec.upto (s : _root_.Go.ChangeSpec) : _root_.Go.OpenSpec := { _root_.Go.OpenSpec.ofChange s with cond := some uptoSmall }

/-- 'selvagelaw12.FoldSame', WHERE WHAT IT READS IS OF BULK AT MOST 1048576: true; the input reads as it did. -/
def foldSameUptoRow : OpenClaim := { program := "ytaoefdbhfhcplaa", sum := "27a113e4d4f80d15a29685730b6d1eba43f17911c9099d05577cba24c8e88378", func := "selvage/selvagelaw12.FoldSame", spec := "foldSame", inPlace := ["maps.clone"], unfollowed := true, recurses := true, apart := false, narrowed := true }
def FoldSameUptoSaid : Prop := foldSameUptoRow.holds Try.pinned (OpenSpec.upto foldSameSpec)

/-- 'selvagelaw12.FoldRight', WHERE WHAT IT READS IS OF BULK AT MOST 1048576: true; the input reads as it did. -/
def foldRightUptoRow : OpenClaim := { program := "ytaoefdbhfhcplaa", sum := "27a113e4d4f80d15a29685730b6d1eba43f17911c9099d05577cba24c8e88378", func := "selvage/selvagelaw12.FoldRight", spec := "foldRight", inPlace := ["maps.clone"], unfollowed := true, recurses := true, apart := false, narrowed := true }
def FoldRightUptoSaid : Prop := foldRightUptoRow.holds Try.pinned (OpenSpec.upto foldRightSpec)

/-- 'selvagelaw12.FoldLeast', WHERE WHAT IT READS IS OF BULK AT MOST 1048576: true; the input reads as it did. -/
def foldLeastUptoRow : OpenClaim := { program := "ytaoefdbhfhcplaa", sum := "27a113e4d4f80d15a29685730b6d1eba43f17911c9099d05577cba24c8e88378", func := "selvage/selvagelaw12.FoldLeast", spec := "foldLeast", inPlace := ["maps.clone"], unfollowed := true, recurses := true, apart := false, narrowed := true }
def FoldLeastUptoSaid : Prop := foldLeastUptoRow.holds Try.pinned (OpenSpec.upto foldLeastSpec)

/-- 'selvagelaw12.FoldTwice', WHERE WHAT IT READS IS OF BULK AT MOST 1048576: true; the input reads as it did. -/
def foldTwiceUptoRow : OpenClaim := { program := "ytaoefdbhfhcplaa", sum := "27a113e4d4f80d15a29685730b6d1eba43f17911c9099d05577cba24c8e88378", func := "selvage/selvagelaw12.FoldTwice", spec := "foldTwice", inPlace := ["maps.clone"], unfollowed := true, recurses := true, apart := false, narrowed := true }
def FoldTwiceUptoSaid : Prop := foldTwiceUptoRow.holds Try.pinned (OpenSpec.upto foldTwiceSpec)

end Rows
end Go.Proofs.Ytaoefdbhfhcplaa
