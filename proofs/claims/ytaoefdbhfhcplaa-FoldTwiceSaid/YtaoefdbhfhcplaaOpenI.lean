/- How a slice of int64 opens. -/
import Derived.Test.YtaoefdbhfhcplaaOpen
namespace Go.Proofs.Ytaoefdbhfhcplaa.Q
open Go.RowKit Go.Proofs.YtaoefdbhfhcplaaW.PrintWords Go.Proofs.YtaoefdbhfhcplaaW.PrintLast Go.Proofs.YtaoefdbhfhcplaaW.PrintMore
open Go.ChangeShapes Go.WideShapes
theorem i64_open {H : Type} {enc : TypeId × Value → H} {W : World} {base : Nat} {spare : Nat → Bool} {held : Bool} (fuel : Nat) (cs : List Value) (y : DataW H × List MemPlace) (h : DataW.trod enc Try.prog W base spare held fuel 2 cs = some y) : ∃ v : Int, (Kd.int .i64).K W v cs := by
  obtain ⟨a, ha, _⟩ := DataW.trod_int Try.underlying2 h
  exact ⟨a, ha⟩
end Go.Proofs.Ytaoefdbhfhcplaa.Q
