/- The contract of fold.grow. -/
import Derived.Test.YtaoefdbhfhcplaaGrow1
import Derived.Test.YtaoefdbhfhcplaaGrow2
import Derived.Test.YtaoefdbhfhcplaaGrow3
namespace Go.Proofs.Ytaoefdbhfhcplaa.Q
open Go.RowKit Go.Proofs.YtaoefdbhfhcplaaW.PrintWords Go.Proofs.YtaoefdbhfhcplaaW.PrintLast Go.Proofs.YtaoefdbhfhcplaaW.PrintMore Go.Proofs.Ytaoefdbhfhcplaa.IM
set_option linter.unusedVariables false
set_option linter.unusedSimpArgs false

theorem grow_step (w0 : World) (A : Option Addr) (c : Nat) (code : List S39) (l : List S80) (hg : Good code l) (hC : Kd.C k39 w0 A code.length code) (k : Nat)
    (ih : ∀ (i bk m : Nat) (known : Int → Option Int) (w : World), i < code.length → code.length - i ≤ k → m ≤ i → Below w0.heap.size w0 w → IMap Try.prog 3 2 w bk m known → w0.heap.size ≤ bk →
      Calls Try.prog 17 #[.slice A code.length c, .int .i64 i, .map (some bk)] w (GrowPost w bk (growT code k i known)))
    (i bk m : Nat) (known : Int → Option Int) (w : World) (hi : i < code.length) (hk : code.length - i ≤ k + 1) (hm : m ≤ i) (hB : Below w0.heap.size w0 w) (hM : IMap Try.prog 3 2 w bk m known) (hbk : w0.heap.size ≤ bk) :
    Calls Try.prog 17 #[.slice A code.length c, .int .i64 i, .map (some bk)] w (GrowPost w bk (growT code (k + 1) i known)) := by
  have go := fun h => grow_stepo w0 A c code l hg hC k ih i bk m known w hi hk hm hB hM hbk h
  by_cases h18 : (rd_T39 code i).f0 = 18
  · exact grow_step18 w0 A c code l hg hC k ih i bk m known w hi hk hm hB hM hbk h18
  by_cases h16 : (rd_T39 code i).f0 = 16
  · exact grow_step16 w0 A c code l hg hC k ih i bk m known w hi hk hm hB hM hbk h16
  by_cases h17 : (rd_T39 code i).f0 = 17
  · exact grow_step17 w0 A c code l hg hC k ih i bk m known w hi hk hm hB hM hbk h17
  by_cases h2 : (rd_T39 code i).f0 = 2
  · exact grow_step2 w0 A c code l hg hC k ih i bk m known w hi hk hm hB hM hbk h2
  by_cases h3 : (rd_T39 code i).f0 = 3
  · exact grow_step3 w0 A c code l hg hC k ih i bk m known w hi hk hm hB hM hbk h3
  by_cases h4 : (rd_T39 code i).f0 = 4
  · exact grow_step4 w0 A c code l hg hC k ih i bk m known w hi hk hm hB hM hbk h4
  by_cases h5 : (rd_T39 code i).f0 = 5
  · exact grow_step5 w0 A c code l hg hC k ih i bk m known w hi hk hm hB hM hbk h5
  exact go ⟨h18, h16, h17, h2, h3, h4, h5⟩
/-- The contract of grow. -/
theorem grow_c (w0 : World) (A : Option Addr) (c : Nat) (code : List S39) (l : List S80) (hg : Good code l) (hC : Kd.C k39 w0 A code.length code) : ∀ (k i bk m : Nat) (known : Int → Option Int) (w : World), i < code.length → code.length - i ≤ k → m ≤ i → Below w0.heap.size w0 w →
    IMap Try.prog 3 2 w bk m known → w0.heap.size ≤ bk →
      Calls Try.prog 17 #[.slice A code.length c, .int .i64 i, .map (some bk)] w (GrowPost w bk (growT code k i known)) := by
  intro k
  induction k with
  | zero => intro i bk m known w hi hk; omega
  | succ k ih => intro i bk m known w hi hk hm hB hM hbk; exact grow_step w0 A c code l hg hC k ih i bk m known w hi hk hm hB hM hbk
end Go.Proofs.Ytaoefdbhfhcplaa.Q
