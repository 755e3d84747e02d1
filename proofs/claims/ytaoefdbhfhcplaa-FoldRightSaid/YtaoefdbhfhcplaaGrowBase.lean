/- The contract of fold.grow: it makes the tree that growT tells. -/
import Derived.Test.YtaoefdbhfhcplaaFoldHeap
import Derived.Test.YtaoefdbhfhcplaaFoldGrow
namespace Go.Proofs.Ytaoefdbhfhcplaa.Q
open Go.RowKit Go.Proofs.YtaoefdbhfhcplaaW.PrintWords Go.Proofs.YtaoefdbhfhcplaaW.PrintLast Go.Proofs.YtaoefdbhfhcplaaW.PrintMore Go.Proofs.Ytaoefdbhfhcplaa.IM
set_option linter.unusedVariables false
set_option linter.unusedSimpArgs false

theorem zero_i64 (w : World) : (zeroValue 2).run Try.prog w = .ok (.int .i64 0) w := by kernel_rfl
/-- A piece's box. -/
def BoxAt (w : World) (g : Nat) (x : S39) : Prop := w.heap[g]? = some (.cells #[.int .i64 x.f0, .int .i64 x.f1, .int .i64 x.f2, .int .i64 x.f3, .int .i64 x.f4, .int .i64 x.f5, .int .i64 x.f6, .int .i64 x.f7] 39 (0, 0))
/-- What a call of grow leaves. -/
def GrowPost (w : World) (bk : Nat) (t : FT) (e : Ending) (w' : World) : Prop :=
  ∃ p bs, e = .returned (.pointer p) ∧ FTAt w' t (.pointer p) bs ∧ bs.Nodup ∧ (∀ b ∈ bs, w.heap.size ≤ b) ∧ Ch (fun k => k = bk) w w'

/-- A piece is laid over another one. -/
theorem box_all {W : World} {g : Nat} {x : S39} (h : BoxAt W g x) (a0 a1 a2 a3 a4 a5 a6 a7 : Int) :
    BoxAt ((((((((W.setCell ⟨g, 0, none⟩ (.int .i64 a0)).setCell ⟨g, 1, none⟩ (.int .i64 a1)).setCell ⟨g, 2, none⟩ (.int .i64 a2)).setCell ⟨g, 3, none⟩ (.int .i64 a3)).setCell ⟨g, 4, none⟩ (.int .i64 a4)).setCell ⟨g, 5, none⟩ (.int .i64 a5)).setCell ⟨g, 6, none⟩ (.int .i64 a6)).setCell ⟨g, 7, none⟩ (.int .i64 a7)) g ⟨a0, a1, a2, a3, a4, a5, a6, a7⟩ ∧
    Ch (fun k => k = g) W ((((((((W.setCell ⟨g, 0, none⟩ (.int .i64 a0)).setCell ⟨g, 1, none⟩ (.int .i64 a1)).setCell ⟨g, 2, none⟩ (.int .i64 a2)).setCell ⟨g, 3, none⟩ (.int .i64 a3)).setCell ⟨g, 4, none⟩ (.int .i64 a4)).setCell ⟨g, 5, none⟩ (.int .i64 a5)).setCell ⟨g, 6, none⟩ (.int .i64 a6)).setCell ⟨g, 7, none⟩ (.int .i64 a7)) := by
  refine ⟨?_, (((((((((Ch.refl (fun k => k = g) W).setCell _ _ fun _ => rfl).setCell _ _ fun _ => rfl).setCell _ _ fun _ => rfl).setCell _ _ fun _ => rfl).setCell _ _ fun _ => rfl).setCell _ _ fun _ => rfl).setCell _ _ fun _ => rfl).setCell _ _ fun _ => rfl)⟩
  have h0 := blk_set h 0 (.int .i64 a0)
  have h1 := blk_set h0 1 (.int .i64 a1)
  have h2 := blk_set h1 2 (.int .i64 a2)
  have h3 := blk_set h2 3 (.int .i64 a3)
  have h4 := blk_set h3 4 (.int .i64 a4)
  have h5 := blk_set h4 5 (.int .i64 a5)
  have h6 := blk_set h5 6 (.int .i64 a6)
  have h7 := blk_set h6 7 (.int .i64 a7)
  unfold BoxAt
  simpa using h7

theorem box_relN {W : World} {g : Nat} {x : S39} (h : BoxAt W g x) (n : Nat) (a0 a1 a2 a3 a4 a5 a6 a7 : Int) :
    Aside0 (BoxAt (((((((((W.drewN n).setCell ⟨g, 0, none⟩ (.int .i64 a0)).setCell ⟨g, 1, none⟩ (.int .i64 a1)).setCell ⟨g, 2, none⟩ (.int .i64 a2)).setCell ⟨g, 3, none⟩ (.int .i64 a3)).setCell ⟨g, 4, none⟩ (.int .i64 a4)).setCell ⟨g, 5, none⟩ (.int .i64 a5)).setCell ⟨g, 6, none⟩ (.int .i64 a6)).setCell ⟨g, 7, none⟩ (.int .i64 a7)) g ⟨a0, a1, a2, a3, a4, a5, a6, a7⟩) ∧ Aside0 (Ch (fun k => k = g) W (((((((((W.drewN n).setCell ⟨g, 0, none⟩ (.int .i64 a0)).setCell ⟨g, 1, none⟩ (.int .i64 a1)).setCell ⟨g, 2, none⟩ (.int .i64 a2)).setCell ⟨g, 3, none⟩ (.int .i64 a3)).setCell ⟨g, 4, none⟩ (.int .i64 a4)).setCell ⟨g, 5, none⟩ (.int .i64 a5)).setCell ⟨g, 6, none⟩ (.int .i64 a6)).setCell ⟨g, 7, none⟩ (.int .i64 a7))) :=
  have hb := box_all (show BoxAt (W.drewN n) g x from blk_drewN h n) a0 a1 a2 a3 a4 a5 a6 a7
  ⟨⟨hb.1⟩, ⟨Ch.trans ((Ch.refl _ W).drewN n) hb.2⟩⟩
theorem box_rel1 {W : World} {g : Nat} {x : S39} (h : BoxAt W g x) (a0 a1 a2 a3 a4 a5 a6 a7 : Int) :
    Aside0 (BoxAt ((((((((W.drew.setCell ⟨g, 0, none⟩ (.int .i64 a0)).setCell ⟨g, 1, none⟩ (.int .i64 a1)).setCell ⟨g, 2, none⟩ (.int .i64 a2)).setCell ⟨g, 3, none⟩ (.int .i64 a3)).setCell ⟨g, 4, none⟩ (.int .i64 a4)).setCell ⟨g, 5, none⟩ (.int .i64 a5)).setCell ⟨g, 6, none⟩ (.int .i64 a6)).setCell ⟨g, 7, none⟩ (.int .i64 a7)) g ⟨a0, a1, a2, a3, a4, a5, a6, a7⟩) ∧ Aside0 (Ch (fun k => k = g) W ((((((((W.drew.setCell ⟨g, 0, none⟩ (.int .i64 a0)).setCell ⟨g, 1, none⟩ (.int .i64 a1)).setCell ⟨g, 2, none⟩ (.int .i64 a2)).setCell ⟨g, 3, none⟩ (.int .i64 a3)).setCell ⟨g, 4, none⟩ (.int .i64 a4)).setCell ⟨g, 5, none⟩ (.int .i64 a5)).setCell ⟨g, 6, none⟩ (.int .i64 a6)).setCell ⟨g, 7, none⟩ (.int .i64 a7))) :=
  have hb := box_all (show BoxAt W.drew g x from blk_drew h) a0 a1 a2 a3 a4 a5 a6 a7
  ⟨⟨hb.1⟩, ⟨Ch.trans ((Ch.refl _ W).drew) hb.2⟩⟩
end Go.Proofs.Ytaoefdbhfhcplaa.Q
