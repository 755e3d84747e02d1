/- The contracts of the runner's answer, write, cases, ask. -/
import Derived.Test.YtaoefdbhfhcplaaFoldHeap
import Derived.Test.YtaoefdbhfhcplaaRunModel
import Derived.Deep.RegionLaw
import Derived.Laws.NewBlocks
import Derived.Deep.RegionHeldLaw
namespace Go.Proofs.Ytaoefdbhfhcplaa.Q
open Go.RowKit Go.Proofs.YtaoefdbhfhcplaaW.PrintWords Go.Proofs.YtaoefdbhfhcplaaW.PrintLast Go.Proofs.YtaoefdbhfhcplaaW.PrintMore Go.Proofs.Ytaoefdbhfhcplaa.IM
set_option linter.unusedVariables false
set_option linter.unusedSimpArgs false

def rCells (s : RunSt) (av kv : Value) : List Value := s.temps.map (Value.int .i64) ++ [av, kv]
/-- A runner stands at g. -/
structure RunAt (w0 w : World) (g : Nat) (s : RunSt) (av kv : Value) : Prop where
  len : s.temps.length = 400
  cell : w.heap[g]? = some (.cells (rCells s av kv).toArray 60 (0, 0))
  ans : ∃ A c, av = .slice A s.ans.length c ∧ s.ans.length ≤ c ∧ Kd.C (Kd.int .i64) w0 A s.ans.length s.ans
  acts : Kd.R k44 44 w w0.heap.size (fun k => k ≠ g) kv s.acts
  bel : Below w0.heap.size w0 w
  lo : w0.heap.size ≤ g
theorem rc_len (s : RunSt) (av kv : Value) (h : s.temps.length = 400) : (rCells s av kv).length = 402 := by simp [rCells, h]
theorem rc_ans (s : RunSt) (av kv : Value) (h : s.temps.length = 400) : (rCells s av kv)[400]? = some av := by
  unfold rCells; rw [List.getElem?_append_right (by simp [h])]; simp [h]
theorem rc_act (s : RunSt) (av kv : Value) (h : s.temps.length = 400) : (rCells s av kv)[401]? = some kv := by
  unfold rCells; rw [List.getElem?_append_right (by simp [h])]; simp [h]
theorem rc_temp (s : RunSt) (av kv : Value) (h : s.temps.length = 400) (t : Int) (h0 : 0 ≤ t) (h1 : t < 400) : (rCells s av kv)[t.toNat]? = some (.int .i64 (rd s.temps t)) := by
  have hl : t.toNat < s.temps.length := by omega
  unfold rCells; rw [List.getElem?_append_left (by simp; omega)]
  simp [rd, List.getElem?_eq_getElem hl]
theorem rc_set_ans (s : RunSt) (av kv av' : Value) (h : s.temps.length = 400) : (rCells s av kv).set 400 av' = rCells s av' kv := by
  unfold rCells; rw [List.set_append_right _ _ (by simp [h])]; simp [h]
theorem rc_set_act (s : RunSt) (av kv kv' : Value) (h : s.temps.length = 400) : (rCells s av kv).set 401 kv' = rCells s av kv' := by
  unfold rCells; rw [List.set_append_right _ _ (by simp [h])]; simp [h]
theorem rc_set_temp (s : RunSt) (av kv : Value) (h : s.temps.length = 400) (t : Int) (h0 : 0 ≤ t) (h1 : t < 400) (x : Int) : (rCells s av kv).set t.toNat (.int .i64 x) = rCells (s.put t x) av kv := by
  unfold rCells RunSt.put; rw [List.set_append_left _ _ (by simp; omega)]; simp [List.map_set]
section
variable {w0 w : World} {g : Nat} {s : RunSt} {av kv : Value}
theorem RunAt.cA (h : RunAt w0 w g s av kv) : w.cell? ⟨g, 400, none⟩ = some av := by
  have := blk_cell h.cell 400; rw [List.getElem?_toArray, rc_ans s av kv h.len] at this; exact this
theorem RunAt.cK (h : RunAt w0 w g s av kv) : w.cell? ⟨g, 401, none⟩ = some kv := by
  have := blk_cell h.cell 401; rw [List.getElem?_toArray, rc_act s av kv h.len] at this; exact this
theorem RunAt.cT (h : RunAt w0 w g s av kv) (t : Int) (h0 : 0 ≤ t) (h1 : t < 400) : w.cell? ⟨g, t.toNat, none⟩ = some (.int .i64 (rd s.temps t)) := by
  have := blk_cell h.cell t.toNat; rw [List.getElem?_toArray, rc_temp s av kv h.len t h0 h1] at this; exact this
theorem RunAt.fz (h : RunAt w0 w g s av kv) (i : Nat) : w.frozen? ⟨g, i, none⟩ = false := blk_frozen h.cell _
theorem RunAt.lt (h : RunAt w0 w g s av kv) : g < w.heap.size := blk_lt h.cell
/-- The world grows beside. -/
theorem RunAt.below (h : RunAt w0 w g s av kv) {w' : World} (hb : Below w.heap.size w w') : RunAt w0 w' g s av kv :=
  ⟨h.len, blk_below h.cell hb, h.ans, Kd.R_below h.acts hb, below_then h.bel h.bel.size hb, h.lo⟩
theorem RunAt.set (h : RunAt w0 w g s av kv) (i : Nat) (x : Value) (s' : RunSt) (av' kv' : Value) (hl : s'.temps.length = 400) (hc : (rCells s av kv).set i x = rCells s' av' kv')
    (ha : ∃ A c, av' = .slice A s'.ans.length c ∧ s'.ans.length ≤ c ∧ Kd.C (Kd.int .i64) w0 A s'.ans.length s'.ans) (hk : kv' = kv) (hs : s'.acts = s.acts) : RunAt w0 (w.setCell ⟨g, i, none⟩ x) g s' av' kv' := by
  have hset : Ch (fun k => k = g) w (w.setCell ⟨g, i, none⟩ x) := (Ch.refl _ _).setCell _ _ (fun _ => rfl)
  refine ⟨hl, ?_, ha, ?_, hset.below h.bel (fun k hk => by have hk : k = g := hk; have := h.lo; omega), h.lo⟩
  · have := blk_set h.cell i x
    rw [List.setIfInBounds_toArray, hc] at this; exact this
  · subst hk; rw [hs]
    exact Kd.R_far (p := ⟨g, i, none⟩) h.acts (fun _ hk => hk) x
end
/-- The runner's blocks alone have changed. -/
structure Keeps (w w' : World) : Prop where
  size : w.heap.size ≤ w'.heap.size
  kept : ∀ (k : Nat) (cs : Array Value) (t : TypeId), t ≠ 60 → t ≠ 44 → w.heap[k]? = some (.cells cs t (0, 0)) → w'.heap[k]? = some (.cells cs t (0, 0))
theorem Keeps.refl (w : World) : Keeps w w := ⟨Nat.le_refl _, fun _ _ _ _ _ h => h⟩
theorem Keeps.trans {a b c : World} (h : Keeps a b) (k : Keeps b c) : Keeps a c := ⟨Nat.le_trans h.size k.size, fun i cs t h1 h2 h3 => k.kept i cs t h1 h2 (h.kept i cs t h1 h2 h3)⟩
theorem Keeps.below {w w' : World} (h : Below w.heap.size w w') : Keeps w w' := ⟨h.size, fun _ _ _ _ _ k => blk_below k h⟩
theorem Keeps.set {w : World} {g : Nat} {cs : Array Value} (h : w.heap[g]? = some (.cells cs 60 (0, 0))) (i : Nat) (x : Value) : Keeps w (w.setCell ⟨g, i, none⟩ x) := by
  have hset : Ch (fun k => k = g) w (w.setCell ⟨g, i, none⟩ x) := (Ch.refl _ _).setCell _ _ (fun _ => rfl)
  refine ⟨hset.size, fun k c t h1 h2 h3 => Ch.blk hset h3 (fun e => ?_)⟩
  have e : k = g := e
  subst e
  rw [h] at h3
  injection h3 with h3
  injection h3 with _ h3
  exact h1 h3.symm

theorem add_zero' (a : Addr) : a.add 0 = a := by cases a; rfl
def AnsPost (w0 w : World) (g : Nat) (s : RunSt) (kv : Value) (e : Ending) (w' : World) : Prop :=
  match s.ans with
  | [] => e = .returned (.tuple #[.int .i64 0, .bool false]) ∧ w' = w
  | o :: rest => e = .returned (.tuple #[.int .i64 o, .bool true]) ∧ (∃ av', RunAt w0 w' g ⟨s.temps, rest, s.acts⟩ av' kv) ∧ Keeps w w'

set_option maxRecDepth 100000 in
set_option maxHeartbeats 2000000 in
theorem answer_c (w0 w : World) (g : Nat) (s : RunSt) (av kv : Value) (h : RunAt w0 w g s av kv) : Calls Try.prog 40 #[.pointer (some ⟨g, 0, none⟩)] w (AnsPost w0 w g s kv) := by
  have hA := h.cA
  have hF := h.fz 400
  obtain ⟨A, c, hav, hc, hC⟩ := h.ans
  have hCw := Kd.C_below hC h.bel
  have HR := Aside0.mk h
  clear h
  obtain ⟨T, AN, AC⟩ := s
  cases AN with
  | nil =>
    subst hav
    show Calls _ _ _ _ (fun e w' => e = .returned (.tuple #[.int .i64 0, .bool false]) ∧ w' = w)
    have HC := Aside0.mk hCw
    clear hCw hC hc
    go_enter Try.func40, Try.ntmps40
    go_wp2
    go_ret2
    exact ⟨rfl, rfl⟩
  | cons o rest =>
    obtain ⟨ad, hA1, hcell⟩ := Kd.at_int hCw 0 (by omega) (by simp)
    have hdr := Kd.C_drop (m := 1) hC (by simp) hc
    have HD := Aside0.mk hdr
    have HC := Aside0.mk hCw
    subst hA1
    obtain ⟨n, hn⟩ : ∃ n, n = rest.length := ⟨_, rfl⟩
    have hl : (o :: rest).length = n + 1 := by simp [hn]
    simp only [hl] at hav hc
    subst hav
    have HN := Aside0.mk hn
    clear hCw hC hdr hn hl
    simp only [rd, Int.toNat_zero, List.getD_cons_zero, add_zero'] at hcell
    show Calls _ _ _ _ (fun e w' => e = .returned (.tuple #[.int .i64 o, .bool true]) ∧ (∃ av', RunAt w0 w' g ⟨T, rest, AC⟩ av' kv) ∧ Keeps w w')
    have i1 : ((n : Int) + 1 == 0) = false := beq_eq_false_iff_ne.2 (by omega)
    by_cases hc1 : c = 1
    · subst hc1
      have HD2 := HD.out
      simp only [if_pos, List.drop_succ_cons, List.drop_zero] at HD2
      have hn0 : n = 0 := by omega
      subst hn0
      go_enter Try.func40, Try.ntmps40
      go_wp2
      go_ret2
      refine ⟨rfl, ⟨_, HR.out.set 400 _ ⟨T, rest, AC⟩ _ _ HR.out.len (rc_set_ans _ _ _ _ HR.out.len) ⟨some ad, 0, ?_, ?_, HD2⟩ rfl rfl⟩, Keeps.set HR.out.cell _ _⟩
      · show Value.slice _ _ _ = Value.slice _ rest.length _
        rw [← HN.out]
      · show rest.length ≤ _
        rw [← HN.out]; omega
    · have HD2 := HD.out
      simp only [if_neg hc1, List.drop_succ_cons, List.drop_zero, Option.map_some] at HD2
      go_enter Try.func40, Try.ntmps40
      go_wp2
      go_ret2
      refine ⟨rfl, ⟨_, HR.out.set 400 _ ⟨T, rest, AC⟩ _ _ HR.out.len (rc_set_ans _ _ _ _ HR.out.len) ⟨_, c - 1, ?_, ?_, HD2⟩ rfl rfl⟩, Keeps.set HR.out.cell _ _⟩
      · show Value.slice _ _ _ = Value.slice _ rest.length _
        rw [← HN.out]; rfl
      · show rest.length ≤ _
        rw [← HN.out]; omega

theorem info_act : (Try.prog.info? 44).map (fun i => (i.zero, i.size, i.bytes)) = some (some (.agg #[.int .i64 0, .int .i64 0, .int .i64 0, .int .i64 0]), 4, 32) := by kernel_rfl
def actCells (y : S44) : List Value := [.int .i64 y.f0, .int .i64 y.f1, .int .i64 y.f2, .int .i64 y.f3]
theorem act_new (w : World) (y : S44) (i : Nat) (u : Value) (hu : (actCells y)[i]? = some u) : (w.alloc (.cells (actCells y).toArray 44 (0, 0))).drew.cell? ((⟨w.heap.size, 0, none⟩ : Addr).add i) = some u := by
  have hb : (w.alloc (.cells (actCells y).toArray 44 (0, 0))).drew.heap[w.heap.size]? = some (.cells (actCells y).toArray 44 (0, 0)) := by
    show (w.heap.push _)[w.heap.size]? = _
    exact Array.getElem?_push_size
  have := blk_cell hb i
  rw [List.getElem?_toArray, hu] at this
  rw [add_plain]; exact this
/-- An act is appended: one step of a region that draws its order. -/
theorem act_step {ops : Array Oper} {o : Oper} {a : Act} {W : World} {K : Act → World → Prop} {Q : Exit → Act → World → Prop} (hg : o.guard = none) (s x : Operand)
    (hop : o.op = Op.call { callee := Callee.builtin Builtin.append, args := #[s, x], argTypes := #[33, 33] }) {w0 w : World} {g : Nat} {st : RunSt} {av v : Value} (hR : RunAt w0 w g st av v) (hb : Below w.heap.size w W) (y : S44) (ad : Addr)
    (hs : a.eval s = v) (hx : a.eval x = .slice (some ad) 1 1) (hc : ∀ i u, (actCells y)[i]? = some u → W.cell? (ad.add i) = some u) (hl : st.acts.length ≤ 1000)
    (hK : ∀ A1 n1 c1 v1 w1, v1 = .slice A1 n1 c1 → Aside0 (RunAt w0 (w1.setCell ⟨g, 401, none⟩ v1) g (st.tell y) av v1) → Aside0 (Keeps w w1) → Aside0 (Keeps w (w1.setCell ⟨g, 401, none⟩ v1)) → w1.cell? ⟨g, 401, none⟩ = some v → w1.frozen? ⟨g, 401, none⟩ = false → K (a.put o.dst v1) w1) :
    if Region.wanted o (yielded ops a.tmps) = true then Oper.wp Try.prog o a W K Q else K (a.put o.dst undef) W := by
  have hw : Region.wanted o (yielded ops a.tmps) = true := by simp [Region.wanted, hg]
  have hRW := hR.below hb
  refine Kd.R_append_rows_step (P := Try.prog) k44 (w0 := w0) (Rr := fun q cs => q = y ∧ cs = actCells y) w0.heap.size hw s x 33 44 (.agg #[.int .i64 0, .int .i64 0, .int .i64 0, .int .i64 0]) 32 hop Try.underlying33 info_act rfl (by decide) (by decide) v st.acts [y] (some ad) 1 1 (fun k => k ≠ g) (fun _ => False) hs hx hRW.acts ?_ ?_ (fun _ h => h.elim) (fun k hk => by have := hRW.lt; omega) hRW.bel hRW.bel.size (by omega) ?_
  · refine ⟨rfl, by decide, fun _ => ⟨ad, rfl, fun j p hj => ?_⟩⟩
    cases j with
    | zero =>
      simp only [List.getElem?_cons_zero, Option.some.injEq] at hj
      exact ⟨actCells y, rfl, ⟨hj.symm, rfl⟩, fun i u hu => by rw [Nat.zero_mul, Nat.zero_add]; exact hc i u hu⟩
    | succ j => simp at hj
  · rintro q cs ⟨rfl, rfl⟩
    exact k44_mkM _ _ _ _
  · intro v1 w1 h1 h2 h3 _
    have hne : ¬ some g = v.ownBlock := fun e => hRW.acts.1 g e.symm rfl
    have hcell : w1.heap[g]? = some (.cells (rCells st av v).toArray 60 (0, 0)) := by rw [h3.block g hRW.lt hne]; exact hRW.cell
    have hset : Ch (fun k => k = g) w1 (w1.setCell ⟨g, 401, none⟩ v1) := (Ch.refl _ _).setCell _ _ (fun _ => rfl)
    have hR1 : RunAt w0 (w1.setCell ⟨g, 401, none⟩ v1) g (st.tell y) av v1 := by
      refine ⟨hR.len, ?_, hR.ans, Kd.R_far (p := ⟨g, 401, none⟩) h1 (fun _ hk => hk) v1, hset.below h2 (fun k hk => by have hk : k = g := hk; have := hR.lo; omega), hR.lo⟩
      have := blk_set hcell 401 v1
      rw [List.setIfInBounds_toArray, rc_set_act st av v v1 hR.len] at this
      exact this
    obtain ⟨A1, c1, hv1⟩ := Kd.R_slice h1
    have hk1 : Keeps w w1 := (Keeps.below hb).trans ⟨h3.size, fun k cs t e1 e2 e3 => by
      rw [h3.block k (blk_lt e3) (fun e => ?_)]
      · exact e3
      · obtain ⟨inner, ho⟩ := Kd.R_own hRW.acts
        obtain ⟨c2, hc2⟩ := own_typed ho k e.symm
        rw [e3] at hc2
        injection hc2 with hc2
        injection hc2 with _ hc2
        exact e2 hc2⟩
    refine hK A1 _ c1 v1 w1 hv1 ⟨hR1⟩ ⟨hk1⟩ ⟨hk1.trans (Keeps.set hcell _ _)⟩ ?_ (blk_frozen hcell _)
    have := blk_cell hcell 401
    rw [List.getElem?_toArray, rc_act st av v hR.len] at this
    exact this

set_option maxRecDepth 100000 in
set_option maxHeartbeats 2000000 in
theorem write_c (w0 w : World) (g gp : Nat) (s : RunSt) (av kv : Value) (h : RunAt w0 w g s av kv) (hp : w.heap[gp]? = some (.cells #[.pointer (some ⟨g, 0, none⟩)] 57 (0, 0))) (hl : s.acts.length ≤ 1000) (kind loc v : Int) :
    Calls Try.prog 36 #[.int .i64 kind, .int .i64 loc, .int .i64 v, .pointer (some ⟨gp, 0, none⟩)] w fun e w' => e = .returned (.tuple #[]) ∧ (∃ kv', RunAt w0 w' g (s.tell ⟨kind, loc, 0, v⟩) av kv') ∧ Keeps w w' := by
  have hK := h.cK
  have hF := h.fz 401
  have hcp := blk_cell hp 0
  simp only [List.getElem?_toArray, List.getElem?_cons_zero] at hcp
  obtain ⟨A, c, hkv⟩ := Kd.R_slice h.acts
  subst hkv
  have hgn : g < w.heap.size := h.lt
  have hgn2 : g ≠ w.heap.size := by omega
  have hpn : gp < w.heap.size := blk_lt hp
  have hpn2 : gp ≠ w.heap.size := by omega
  have HR := Aside0.mk h
  have HP := Aside0.mk hp
  clear h hp
  go_enter Try.func36, Try.ntmps36
  go_region_law ((refine act_step rfl (.tmp 11) (.tmp 16) rfl HR.out ?hb ⟨kind, loc, 0, v⟩ ⟨w.heap.size, 0, none⟩ ?hs ?hx ?hc hl ?_; (case hb => repeat (first | exact Below.refl _ _ | apply below_alloc | apply pw_below_drewN | apply below_drew1)); (case hs => simp [Act.eval, Act.put]); (case hx => simp [Act.eval, Act.put]); (case hc => exact act_new w ⟨kind, loc, 0, v⟩); rintro A1 n1 c1 _ w1 rfl HR1 HK0 HK1 hc1 hf1; have hcp1 := blk_cell (HK0.out.kept gp _ _ (by decide) (by decide) HP.out) 0; simp only [List.getElem?_toArray, List.getElem?_cons_zero] at hcp1))
  all_goals
    go_end0
    exact ⟨rfl, ⟨_, HR1.out⟩, HK1.out⟩
end Go.Proofs.Ytaoefdbhfhcplaa.Q

namespace Go.Proofs.Ytaoefdbhfhcplaa.Q
open Go.RowKit Go.Proofs.YtaoefdbhfhcplaaW.PrintWords Go.Proofs.YtaoefdbhfhcplaaW.PrintLast Go.Proofs.YtaoefdbhfhcplaaW.PrintMore Go.Proofs.Ytaoefdbhfhcplaa.IM
set_option linter.unusedVariables false
set_option linter.unusedSimpArgs false

def StepPost (w0 w : World) (g : Nat) (i to_ : Int) (r : StepR) (e : Ending) (w' : World) : Prop :=
  match r with
  | .done acts st => e = .returned (.tuple #[.int .i64 0, .int .i64 st]) ∧ (∃ s' av kv, s'.acts = acts ∧ RunAt w0 w' g s' av kv) ∧ Keeps w w'
  | .next s' => e = .returned (.tuple #[.int .i64 (i + 1), .int .i64 0]) ∧ (∃ av kv, RunAt w0 w' g s' av kv) ∧ Keeps w w'
  | .jump s' => e = .returned (.tuple #[.int .i64 to_, .int .i64 0]) ∧ (∃ av kv, RunAt w0 w' g s' av kv) ∧ Keeps w w'
def casesR (x : S39) (a b : Int) (s : RunSt) : StepR :=
  match s.ans with
  | [] => .done s.acts 4
  | o :: ts_ => if o = a then .next ⟨s.temps, ts_, s.acts ++ [⟨5, x.f4, o, b⟩]⟩ else .jump ⟨s.temps, ts_, s.acts ++ [⟨3, x.f4, o, 0⟩]⟩
def xCells (x : S39) : Array Value := #[.int .i64 x.f0, .int .i64 x.f1, .int .i64 x.f2, .int .i64 x.f3, .int .i64 x.f4, .int .i64 x.f5, .int .i64 x.f6, .int .i64 x.f7]

set_option maxRecDepth 100000 in
set_option maxHeartbeats 4000000 in
theorem cases_c (w0 w : World) (g : Nat) (s : RunSt) (av kv : Value) (h : RunAt w0 w g s av kv) (hl : s.acts.length ≤ 1000) (i : Int) (hi : 0 ≤ i ∧ i ≤ 1000) (x : S39) (a b : Int) :
    Calls Try.prog 37 #[.pointer (some ⟨g, 0, none⟩), .int .i64 i, .agg (xCells x), .int .i64 a, .int .i64 b] w (StepPost w0 w g i x.f7 (casesR x a b s)) := by
  have HR := Aside0.mk h
  obtain ⟨w1, hw1⟩ : ∃ w1, w1 = w.alloc (.cells (xCells x) 39 (0, 0)) := ⟨_, rfl⟩
  have hb1 : Below w.heap.size w w1 := by rw [hw1]; exact below_alloc (Below.refl _ _) _
  have HB1 := Aside0.mk hb1
  have HR1 := Aside0.mk (h.below hb1)
  obtain ⟨gx, hgx⟩ : ∃ gx, gx = w.heap.size := ⟨_, rfl⟩
  have hx1 : w1.heap[gx]? = some (.cells (xCells x) 39 (0, 0)) := by
    rw [hw1, hgx]
    show (w.heap.push _)[w.heap.size]? = _
    exact Array.getElem?_push_size
  have HX1 := Aside0.mk hx1
  have HANS := Aside0.mk (answer_c w0 w1 g s av kv HR1.out)
  have HW1 := Aside0.mk hw1
  have HGX := Aside0.mk hgx
  clear h hb1 hx1 hw1 hgx
  unfold xCells
  obtain ⟨T, AN, AC⟩ := s
  cases AN with
  | nil =>
    have HA : Aside0 (Calls Try.prog 40 #[.pointer (some ⟨g, 0, none⟩)] w1 (fun e w' => e = .returned (.tuple #[.int .i64 0, .bool false]) ∧ w' = w1)) := HANS
    clear HANS
    show Calls _ _ _ _ (StepPost w0 w g i x.f7 (.done AC 4))
    go_enter Try.func37, Try.ntmps37
    go_upto_region 1 with (fail)
    change Code.wp _ _ _ _ (w.alloc (.cells (xCells x) 39 (0, 0)))
    rw [← HW1.out, ← HGX.out]
    go_wp2_with (go_at_call 40; refine HA.out.mono ?_; rintro e w2 ⟨rfl, rfl⟩)
    go_ret2
    exact ⟨rfl, ⟨_, _, _, rfl, HR1.out⟩, Keeps.below HB1.out⟩
  | cons o rest =>
    have HA : Aside0 (Calls Try.prog 40 #[.pointer (some ⟨g, 0, none⟩)] w1 (fun e w' => e = .returned (.tuple #[.int .i64 o, .bool true]) ∧ (∃ av', RunAt w0 w' g ⟨T, rest, AC⟩ av' kv) ∧ Keeps w1 w')) := HANS
    clear HANS
    by_cases hoa : o = a
    · rw [show casesR x a b ⟨T, o :: rest, AC⟩ = .next ⟨T, rest, AC ++ [⟨5, x.f4, o, b⟩]⟩ from if_pos hoa]
      have hb : (o != a) = false := by simp [hoa]
      clear hoa
      go_enter Try.func37, Try.ntmps37
      go_upto_region 1 with (fail)
      change Code.wp _ _ _ _ (w.alloc (.cells (xCells x) 39 (0, 0)))
      rw [← HW1.out, ← HGX.out]
      go_upto_region 7 with (go_at_call 40; refine HA.out.mono ?_; rintro e w2 ⟨rfl, ⟨av2, hr2⟩, hk2⟩; have HR2 := Aside0.mk hr2; have HK2 := Aside0.mk hk2; clear hr2 hk2)
      obtain ⟨A, c, hkv⟩ := Kd.R_slice HR2.out.acts
      subst hkv
      have HX2 := Aside0.mk (HK2.out.kept gx _ _ (by decide) (by decide) HX1.out)
      have hcK := HR2.out.cK
      have cx4 := blk_cell HX2.out 4
      have cx7 := blk_cell HX2.out 7
      simp only [xCells, List.getElem?_toArray, List.getElem?_cons_zero, List.getElem?_cons_succ] at cx4 cx7
      have hgl : g < w2.heap.size := HR2.out.lt
      have hgn : g ≠ w2.heap.size := by omega
      have hxl : gx < w2.heap.size := blk_lt HX2.out
      have hxn : gx ≠ w2.heap.size := by omega
      go_region_law ((refine act_step rfl (.tmp 43) (.tmp 49) rfl HR2.out ?hb ⟨5, x.f4, o, b⟩ ⟨w2.heap.size, 0, none⟩ ?hs ?hx ?hc hl ?_; (case hb => repeat (first | exact Below.refl _ _ | apply below_alloc | apply pw_below_drewN | apply below_drew1)); (case hs => simp [Act.eval, Act.put]); (case hx => simp [Act.eval, Act.put]); (case hc => exact act_new w2 ⟨5, x.f4, o, b⟩); rintro A1 n1 c1 _ w3 rfl HR3 HK0 HK3 hc1 hf1))
      all_goals
        go_wp2
        go_ret2
        exact ⟨rfl, ⟨_, _, HR3.out⟩, (Keeps.below HB1.out).trans (HK2.out.trans HK3.out)⟩
    · rw [show casesR x a b ⟨T, o :: rest, AC⟩ = .jump ⟨T, rest, AC ++ [⟨3, x.f4, o, 0⟩]⟩ from if_neg hoa]
      have hb : (o != a) = true := by simp [hoa]
      clear hoa
      go_enter Try.func37, Try.ntmps37
      go_upto_region 1 with (fail)
      change Code.wp _ _ _ _ (w.alloc (.cells (xCells x) 39 (0, 0)))
      rw [← HW1.out, ← HGX.out]
      go_upto_region 5 with (go_at_call 40; refine HA.out.mono ?_; rintro e w2 ⟨rfl, ⟨av2, hr2⟩, hk2⟩; have HR2 := Aside0.mk hr2; have HK2 := Aside0.mk hk2; clear hr2 hk2)
      obtain ⟨A, c, hkv⟩ := Kd.R_slice HR2.out.acts
      subst hkv
      have HX2 := Aside0.mk (HK2.out.kept gx _ _ (by decide) (by decide) HX1.out)
      have hcK := HR2.out.cK
      have cx4 := blk_cell HX2.out 4
      have cx7 := blk_cell HX2.out 7
      simp only [xCells, List.getElem?_toArray, List.getElem?_cons_zero, List.getElem?_cons_succ] at cx4 cx7
      have hgl : g < w2.heap.size := HR2.out.lt
      have hgn : g ≠ w2.heap.size := by omega
      have hxl : gx < w2.heap.size := blk_lt HX2.out
      have hxn : gx ≠ w2.heap.size := by omega
      have hgg : gx ≠ g := fun e => by have := HX2.out; rw [e, HR2.out.cell] at this; injection this with this; injection this with _ this; exact absurd this (by decide)
      have hgg2 : g ≠ gx := fun e => hgg e.symm
      go_region_law ((refine act_step rfl (.tmp 28) (.tmp 33) rfl HR2.out ?hb ⟨3, x.f4, o, 0⟩ ⟨w2.heap.size, 0, none⟩ ?hs ?hx ?hc hl ?_; (case hb => repeat (first | exact Below.refl _ _ | apply below_alloc | apply pw_below_drewN | apply below_drew1)); (case hs => simp [Act.eval, Act.put]); (case hx => simp [Act.eval, Act.put]); (case hc => exact act_new w2 ⟨3, x.f4, o, 0⟩); rintro A1 n1 c1 _ w3 rfl HR3 HK0 HK3 hc1 hf1; have cx73 := blk_cell (HK0.out.kept gx _ _ (by decide) (by decide) HX2.out) 7; simp only [xCells, List.getElem?_toArray, List.getElem?_cons_zero, List.getElem?_cons_succ] at cx73))
      all_goals
        go_wp2
        go_ret2
        exact ⟨rfl, ⟨_, _, HR3.out⟩, (Keeps.below HB1.out).trans (HK2.out.trans HK3.out)⟩
end Go.Proofs.Ytaoefdbhfhcplaa.Q

namespace Go.Proofs.Ytaoefdbhfhcplaa.Q
open Go.RowKit Go.Proofs.YtaoefdbhfhcplaaW.PrintWords Go.Proofs.YtaoefdbhfhcplaaW.PrintLast Go.Proofs.YtaoefdbhfhcplaaW.PrintMore Go.Proofs.Ytaoefdbhfhcplaa.IM
set_option linter.unusedVariables false
set_option linter.unusedSimpArgs false

def AskPost (w0 w : World) (g : Nat) (r : StepR) (e : Ending) (w' : World) : Prop :=
  match r with
  | .done acts st => e = .returned (.bool false) ∧ (∃ s' av kv, s'.acts = acts ∧ RunAt w0 w' g s' av kv) ∧ Keeps w w'
  | .next s' => e = .returned (.bool true) ∧ (∃ av kv, RunAt w0 w' g s' av kv) ∧ Keeps w w'
  | .jump _ => False
def newOf (x : S39) (T : List Int) (o : Int) : Int := if x.f0 = 10 then rd T x.f2 else if x.f0 = 11 then wrap64 (o + rd T x.f2) else 0

set_option maxRecDepth 100000 in
set_option maxHeartbeats 4000000 in
theorem ask_c (w0 w : World) (g : Nat) (s : RunSt) (av kv : Value) (h : RunAt w0 w g s av kv) (hl : s.acts.length ≤ 1000) (x : S39) (hD : 0 ≤ x.f1 ∧ x.f1 < 400) (hA : 0 ≤ x.f2 ∧ x.f2 < 400) (kind loc : Int) :
    Calls Try.prog 38 #[.pointer (some ⟨g, 0, none⟩), .agg (xCells x), .int .i64 kind, .int .i64 loc] w (AskPost w0 w g (askR x kind loc s)) := by
  have HR := Aside0.mk h
  obtain ⟨w1, hw1⟩ : ∃ w1, w1 = w.alloc (.cells (xCells x) 39 (0, 0)) := ⟨_, rfl⟩
  have hb1 : Below w.heap.size w w1 := by rw [hw1]; exact below_alloc (Below.refl _ _) _
  have HB1 := Aside0.mk hb1
  have HR1 := Aside0.mk (h.below hb1)
  obtain ⟨gx, hgx⟩ : ∃ gx, gx = w.heap.size := ⟨_, rfl⟩
  have hx1 : w1.heap[gx]? = some (.cells (xCells x) 39 (0, 0)) := by
    rw [hw1, hgx]
    show (w.heap.push _)[w.heap.size]? = _
    exact Array.getElem?_push_size
  have HX1 := Aside0.mk hx1
  have HANS := Aside0.mk (answer_c w0 w1 g s av kv HR1.out)
  have HW1 := Aside0.mk hw1
  have HGX := Aside0.mk hgx
  clear h hb1 hx1 hw1 hgx
  unfold xCells
  obtain ⟨T, AN, AC⟩ := s
  cases AN with
  | nil =>
    have HA : Aside0 (Calls Try.prog 40 #[.pointer (some ⟨g, 0, none⟩)] w1 (fun e w' => e = .returned (.tuple #[.int .i64 0, .bool false]) ∧ w' = w1)) := HANS
    clear HANS
    show Calls _ _ _ _ (AskPost w0 w g (.done AC 4))
    go_enter Try.func38, Try.ntmps38
    go_upto_region 1 with (fail)
    change Code.wp _ _ _ _ (w.alloc (.cells (xCells x) 39 (0, 0)))
    rw [← HW1.out, ← HGX.out]
    go_wp2_with (go_at_call 40; refine HA.out.mono ?_; rintro e w2 ⟨rfl, rfl⟩)
    go_ret
    exact ⟨rfl, ⟨_, _, _, rfl, HR1.out⟩, Keeps.below HB1.out⟩
  | cons o rest =>
    have HA : Aside0 (Calls Try.prog 40 #[.pointer (some ⟨g, 0, none⟩)] w1 (fun e w' => e = .returned (.tuple #[.int .i64 o, .bool true]) ∧ (∃ av', RunAt w0 w' g ⟨T, rest, AC⟩ av' kv) ∧ Keeps w1 w')) := HANS
    clear HANS
    obtain ⟨nw, hnw⟩ : ∃ n, n = newOf x T o := ⟨_, rfl⟩
    rw [show askR x kind loc ⟨T, o :: rest, AC⟩ = .next ⟨T.set x.f1.toNat o, rest, AC ++ [⟨kind, loc, o, nw⟩]⟩ from by rw [hnw]; rfl]
    have HNW := Aside0.mk hnw
    clear hnw
    go_enter Try.func38, Try.ntmps38
    go_upto_region 1 with (fail)
    change Code.wp _ _ _ _ (w.alloc (.cells (xCells x) 39 (0, 0)))
    rw [← HW1.out, ← HGX.out]
    go_upto_region 4 with (go_at_call 40; refine HA.out.mono ?_; rintro e w2 ⟨rfl, ⟨av2, hr2⟩, hk2⟩; have HR2 := Aside0.mk hr2; have HK2 := Aside0.mk hk2; clear hr2 hk2)
    have HX2 := Aside0.mk (HK2.out.kept gx _ _ (by decide) (by decide) HX1.out)
    have cx0 := blk_cell HX2.out 0
    simp only [xCells, List.getElem?_toArray, List.getElem?_cons_zero, List.getElem?_cons_succ] at cx0
    have hxl : gx < w2.heap.size := blk_lt HX2.out
    have hxn : gx ≠ w2.heap.size := by omega
    have hne : gx ≠ g := fun e => by have := HX2.out; rw [e, HR2.out.cell] at this; injection this with this; injection this with _ this; exact absurd this (by decide)
    go_upto_if 25 with (fail)
    obtain ⟨ga, hga⟩ : ∃ ga, ga = w2.heap.size := ⟨_, rfl⟩
    change Code.wp _ _ _ _ (w2.alloc (.cells (actCells ⟨kind, loc, o, 0⟩).toArray 44 (0, 0)))
    rw [← hga]
    obtain ⟨w3, hw3⟩ : ∃ w3, w3 = w2.alloc (.cells (actCells ⟨kind, loc, o, 0⟩).toArray 44 (0, 0)) := ⟨_, rfl⟩
    rw [← hw3]
    have hb3 : Below w2.heap.size w2 w3 := by rw [hw3]; exact below_alloc (Below.refl _ _) _
    have hn3 : w3.heap[ga]? = some (.cells (actCells ⟨kind, loc, o, 0⟩).toArray 44 (0, 0)) := by
      rw [hw3, hga]
      show (w2.heap.push _)[w2.heap.size]? = _
      exact Array.getElem?_push_size
    have HB3 := Aside0.mk hb3
    have HN3 := Aside0.mk hn3
    have HGA := Aside0.mk hga
    clear hw3 hb3 hn3 hga cx0
    go_cut [] (fun wc => Aside0 (Below w2.heap.size w2 wc ∧ wc.heap[ga]? = some (.cells (actCells ⟨kind, loc, o, if x.f0 = 10 then rd T x.f2 else 0⟩).toArray 44 (0, 0))))
    case first =>
      by_cases h10 : x.f0 = 10
      · have b10 : (x.f0 == 10) = true := beq_iff_eq.2 h10
        have H10 := Aside0.mk h10
        have cx2 := blk_cell (blk_below HX2.out HB3.out) 2
        simp only [xCells, List.getElem?_toArray, List.getElem?_cons_zero, List.getElem?_cons_succ] at cx2
        have cT := (HR2.out.below HB3.out).cT x.f2 hA.1 hA.2
        have f3 := blk_frozen HN3.out 3
        have c3 := blk_cell HN3.out 3
        simp only [actCells, List.getElem?_toArray, List.getElem?_cons_zero, List.getElem?_cons_succ] at c3
        clear h10
        go_wp2
        go_region_law (fail)
        all_goals
          go_wp2
          go_meet
          case rel =>
            refine ⟨(below_set HB3.out (Nat.le_of_eq HGA.out.symm)).drew, ?_⟩
            have := blk_set HN3.out 3 (.int .i64 (rd T x.f2))
            rw [if_pos H10.out]
            exact this
      · have b10 : (x.f0 == 10) = false := beq_eq_false_iff_ne.2 h10
        have H10 := Aside0.mk h10
        clear h10
        go_wp2
        go_meet
        case rel => exact ⟨HB3.out, by rw [if_neg H10.out]; exact HN3.out⟩
    case rest =>
      obtain ⟨hb4, hn4⟩ := hcut.out
      clear hcut HN3 HB3
      have HB4 := Aside0.mk hb4
      have HN4 := Aside0.mk hn4
      clear hb4 hn4
      have cx0 := blk_cell (blk_below HX2.out HB4.out) 0
      simp only [xCells, List.getElem?_toArray, List.getElem?_cons_zero, List.getElem?_cons_succ] at cx0
      obtain ⟨w4, rfl⟩ : ∃ wo : World, wo = wc := ⟨_, rfl⟩
      go_upto_if 36 with (fail)
      clear cx0
      go_cut [] (fun wc => Aside0 (Below w2.heap.size w2 wc ∧ wc.heap[ga]? = some (.cells (actCells ⟨kind, loc, o, nw⟩).toArray 44 (0, 0))))
      case first =>
        by_cases h11 : x.f0 = 11
        · have b11 : (x.f0 == 11) = true := beq_iff_eq.2 h11
          have H11 := Aside0.mk h11
          have cx2 := blk_cell (blk_below HX2.out HB4.out) 2
          simp only [xCells, List.getElem?_toArray, List.getElem?_cons_zero, List.getElem?_cons_succ] at cx2
          have cT := (HR2.out.below HB4.out).cT x.f2 hA.1 hA.2
          have f3 := blk_frozen HN4.out 3
          have c3 := blk_cell HN4.out 3
          simp only [actCells, List.getElem?_toArray, List.getElem?_cons_zero, List.getElem?_cons_succ] at c3
          clear h11
          go_wp2
          go_region_law (fail)
          all_goals
            go_wp2
            go_meet
            case rel =>
              refine ⟨(below_set HB4.out (Nat.le_of_eq HGA.out.symm)).drew, ?_⟩
              have e : nw = IntKind.i64.wrap (o + rd T x.f2) := by rw [i64_w, HNW.out]; unfold newOf; rw [H11.out]; rfl
              have := blk_set HN4.out 3 (.int .i64 (IntKind.i64.wrap (o + rd T x.f2)))
              rw [e]
              exact this
        · have b11 : (x.f0 == 11) = false := beq_eq_false_iff_ne.2 h11
          have H11 := Aside0.mk h11
          clear h11
          go_wp2
          go_meet
          case rel => exact ⟨HB4.out, by rw [HNW.out]; unfold newOf; rw [if_neg H11.out]; exact HN4.out⟩
      case rest =>
        obtain ⟨hb5, hn5⟩ := hcut.out
        clear hcut HN4 HB4
        have HB5 := Aside0.mk hb5
        have HN5 := Aside0.mk hn5
        have HR5 := Aside0.mk (HR2.out.below hb5)
        have HX5 := Aside0.mk (blk_below HX2.out hb5)
        have HK5 := Aside0.mk (HK2.out.trans (Keeps.below hb5))
        clear hb5 hn5 HR2 HX2 HB5
        have cx1 := blk_cell HX5.out 1
        simp only [xCells, List.getElem?_toArray, List.getElem?_cons_zero, List.getElem?_cons_succ] at cx1
        have cT := HR5.out.cT x.f1 hD.1 hD.2
        have fT := HR5.out.fz x.f1.toNat
        obtain ⟨w5, rfl⟩ : ∃ wo : World, wo = wc := ⟨_, rfl⟩
        go_upto_region 9 with (fail)
        go_cut [] (fun wc => Aside0 (RunAt w0 wc g ⟨T.set x.f1.toNat o, rest, AC⟩ av2 kv ∧ Keeps w5 wc ∧ wc.heap[ga]? = some (.cells (actCells ⟨kind, loc, o, nw⟩).toArray 44 (0, 0))))
        case first =>
          go_wp2
          go_region_law (fail)
          all_goals
            go_wp2
            go_meet
            case rel =>
              have hga : ga ≠ g := fun e => by have := HN5.out; rw [e, HR5.out.cell] at this; injection this with this; injection this with _ this; exact absurd this (by decide)
              have hset : Ch (fun k => k = g) w5 (w5.setCell ⟨g, x.f1.toNat, none⟩ (.int .i64 o)) := (Ch.refl _ _).setCell _ _ (fun _ => rfl)
              have hr := HR5.out.set x.f1.toNat (.int .i64 o) ⟨T.set x.f1.toNat o, rest, AC⟩ av2 kv (by have := HR5.out.len; rw [List.length_set]; exact this) (by rw [rc_set_temp _ _ _ HR5.out.len _ hD.1 hD.2]; rfl) HR5.out.ans rfl rfl
              exact ⟨hr.below (Below.refl _ _).drew, (Keeps.set HR5.out.cell _ _).trans (Keeps.below (Below.refl _ _).drew), Ch.blk hset HN5.out hga⟩
        case rest =>
          clear cx1 cT fT HN5 HX5 HR5
          obtain ⟨hr6, hk6, hn6⟩ := hcut.out
          have HR6 := Aside0.mk hr6
          have HK6 := Aside0.mk hk6
          clear hcut hr6 hk6
          obtain ⟨w6, rfl⟩ : ∃ wo : World, wo = wc := ⟨_, rfl⟩
          obtain ⟨A, c, hkv⟩ := Kd.R_slice HR6.out.acts
          subst hkv
          have hcK := HR6.out.cK
          have cn := fun j => blk_cell hn6 j
          have cn0 := cn 0; have cn1 := cn 1; have cn2 := cn 2; have cn3 := cn 3
          clear cn
          simp only [actCells, List.getElem?_toArray, List.getElem?_cons_zero, List.getElem?_cons_succ] at cn0 cn1 cn2 cn3
          have hgl : g < w6.heap.size := HR6.out.lt
          have hgn : g ≠ w6.heap.size := by omega
          have hal : ga < w6.heap.size := blk_lt hn6
          have han : ga ≠ w6.heap.size := by omega
          clear hn6
          go_upto_region 10 with (fail)
          go_region_law ((refine act_step rfl (.tmp 58) (.tmp 60) rfl HR6.out ?hb ⟨kind, loc, o, nw⟩ ⟨w6.heap.size, 0, none⟩ ?hs ?hx ?hc hl ?_; (case hb => repeat (first | exact Below.refl _ _ | apply below_alloc | apply pw_below_drewN | apply below_drew1)); (case hs => simp [Act.eval, Act.put]); (case hx => simp [Act.eval, Act.put]); (case hc => exact act_new w6 ⟨kind, loc, o, nw⟩); rintro A1 n1 c1 _ w7 rfl HR7 HK0 HK7 hc1 hf1))
          all_goals
            go_wp2
            go_ret
            exact ⟨rfl, ⟨_, _, HR7.out⟩, (Keeps.below HB1.out).trans (HK5.out.trans (HK6.out.trans HK7.out))⟩
end Go.Proofs.Ytaoefdbhfhcplaa.Q
