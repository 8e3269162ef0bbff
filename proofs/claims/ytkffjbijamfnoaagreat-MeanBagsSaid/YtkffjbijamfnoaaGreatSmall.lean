/-
  Aggregates, orders, windows: small functions.
-/
import Derived.Test.YtkffjbijamfnoaaGreatFit
set_option linter.unusedVariables false
set_option linter.unusedSimpArgs false
namespace Go.Proofs.YtkffjbijamfnoaaGreat
open Go.RowKit

def aggZero (agg : Int) : Int := if agg = 3 then 9223372036854775807 else if agg = 4 then -9223372036854775808 else 0
def aggMerge (agg a b : Int) : Int := if agg = 1 ∨ agg = 2 then w64 (a + b) else if agg = 3 then min a b else if agg = 4 then max a b else if agg = 5 then bits .xor .i64 a b else 0
def aggAdd (agg acc v : Int) : Int := if agg = 2 then w64 (acc + 1) else aggMerge agg acc v
def lessR (a b : Rec) : Bool := if a.key ≠ b.key then decide (a.key < b.key) else if a.time ≠ b.time then decide (a.time < b.time) else decide (a.val < b.val)
def lessP (a b : Pane) : Bool := if a.key ≠ b.key then decide (a.key < b.key) else if a.span.frm ≠ b.span.frm then decide (a.span.frm < b.span.frm) else if a.span.to ≠ b.span.to then decide (a.span.to < b.span.to) else decide (a.acc < b.acc)
def overlap (a b : Span) : Bool := decide (a.frm < b.to) && decide (b.frm < a.to)
/-- The greatest multiple of n that is at most t. -/
def floorTo (t n : Int) : Int := t - t % n

theorem merge10_calls (m : Nat → Prop) (agg a b : Int) (w : World) (hr : Ro m w (fun _ => True)) :
    Calls Tryz.prog 173 #[.int .i64 agg, .int .i64 a, .int .i64 b] w (PostV m w (.int .i64 (aggMerge agg a b))) := by
  refine calls_of_Wc (args := [.int .i64 agg, .int .i64 a, .int .i64 b]) 29 Tryz.func173 rfl rfl (by simp) ?_
  refine Wc.start hr ?_
  refine Wc.seq ?_
  refine Wc.region ?_
  refine Wl.assign rfl rfl ?_
  refine Wl.nil ?_
  refine Wx.then_n ?_
  refine Wc.seq ?_
  refine Wc.seq ?_
  refine Wc.region ?_
  refine Wl.move rfl rfl ?_
  refine Wl.nil ?_
  refine Wx.then_n ?_
  refine Wc.block ?_
  refine Wc.seq ?_
  refine Wc.seq ?_
  refine Wc.region ?_
  refine Wl.eql rfl rfl rfl ?_
  refine Wl.assign rfl rfl ?_
  refine Wl.nil ?_
  refine Wx.then_n ?_
  refine Wc.condp rfl (fun h8 => ?_) (fun h8 => ?_)
  ·
    refine Wc.skip ?_
    refine Wx.then_n ?_
    refine Wc.condp rfl (fun h8 => ?_) (fun h8 => ?_)
    ·
      refine Wc.seq ?_
      refine Wc.region ?_
      refine Wl.move rfl rfl ?_
      refine Wl.move rfl rfl ?_
      refine Wl.addw rfl rfl rfl ?_
      refine Wl.assign rfl rfl ?_
      refine Wl.nil ?_
      refine Wx.then_n ?_
      refine Wc.ret ?_
      refine Wx.block_r ?_
      refine Wx.then_r ?_
      exact Wx.retI rfl rfl (by unfold aggMerge; (repeat' split) <;> first | omega | rfl)
    ·
      refine Wc.seq ?_
      refine Wc.region ?_
      refine Wl.eql rfl rfl rfl ?_
      refine Wl.assign rfl rfl ?_
      refine Wl.nil ?_
      refine Wx.then_n ?_
      refine Wc.condp rfl (fun h14 => ?_) (fun h14 => ?_)
      ·
        refine Wc.seq ?_
        refine Wc.region ?_
        refine Wl.move rfl rfl ?_
        refine Wl.move rfl rfl ?_
        refine Wl.mini rfl rfl rfl ?_
        refine Wl.assign rfl rfl ?_
        refine Wl.nil ?_
        refine Wx.then_n ?_
        refine Wc.ret ?_
        refine Wx.block_r ?_
        refine Wx.then_r ?_
        exact Wx.retI rfl rfl (by unfold aggMerge; (repeat' split) <;> first | omega | rfl)
      ·
        refine Wc.seq ?_
        refine Wc.region ?_
        refine Wl.eql rfl rfl rfl ?_
        refine Wl.assign rfl rfl ?_
        refine Wl.nil ?_
        refine Wx.then_n ?_
        refine Wc.condp rfl (fun h19 => ?_) (fun h19 => ?_)
        ·
          refine Wc.seq ?_
          refine Wc.region ?_
          refine Wl.move rfl rfl ?_
          refine Wl.move rfl rfl ?_
          refine Wl.maxi rfl rfl rfl ?_
          refine Wl.assign rfl rfl ?_
          refine Wl.nil ?_
          refine Wx.then_n ?_
          refine Wc.ret ?_
          refine Wx.block_r ?_
          refine Wx.then_r ?_
          exact Wx.retI rfl rfl (by unfold aggMerge; (repeat' split) <;> first | omega | rfl)
        ·
          refine Wc.seq ?_
          refine Wc.region ?_
          refine Wl.eql rfl rfl rfl ?_
          refine Wl.assign rfl rfl ?_
          refine Wl.nil ?_
          refine Wx.then_n ?_
          refine Wc.condp rfl (fun h24 => ?_) (fun h24 => ?_)
          ·
            refine Wc.seq ?_
            refine Wc.region ?_
            refine Wl.move rfl rfl ?_
            refine Wl.move rfl rfl ?_
            refine Wl.bitop rfl rfl rfl (by simp) ?_
            refine Wl.assign rfl rfl ?_
            refine Wl.nil ?_
            refine Wx.then_n ?_
            refine Wc.ret ?_
            refine Wx.block_r ?_
            refine Wx.then_r ?_
            exact Wx.retI rfl rfl (by unfold aggMerge; (repeat' split) <;> first | omega | rfl)
          ·
            refine Wc.skip ?_
            refine Wx.block_n ?_
            refine Wx.then_n ?_
            refine Wc.seq ?_
            refine Wc.region ?_
            refine Wl.assign rfl rfl ?_
            refine Wl.nil ?_
            refine Wx.then_n ?_
            refine Wc.ret ?_
            exact Wx.retI rfl rfl (by unfold aggMerge; (repeat' split) <;> first | omega | rfl)
  ·
    refine Wc.region ?_
    refine Wl.eql rfl rfl rfl ?_
    refine Wl.assign rfl rfl ?_
    refine Wl.nil ?_
    refine Wx.then_n ?_
    refine Wc.condp rfl (fun h8 => ?_) (fun h8 => ?_)
    ·
      refine Wc.seq ?_
      refine Wc.region ?_
      refine Wl.move rfl rfl ?_
      refine Wl.move rfl rfl ?_
      refine Wl.addw rfl rfl rfl ?_
      refine Wl.assign rfl rfl ?_
      refine Wl.nil ?_
      refine Wx.then_n ?_
      refine Wc.ret ?_
      refine Wx.block_r ?_
      refine Wx.then_r ?_
      exact Wx.retI rfl rfl (by unfold aggMerge; (repeat' split) <;> first | omega | rfl)
    ·
      refine Wc.seq ?_
      refine Wc.region ?_
      refine Wl.eql rfl rfl rfl ?_
      refine Wl.assign rfl rfl ?_
      refine Wl.nil ?_
      refine Wx.then_n ?_
      refine Wc.condp rfl (fun h14 => ?_) (fun h14 => ?_)
      ·
        refine Wc.seq ?_
        refine Wc.region ?_
        refine Wl.move rfl rfl ?_
        refine Wl.move rfl rfl ?_
        refine Wl.mini rfl rfl rfl ?_
        refine Wl.assign rfl rfl ?_
        refine Wl.nil ?_
        refine Wx.then_n ?_
        refine Wc.ret ?_
        refine Wx.block_r ?_
        refine Wx.then_r ?_
        exact Wx.retI rfl rfl (by unfold aggMerge; (repeat' split) <;> first | omega | rfl)
      ·
        refine Wc.seq ?_
        refine Wc.region ?_
        refine Wl.eql rfl rfl rfl ?_
        refine Wl.assign rfl rfl ?_
        refine Wl.nil ?_
        refine Wx.then_n ?_
        refine Wc.condp rfl (fun h19 => ?_) (fun h19 => ?_)
        ·
          refine Wc.seq ?_
          refine Wc.region ?_
          refine Wl.move rfl rfl ?_
          refine Wl.move rfl rfl ?_
          refine Wl.maxi rfl rfl rfl ?_
          refine Wl.assign rfl rfl ?_
          refine Wl.nil ?_
          refine Wx.then_n ?_
          refine Wc.ret ?_
          refine Wx.block_r ?_
          refine Wx.then_r ?_
          exact Wx.retI rfl rfl (by unfold aggMerge; (repeat' split) <;> first | omega | rfl)
        ·
          refine Wc.seq ?_
          refine Wc.region ?_
          refine Wl.eql rfl rfl rfl ?_
          refine Wl.assign rfl rfl ?_
          refine Wl.nil ?_
          refine Wx.then_n ?_
          refine Wc.condp rfl (fun h24 => ?_) (fun h24 => ?_)
          ·
            refine Wc.seq ?_
            refine Wc.region ?_
            refine Wl.move rfl rfl ?_
            refine Wl.move rfl rfl ?_
            refine Wl.bitop rfl rfl rfl (by simp) ?_
            refine Wl.assign rfl rfl ?_
            refine Wl.nil ?_
            refine Wx.then_n ?_
            refine Wc.ret ?_
            refine Wx.block_r ?_
            refine Wx.then_r ?_
            exact Wx.retI rfl rfl (by unfold aggMerge; (repeat' split) <;> first | omega | rfl)
          ·
            refine Wc.skip ?_
            refine Wx.block_n ?_
            refine Wx.then_n ?_
            refine Wc.seq ?_
            refine Wc.region ?_
            refine Wl.assign rfl rfl ?_
            refine Wl.nil ?_
            refine Wx.then_n ?_
            refine Wc.ret ?_
            exact Wx.retI rfl rfl (by unfold aggMerge; (repeat' split) <;> first | omega | rfl)

theorem add10_calls (m : Nat → Prop) (agg a b : Int) (w : World) (hr : Ro m w (fun _ => True)) :
    Calls Tryz.prog 170 #[.int .i64 agg, .int .i64 a, .int .i64 b] w (PostV m w (.int .i64 (aggAdd agg a b))) := by
  refine calls_of_Wc (args := [.int .i64 agg, .int .i64 a, .int .i64 b]) 15 Tryz.func170 rfl rfl (by simp) ?_
  refine Wc.start hr ?_
  refine Wc.seq ?_
  refine Wc.region ?_
  refine Wl.assign rfl rfl ?_
  refine Wl.nil ?_
  refine Wx.then_n ?_
  refine Wc.seq ?_
  refine Wc.seq ?_
  refine Wc.region ?_
  refine Wl.move rfl rfl ?_
  refine Wl.eql rfl rfl rfl ?_
  refine Wl.nil ?_
  refine Wx.then_n ?_
  refine Wc.condp rfl (fun h8 => ?_) (fun h8 => ?_)
  ·
    refine Wc.seq ?_
    refine Wc.region ?_
    refine Wl.move rfl rfl ?_
    refine Wl.addw rfl rfl rfl ?_
    refine Wl.assign rfl rfl ?_
    refine Wl.nil ?_
    refine Wx.then_n ?_
    refine Wc.ret ?_
    refine Wx.then_r ?_
    exact Wx.retI rfl rfl (by unfold aggAdd; rw [if_pos h8])
  ·
    refine Wc.skip ?_
    refine Wx.then_n ?_
    refine Wc.seq ?_
    refine Wc.region ?_
    refine Wl.move rfl rfl ?_
    refine Wl.move rfl rfl ?_
    refine Wl.move rfl rfl ?_
    refine Wl.callV [_, _, _] Tryz.func173 rfl rfl rfl rfl (fun w hw => merge10_calls _ _ _ _ w (hw.read fun _ _ => trivial)) ?_
    refine Wl.assign rfl rfl ?_
    refine Wl.nil ?_
    refine Wx.then_n ?_
    refine Wc.ret ?_
    exact Wx.retI rfl rfl (by unfold aggAdd; rw [if_neg h8])

theorem zero10_calls (m : Nat → Prop) (agg : Int) (w : World) (hr : Ro m w (fun _ => True)) :
    Calls Tryz.prog 171 #[.int .i64 agg] w (PostV m w (.int .i64 (aggZero agg))) := by
  refine calls_of_Wc (args := [.int .i64 agg]) 8 Tryz.func171 rfl rfl (by simp) ?_
  refine Wc.start hr ?_
  refine Wc.seq ?_
  refine Wc.region ?_
  refine Wl.assign rfl rfl ?_
  refine Wl.nil ?_
  refine Wx.then_n ?_
  refine Wc.seq ?_
  refine Wc.seq ?_
  refine Wc.region ?_
  refine Wl.move rfl rfl ?_
  refine Wl.nil ?_
  refine Wx.then_n ?_
  refine Wc.block ?_
  refine Wc.seq ?_
  refine Wc.region ?_
  refine Wl.eql rfl rfl rfl ?_
  refine Wl.assign rfl rfl ?_
  refine Wl.nil ?_
  refine Wx.then_n ?_
  refine Wc.condp rfl (fun h4 => ?_) (fun h4 => ?_)
  ·
    refine Wc.seq ?_
    refine Wc.region ?_
    refine Wl.assign rfl rfl ?_
    refine Wl.nil ?_
    refine Wx.then_n ?_
    refine Wc.ret ?_
    refine Wx.block_r ?_
    refine Wx.then_r ?_
    exact Wx.retI rfl rfl (by unfold aggZero; (repeat' split) <;> first | omega | rfl)
  ·
    refine Wc.seq ?_
    refine Wc.region ?_
    refine Wl.eql rfl rfl rfl ?_
    refine Wl.assign rfl rfl ?_
    refine Wl.nil ?_
    refine Wx.then_n ?_
    refine Wc.condp rfl (fun h6 => ?_) (fun h6 => ?_)
    ·
      refine Wc.seq ?_
      refine Wc.region ?_
      refine Wl.assign rfl rfl ?_
      refine Wl.nil ?_
      refine Wx.then_n ?_
      refine Wc.ret ?_
      refine Wx.block_r ?_
      refine Wx.then_r ?_
      exact Wx.retI rfl rfl (by unfold aggZero; (repeat' split) <;> first | omega | rfl)
    ·
      refine Wc.skip ?_
      refine Wx.block_n ?_
      refine Wx.then_n ?_
      refine Wc.seq ?_
      refine Wc.region ?_
      refine Wl.assign rfl rfl ?_
      refine Wl.nil ?_
      refine Wx.then_n ?_
      refine Wc.ret ?_
      exact Wx.retI rfl rfl (by unfold aggZero; (repeat' split) <;> first | omega | rfl)

theorem floor11_calls (m : Nat → Prop) (t n : Int) (w : World) (hr : Ro m w (fun _ => True)) (hn : 1 ≤ n) (hn2 : n ≤ 68719476736) (ht : -4398046511104 ≤ t) (ht2 : t ≤ 4398046511104) :
    Calls Tryz.prog 174 #[.int .i64 t, .int .i64 n] w (PostV m w (.int .i64 (floorTo t n))) := by
  obtain ⟨p1, p2, p3, p4⟩ := tmod_place t n (by omega)
  have p5 := Int.emod_nonneg t (show n ≠ 0 by omega)
  have p6 := Int.emod_lt_of_pos t (show 0 < n by omega)
  unfold place at p1 p2
  refine calls_of_Wc (args := [.int .i64 t, .int .i64 n]) 17 Tryz.func174 rfl rfl (by simp) ?_
  refine Wc.start hr ?_
  refine Wc.seq ?_
  refine Wc.region ?_
  refine Wl.assign rfl rfl ?_
  refine Wl.nil ?_
  refine Wx.then_n ?_
  refine Wc.seq ?_
  refine Wc.region ?_
  refine Wl.move rfl rfl ?_
  refine Wl.move rfl rfl ?_
  refine Wl.rem rfl rfl rfl (by omega) ?_
  refine Wl.assign rfl rfl ?_
  refine Wl.nil ?_
  refine Wx.then_n ?_
  refine Wc.seq ?_
  refine Wc.seq ?_
  refine Wc.region ?_
  refine Wl.move rfl rfl ?_
  refine Wl.lss rfl rfl rfl ?_
  refine Wl.nil ?_
  refine Wx.then_n ?_
  refine Wc.condp rfl (fun h10 => ?_) (fun h10 => ?_)
  ·
    refine Wc.region ?_
    refine Wl.move rfl rfl ?_
    refine Wl.move rfl rfl ?_
    refine Wl.add rfl rfl rfl (by omega) ?_
    refine Wl.assign rfl rfl ?_
    refine Wl.nil ?_
    refine Wx.then_n ?_
    refine Wc.seq ?_
    refine Wc.region ?_
    refine Wl.move rfl rfl ?_
    refine Wl.move rfl rfl ?_
    refine Wl.sub rfl rfl rfl (by omega) ?_
    refine Wl.assign rfl rfl ?_
    refine Wl.nil ?_
    refine Wx.then_n ?_
    refine Wc.ret ?_
    exact Wx.retI rfl rfl (by unfold floorTo; have := p1 h10; omega)
  ·
    refine Wc.skip ?_
    refine Wx.then_n ?_
    refine Wc.seq ?_
    refine Wc.region ?_
    refine Wl.move rfl rfl ?_
    refine Wl.move rfl rfl ?_
    refine Wl.sub rfl rfl rfl (by omega) ?_
    refine Wl.assign rfl rfl ?_
    refine Wl.nil ?_
    refine Wx.then_n ?_
    refine Wc.ret ?_
    exact Wx.retI rfl rfl (by unfold floorTo; have := p2 h10; omega)

theorem less14_calls (m : Nat → Prop) (a b : Rec) (w : World) (hr : Ro m w (fun _ => True)) :
    Calls Tryz.prog 101 #[.agg (eRec a).toArray, .agg (eRec b).toArray] w (PostV m w (.bool (lessR a b))) := by
  refine calls_of_Wc (args := [.agg (eRec a).toArray, .agg (eRec b).toArray]) 30 Tryz.func101 rfl rfl (by simp) ?_
  refine Wc.start hr ?_
  refine Wc.seq ?_
  refine Wc.region ?_
  refine Wl.box rfl rfl rfl (fun b2 => ?_)
  refine Wl.box rfl rfl rfl (fun b3 => ?_)
  refine Wl.assign rfl rfl ?_
  refine Wl.nil ?_
  refine Wx.then_n ?_
  refine Wc.seq ?_
  refine Wc.seq ?_
  refine Wc.region ?_
  refine Wl.fld ⟨_, 0, none⟩ fl70_0 rfl rfl rfl ?_
  refine Wl.loadb 0 0 t2 rfl rfl rfl rfl ?_
  refine Wl.fld ⟨_, 0, none⟩ fl70_0 rfl rfl rfl ?_
  refine Wl.loadb 1 0 t2 rfl rfl rfl rfl ?_
  refine Wl.neq rfl rfl rfl ?_
  refine Wl.nil ?_
  refine Wx.then_n ?_
  refine Wc.condp rfl (fun h9 => ?_) (fun h9 => ?_)
  ·
    refine Wc.seq ?_
    refine Wc.region ?_
    refine Wl.fld ⟨_, 0, none⟩ fl70_0 rfl rfl rfl ?_
    refine Wl.loadb 0 0 t2 rfl rfl rfl rfl ?_
    refine Wl.fld ⟨_, 0, none⟩ fl70_0 rfl rfl rfl ?_
    refine Wl.loadb 1 0 t2 rfl rfl rfl rfl ?_
    refine Wl.lss rfl rfl rfl ?_
    refine Wl.assign rfl rfl ?_
    refine Wl.nil ?_
    refine Wx.then_n ?_
    refine Wc.ret ?_
    refine Wx.then_r ?_
    exact Wx.retB rfl rfl (by unfold lessR; simp [*])
  ·
    refine Wc.skip ?_
    refine Wx.then_n ?_
    refine Wc.seq ?_
    refine Wc.seq ?_
    refine Wc.region ?_
    refine Wl.fld ⟨_, 1, none⟩ fl70_1 rfl rfl rfl ?_
    refine Wl.loadb 0 1 t2 rfl rfl rfl rfl ?_
    refine Wl.fld ⟨_, 1, none⟩ fl70_1 rfl rfl rfl ?_
    refine Wl.loadb 1 1 t2 rfl rfl rfl rfl ?_
    refine Wl.neq rfl rfl rfl ?_
    refine Wl.nil ?_
    refine Wx.then_n ?_
    refine Wc.condp rfl (fun h19 => ?_) (fun h19 => ?_)
    ·
      refine Wc.seq ?_
      refine Wc.region ?_
      refine Wl.fld ⟨_, 1, none⟩ fl70_1 rfl rfl rfl ?_
      refine Wl.loadb 0 1 t2 rfl rfl rfl rfl ?_
      refine Wl.fld ⟨_, 1, none⟩ fl70_1 rfl rfl rfl ?_
      refine Wl.loadb 1 1 t2 rfl rfl rfl rfl ?_
      refine Wl.lss rfl rfl rfl ?_
      refine Wl.assign rfl rfl ?_
      refine Wl.nil ?_
      refine Wx.then_n ?_
      refine Wc.ret ?_
      refine Wx.then_r ?_
      exact Wx.retB rfl rfl (by unfold lessR; simp [*])
    ·
      refine Wc.skip ?_
      refine Wx.then_n ?_
      refine Wc.seq ?_
      refine Wc.region ?_
      refine Wl.fld ⟨_, 2, none⟩ fl70_2 rfl rfl rfl ?_
      refine Wl.loadb 0 2 t2 rfl rfl rfl rfl ?_
      refine Wl.fld ⟨_, 2, none⟩ fl70_2 rfl rfl rfl ?_
      refine Wl.loadb 1 2 t2 rfl rfl rfl rfl ?_
      refine Wl.lss rfl rfl rfl ?_
      refine Wl.assign rfl rfl ?_
      refine Wl.nil ?_
      refine Wx.then_n ?_
      refine Wc.ret ?_
      exact Wx.retB rfl rfl (by unfold lessR; simp [*])

theorem less11_calls (m : Nat → Prop) (a b : Pane) (w : World) (hr : Ro m w (fun _ => True)) :
    Calls Tryz.prog 93 #[.agg (ePane a).toArray, .agg (ePane b).toArray] w (PostV m w (.bool (lessP a b))) := by
  refine calls_of_Wc (args := [.agg (ePane a).toArray, .agg (ePane b).toArray]) 48 Tryz.func93 rfl rfl (by simp) ?_
  refine Wc.start hr ?_
  refine Wc.seq ?_
  refine Wc.region ?_
  refine Wl.box rfl rfl rfl (fun b2 => ?_)
  refine Wl.box rfl rfl rfl (fun b3 => ?_)
  refine Wl.assign rfl rfl ?_
  refine Wl.nil ?_
  refine Wx.then_n ?_
  refine Wc.seq ?_
  refine Wc.seq ?_
  refine Wc.region ?_
  refine Wl.fld ⟨_, 0, none⟩ fl166_0 rfl rfl rfl ?_
  refine Wl.loadb 0 0 t2 rfl rfl rfl rfl ?_
  refine Wl.fld ⟨_, 0, none⟩ fl166_0 rfl rfl rfl ?_
  refine Wl.loadb 1 0 t2 rfl rfl rfl rfl ?_
  refine Wl.neq rfl rfl rfl ?_
  refine Wl.nil ?_
  refine Wx.then_n ?_
  refine Wc.condp rfl (fun h9 => ?_) (fun h9 => ?_)
  ·
    refine Wc.seq ?_
    refine Wc.region ?_
    refine Wl.fld ⟨_, 0, none⟩ fl166_0 rfl rfl rfl ?_
    refine Wl.loadb 0 0 t2 rfl rfl rfl rfl ?_
    refine Wl.fld ⟨_, 0, none⟩ fl166_0 rfl rfl rfl ?_
    refine Wl.loadb 1 0 t2 rfl rfl rfl rfl ?_
    refine Wl.lss rfl rfl rfl ?_
    refine Wl.assign rfl rfl ?_
    refine Wl.nil ?_
    refine Wx.then_n ?_
    refine Wc.ret ?_
    refine Wx.then_r ?_
    exact Wx.retB rfl rfl (by unfold lessP; simp [*])
  ·
    refine Wc.skip ?_
    refine Wx.then_n ?_
    refine Wc.seq ?_
    refine Wc.seq ?_
    refine Wc.region ?_
    refine Wl.fld ⟨_, 1, none⟩ fl166_1 rfl rfl rfl ?_
    refine Wl.fld ⟨_, 1, none⟩ fl164_0 rfl rfl rfl ?_
    refine Wl.loadb 0 1 t2 rfl rfl rfl rfl ?_
    refine Wl.fld ⟨_, 1, none⟩ fl166_1 rfl rfl rfl ?_
    refine Wl.fld ⟨_, 1, none⟩ fl164_0 rfl rfl rfl ?_
    refine Wl.loadb 1 1 t2 rfl rfl rfl rfl ?_
    refine Wl.neq rfl rfl rfl ?_
    refine Wl.nil ?_
    refine Wx.then_n ?_
    refine Wc.condp rfl (fun h21 => ?_) (fun h21 => ?_)
    ·
      refine Wc.seq ?_
      refine Wc.region ?_
      refine Wl.fld ⟨_, 1, none⟩ fl166_1 rfl rfl rfl ?_
      refine Wl.fld ⟨_, 1, none⟩ fl164_0 rfl rfl rfl ?_
      refine Wl.loadb 0 1 t2 rfl rfl rfl rfl ?_
      refine Wl.fld ⟨_, 1, none⟩ fl166_1 rfl rfl rfl ?_
      refine Wl.fld ⟨_, 1, none⟩ fl164_0 rfl rfl rfl ?_
      refine Wl.loadb 1 1 t2 rfl rfl rfl rfl ?_
      refine Wl.lss rfl rfl rfl ?_
      refine Wl.assign rfl rfl ?_
      refine Wl.nil ?_
      refine Wx.then_n ?_
      refine Wc.ret ?_
      refine Wx.then_r ?_
      exact Wx.retB rfl rfl (by unfold lessP; simp [*])
    ·
      refine Wc.skip ?_
      refine Wx.then_n ?_
      refine Wc.seq ?_
      refine Wc.seq ?_
      refine Wc.region ?_
      refine Wl.fld ⟨_, 1, none⟩ fl166_1 rfl rfl rfl ?_
      refine Wl.fld ⟨_, 2, none⟩ fl164_1 rfl rfl rfl ?_
      refine Wl.loadb 0 2 t2 rfl rfl rfl rfl ?_
      refine Wl.fld ⟨_, 1, none⟩ fl166_1 rfl rfl rfl ?_
      refine Wl.fld ⟨_, 2, none⟩ fl164_1 rfl rfl rfl ?_
      refine Wl.loadb 1 2 t2 rfl rfl rfl rfl ?_
      refine Wl.neq rfl rfl rfl ?_
      refine Wl.nil ?_
      refine Wx.then_n ?_
      refine Wc.condp rfl (fun h35 => ?_) (fun h35 => ?_)
      ·
        refine Wc.seq ?_
        refine Wc.region ?_
        refine Wl.fld ⟨_, 1, none⟩ fl166_1 rfl rfl rfl ?_
        refine Wl.fld ⟨_, 2, none⟩ fl164_1 rfl rfl rfl ?_
        refine Wl.loadb 0 2 t2 rfl rfl rfl rfl ?_
        refine Wl.fld ⟨_, 1, none⟩ fl166_1 rfl rfl rfl ?_
        refine Wl.fld ⟨_, 2, none⟩ fl164_1 rfl rfl rfl ?_
        refine Wl.loadb 1 2 t2 rfl rfl rfl rfl ?_
        refine Wl.lss rfl rfl rfl ?_
        refine Wl.assign rfl rfl ?_
        refine Wl.nil ?_
        refine Wx.then_n ?_
        refine Wc.ret ?_
        refine Wx.then_r ?_
        exact Wx.retB rfl rfl (by unfold lessP; simp [*])
      ·
        refine Wc.skip ?_
        refine Wx.then_n ?_
        refine Wc.seq ?_
        refine Wc.region ?_
        refine Wl.fld ⟨_, 3, none⟩ fl166_2 rfl rfl rfl ?_
        refine Wl.loadb 0 3 t2 rfl rfl rfl rfl ?_
        refine Wl.fld ⟨_, 3, none⟩ fl166_2 rfl rfl rfl ?_
        refine Wl.loadb 1 3 t2 rfl rfl rfl rfl ?_
        refine Wl.lss rfl rfl rfl ?_
        refine Wl.assign rfl rfl ?_
        refine Wl.nil ?_
        refine Wx.then_n ?_
        refine Wc.ret ?_
        exact Wx.retB rfl rfl (by unfold lessP; simp [*])

theorem overlap11_calls (m : Nat → Prop) (a b : Span) (w : World) (hr : Ro m w (fun _ => True)) :
    Calls Tryz.prog 205 #[.agg (eSpan a).toArray, .agg (eSpan b).toArray] w (PostV m w (.bool (overlap a b))) := by
  refine calls_of_Wc (args := [.agg (eSpan a).toArray, .agg (eSpan b).toArray]) 17 Tryz.func205 rfl rfl (by simp) ?_
  refine Wc.start hr ?_
  refine Wc.seq ?_
  refine Wc.region ?_
  refine Wl.box rfl rfl rfl (fun b2 => ?_)
  refine Wl.box rfl rfl rfl (fun b3 => ?_)
  refine Wl.assign rfl rfl ?_
  refine Wl.nil ?_
  refine Wx.then_n ?_
  refine Wc.seq ?_
  refine Wc.region ?_
  refine Wl.fld ⟨_, 0, none⟩ fl164_0 rfl rfl rfl ?_
  refine Wl.loadb 0 0 t2 rfl rfl rfl rfl ?_
  refine Wl.fld ⟨_, 1, none⟩ fl164_1 rfl rfl rfl ?_
  refine Wl.loadb 1 1 t2 rfl rfl rfl rfl ?_
  refine Wl.lss rfl rfl rfl ?_
  refine Wl.move rfl rfl ?_
  refine Wl.splitp 10 rfl (fun h10 => ?_) (fun h10 => ?_)
  ·
    refine Wl.fld ⟨_, 0, none⟩ fl164_0 rfl rfl rfl ?_
    refine Wl.loadb 1 0 t2 rfl rfl rfl rfl ?_
    refine Wl.fld ⟨_, 1, none⟩ fl164_1 rfl rfl rfl ?_
    refine Wl.loadb 0 1 t2 rfl rfl rfl rfl ?_
    refine Wl.lss rfl rfl rfl ?_
    refine Wl.pick_t rfl rfl rfl ?_
    refine Wl.assign rfl rfl ?_
    refine Wl.nil ?_
    refine Wx.then_n ?_
    refine Wc.ret ?_
    exact Wx.retB rfl rfl (by unfold overlap; simp [*])
  ·
    refine Wl.skip rfl rfl ?_
    refine Wl.skip rfl rfl ?_
    refine Wl.skip rfl rfl ?_
    refine Wl.skip rfl rfl ?_
    refine Wl.skip rfl rfl ?_
    refine Wl.pick_f rfl rfl rfl ?_
    refine Wl.assign rfl rfl ?_
    refine Wl.nil ?_
    refine Wx.then_n ?_
    refine Wc.ret ?_
    exact Wx.retB rfl rfl (by unfold overlap; simp [*])

theorem below_wrap (t n : Int) (hn : 1 ≤ n) (hn2 : n ≤ 68719476736) (ht : -4398046511104 ≤ t) (ht2 : t ≤ 4398046511104) : IntKind.i64.wrap (IntKind.i64.wrap (t.tdiv n) * n) = t - t.tmod n := by
  obtain ⟨_, _, p3, p4⟩ := tmod_place t n (by omega)
  have h : n * t.tdiv n + t.tmod n = t := Int.mul_tdiv_add_tmod t n
  have h' : t.tdiv n * n = t - t.tmod n := by rw [Int.mul_comm]; omega
  have hq : -9223372036854775808 ≤ t.tdiv n ∧ t.tdiv n ≤ 9223372036854775807 := by
    rcases Int.le_total 0 (t.tdiv n) with h1 | h1
    · have := Int.mul_le_mul_of_nonneg_left hn h1
      omega
    · have := Int.mul_le_mul_of_nonneg_left hn (show 0 ≤ -t.tdiv n by omega)
      rw [Int.neg_mul, Int.neg_mul] at this
      omega
  rw [i64_wrap_in hq, h', i64_wrap_in (by omega)]

theorem below_calls (m : Nat → Prop) (t n : Int) (w : World) (hr : Ro m w (fun _ => True)) (hn : 1 ≤ n) (hn2 : n ≤ 68719476736) (ht : -4398046511104 ≤ t) (ht2 : t ≤ 4398046511104) :
    Calls Tryz.prog 229 #[.int .i64 t, .int .i64 n] w (PostV m w (.int .i64 (floorTo t n))) := by
  have hbw := below_wrap t n hn hn2 ht ht2
  obtain ⟨p1, p2, p3, p4⟩ := tmod_place t n (by omega)
  have p5 := Int.emod_nonneg t (show n ≠ 0 by omega)
  have p6 := Int.emod_lt_of_pos t (show 0 < n by omega)
  unfold place at p1 p2
  refine calls_of_Wc (args := [.int .i64 t, .int .i64 n]) 18 Tryz.func229 rfl rfl (by simp) ?_
  refine Wc.start hr ?_
  refine Wc.seq ?_
  refine Wc.region ?_
  refine Wl.assign rfl rfl ?_
  refine Wl.nil ?_
  refine Wx.then_n ?_
  refine Wc.seq ?_
  refine Wc.region ?_
  refine Wl.move rfl rfl ?_
  refine Wl.move rfl rfl ?_
  refine Wl.quo rfl rfl rfl (by omega) ?_
  refine Wl.move rfl rfl ?_
  refine Wl.mulw rfl rfl rfl ?_
  refine Wl.assign rfl rfl ?_
  refine Wl.nil ?_
  refine Wx.then_n ?_
  refine Wc.seq ?_
  refine Wc.seq ?_
  refine Wc.region ?_
  refine Wl.move rfl rfl ?_
  refine Wl.move rfl rfl ?_
  refine Wl.gtr rfl rfl rfl ?_
  refine Wl.nil ?_
  refine Wx.then_n ?_
  refine Wc.condp rfl (fun h13 => ?_) (fun h13 => ?_)
  ·
    refine Wc.region ?_
    refine Wl.move rfl rfl ?_
    refine Wl.move rfl rfl ?_
    refine Wl.sub rfl rfl rfl (by omega) ?_
    refine Wl.assign rfl rfl ?_
    refine Wl.nil ?_
    refine Wx.then_n ?_
    refine Wc.seq ?_
    refine Wc.region ?_
    refine Wl.move rfl rfl ?_
    refine Wl.assign rfl rfl ?_
    refine Wl.nil ?_
    refine Wx.then_n ?_
    refine Wc.ret ?_
    exact Wx.retI rfl rfl (by unfold floorTo; omega)
  ·
    refine Wc.skip ?_
    refine Wx.then_n ?_
    refine Wc.seq ?_
    refine Wc.region ?_
    refine Wl.move rfl rfl ?_
    refine Wl.assign rfl rfl ?_
    refine Wl.nil ?_
    refine Wx.then_n ?_
    refine Wc.ret ?_
    exact Wx.retI rfl rfl (by unfold floorTo; omega)

end Go.Proofs.YtkffjbijamfnoaaGreat
