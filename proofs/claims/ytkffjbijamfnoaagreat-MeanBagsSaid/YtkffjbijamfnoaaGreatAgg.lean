/-
  Aggregates, as the program makes them of functions.
-/
import Derived.Test.YtkffjbijamfnoaaGreatSmall
set_option linter.unusedVariables false
set_option linter.unusedSimpArgs false
namespace Go.Proofs.YtkffjbijamfnoaaGreat
open Go.RowKit

def fnv (i : Nat) : Value := .func (.func i) #[] #[]
def isAgg' (agg : Int) : Bool := decide (1 ≤ agg) && decide (agg ≤ 5)
def fn1 (agg : Int) : Value := if agg = 2 then fnv 220 else if isAgg' agg then fnv 219 else .nilFunc
def fn2 (agg : Int) : Value := if agg = 1 ∨ agg = 2 then fnv 218 else if agg = 3 then fnv 221 else if agg = 4 then fnv 222 else if agg = 5 then fnv 223 else .nilFunc
theorem aggCells_eq (agg : Int) (z : Int) (a b : Value) (k : Bool) (h1 : z = aggZero agg) (h2 : a = fn1 agg) (h3 : b = fn2 agg) (h4 : k = isAgg' agg) : (Value.tuple #[.agg [.int .i64 z, a, b].toArray, .bool k]) = .tuple #[.agg #[.int .i64 (aggZero agg), fn1 agg, fn2 agg], .bool (isAgg' agg)] := by subst h1 h2 h3 h4; rfl

theorem of_calls (m : Nat → Prop) (agg : Int) (w : World) (hr : Ro m w (fun _ => True)) :
    Calls Tryz.prog 191 #[.int .i64 agg] w (PostV m w (.tuple #[.agg #[.int .i64 (aggZero agg), fn1 agg, fn2 agg], .bool (isAgg' agg)])) := by
  refine calls_of_Wc (args := [.int .i64 agg]) 24 Tryz.func191 rfl rfl (by simp) ?_
  refine Wc.start hr ?_
  refine Wc.seq ?_
  refine Wc.region ?_
  refine Wl.alloc t271 rfl rfl (fun b2 => ?_)
  refine Wl.assign rfl rfl ?_
  refine Wl.nil ?_
  refine Wx.then_n ?_
  refine Wc.seq ?_
  refine Wc.region ?_
  refine Wl.assign rfl rfl ?_
  refine Wl.nil ?_
  refine Wx.then_n ?_
  refine Wc.seq ?_
  refine Wc.seq ?_
  refine Wc.region ?_
  refine Wl.move rfl rfl ?_
  refine Wl.nil ?_
  refine Wx.then_n ?_
  refine Wc.block ?_
  refine Wc.seq ?_
  refine Wc.region ?_
  refine Wl.eql rfl rfl rfl ?_
  refine Wl.assign rfl rfl ?_
  refine Wl.nil ?_
  refine Wx.then_n ?_
  refine Wc.condp rfl (fun h6 => ?_) (fun h6 => ?_)
  ·
    refine Wc.seq ?_
    refine Wc.region ?_
    refine Wl.move rfl rfl ?_
    refine Wl.build (parts := _) [(0, _), (1, _), (2, _)] [.int .i64 0, .func (.func 219) #[] #[], .func (.func 218) #[] #[]] rfl rfl (fun w => run_build w _ _ _ (by kernel_rfl)) ?_
    refine Wl.storew 0 t271 rfl rfl rfl rfl rfl rfl rfl ?_
    refine Wl.assign rfl rfl ?_
    refine Wl.nil ?_
    refine Wx.then_n ?_
    refine Wc.ret ?_
    refine Wx.block_r ?_
    refine Wx.then_r ?_
    rw [← aggCells_eq agg 0 (.func (.func 219) #[] #[]) (.func (.func 218) #[] #[]) true (by unfold aggZero; (repeat' split) <;> first | omega | rfl) (by unfold fn1 isAgg'; (repeat' split) <;> first | rfl | (simp_all; done) | (simp_all <;> omega)) (by unfold fn2; (repeat' split) <;> first | rfl | omega) (by unfold isAgg'; simp <;> omega)]
    exact Wx.retC2 0 t271 rfl rfl rfl rfl rfl
  ·
    refine Wc.seq ?_
    refine Wc.region ?_
    refine Wl.eql rfl rfl rfl ?_
    refine Wl.assign rfl rfl ?_
    refine Wl.nil ?_
    refine Wx.then_n ?_
    refine Wc.condp rfl (fun h10 => ?_) (fun h10 => ?_)
    ·
      refine Wc.seq ?_
      refine Wc.region ?_
      refine Wl.move rfl rfl ?_
      refine Wl.build (parts := _) [(0, _), (1, _), (2, _)] [.int .i64 0, .func (.func 220) #[] #[], .func (.func 218) #[] #[]] rfl rfl (fun w => run_build w _ _ _ (by kernel_rfl)) ?_
      refine Wl.storew 0 t271 rfl rfl rfl rfl rfl rfl rfl ?_
      refine Wl.assign rfl rfl ?_
      refine Wl.nil ?_
      refine Wx.then_n ?_
      refine Wc.ret ?_
      refine Wx.block_r ?_
      refine Wx.then_r ?_
      rw [← aggCells_eq agg 0 (.func (.func 220) #[] #[]) (.func (.func 218) #[] #[]) true (by unfold aggZero; (repeat' split) <;> first | omega | rfl) (by unfold fn1 isAgg'; (repeat' split) <;> first | rfl | (simp_all; done) | (simp_all <;> omega)) (by unfold fn2; (repeat' split) <;> first | rfl | omega) (by unfold isAgg'; simp <;> omega)]
      exact Wx.retC2 0 t271 rfl rfl rfl rfl rfl
    ·
      refine Wc.seq ?_
      refine Wc.region ?_
      refine Wl.eql rfl rfl rfl ?_
      refine Wl.assign rfl rfl ?_
      refine Wl.nil ?_
      refine Wx.then_n ?_
      refine Wc.condp rfl (fun h14 => ?_) (fun h14 => ?_)
      ·
        refine Wc.seq ?_
        refine Wc.region ?_
        refine Wl.build (parts := _) [(0, _), (1, _), (2, _)] [.int .i64 9223372036854775807, .func (.func 219) #[] #[], .func (.func 221) #[] #[]] rfl rfl (fun w => run_build w _ _ _ (by kernel_rfl)) ?_
        refine Wl.storew 0 t271 rfl rfl rfl rfl rfl rfl rfl ?_
        refine Wl.assign rfl rfl ?_
        refine Wl.nil ?_
        refine Wx.then_n ?_
        refine Wc.ret ?_
        refine Wx.block_r ?_
        refine Wx.then_r ?_
        rw [← aggCells_eq agg 9223372036854775807 (.func (.func 219) #[] #[]) (.func (.func 221) #[] #[]) true (by unfold aggZero; (repeat' split) <;> first | omega | rfl) (by unfold fn1 isAgg'; (repeat' split) <;> first | rfl | (simp_all; done) | (simp_all <;> omega)) (by unfold fn2; (repeat' split) <;> first | rfl | omega) (by unfold isAgg'; simp <;> omega)]
        exact Wx.retC2 0 t271 rfl rfl rfl rfl rfl
      ·
        refine Wc.seq ?_
        refine Wc.region ?_
        refine Wl.eql rfl rfl rfl ?_
        refine Wl.assign rfl rfl ?_
        refine Wl.nil ?_
        refine Wx.then_n ?_
        refine Wc.condp rfl (fun h17 => ?_) (fun h17 => ?_)
        ·
          refine Wc.seq ?_
          refine Wc.region ?_
          refine Wl.build (parts := _) [(0, _), (1, _), (2, _)] [.int .i64 (-9223372036854775808), .func (.func 219) #[] #[], .func (.func 222) #[] #[]] rfl rfl (fun w => run_build w _ _ _ (by kernel_rfl)) ?_
          refine Wl.storew 0 t271 rfl rfl rfl rfl rfl rfl rfl ?_
          refine Wl.assign rfl rfl ?_
          refine Wl.nil ?_
          refine Wx.then_n ?_
          refine Wc.ret ?_
          refine Wx.block_r ?_
          refine Wx.then_r ?_
          rw [← aggCells_eq agg (-9223372036854775808) (.func (.func 219) #[] #[]) (.func (.func 222) #[] #[]) true (by unfold aggZero; (repeat' split) <;> first | omega | rfl) (by unfold fn1 isAgg'; (repeat' split) <;> first | rfl | (simp_all; done) | (simp_all <;> omega)) (by unfold fn2; (repeat' split) <;> first | rfl | omega) (by unfold isAgg'; simp <;> omega)]
          exact Wx.retC2 0 t271 rfl rfl rfl rfl rfl
        ·
          refine Wc.seq ?_
          refine Wc.region ?_
          refine Wl.eql rfl rfl rfl ?_
          refine Wl.assign rfl rfl ?_
          refine Wl.nil ?_
          refine Wx.then_n ?_
          refine Wc.condp rfl (fun h20 => ?_) (fun h20 => ?_)
          ·
            refine Wc.seq ?_
            refine Wc.region ?_
            refine Wl.build (parts := _) [(0, _), (1, _), (2, _)] [.int .i64 0, .func (.func 219) #[] #[], .func (.func 223) #[] #[]] rfl rfl (fun w => run_build w _ _ _ (by kernel_rfl)) ?_
            refine Wl.storew 0 t271 rfl rfl rfl rfl rfl rfl rfl ?_
            refine Wl.assign rfl rfl ?_
            refine Wl.nil ?_
            refine Wx.then_n ?_
            refine Wc.ret ?_
            refine Wx.block_r ?_
            refine Wx.then_r ?_
            rw [← aggCells_eq agg 0 (.func (.func 219) #[] #[]) (.func (.func 223) #[] #[]) true (by unfold aggZero; (repeat' split) <;> first | omega | rfl) (by unfold fn1 isAgg'; (repeat' split) <;> first | rfl | (simp_all; done) | (simp_all <;> omega)) (by unfold fn2; (repeat' split) <;> first | rfl | omega) (by unfold isAgg'; simp <;> omega)]
            exact Wx.retC2 0 t271 rfl rfl rfl rfl rfl
          ·
            refine Wc.skip ?_
            refine Wx.block_n ?_
            refine Wx.then_n ?_
            refine Wc.seq ?_
            refine Wc.region ?_
            refine Wl.build (parts := []) [] [.int .i64 0, .nilFunc, .nilFunc] rfl rfl (fun w => run_build w _ _ _ (by kernel_rfl)) ?_
            refine Wl.storew 0 t271 rfl rfl rfl rfl rfl rfl rfl ?_
            refine Wl.assign rfl rfl ?_
            refine Wl.nil ?_
            refine Wx.then_n ?_
            refine Wc.ret ?_
            rw [← aggCells_eq agg 0 (.nilFunc) (.nilFunc) false (by unfold aggZero; (repeat' split) <;> first | omega | rfl) (by unfold fn1 isAgg'; (repeat' split) <;> first | rfl | (simp_all; done) | (simp_all <;> omega)) (by unfold fn2; (repeat' split) <;> first | rfl | omega) (by unfold isAgg'; simp <;> omega)]
            exact Wx.retC2 0 t271 rfl rfl rfl rfl rfl

theorem fn1_one (agg : Int) : (fn1 agg).oneCell' = true := by unfold fn1; (repeat' split) <;> rfl
theorem fn2_one (agg : Int) : (fn2 agg).oneCell' = true := by unfold fn2; (repeat' split) <;> rfl
theorem aggOne (agg : Int) : [Value.int .i64 (aggZero agg), fn1 agg, fn2 agg].all (·.oneCell') = true := by
  simp only [List.all_cons, List.all_nil, fn1_one, fn2_one, Bool.and_self, Bool.and_true]; rfl

theorem aggzero_calls (m : Nat → Prop) (agg : Int) (w : World) (hr : Ro m w (fun _ => True)) :
    Calls Tryz.prog 203 #[.int .i64 agg] w (PostV m w (.int .i64 (aggZero agg))) := by
  refine calls_of_Wc (args := [.int .i64 agg]) 12 Tryz.func203 rfl rfl (by simp) ?_
  refine Wc.start hr ?_
  refine Wc.seq ?_
  refine Wc.region ?_
  refine Wl.assign rfl rfl ?_
  refine Wl.nil ?_
  refine Wx.then_n ?_
  refine Wc.seq ?_
  refine Wc.region ?_
  refine Wl.move rfl rfl ?_
  refine Wl.callV [_] Tryz.func191 rfl rfl rfl rfl (fun w hw => of_calls _ agg w (hw.read fun _ _ => trivial)) ?_
  refine Wl.move rfl rfl ?_
  refine Wl.extract rfl rfl rfl ?_
  refine Wl.extract rfl rfl rfl ?_
  refine Wl.alloc t271 rfl rfl (fun b3 => ?_)
  refine Wl.storew 0 t271 rfl rfl rfl rfl rfl (aggOne agg) rfl ?_
  refine Wl.assign rfl rfl ?_
  refine Wl.nil ?_
  refine Wx.then_n ?_
  refine Wc.seq ?_
  refine Wc.region ?_
  refine Wl.fld ⟨_, 0, none⟩ fl271_0 rfl rfl rfl ?_
  refine Wl.loadb 0 0 t2 rfl rfl rfl rfl ?_
  refine Wl.assign rfl rfl ?_
  refine Wl.nil ?_
  refine Wx.then_n ?_
  refine Wc.ret ?_
  exact Wx.retI rfl rfl rfl

theorem sum1_calls (m : Nat → Prop) (a b : Int) (w : World) (hr : Ro m w (fun _ => True)) :
    Calls Tryz.prog 218 #[.int .i64 a, .int .i64 b] w (PostV m w (.int .i64 (w64 (a + b)))) := by
  refine calls_of_Wc (args := [.int .i64 a, .int .i64 b]) 8 Tryz.func218 rfl rfl (by simp) ?_
  refine Wc.start hr ?_
  refine Wc.seq ?_
  refine Wc.region ?_
  refine Wl.assign rfl rfl ?_
  refine Wl.nil ?_
  refine Wx.then_n ?_
  refine Wc.seq ?_
  refine Wc.region ?_
  refine Wl.move rfl rfl ?_
  refine Wl.move rfl rfl ?_
  refine Wl.addw rfl rfl rfl ?_
  refine Wl.assign rfl rfl ?_
  refine Wl.nil ?_
  refine Wx.then_n ?_
  refine Wc.ret ?_
  exact Wx.retI rfl rfl rfl

theorem min1_calls (m : Nat → Prop) (a b : Int) (w : World) (hr : Ro m w (fun _ => True)) :
    Calls Tryz.prog 221 #[.int .i64 a, .int .i64 b] w (PostV m w (.int .i64 (min a b))) := by
  refine calls_of_Wc (args := [.int .i64 a, .int .i64 b]) 8 Tryz.func221 rfl rfl (by simp) ?_
  refine Wc.start hr ?_
  refine Wc.seq ?_
  refine Wc.region ?_
  refine Wl.assign rfl rfl ?_
  refine Wl.nil ?_
  refine Wx.then_n ?_
  refine Wc.seq ?_
  refine Wc.region ?_
  refine Wl.move rfl rfl ?_
  refine Wl.move rfl rfl ?_
  refine Wl.mini rfl rfl rfl ?_
  refine Wl.assign rfl rfl ?_
  refine Wl.nil ?_
  refine Wx.then_n ?_
  refine Wc.ret ?_
  exact Wx.retI rfl rfl rfl

theorem max1_calls (m : Nat → Prop) (a b : Int) (w : World) (hr : Ro m w (fun _ => True)) :
    Calls Tryz.prog 222 #[.int .i64 a, .int .i64 b] w (PostV m w (.int .i64 (max a b))) := by
  refine calls_of_Wc (args := [.int .i64 a, .int .i64 b]) 8 Tryz.func222 rfl rfl (by simp) ?_
  refine Wc.start hr ?_
  refine Wc.seq ?_
  refine Wc.region ?_
  refine Wl.assign rfl rfl ?_
  refine Wl.nil ?_
  refine Wx.then_n ?_
  refine Wc.seq ?_
  refine Wc.region ?_
  refine Wl.move rfl rfl ?_
  refine Wl.move rfl rfl ?_
  refine Wl.maxi rfl rfl rfl ?_
  refine Wl.assign rfl rfl ?_
  refine Wl.nil ?_
  refine Wx.then_n ?_
  refine Wc.ret ?_
  exact Wx.retI rfl rfl rfl

theorem xor1_calls (m : Nat → Prop) (a b : Int) (w : World) (hr : Ro m w (fun _ => True)) :
    Calls Tryz.prog 223 #[.int .i64 a, .int .i64 b] w (PostV m w (.int .i64 (bits .xor .i64 a b))) := by
  refine calls_of_Wc (args := [.int .i64 a, .int .i64 b]) 8 Tryz.func223 rfl rfl (by simp) ?_
  refine Wc.start hr ?_
  refine Wc.seq ?_
  refine Wc.region ?_
  refine Wl.assign rfl rfl ?_
  refine Wl.nil ?_
  refine Wx.then_n ?_
  refine Wc.seq ?_
  refine Wc.region ?_
  refine Wl.move rfl rfl ?_
  refine Wl.move rfl rfl ?_
  refine Wl.bitop rfl rfl rfl (by simp) ?_
  refine Wl.assign rfl rfl ?_
  refine Wl.nil ?_
  refine Wx.then_n ?_
  refine Wc.ret ?_
  exact Wx.retI rfl rfl rfl

theorem one1_calls (m : Nat → Prop) (a : Int) (w : World) (hr : Ro m w (fun _ => True)) :
    Calls Tryz.prog 220 #[.int .i64 a] w (PostV m w (.int .i64 1)) := by
  refine calls_of_Wc (args := [.int .i64 a]) 3 Tryz.func220 rfl rfl (by simp) ?_
  refine Wc.start hr ?_
  refine Wc.seq ?_
  refine Wc.region ?_
  refine Wl.assign rfl rfl ?_
  refine Wl.nil ?_
  refine Wx.then_n ?_
  refine Wc.seq ?_
  refine Wc.region ?_
  refine Wl.assign rfl rfl ?_
  refine Wl.nil ?_
  refine Wx.then_n ?_
  refine Wc.ret ?_
  exact Wx.retI rfl rfl rfl

theorem same1_calls (m : Nat → Prop) (a : Int) (w : World) (hr : Ro m w (fun _ => True)) :
    Calls Tryz.prog 219 #[.int .i64 a] w (PostV m w (.int .i64 a)) := by
  refine calls_of_Wc (args := [.int .i64 a]) 4 Tryz.func219 rfl rfl (by simp) ?_
  refine Wc.start hr ?_
  refine Wc.seq ?_
  refine Wc.region ?_
  refine Wl.assign rfl rfl ?_
  refine Wl.nil ?_
  refine Wx.then_n ?_
  refine Wc.seq ?_
  refine Wc.region ?_
  refine Wl.move rfl rfl ?_
  refine Wl.assign rfl rfl ?_
  refine Wl.nil ?_
  refine Wx.then_n ?_
  refine Wc.ret ?_
  exact Wx.retI rfl rfl rfl

theorem fn2_ok {agg : Int} (h : isAgg' agg = true) : ∃ f fn, fn2 agg = .func (.func f) #[] #[] ∧ Tryz.prog.funcs[f]? = some fn ∧ fn.body.isNone = false ∧ (fn.name == "runtime.NumGoroutine") = false ∧
    ∀ (m : Nat → Prop) (w : World) (a b : Int), Ro m w (fun _ => True) → Calls Tryz.prog f #[.int .i64 a, .int .i64 b] w (PostV m w (.int .i64 (aggMerge agg a b))) := by
  have h5 : agg = 1 ∨ agg = 2 ∨ agg = 3 ∨ agg = 4 ∨ agg = 5 := by simp [isAgg'] at h; omega
  rcases h5 with rfl | rfl | rfl | rfl | rfl
  · exact ⟨_, _, rfl, Tryz.func218, rfl, rfl, fun m w a b hr => sum1_calls m a b w hr⟩
  · exact ⟨_, _, rfl, Tryz.func218, rfl, rfl, fun m w a b hr => sum1_calls m a b w hr⟩
  · exact ⟨_, _, rfl, Tryz.func221, rfl, rfl, fun m w a b hr => min1_calls m a b w hr⟩
  · exact ⟨_, _, rfl, Tryz.func222, rfl, rfl, fun m w a b hr => max1_calls m a b w hr⟩
  · exact ⟨_, _, rfl, Tryz.func223, rfl, rfl, fun m w a b hr => xor1_calls m a b w hr⟩
theorem not_agg {agg : Int} (h : isAgg' agg = false) (a b : Int) : aggMerge agg a b = 0 := by
  have h5 : ¬ (1 ≤ agg ∧ agg ≤ 5) := by intro h'; simp [isAgg', h'.1, h'.2] at h
  unfold aggMerge
  (repeat' split) <;> omega

theorem aggmerge_calls (m : Nat → Prop) (agg a b : Int) (w : World) (hr : Ro m w (fun _ => True)) :
    Calls Tryz.prog 153 #[.int .i64 agg, .int .i64 a, .int .i64 b] w (PostV m w (.int .i64 (aggMerge agg a b))) := by
  refine calls_of_Wc (args := [.int .i64 agg, .int .i64 a, .int .i64 b]) 21 Tryz.func153 rfl rfl (by simp) ?_
  refine Wc.start hr ?_
  refine Wc.seq ?_
  refine Wc.region ?_
  refine Wl.assign rfl rfl ?_
  refine Wl.nil ?_
  refine Wx.then_n ?_
  refine Wc.seq ?_
  refine Wc.region ?_
  refine Wl.move rfl rfl ?_
  refine Wl.callV [_] Tryz.func191 rfl rfl rfl rfl (fun w hw => of_calls _ agg w (hw.read fun _ _ => trivial)) ?_
  refine Wl.move rfl rfl ?_
  refine Wl.extract rfl rfl rfl ?_
  refine Wl.extract rfl rfl rfl ?_
  refine Wl.alloc t271 rfl rfl (fun b7 => ?_)
  refine Wl.storew 0 t271 rfl rfl rfl rfl rfl (aggOne agg) rfl ?_
  refine Wl.assign rfl rfl ?_
  refine Wl.nil ?_
  refine Wx.then_n ?_
  refine Wc.seq ?_
  refine Wc.seq ?_
  refine Wc.region ?_
  refine Wl.move rfl rfl ?_
  refine Wl.not rfl rfl ?_
  refine Wl.nil ?_
  refine Wx.then_n ?_
  refine Wc.cond rfl (fun h15 => ?_) (fun h15 => ?_)
  ·
    refine Wc.seq ?_
    refine Wc.region ?_
    refine Wl.assign rfl rfl ?_
    refine Wl.nil ?_
    refine Wx.then_n ?_
    refine Wc.ret ?_
    refine Wx.then_r ?_
    exact Wx.retI rfl rfl (not_agg (by simpa using h15) a b).symm
  ·
    refine Wc.skip ?_
    refine Wx.then_n ?_
    refine Wc.seq ?_
    obtain ⟨f, fn, e, hf, hb, hnm, hcall⟩ := fn2_ok (agg := agg) (by simpa using h15)
    rw [e]
    refine Wc.region ?_
    refine Wl.fld ⟨_, 2, none⟩ fl271_2 rfl rfl rfl ?_
    refine Wl.loadb 0 2 t252 rfl rfl rfl rfl ?_
    refine Wl.move rfl rfl ?_
    refine Wl.move rfl rfl ?_
    refine Wl.callF [.int .i64 a, .int .i64 b] (cap := []) hf hb hnm rfl rfl rfl (fun w hw => hcall _ w a b (hw.read fun _ _ => trivial)) ?_
    refine Wl.assign rfl rfl ?_
    refine Wl.nil ?_
    refine Wx.then_n ?_
    refine Wc.ret ?_
    exact Wx.retI rfl rfl rfl

theorem fn1_ok {agg : Int} (h : isAgg' agg = true) : ∃ f fn, fn1 agg = .func (.func f) #[] #[] ∧ Tryz.prog.funcs[f]? = some fn ∧ fn.body.isNone = false ∧ (fn.name == "runtime.NumGoroutine") = false ∧
    ∀ (m : Nat → Prop) (w : World) (a : Int), Ro m w (fun _ => True) → Calls Tryz.prog f #[.int .i64 a] w (PostV m w (.int .i64 (if agg = 2 then 1 else a))) := by
  have h5 : agg = 1 ∨ agg = 2 ∨ agg = 3 ∨ agg = 4 ∨ agg = 5 := by simp [isAgg'] at h; omega
  rcases h5 with rfl | rfl | rfl | rfl | rfl
  · exact ⟨_, _, rfl, Tryz.func219, rfl, rfl, fun m w a hr => same1_calls m a w hr⟩
  · exact ⟨_, _, rfl, Tryz.func220, rfl, rfl, fun m w a hr => one1_calls m a w hr⟩
  · exact ⟨_, _, rfl, Tryz.func219, rfl, rfl, fun m w a hr => same1_calls m a w hr⟩
  · exact ⟨_, _, rfl, Tryz.func219, rfl, rfl, fun m w a hr => same1_calls m a w hr⟩
  · exact ⟨_, _, rfl, Tryz.func219, rfl, rfl, fun m w a hr => same1_calls m a w hr⟩
theorem aggAdd_eq (agg a b : Int) : aggMerge agg a (if agg = 2 then 1 else b) = aggAdd agg a b := by
  unfold aggAdd
  split
  · rename_i h; subst h; rfl
  · rfl
theorem not_agg' {agg : Int} (h : isAgg' agg = false) (a b : Int) : aggAdd agg a b = 0 := by rw [← aggAdd_eq]; exact not_agg h _ _

theorem aggadd_calls (m : Nat → Prop) (agg a b : Int) (w : World) (hr : Ro m w (fun _ => True)) :
    Calls Tryz.prog 202 #[.int .i64 agg, .int .i64 a, .int .i64 b] w (PostV m w (.int .i64 (aggAdd agg a b))) := by
  refine calls_of_Wc (args := [.int .i64 agg, .int .i64 a, .int .i64 b]) 24 Tryz.func202 rfl rfl (by simp) ?_
  refine Wc.start hr ?_
  refine Wc.seq ?_
  refine Wc.region ?_
  refine Wl.assign rfl rfl ?_
  refine Wl.nil ?_
  refine Wx.then_n ?_
  refine Wc.seq ?_
  refine Wc.region ?_
  refine Wl.move rfl rfl ?_
  refine Wl.callV [_] Tryz.func191 rfl rfl rfl rfl (fun w hw => of_calls _ agg w (hw.read fun _ _ => trivial)) ?_
  refine Wl.move rfl rfl ?_
  refine Wl.extract rfl rfl rfl ?_
  refine Wl.extract rfl rfl rfl ?_
  refine Wl.alloc t271 rfl rfl (fun b7 => ?_)
  refine Wl.storew 0 t271 rfl rfl rfl rfl rfl (aggOne agg) rfl ?_
  refine Wl.assign rfl rfl ?_
  refine Wl.nil ?_
  refine Wx.then_n ?_
  refine Wc.seq ?_
  refine Wc.seq ?_
  refine Wc.region ?_
  refine Wl.move rfl rfl ?_
  refine Wl.not rfl rfl ?_
  refine Wl.nil ?_
  refine Wx.then_n ?_
  refine Wc.cond rfl (fun h15 => ?_) (fun h15 => ?_)
  ·
    refine Wc.seq ?_
    refine Wc.region ?_
    refine Wl.assign rfl rfl ?_
    refine Wl.nil ?_
    refine Wx.then_n ?_
    refine Wc.ret ?_
    refine Wx.then_r ?_
    exact Wx.retI rfl rfl (not_agg' (by simpa using h15) a b).symm
  ·
    refine Wc.skip ?_
    refine Wx.then_n ?_
    refine Wc.seq ?_
    obtain ⟨f, fn, e, hf, hb, hnm, hcall⟩ := fn2_ok (agg := agg) (by simpa using h15)
    obtain ⟨f1, fnx, e1, hf1, hb1, hnm1, hcall1⟩ := fn1_ok (agg := agg) (by simpa using h15)
    rw [e, e1]
    refine Wc.draw mixed (by kernel_rfl) (fun w hw => hw.drew) ?_
    refine Wl.fld ⟨_, 2, none⟩ fl271_2 rfl rfl rfl ?_
    refine Wl.loadb 0 2 t252 rfl rfl rfl rfl ?_
    refine Wl.move rfl rfl ?_
    refine Wl.fld ⟨_, 1, none⟩ fl271_1 rfl rfl rfl ?_
    refine Wl.loadb 0 1 t269 rfl rfl rfl rfl ?_
    refine Wl.move rfl rfl ?_
    refine Wl.callF [.int .i64 b] (cap := []) hf1 hb1 hnm1 rfl rfl rfl (fun w hw => hcall1 _ w b (hw.read fun _ _ => trivial)) ?_
    refine Wl.callF [.int .i64 a, .int .i64 (if agg = 2 then 1 else b)] (cap := []) hf hb hnm rfl rfl rfl (fun w hw => hcall _ w a _ (hw.read fun _ _ => trivial)) ?_
    refine Wl.assign rfl rfl ?_
    refine Wl.nilq ?_
    refine Wx.then_n ?_
    refine Wc.ret ?_
    exact Wx.retI rfl rfl (aggAdd_eq agg a b)

end Go.Proofs.YtkffjbijamfnoaaGreat
