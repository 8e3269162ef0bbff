/-
  Jobs: what is wrong with a node, an item.
-/
import Derived.Test.YtkffjbijamfnoaaGreatExprs
set_option linter.unusedVariables false
set_option linter.unusedSimpArgs false
namespace Go.Proofs.YtkffjbijamfnoaaGreat
open Go.RowKit

theorem idxOf_at {α : Type} (p : α → Bool) (l : List α) (k : Nat) (hk : k < l.length) (h : ∀ x ∈ l.take k, p x = false) (ht : p l[k] = true) : idxOf p l = k := by
  unfold idxOf
  have h1 : l.any p = true := List.any_eq_true.2 ⟨_, List.getElem_mem hk, ht⟩
  rw [if_pos h1]
  congr 1
  rw [List.findIdx_eq hk]
  refine ⟨ht, fun j hj => ?_⟩
  have := h l[j] (List.mem_take_iff_getElem.2 ⟨j, by omega, rfl⟩)
  simpa using this
theorem idxOf_none {α : Type} (p : α → Bool) (l : List α) (h : ∀ x ∈ l.take l.length, p x = false) : idxOf p l = -1 := by
  unfold idxOf
  rw [if_neg]
  rw [List.take_length] at h
  simpa using h
theorem idxOf_any {α : Type} (p : α → Bool) (l : List α) : decide (idxOf p l ≥ 0) = l.any p := by
  unfold idxOf
  split <;> simp_all
theorem take_none {α : Type} {p : α → Bool} {l : List α} {k : Nat} (hk : k < l.length) (h : ∀ x ∈ l.take k, p x = false) (ht : p l[k] = false) : ∀ x ∈ l.take (k + 1), p x = false := by
  intro x hx
  rw [List.take_succ_eq_append_getElem hk, List.mem_append] at hx
  rcases hx with hx | hx
  · exact h x hx
  · simp at hx; subst hx; exact ht

theorem index_ints (m : Nat → Prop) (A : Option Addr) (c : Nat) (xs : List Int) (R : World → Prop) (fi : FuncId) (fn : Func) (hf : Tryz.prog.funcs[fi]? = some fn) (hb : fn.body.isNone = false) (hnm : (fn.name == "runtime.NumGoroutine") = false) (cap : List Value) (p : Int → Bool) (hg : PredF Tryz.prog fi cap R (fun x => [.int .i64 x]) (fun x => .bool (p x)) (fun x => x ∈ xs)) (w : World) (hr : Ro m w (fun w => R w ∧ kInt.Row w A xs)) :
    Calls Tryz.prog 198 #[.slice A xs.length c, .func (.func fi) #[] cap.toArray] w (PostV m w (.int .i64 (idxOf p xs))) := by
  have hlen : xs.length ≤ 9223372036854775807 := hr.now.2.1
  refine calls_of_Wc (args := [.slice A xs.length c, .func (.func fi) #[] cap.toArray]) 19 Tryz.func198 rfl rfl (by simp) ?_
  refine Wc.start hr ?_
  refine Wc.seq ?_
  refine Wc.region ?_
  refine Wl.assign rfl rfl ?_
  refine Wl.nil ?_
  refine Wx.then_n ?_
  refine Wc.seq ?_
  refine Wc.seq ?_
  refine Wc.region ?_
  refine Wl.move rfl rfl ?_
  refine Wl.len Tryz.underlying24 rfl rfl ?_
  refine Wl.move rfl rfl ?_
  refine Wl.nil ?_
  refine Wx.then_n ?_
  refine Wc.block ?_
  refine Wc.loopS (G := Nat) (fun g => match g with | k => [(0, .slice A xs.length c), (1, .func (.func fi) #[] cap.toArray), (7, .int .i64 xs.length), (8, .int .i64 k)]) (fun g => match g with | k => k ≤ xs.length ∧ ∀ x ∈ xs.take k, p x = false) (fun g => match g with | k => []) (fun g => match g with | k => fun w => R w ∧ kInt.Row w A xs) (fun g => match g with | k => xs.length - k) 0 ⟨rfl, rfl, rfl, rfl, trivial⟩ ⟨Nat.zero_le _, by simp⟩ (fun w hw => hw) ?_
  rintro k ⟨hk0, he⟩
  dsimp only
  refine Wc.seq ?_
  refine Wc.region ?_
  refine Wl.lss rfl rfl rfl ?_
  refine Wl.nil ?_
  refine Wx.then_n ?_
  refine Wc.seq ?_
  refine Wc.condp rfl (fun h9 => ?_) (fun h9 => ?_)
  ·
    have hk : k < xs.length := by omega
    refine Wc.pure (p := ∃ ad, A = some ad) (fun w hw => hw.addr (fun w h => h.2) (by omega)) ?_
    rintro ⟨ad, rfl⟩
    refine Wc.skip ?_
    refine Wx.then_n ?_
    refine Wc.seq ?_
    refine Wc.block ?_
    refine Wc.seq ?_
    refine Wc.region ?_
    refine Wl.move rfl rfl ?_
    refine Wl.assign rfl rfl ?_
    refine Wl.nil ?_
    refine Wx.then_n ?_
    refine Wc.seq ?_
    refine Wc.region ?_
    refine Wl.move rfl rfl ?_
    refine Wl.move rfl rfl ?_
    refine Wl.move rfl rfl ?_
    refine Wl.idx Tryz.underlying24 t3 rfl rfl rfl hk ?_
    refine Wl.loadr (j := 0) (cs := eInt xs[k]) t3 (fun w h => h.2.cells k hk) rfl rfl (Addr.add_zero' _).symm rfl ?_
    refine Wl.callF [_] hf hb hnm rfl rfl rfl (fun w hw => hg _ w xs[k] (List.getElem_mem hk) (hw.read fun w h => h.1)) ?_
    refine Wl.nil ?_
    refine Wx.then_n ?_
    refine Wc.cond rfl (fun h16 => ?_) (fun h16 => ?_)
    ·
      refine Wc.seq ?_
      refine Wc.region ?_
      refine Wl.move rfl rfl ?_
      refine Wl.assign rfl rfl ?_
      refine Wl.nil ?_
      refine Wx.then_n ?_
      refine Wc.ret ?_
      refine Wx.block_r ?_
      refine Wx.then_r ?_
      refine Wx.then_r ?_
      refine Wx.block_r ?_
      refine Wx.then_r ?_
      exact Wx.retI rfl rfl (idxOf_at p xs k hk he h16).symm
    ·
      refine Wc.skip ?_
      refine Wx.block_n ?_
      refine Wx.then_n ?_
      refine Wc.region ?_
      refine Wl.add rfl rfl rfl (by omega) ?_
      refine Wl.move rfl rfl ?_
      refine Wl.nil ?_
      exact Wx.againS (k + 1) (by omega) ⟨rfl, rfl, rfl, rfl, trivial⟩ ⟨hk, take_none hk he h16⟩ (fun w hw => hw)
  ·
    refine Wc.exit ?_
    refine Wx.then_e ?_
    refine Wx.then_e ?_
    refine Wx.block_e ?_
    refine Wx.then_n ?_
    refine Wc.seq ?_
    refine Wc.region ?_
    refine Wl.assign rfl rfl ?_
    refine Wl.nil ?_
    refine Wx.then_n ?_
    refine Wc.ret ?_
    obtain rfl : k = xs.length := by omega
    exact Wx.retI rfl rfl (idxOf_none p xs he).symm

theorem any_ints (m : Nat → Prop) (A : Option Addr) (c : Nat) (xs : List Int) (R : World → Prop) (fi : FuncId) (fn : Func) (hf : Tryz.prog.funcs[fi]? = some fn) (hb : fn.body.isNone = false) (hnm : (fn.name == "runtime.NumGoroutine") = false) (cap : List Value) (p : Int → Bool) (hg : PredF Tryz.prog fi cap R (fun x => [.int .i64 x]) (fun x => .bool (p x)) (fun x => x ∈ xs)) (w : World) (hr : Ro m w (fun w => R w ∧ kInt.Row w A xs)) :
    Calls Tryz.prog 160 #[.slice A xs.length c, .func (.func fi) #[] cap.toArray] w (PostV m w (.bool (xs.any p))) := by
  refine calls_of_Wc (args := [.slice A xs.length c, .func (.func fi) #[] cap.toArray]) 9 Tryz.func160 rfl rfl (by simp) ?_
  refine Wc.start hr ?_
  refine Wc.seq ?_
  refine Wc.region ?_
  refine Wl.assign rfl rfl ?_
  refine Wl.nil ?_
  refine Wx.then_n ?_
  refine Wc.seq ?_
  refine Wc.region ?_
  refine Wl.move rfl rfl ?_
  refine Wl.move rfl rfl ?_
  refine Wl.callV [_, _] Tryz.func198 rfl rfl rfl rfl (fun w hw => index_ints _ A c xs R fi fn hf hb hnm cap p hg w (hw.read fun w h => h)) ?_
  refine Wl.geq rfl rfl rfl ?_
  refine Wl.assign rfl rfl ?_
  refine Wl.nil ?_
  refine Wx.then_n ?_
  refine Wc.ret ?_
  exact Wx.retB rfl rfl (idxOf_any p xs)

theorem index_items (m : Nat → Prop) (A : Option Addr) (c : Nat) (xs : List Item) (R : World → Prop) (fi : FuncId) (fn : Func) (hf : Tryz.prog.funcs[fi]? = some fn) (hb : fn.body.isNone = false) (hnm : (fn.name == "runtime.NumGoroutine") = false) (cap : List Value) (p : Item → Bool) (hg : PredF Tryz.prog fi cap R (fun x => [.agg (eItem x).toArray]) (fun x => .bool (p x)) (fun x => x ∈ xs)) (w : World) (hr : Ro m w (fun w => R w ∧ kItem.Row w A xs)) :
    Calls Tryz.prog 200 #[.slice A xs.length c, .func (.func fi) #[] cap.toArray] w (PostV m w (.int .i64 (idxOf p xs))) := by
  have hlen : xs.length ≤ 9223372036854775807 := hr.now.2.1
  refine calls_of_Wc (args := [.slice A xs.length c, .func (.func fi) #[] cap.toArray]) 19 Tryz.func200 rfl rfl (by simp) ?_
  refine Wc.start hr ?_
  refine Wc.seq ?_
  refine Wc.region ?_
  refine Wl.assign rfl rfl ?_
  refine Wl.nil ?_
  refine Wx.then_n ?_
  refine Wc.seq ?_
  refine Wc.seq ?_
  refine Wc.region ?_
  refine Wl.move rfl rfl ?_
  refine Wl.len Tryz.underlying22 rfl rfl ?_
  refine Wl.move rfl rfl ?_
  refine Wl.nil ?_
  refine Wx.then_n ?_
  refine Wc.block ?_
  refine Wc.loopS (G := Nat) (fun g => match g with | k => [(0, .slice A xs.length c), (1, .func (.func fi) #[] cap.toArray), (7, .int .i64 xs.length), (8, .int .i64 k)]) (fun g => match g with | k => k ≤ xs.length ∧ ∀ x ∈ xs.take k, p x = false) (fun g => match g with | k => []) (fun g => match g with | k => fun w => R w ∧ kItem.Row w A xs) (fun g => match g with | k => xs.length - k) 0 ⟨rfl, rfl, rfl, rfl, trivial⟩ ⟨Nat.zero_le _, by simp⟩ (fun w hw => hw) ?_
  rintro k ⟨hk0, he⟩
  dsimp only
  refine Wc.seq ?_
  refine Wc.region ?_
  refine Wl.lss rfl rfl rfl ?_
  refine Wl.nil ?_
  refine Wx.then_n ?_
  refine Wc.seq ?_
  refine Wc.condp rfl (fun h9 => ?_) (fun h9 => ?_)
  ·
    have hk : k < xs.length := by omega
    refine Wc.pure (p := ∃ ad, A = some ad) (fun w hw => hw.addr (fun w h => h.2) (by omega)) ?_
    rintro ⟨ad, rfl⟩
    refine Wc.skip ?_
    refine Wx.then_n ?_
    refine Wc.seq ?_
    refine Wc.block ?_
    refine Wc.seq ?_
    refine Wc.region ?_
    refine Wl.move rfl rfl ?_
    refine Wl.assign rfl rfl ?_
    refine Wl.nil ?_
    refine Wx.then_n ?_
    refine Wc.seq ?_
    refine Wc.region ?_
    refine Wl.move rfl rfl ?_
    refine Wl.move rfl rfl ?_
    refine Wl.move rfl rfl ?_
    refine Wl.idx Tryz.underlying22 t100 rfl rfl rfl hk ?_
    refine Wl.loadrw (cs := eItem xs[k]) t100 (fun w h => h.2.cells k hk) rfl rfl rfl ?_
    refine Wl.callF [_] hf hb hnm rfl rfl rfl (fun w hw => hg _ w xs[k] (List.getElem_mem hk) (hw.read fun w h => h.1)) ?_
    refine Wl.nil ?_
    refine Wx.then_n ?_
    refine Wc.cond rfl (fun h16 => ?_) (fun h16 => ?_)
    ·
      refine Wc.seq ?_
      refine Wc.region ?_
      refine Wl.move rfl rfl ?_
      refine Wl.assign rfl rfl ?_
      refine Wl.nil ?_
      refine Wx.then_n ?_
      refine Wc.ret ?_
      refine Wx.block_r ?_
      refine Wx.then_r ?_
      refine Wx.then_r ?_
      refine Wx.block_r ?_
      refine Wx.then_r ?_
      exact Wx.retI rfl rfl (idxOf_at p xs k hk he h16).symm
    ·
      refine Wc.skip ?_
      refine Wx.block_n ?_
      refine Wx.then_n ?_
      refine Wc.region ?_
      refine Wl.add rfl rfl rfl (by omega) ?_
      refine Wl.move rfl rfl ?_
      refine Wl.nil ?_
      exact Wx.againS (k + 1) (by omega) ⟨rfl, rfl, rfl, rfl, trivial⟩ ⟨hk, take_none hk he h16⟩ (fun w hw => hw)
  ·
    refine Wc.exit ?_
    refine Wx.then_e ?_
    refine Wx.then_e ?_
    refine Wx.block_e ?_
    refine Wx.then_n ?_
    refine Wc.seq ?_
    refine Wc.region ?_
    refine Wl.assign rfl rfl ?_
    refine Wl.nil ?_
    refine Wx.then_n ?_
    refine Wc.ret ?_
    obtain rfl : k = xs.length := by omega
    exact Wx.retI rfl rfl (idxOf_none p xs he).symm

theorem any_items (m : Nat → Prop) (A : Option Addr) (c : Nat) (xs : List Item) (R : World → Prop) (fi : FuncId) (fn : Func) (hf : Tryz.prog.funcs[fi]? = some fn) (hb : fn.body.isNone = false) (hnm : (fn.name == "runtime.NumGoroutine") = false) (cap : List Value) (p : Item → Bool) (hg : PredF Tryz.prog fi cap R (fun x => [.agg (eItem x).toArray]) (fun x => .bool (p x)) (fun x => x ∈ xs)) (w : World) (hr : Ro m w (fun w => R w ∧ kItem.Row w A xs)) :
    Calls Tryz.prog 165 #[.slice A xs.length c, .func (.func fi) #[] cap.toArray] w (PostV m w (.bool (xs.any p))) := by
  refine calls_of_Wc (args := [.slice A xs.length c, .func (.func fi) #[] cap.toArray]) 9 Tryz.func165 rfl rfl (by simp) ?_
  refine Wc.start hr ?_
  refine Wc.seq ?_
  refine Wc.region ?_
  refine Wl.assign rfl rfl ?_
  refine Wl.nil ?_
  refine Wx.then_n ?_
  refine Wc.seq ?_
  refine Wc.region ?_
  refine Wl.move rfl rfl ?_
  refine Wl.move rfl rfl ?_
  refine Wl.callV [_, _] Tryz.func200 rfl rfl rfl rfl (fun w hw => index_items _ A c xs R fi fn hf hb hnm cap p hg w (hw.read fun w h => h)) ?_
  refine Wl.geq rfl rfl rfl ?_
  refine Wl.assign rfl rfl ?_
  refine Wl.nil ?_
  refine Wx.then_n ?_
  refine Wc.ret ?_
  exact Wx.retB rfl rfl (idxOf_any p xs)

theorem index_nodes (m : Nat → Prop) (A : Option Addr) (c : Nat) (xs : List Node) (R : World → Prop) (fi : FuncId) (fn : Func) (hf : Tryz.prog.funcs[fi]? = some fn) (hb : fn.body.isNone = false) (hnm : (fn.name == "runtime.NumGoroutine") = false) (cap : List Value) (p : Node → Bool) (hg : ∀ (m : Nat → Prop) (w : World) (x : Node) (A2 A3 : Option Addr) (c2 c3 : Nat), Ro m w R → Calls Tryz.prog fi ([Value.agg #[.int .i64 x.kind, .slice A2 x.ins.length c2, .int .i64 x.par, .int .i64 x.e.op, .int .i64 x.e.n, .slice A3 x.e.l.length c3, .int .i64 x.agg, .int .i64 x.win.kind, .int .i64 x.win.size, .int .i64 x.win.slide]] ++ cap).toArray w (PostV m w (.bool (p x)))) (w : World) (hr : Ro m w (fun w => R w ∧ kNode.Row w A xs)) :
    Calls Tryz.prog 199 #[.slice A xs.length c, .func (.func fi) #[] cap.toArray] w (PostV m w (.int .i64 (idxOf p xs))) := by
  have hlen : xs.length ≤ 9223372036854775807 := hr.now.2.1
  refine calls_of_Wc (args := [.slice A xs.length c, .func (.func fi) #[] cap.toArray]) 19 Tryz.func199 rfl rfl (by simp) ?_
  refine Wc.start hr ?_
  refine Wc.seq ?_
  refine Wc.region ?_
  refine Wl.assign rfl rfl ?_
  refine Wl.nil ?_
  refine Wx.then_n ?_
  refine Wc.seq ?_
  refine Wc.seq ?_
  refine Wc.region ?_
  refine Wl.move rfl rfl ?_
  refine Wl.len Tryz.underlying32 rfl rfl ?_
  refine Wl.move rfl rfl ?_
  refine Wl.nil ?_
  refine Wx.then_n ?_
  refine Wc.block ?_
  refine Wc.loopS (G := Nat) (fun g => match g with | k => [(0, .slice A xs.length c), (1, .func (.func fi) #[] cap.toArray), (7, .int .i64 xs.length), (8, .int .i64 k)]) (fun g => match g with | k => k ≤ xs.length ∧ ∀ x ∈ xs.take k, p x = false) (fun g => match g with | k => []) (fun g => match g with | k => fun w => R w ∧ kNode.Row w A xs) (fun g => match g with | k => xs.length - k) 0 ⟨rfl, rfl, rfl, rfl, trivial⟩ ⟨Nat.zero_le _, by simp⟩ (fun w hw => hw) ?_
  rintro k ⟨hk0, he⟩
  dsimp only
  refine Wc.seq ?_
  refine Wc.region ?_
  refine Wl.lss rfl rfl rfl ?_
  refine Wl.nil ?_
  refine Wx.then_n ?_
  refine Wc.seq ?_
  refine Wc.condp rfl (fun h9 => ?_) (fun h9 => ?_)
  ·
    have hk : k < xs.length := by omega
    refine Wc.pure (p := ∃ ad, A = some ad) (fun w hw => hw.addr (fun w h => h.2) (by omega)) ?_
    rintro ⟨ad, rfl⟩
    refine Wc.exS (fun w hw => hw.node_get (fun w h => h.2) k hk) ?_
    rintro ⟨⟨A2, c2⟩, A3, c3⟩ hc2
    dsimp only at hc2 ⊢
    refine Wc.skip ?_
    refine Wx.then_n ?_
    refine Wc.seq ?_
    refine Wc.block ?_
    refine Wc.seq ?_
    refine Wc.region ?_
    refine Wl.move rfl rfl ?_
    refine Wl.assign rfl rfl ?_
    refine Wl.nil ?_
    refine Wx.then_n ?_
    refine Wc.seq ?_
    refine Wc.region ?_
    refine Wl.move rfl rfl ?_
    refine Wl.move rfl rfl ?_
    refine Wl.move rfl rfl ?_
    refine Wl.idx Tryz.underlying32 t31 rfl rfl rfl hk ?_
    refine Wl.loadrw (cs := _) t31 (fun w h => h.2.1) rfl rfl rfl ?_
    refine Wl.callF [_] hf hb hnm rfl rfl rfl (fun w hw => hg _ w xs[k] A2 A3 c2 c3 (hw.read fun w h => h.1.1)) ?_
    refine Wl.nil ?_
    refine Wx.then_n ?_
    refine Wc.cond rfl (fun h16 => ?_) (fun h16 => ?_)
    ·
      refine Wc.seq ?_
      refine Wc.region ?_
      refine Wl.move rfl rfl ?_
      refine Wl.assign rfl rfl ?_
      refine Wl.nil ?_
      refine Wx.then_n ?_
      refine Wc.ret ?_
      refine Wx.block_r ?_
      refine Wx.then_r ?_
      refine Wx.then_r ?_
      refine Wx.block_r ?_
      refine Wx.then_r ?_
      exact Wx.retI rfl rfl (idxOf_at p xs k hk he h16).symm
    ·
      refine Wc.skip ?_
      refine Wx.block_n ?_
      refine Wx.then_n ?_
      refine Wc.region ?_
      refine Wl.add rfl rfl rfl (by omega) ?_
      refine Wl.move rfl rfl ?_
      refine Wl.nil ?_
      exact Wx.againS (k + 1) (by omega) ⟨rfl, rfl, rfl, rfl, trivial⟩ ⟨hk, take_none hk he h16⟩ (fun w hw => hw.imp fun w h => h.1)
  ·
    refine Wc.exit ?_
    refine Wx.then_e ?_
    refine Wx.then_e ?_
    refine Wx.block_e ?_
    refine Wx.then_n ?_
    refine Wc.seq ?_
    refine Wc.region ?_
    refine Wl.assign rfl rfl ?_
    refine Wl.nil ?_
    refine Wx.then_n ?_
    refine Wc.ret ?_
    obtain rfl : k = xs.length := by omega
    exact Wx.retI rfl rfl (idxOf_none p xs he).symm

theorem any_nodes (m : Nat → Prop) (A : Option Addr) (c : Nat) (xs : List Node) (R : World → Prop) (fi : FuncId) (fn : Func) (hf : Tryz.prog.funcs[fi]? = some fn) (hb : fn.body.isNone = false) (hnm : (fn.name == "runtime.NumGoroutine") = false) (cap : List Value) (p : Node → Bool) (hg : ∀ (m : Nat → Prop) (w : World) (x : Node) (A2 A3 : Option Addr) (c2 c3 : Nat), Ro m w R → Calls Tryz.prog fi ([Value.agg #[.int .i64 x.kind, .slice A2 x.ins.length c2, .int .i64 x.par, .int .i64 x.e.op, .int .i64 x.e.n, .slice A3 x.e.l.length c3, .int .i64 x.agg, .int .i64 x.win.kind, .int .i64 x.win.size, .int .i64 x.win.slide]] ++ cap).toArray w (PostV m w (.bool (p x)))) (w : World) (hr : Ro m w (fun w => R w ∧ kNode.Row w A xs)) :
    Calls Tryz.prog 163 #[.slice A xs.length c, .func (.func fi) #[] cap.toArray] w (PostV m w (.bool (xs.any p))) := by
  refine calls_of_Wc (args := [.slice A xs.length c, .func (.func fi) #[] cap.toArray]) 9 Tryz.func163 rfl rfl (by simp) ?_
  refine Wc.start hr ?_
  refine Wc.seq ?_
  refine Wc.region ?_
  refine Wl.assign rfl rfl ?_
  refine Wl.nil ?_
  refine Wx.then_n ?_
  refine Wc.seq ?_
  refine Wc.region ?_
  refine Wl.move rfl rfl ?_
  refine Wl.move rfl rfl ?_
  refine Wl.callV [_, _] Tryz.func199 rfl rfl rfl rfl (fun w hw => index_nodes _ A c xs R fi fn hf hb hnm cap p hg w (hw.read fun w h => h)) ?_
  refine Wl.geq rfl rfl rfl ?_
  refine Wl.assign rfl rfl ?_
  refine Wl.nil ?_
  refine Wx.then_n ?_
  refine Wc.ret ?_
  exact Wx.retB rfl rfl (idxOf_any p xs)

theorem span_calls (m : Nat → Prop) (x : Int) (w : World) (hr : Ro m w (fun _ => True)) :
    Calls Tryz.prog 236 #[.int .i64 x] w (PostV m w (.bool (spanOk x))) := by
  refine calls_of_Wc (args := [.int .i64 x]) 9 Tryz.func236 rfl rfl (by simp) ?_
  refine Wc.start hr ?_
  refine Wc.seq ?_
  refine Wc.region ?_
  refine Wl.assign rfl rfl ?_
  refine Wl.nil ?_
  refine Wx.then_n ?_
  refine Wc.seq ?_
  refine Wc.region ?_
  refine Wl.move rfl rfl ?_
  refine Wl.geq rfl rfl rfl ?_
  refine Wl.move rfl rfl ?_
  refine Wl.splitp 5 rfl (fun h5 => ?_) (fun h5 => ?_)
  ·
    refine Wl.move rfl rfl ?_
    refine Wl.leq rfl rfl rfl ?_
    refine Wl.pick_t rfl rfl rfl ?_
    refine Wl.assign rfl rfl ?_
    refine Wl.nil ?_
    refine Wx.then_n ?_
    refine Wc.ret ?_
    exact Wx.retB rfl rfl (by simp [spanOk, *])
  ·
    refine Wl.skip rfl rfl ?_
    refine Wl.skip rfl rfl ?_
    refine Wl.pick_f rfl rfl rfl ?_
    refine Wl.assign rfl rfl ?_
    refine Wl.nil ?_
    refine Wx.then_n ?_
    refine Wc.ret ?_
    exact Wx.retB rfl rfl (by simp [spanOk, *])

theorem win_calls (m : Nat → Prop) (x : Win) (w : World) (hr : Ro m w (fun _ => True)) :
    Calls Tryz.prog 228 #[.agg #[.int .i64 x.kind, .int .i64 x.size, .int .i64 x.slide]] w (PostV m w (.bool (winOk x))) := by
  refine calls_of_Wc (args := [.agg #[.int .i64 x.kind, .int .i64 x.size, .int .i64 x.slide]]) 26 Tryz.func228 rfl rfl (by simp) ?_
  refine Wc.start hr ?_
  refine Wc.seq ?_
  refine Wc.region ?_
  refine Wl.box rfl rfl rfl (fun b1 => ?_)
  refine Wl.assign rfl rfl ?_
  refine Wl.nil ?_
  refine Wx.then_n ?_
  refine Wc.seq ?_
  refine Wc.seq ?_
  refine Wc.region ?_
  refine Wl.fld ⟨_, 0, none⟩ fl29_0 rfl rfl rfl ?_
  refine Wl.loadb 0 0 t3 rfl rfl rfl rfl ?_
  refine Wl.nil ?_
  refine Wx.then_n ?_
  refine Wc.block ?_
  refine Wc.seq ?_
  refine Wc.seq ?_
  refine Wc.region ?_
  refine Wl.eql rfl rfl rfl ?_
  refine Wl.assign rfl rfl ?_
  refine Wl.nil ?_
  refine Wx.then_n ?_
  refine Wc.condp rfl (fun h5 => ?_) (fun h5 => ?_)
  ·
    refine Wc.skip ?_
    refine Wx.then_n ?_
    refine Wc.condp rfl (fun h5 => ?_) (fun h5 => ?_)
    ·
      refine Wc.seq ?_
      refine Wc.region ?_
      refine Wl.fld ⟨_, 1, none⟩ fl29_1 rfl rfl rfl ?_
      refine Wl.loadb 0 1 t2 rfl rfl rfl rfl ?_
      refine Wl.callV [_] Tryz.func236 rfl rfl rfl rfl (fun w hw => span_calls _ _ w (hw.read fun _ _ => trivial)) ?_
      refine Wl.move rfl rfl ?_
      refine Wl.split 11 rfl (fun h11 => ?_) (fun h11 => ?_)
      ·
        refine Wl.fld ⟨_, 2, none⟩ fl29_2 rfl rfl rfl ?_
        refine Wl.loadb 0 2 t2 rfl rfl rfl rfl ?_
        refine Wl.eql rfl rfl rfl ?_
        refine Wl.pick_t rfl rfl rfl ?_
        refine Wl.assign rfl rfl ?_
        refine Wl.nil ?_
        refine Wx.then_n ?_
        refine Wc.ret ?_
        refine Wx.block_r ?_
        refine Wx.then_r ?_
        exact Wx.retB rfl rfl (by first | omega | simp [winOk, *])
      ·
        refine Wl.skip rfl rfl ?_
        refine Wl.skip rfl rfl ?_
        refine Wl.skip rfl rfl ?_
        refine Wl.pick_f rfl rfl rfl ?_
        refine Wl.assign rfl rfl ?_
        refine Wl.nil ?_
        refine Wx.then_n ?_
        refine Wc.ret ?_
        refine Wx.block_r ?_
        refine Wx.then_r ?_
        exact Wx.retB rfl rfl (by first | omega | simp [winOk, *])
    ·
      refine Wc.seq ?_
      refine Wc.region ?_
      refine Wl.eql rfl rfl rfl ?_
      refine Wl.assign rfl rfl ?_
      refine Wl.nil ?_
      refine Wx.then_n ?_
      refine Wc.condp rfl (fun h16 => ?_) (fun h16 => ?_)
      ·
        refine Wc.seq ?_
        refine Wc.region ?_
        refine Wl.fld ⟨_, 1, none⟩ fl29_1 rfl rfl rfl ?_
        refine Wl.loadb 0 1 t2 rfl rfl rfl rfl ?_
        refine Wl.callV [_] Tryz.func236 rfl rfl rfl rfl (fun w hw => span_calls _ _ w (hw.read fun _ _ => trivial)) ?_
        refine Wl.move rfl rfl ?_
        refine Wl.split 21 rfl (fun h21 => ?_) (fun h21 => ?_)
        ·
          refine Wl.fld ⟨_, 2, none⟩ fl29_2 rfl rfl rfl ?_
          refine Wl.loadb 0 2 t2 rfl rfl rfl rfl ?_
          refine Wl.callV [_] Tryz.func236 rfl rfl rfl rfl (fun w hw => span_calls _ _ w (hw.read fun _ _ => trivial)) ?_
          refine Wl.pick_t rfl rfl rfl ?_
          refine Wl.assign rfl rfl ?_
          refine Wl.nil ?_
          refine Wx.then_n ?_
          refine Wc.ret ?_
          refine Wx.block_r ?_
          refine Wx.then_r ?_
          exact Wx.retB rfl rfl (by first | omega | simp [winOk, *])
        ·
          refine Wl.skip rfl rfl ?_
          refine Wl.skip rfl rfl ?_
          refine Wl.skip rfl rfl ?_
          refine Wl.pick_f rfl rfl rfl ?_
          refine Wl.assign rfl rfl ?_
          refine Wl.nil ?_
          refine Wx.then_n ?_
          refine Wc.ret ?_
          refine Wx.block_r ?_
          refine Wx.then_r ?_
          exact Wx.retB rfl rfl (by first | omega | simp [winOk, *])
      ·
        refine Wc.skip ?_
        refine Wx.block_n ?_
        refine Wx.then_n ?_
        refine Wc.seq ?_
        refine Wc.region ?_
        refine Wl.assign rfl rfl ?_
        refine Wl.nil ?_
        refine Wx.then_n ?_
        refine Wc.ret ?_
        exact Wx.retB rfl rfl (by first | omega | simp [winOk, *])
  ·
    refine Wc.region ?_
    refine Wl.eql rfl rfl rfl ?_
    refine Wl.assign rfl rfl ?_
    refine Wl.nil ?_
    refine Wx.then_n ?_
    refine Wc.condp rfl (fun h5 => ?_) (fun h5 => ?_)
    ·
      refine Wc.seq ?_
      refine Wc.region ?_
      refine Wl.fld ⟨_, 1, none⟩ fl29_1 rfl rfl rfl ?_
      refine Wl.loadb 0 1 t2 rfl rfl rfl rfl ?_
      refine Wl.callV [_] Tryz.func236 rfl rfl rfl rfl (fun w hw => span_calls _ _ w (hw.read fun _ _ => trivial)) ?_
      refine Wl.move rfl rfl ?_
      refine Wl.split 11 rfl (fun h11 => ?_) (fun h11 => ?_)
      ·
        refine Wl.fld ⟨_, 2, none⟩ fl29_2 rfl rfl rfl ?_
        refine Wl.loadb 0 2 t2 rfl rfl rfl rfl ?_
        refine Wl.eql rfl rfl rfl ?_
        refine Wl.pick_t rfl rfl rfl ?_
        refine Wl.assign rfl rfl ?_
        refine Wl.nil ?_
        refine Wx.then_n ?_
        refine Wc.ret ?_
        refine Wx.block_r ?_
        refine Wx.then_r ?_
        exact Wx.retB rfl rfl (by first | omega | simp [winOk, *])
      ·
        refine Wl.skip rfl rfl ?_
        refine Wl.skip rfl rfl ?_
        refine Wl.skip rfl rfl ?_
        refine Wl.pick_f rfl rfl rfl ?_
        refine Wl.assign rfl rfl ?_
        refine Wl.nil ?_
        refine Wx.then_n ?_
        refine Wc.ret ?_
        refine Wx.block_r ?_
        refine Wx.then_r ?_
        exact Wx.retB rfl rfl (by first | omega | simp [winOk, *])
    ·
      refine Wc.seq ?_
      refine Wc.region ?_
      refine Wl.eql rfl rfl rfl ?_
      refine Wl.assign rfl rfl ?_
      refine Wl.nil ?_
      refine Wx.then_n ?_
      refine Wc.condp rfl (fun h16 => ?_) (fun h16 => ?_)
      ·
        refine Wc.seq ?_
        refine Wc.region ?_
        refine Wl.fld ⟨_, 1, none⟩ fl29_1 rfl rfl rfl ?_
        refine Wl.loadb 0 1 t2 rfl rfl rfl rfl ?_
        refine Wl.callV [_] Tryz.func236 rfl rfl rfl rfl (fun w hw => span_calls _ _ w (hw.read fun _ _ => trivial)) ?_
        refine Wl.move rfl rfl ?_
        refine Wl.split 21 rfl (fun h21 => ?_) (fun h21 => ?_)
        ·
          refine Wl.fld ⟨_, 2, none⟩ fl29_2 rfl rfl rfl ?_
          refine Wl.loadb 0 2 t2 rfl rfl rfl rfl ?_
          refine Wl.callV [_] Tryz.func236 rfl rfl rfl rfl (fun w hw => span_calls _ _ w (hw.read fun _ _ => trivial)) ?_
          refine Wl.pick_t rfl rfl rfl ?_
          refine Wl.assign rfl rfl ?_
          refine Wl.nil ?_
          refine Wx.then_n ?_
          refine Wc.ret ?_
          refine Wx.block_r ?_
          refine Wx.then_r ?_
          exact Wx.retB rfl rfl (by first | omega | simp [winOk, *])
        ·
          refine Wl.skip rfl rfl ?_
          refine Wl.skip rfl rfl ?_
          refine Wl.skip rfl rfl ?_
          refine Wl.pick_f rfl rfl rfl ?_
          refine Wl.assign rfl rfl ?_
          refine Wl.nil ?_
          refine Wx.then_n ?_
          refine Wc.ret ?_
          refine Wx.block_r ?_
          refine Wx.then_r ?_
          exact Wx.retB rfl rfl (by first | omega | simp [winOk, *])
      ·
        refine Wc.skip ?_
        refine Wx.block_n ?_
        refine Wx.then_n ?_
        refine Wc.seq ?_
        refine Wc.region ?_
        refine Wl.assign rfl rfl ?_
        refine Wl.nil ?_
        refine Wx.then_n ?_
        refine Wc.ret ?_
        exact Wx.retB rfl rfl (by first | omega | simp [winOk, *])

theorem item_calls (m : Nat → Prop) (x : Item) (w : World) (hr : Ro m w (fun _ => True)) :
    Calls Tryz.prog 167 #[.agg (eItem x).toArray] w (PostV m w (.bool (itemOk x))) := by
  refine calls_of_Wc (args := [.agg (eItem x).toArray]) 43 Tryz.func167 rfl rfl (by simp) ?_
  refine Wc.start hr ?_
  refine Wc.seq ?_
  refine Wc.region ?_
  refine Wl.box rfl rfl rfl (fun b1 => ?_)
  refine Wl.assign rfl rfl ?_
  refine Wl.nil ?_
  refine Wx.then_n ?_
  refine Wc.seq ?_
  refine Wc.seq ?_
  refine Wc.region ?_
  refine Wl.fld ⟨_, 0, none⟩ fl100_0 rfl rfl rfl ?_
  refine Wl.loadb 0 0 t3 rfl rfl rfl rfl ?_
  refine Wl.nil ?_
  refine Wx.then_n ?_
  refine Wc.block ?_
  refine Wc.seq ?_
  refine Wc.region ?_
  refine Wl.eql rfl rfl rfl ?_
  refine Wl.assign rfl rfl ?_
  refine Wl.nil ?_
  refine Wx.then_n ?_
  refine Wc.condp rfl (fun h5 => ?_) (fun h5 => ?_)
  ·
    refine Wc.seq ?_
    refine Wc.region ?_
    refine Wl.fld ⟨_, 4, none⟩ fl100_2 rfl rfl rfl ?_
    refine Wl.loadb 0 4 t2 rfl rfl rfl rfl ?_
    refine Wl.eql rfl rfl rfl ?_
    refine Wl.move rfl rfl ?_
    refine Wl.splitp 10 rfl (fun h10 => ?_) (fun h10 => ?_)
    ·
      refine Wl.fld ⟨_, 1, none⟩ fl100_1 rfl rfl rfl ?_
      refine Wl.fld ⟨_, 2, none⟩ fl70_1 rfl rfl rfl ?_
      refine Wl.loadb 0 2 t2 rfl rfl rfl rfl ?_
      refine Wl.geq rfl rfl rfl ?_
      refine Wl.pick_t rfl rfl rfl ?_
      refine Wl.move rfl rfl ?_
      refine Wl.splitp 16 rfl (fun h16 => ?_) (fun h16 => ?_)
      ·
        refine Wl.fld ⟨_, 1, none⟩ fl100_1 rfl rfl rfl ?_
        refine Wl.fld ⟨_, 2, none⟩ fl70_1 rfl rfl rfl ?_
        refine Wl.loadb 0 2 t2 rfl rfl rfl rfl ?_
        refine Wl.leq rfl rfl rfl ?_
        refine Wl.pick_t rfl rfl rfl ?_
        refine Wl.assign rfl rfl ?_
        refine Wl.nil ?_
        refine Wx.then_n ?_
        refine Wc.ret ?_
        refine Wx.block_r ?_
        refine Wx.then_r ?_
        exact Wx.retB rfl rfl (by first | omega | simp [itemOk, *])
      ·
        refine Wl.skip rfl rfl ?_
        refine Wl.skip rfl rfl ?_
        refine Wl.skip rfl rfl ?_
        refine Wl.skip rfl rfl ?_
        refine Wl.pick_f rfl rfl rfl ?_
        refine Wl.assign rfl rfl ?_
        refine Wl.nil ?_
        refine Wx.then_n ?_
        refine Wc.ret ?_
        refine Wx.block_r ?_
        refine Wx.then_r ?_
        exact Wx.retB rfl rfl (by first | omega | simp [itemOk, *])
    ·
      refine Wl.skip rfl rfl ?_
      refine Wl.skip rfl rfl ?_
      refine Wl.skip rfl rfl ?_
      refine Wl.skip rfl rfl ?_
      refine Wl.pick_f rfl rfl rfl ?_
      refine Wl.move rfl rfl ?_
      refine Wl.skip rfl rfl ?_
      refine Wl.skip rfl rfl ?_
      refine Wl.skip rfl rfl ?_
      refine Wl.skip rfl rfl ?_
      refine Wl.pick_f rfl rfl rfl ?_
      refine Wl.assign rfl rfl ?_
      refine Wl.nil ?_
      refine Wx.then_n ?_
      refine Wc.ret ?_
      refine Wx.block_r ?_
      refine Wx.then_r ?_
      exact Wx.retB rfl rfl (by first | omega | simp [itemOk, *])
  ·
    refine Wc.seq ?_
    refine Wc.region ?_
    refine Wl.eql rfl rfl rfl ?_
    refine Wl.assign rfl rfl ?_
    refine Wl.nil ?_
    refine Wx.then_n ?_
    refine Wc.condp rfl (fun h22 => ?_) (fun h22 => ?_)
    ·
      refine Wc.seq ?_
      refine Wc.region ?_
      refine Wl.fld ⟨_, 1, none⟩ fl100_1 rfl rfl rfl ?_
      refine Wl.loadbs 0 1 t70 rfl rfl rfl rfl rfl ?_
      refine Wl.build (parts := []) [] [.int .i64 0, .int .i64 0, .int .i64 0] rfl rfl (fun w => run_build w _ _ _ (by kernel_rfl)) ?_
      refine Wl.eqls x.rcd (⟨0, 0, 0⟩ : Rec) eq70 rfl rfl rfl ?_
      refine Wl.move rfl rfl ?_
      refine Wl.splitp 28 rfl (fun h28 => ?_) (fun h28 => ?_)
      ·
        refine Wl.fld ⟨_, 4, none⟩ fl100_2 rfl rfl rfl ?_
        refine Wl.loadb 0 4 t2 rfl rfl rfl rfl ?_
        refine Wl.geq rfl rfl rfl ?_
        refine Wl.move rfl rfl ?_
        refine Wl.splitp 32 rfl (fun h32 => ?_) (fun h32 => ?_)
        ·
          refine Wl.fld ⟨_, 4, none⟩ fl100_2 rfl rfl rfl ?_
          refine Wl.loadb 0 4 t2 rfl rfl rfl rfl ?_
          refine Wl.leq rfl rfl rfl ?_
          refine Wl.pick_t rfl rfl rfl ?_
          refine Wl.move rfl rfl ?_
          refine Wl.splitp 37 rfl (fun h37 => ?_) (fun h37 => ?_)
          ·
            refine Wl.skip rfl rfl ?_
            refine Wl.skip rfl rfl ?_
            refine Wl.skip rfl rfl ?_
            refine Wl.pick_t rfl rfl rfl ?_
            refine Wl.pick_t rfl rfl rfl ?_
            refine Wl.assign rfl rfl ?_
            refine Wl.nil ?_
            refine Wx.then_n ?_
            refine Wc.ret ?_
            refine Wx.block_r ?_
            refine Wx.then_r ?_
            exact Wx.retB rfl rfl (by first | omega | simp [itemOk, *])
          ·
            refine Wl.fld ⟨_, 4, none⟩ fl100_2 rfl rfl rfl ?_
            refine Wl.loadb 0 4 t2 rfl rfl rfl rfl ?_
            refine Wl.eql rfl rfl rfl ?_
            refine Wl.pick_f rfl rfl rfl ?_
            refine Wl.pick_t rfl rfl rfl ?_
            refine Wl.assign rfl rfl ?_
            refine Wl.nil ?_
            refine Wx.then_n ?_
            refine Wc.ret ?_
            refine Wx.block_r ?_
            refine Wx.then_r ?_
            exact Wx.retB rfl rfl (by first | omega | simp [itemOk, *])
        ·
          refine Wl.skip rfl rfl ?_
          refine Wl.skip rfl rfl ?_
          refine Wl.skip rfl rfl ?_
          refine Wl.pick_f rfl rfl rfl ?_
          refine Wl.move rfl rfl ?_
          refine Wl.fld ⟨_, 4, none⟩ fl100_2 rfl rfl rfl ?_
          refine Wl.loadb 0 4 t2 rfl rfl rfl rfl ?_
          refine Wl.eql rfl rfl rfl ?_
          refine Wl.pick_f rfl rfl rfl ?_
          refine Wl.pick_t rfl rfl rfl ?_
          refine Wl.assign rfl rfl ?_
          refine Wl.nil ?_
          refine Wx.then_n ?_
          refine Wc.ret ?_
          refine Wx.block_r ?_
          refine Wx.then_r ?_
          exact Wx.retB rfl rfl (by first | omega | simp [itemOk, *])
      ·
        refine Wl.skip rfl rfl ?_
        refine Wl.skip rfl rfl ?_
        refine Wl.skip rfl rfl ?_
        refine Wl.skip rfl rfl ?_
        refine Wl.skip rfl rfl ?_
        refine Wl.skip rfl rfl ?_
        refine Wl.skip rfl rfl ?_
        refine Wl.skip rfl rfl ?_
        refine Wl.skip rfl rfl ?_
        refine Wl.skip rfl rfl ?_
        refine Wl.skip rfl rfl ?_
        refine Wl.skip rfl rfl ?_
        refine Wl.skip rfl rfl ?_
        refine Wl.pick_f rfl rfl rfl ?_
        refine Wl.assign rfl rfl ?_
        refine Wl.nil ?_
        refine Wx.then_n ?_
        refine Wc.ret ?_
        refine Wx.block_r ?_
        refine Wx.then_r ?_
        exact Wx.retB rfl rfl (by first | omega | simp [itemOk, *])
    ·
      refine Wc.skip ?_
      refine Wx.block_n ?_
      refine Wx.then_n ?_
      refine Wc.seq ?_
      refine Wc.region ?_
      refine Wl.assign rfl rfl ?_
      refine Wl.nil ?_
      refine Wx.then_n ?_
      refine Wc.ret ?_
      exact Wx.retB rfl rfl (by first | omega | simp [itemOk, *])

theorem logs1_calls (m : Nat → Prop) (x : Item) (w : World) (hr : Ro m w (fun _ => True)) :
    Calls Tryz.prog 166 #[.agg (eItem x).toArray] w (PostV m w (.bool (!itemOk x))) := by
  refine calls_of_Wc (args := [.agg (eItem x).toArray]) 6 Tryz.func166 rfl rfl (by simp) ?_
  refine Wc.start hr ?_
  refine Wc.seq ?_
  refine Wc.region ?_
  refine Wl.box rfl rfl rfl (fun b1 => ?_)
  refine Wl.assign rfl rfl ?_
  refine Wl.nil ?_
  refine Wx.then_n ?_
  refine Wc.seq ?_
  refine Wc.region ?_
  refine Wl.loadbw 0 t100 rfl rfl rfl rfl ?_
  refine Wl.callV [.agg (eItem x).toArray] Tryz.func167 rfl rfl rfl rfl (fun w hw => item_calls _ _ w (hw.read fun _ _ => trivial)) ?_
  refine Wl.not rfl rfl ?_
  refine Wl.assign rfl rfl ?_
  refine Wl.nil ?_
  refine Wx.then_n ?_
  refine Wc.ret ?_
  exact Wx.retB rfl rfl rfl

theorem check1_calls (m : Nat → Prop) (x : Int) (w : World) (hr : Ro m w (fun _ => True)) :
    Calls Tryz.prog 162 #[.int .i64 x] w (PostV m w (.bool (decide (x > 64)))) := by
  refine calls_of_Wc (args := [.int .i64 x]) 5 Tryz.func162 rfl rfl (by simp) ?_
  refine Wc.start hr ?_
  refine Wc.seq ?_
  refine Wc.region ?_
  refine Wl.assign rfl rfl ?_
  refine Wl.nil ?_
  refine Wx.then_n ?_
  refine Wc.seq ?_
  refine Wc.region ?_
  refine Wl.move rfl rfl ?_
  refine Wl.gtr rfl rfl rfl ?_
  refine Wl.assign rfl rfl ?_
  refine Wl.nil ?_
  refine Wx.then_n ?_
  refine Wc.ret ?_
  exact Wx.retB rfl rfl rfl

theorem check2_calls (m : Nat → Prop) (x : Node) (A A2 : Option Addr) (c c2 : Nat) (w : World) (R : World → Prop) (hr : Ro m w R) :
    Calls Tryz.prog 164 #[.agg #[.int .i64 x.kind, .slice A x.ins.length c, .int .i64 x.par, .int .i64 x.e.op, .int .i64 x.e.n, .slice A2 x.e.l.length c2, .int .i64 x.agg, .int .i64 x.win.kind, .int .i64 x.win.size, .int .i64 x.win.slide]] w (PostV m w (.bool (decide (x.kind = 8)))) := by
  refine calls_of_Wc (args := [.agg #[.int .i64 x.kind, .slice A x.ins.length c, .int .i64 x.par, .int .i64 x.e.op, .int .i64 x.e.n, .slice A2 x.e.l.length c2, .int .i64 x.agg, .int .i64 x.win.kind, .int .i64 x.win.size, .int .i64 x.win.slide]]) 6 Tryz.func164 rfl rfl (by simp) ?_
  refine Wc.start hr ?_
  refine Wc.seq ?_
  refine Wc.region ?_
  refine Wl.box rfl rfl rfl (fun b1 => ?_)
  refine Wl.assign rfl rfl ?_
  refine Wl.nil ?_
  refine Wx.then_n ?_
  refine Wc.seq ?_
  refine Wc.region ?_
  refine Wl.fld ⟨_, 0, none⟩ fl31_0 rfl rfl rfl ?_
  refine Wl.loadb 0 0 t3 rfl rfl rfl rfl ?_
  refine Wl.eql rfl rfl rfl ?_
  refine Wl.assign rfl rfl ?_
  refine Wl.nil ?_
  refine Wx.then_n ?_
  refine Wc.ret ?_
  exact Wx.retB rfl rfl rfl

theorem inputs1_calls (m : Nat → Prop) (i : Int) (ad : Addr) (J : Option Addr) (jc : Nat) (ns : List Node) (w : World) (hr : Ro m w (fun w => Cells w ad [.slice J ns.length jc] ∧ kNode.Row w J ns)) :
    Calls Tryz.prog 235 #[.int .i64 i, .pointer (some ad)] w (PostV m w (.bool (badIn ns i))) := by
  refine calls_of_Wc (args := [.int .i64 i, .pointer (some ad)]) 22 Tryz.func235 rfl rfl (by simp) ?_
  refine Wc.start hr ?_
  refine Wc.seq ?_
  refine Wc.region ?_
  refine Wl.assign rfl rfl ?_
  refine Wl.nil ?_
  refine Wx.then_n ?_
  refine Wc.seq ?_
  refine Wc.region ?_
  refine Wl.move rfl rfl ?_
  refine Wl.lss rfl rfl rfl ?_
  refine Wl.move rfl rfl ?_
  refine Wl.splitp 6 rfl (fun h6 => ?_) (fun h6 => ?_)
  ·
    refine Wl.skip rfl rfl ?_
    refine Wl.skip rfl rfl ?_
    refine Wl.skip rfl rfl ?_
    refine Wl.skip rfl rfl ?_
    refine Wl.skip rfl rfl ?_
    refine Wl.pick_t rfl rfl rfl ?_
    refine Wl.move rfl rfl ?_
    refine Wl.skip rfl rfl ?_
    refine Wl.skip rfl rfl ?_
    refine Wl.skip rfl rfl ?_
    refine Wl.skip rfl rfl ?_
    refine Wl.skip rfl rfl ?_
    refine Wl.skip rfl rfl ?_
    refine Wl.skip rfl rfl ?_
    refine Wl.pick_t rfl rfl rfl ?_
    refine Wl.assign rfl rfl ?_
    refine Wl.nil ?_
    refine Wx.then_n ?_
    refine Wc.ret ?_
    exact Wx.retB rfl rfl (by simp [badIn, *])
  ·
    refine Wl.move rfl rfl ?_
    refine Wl.fld _ fl34_0 rfl rfl rfl ?_
    refine Wl.loadr (j := 0) (cs := [.slice J ns.length jc]) t32 (fun w h => h.1) rfl rfl rfl rfl ?_
    refine Wl.len Tryz.underlying32 rfl rfl ?_
    refine Wl.geq rfl rfl rfl ?_
    refine Wl.pick_f rfl rfl rfl ?_
    refine Wl.move rfl rfl ?_
    refine Wl.splitp 13 rfl (fun h13 => ?_) (fun h13 => ?_)
    ·
      refine Wl.skip rfl rfl ?_
      refine Wl.skip rfl rfl ?_
      refine Wl.skip rfl rfl ?_
      refine Wl.skip rfl rfl ?_
      refine Wl.skip rfl rfl ?_
      refine Wl.skip rfl rfl ?_
      refine Wl.skip rfl rfl ?_
      refine Wl.pick_t rfl rfl rfl ?_
      refine Wl.assign rfl rfl ?_
      refine Wl.nil ?_
      refine Wx.then_n ?_
      refine Wc.ret ?_
      exact Wx.retB rfl rfl (by unfold badIn; rw [decide_eq_true (show (ns.length : Int) ≤ i by omega)]; simp)
    ·
      obtain ⟨k, rfl⟩ : ∃ k : Nat, i = k := ⟨i.toNat, by omega⟩
      have hi : k < ns.length := by omega
      refine Wl.fld _ fl34_0 rfl rfl rfl ?_
      refine Wl.loadr (j := 0) (cs := [.slice J ns.length jc]) t32 (fun w h => h.1) rfl rfl rfl rfl ?_
      refine Wl.move rfl rfl ?_
      refine Wl.pure (p := ∃ jd, J = some jd) (fun w hw => hw.addr (fun w h => h.2) (by omega)) ?_
      rintro ⟨jd, rfl⟩
      refine Wl.exS (fun w hw => hw.node_get (fun w h => h.2) k hi) ?_
      rintro ⟨⟨A2, c2⟩, A3, c3⟩ hc2
      dsimp only at hc2 ⊢
      refine Wl.idx Tryz.underlying32 t31 rfl rfl rfl (by omega) ?_
      refine Wl.fld _ fl31_0 rfl rfl rfl ?_
      refine Wl.loadr (j := 0) (cs := _) t3 (fun w h => h.2.1) rfl rfl rfl rfl ?_
      refine Wl.eql rfl rfl rfl ?_
      refine Wl.pick_f rfl rfl rfl ?_
      refine Wl.assign rfl rfl ?_
      refine Wl.nil ?_
      refine Wx.then_n ?_
      refine Wc.ret ?_
      exact Wx.retB rfl rfl (by unfold badIn; rw [decide_eq_false (show ¬ ((k : Nat) : Int) < 0 by omega), decide_eq_false (show ¬ (ns.length : Int) ≤ k by omega)]; simp [List.getElem?_eq_getElem (show k < ns.length by omega)])

theorem inputs1_pred (ad : Addr) (J : Option Addr) (jc : Nat) (ns : List Node) (S : Int → Prop) : PredF Tryz.prog 235 [.pointer (some ad)] (fun w => Cells w ad [.slice J ns.length jc] ∧ kNode.Row w J ns) (fun x => [.int .i64 x]) (fun x => .bool (badIn ns x)) S := by
  intro m w i _ hr
  exact inputs1_calls m i ad J jc ns w hr

theorem inputs_any (m : Nat → Prop) (ad : Addr) (A J : Option Addr) (c jc : Nat) (l : List Int) (ns : List Node) (w : World) (hr : Ro m w fun w => (Cells w ad [.slice J ns.length jc] ∧ kNode.Row w J ns) ∧ kInt.Row w A l) : Calls Tryz.prog 160 #[.slice A l.length c, .func (.func 235) #[] #[.pointer (some ad)]] w (PostV m w (.bool (l.any (badIn ns)))) := by
  have h := any_ints m A c l (fun w => Cells w ad [.slice J ns.length jc] ∧ kNode.Row w J ns) 235 _ Tryz.func235 rfl rfl [.pointer (some ad)] (badIn ns) (inputs1_pred _ J jc ns _)
  exact h w hr

theorem inputs_calls (m : Nat → Prop) (x : Node) (A A2 J : Option Addr) (c c2 jc : Nat) (ns : List Node) (w : World) (hr : Ro m w (fun w => kInt.Row w A x.ins ∧ kExpr.Row w A2 x.e.l ∧ kNode.Row w J ns)) (hc : x.ins.length ≤ c) (hc2 : x.e.l.length ≤ c2) :
    Calls Tryz.prog 226 #[.agg #[.slice J ns.length jc], .agg #[.int .i64 x.kind, .slice A x.ins.length c, .int .i64 x.par, .int .i64 x.e.op, .int .i64 x.e.n, .slice A2 x.e.l.length c2, .int .i64 x.agg, .int .i64 x.win.kind, .int .i64 x.win.size, .int .i64 x.win.slide]] w (PostV m w (.bool (insOk ns x))) := by
  have hil : x.ins.length ≤ 9223372036854775807 := hr.now.1.1
  refine calls_of_Wc (args := [.agg #[.slice J ns.length jc], .agg #[.int .i64 x.kind, .slice A x.ins.length c, .int .i64 x.par, .int .i64 x.e.op, .int .i64 x.e.n, .slice A2 x.e.l.length c2, .int .i64 x.agg, .int .i64 x.win.kind, .int .i64 x.win.size, .int .i64 x.win.slide]]) 30 Tryz.func226 rfl rfl (by simp) ?_
  refine Wc.start hr ?_
  refine Wc.seq ?_
  refine Wc.region ?_
  refine Wl.box rfl rfl rfl (fun b2 => ?_)
  refine Wl.box rfl rfl rfl (fun b3 => ?_)
  refine Wl.assign rfl rfl ?_
  refine Wl.nil ?_
  refine Wx.then_n ?_
  refine Wc.seq ?_
  refine Wc.region ?_
  refine Wl.assign rfl rfl ?_
  refine Wl.assign rfl rfl ?_
  refine Wl.nil ?_
  refine Wx.then_n ?_
  refine Wc.cutS (G := Int × Int) (fun g => match g with | ⟨lo, hi⟩ => [(2, .pointer (some ⟨b2, 0, none⟩)), (3, .pointer (some ⟨b3, 0, none⟩)), (4, .bool false), (5, .int .i64 lo), (6, .int .i64 hi)]) (fun g => match g with | ⟨lo, hi⟩ => lo = leastIn x.kind ∧ hi = mostIn x.kind) (fun g => match g with | ⟨lo, hi⟩ => [.box b2 [.slice J ns.length jc] 34, .box b3 [.int .i64 x.kind, .slice A x.ins.length c, .int .i64 x.par, .int .i64 x.e.op, .int .i64 x.e.n, .slice A2 x.e.l.length c2, .int .i64 x.agg, .int .i64 x.win.kind, .int .i64 x.win.size, .int .i64 x.win.slide] 31]) (fun g => match g with | ⟨lo, hi⟩ => fun w => kInt.Row w A x.ins ∧ kExpr.Row w A2 x.e.l ∧ kNode.Row w J ns) ?_ ?_
  ·
    refine Wc.seq ?_
    refine Wc.region ?_
    refine Wl.fld ⟨_, 0, none⟩ fl31_0 rfl rfl rfl ?_
    refine Wl.loadb 1 0 t3 rfl rfl rfl rfl ?_
    refine Wl.nil ?_
    refine Wx.then_n ?_
    refine Wc.block ?_
    refine Wc.seq ?_
    refine Wc.region ?_
    refine Wl.eql rfl rfl rfl ?_
    refine Wl.assign rfl rfl ?_
    refine Wl.nil ?_
    refine Wx.then_n ?_
    refine Wc.condp rfl (fun h9 => ?_) (fun h9 => ?_)
    ·
      refine Wc.region ?_
      refine Wl.assign rfl rfl ?_
      refine Wl.assign rfl rfl ?_
      refine Wl.nil ?_
      refine Wx.block_n ?_
      exact Wx.metS ⟨0, 0⟩ ⟨rfl, rfl, rfl, rfl, rfl, trivial⟩ ⟨by simp [leastIn, *], by simp [mostIn, *]⟩ (fun w hw => hw)
    ·
      refine Wc.seq ?_
      refine Wc.region ?_
      refine Wl.eql rfl rfl rfl ?_
      refine Wl.assign rfl rfl ?_
      refine Wl.nil ?_
      refine Wx.then_n ?_
      refine Wc.condp rfl (fun h11 => ?_) (fun h11 => ?_)
      ·
        refine Wc.region ?_
        refine Wl.assign rfl rfl ?_
        refine Wl.nil ?_
        refine Wx.block_n ?_
        exact Wx.metS ⟨1, 4⟩ ⟨rfl, rfl, rfl, rfl, rfl, trivial⟩ ⟨by simp [leastIn, *], by simp [mostIn, *]⟩ (fun w hw => hw)
      ·
        refine Wc.skip ?_
        refine Wx.block_n ?_
        exact Wx.metS ⟨1, 1⟩ ⟨rfl, rfl, rfl, rfl, rfl, trivial⟩ ⟨by simp [leastIn, *], by simp [mostIn, *]⟩ (fun w hw => hw)
  ·
    rintro ⟨lo, hi⟩ ⟨hlo, hhi⟩
    dsimp only
    refine Wc.seq ?_
    refine Wc.seq ?_
    refine Wc.region ?_
    refine Wl.fld ⟨_, 1, none⟩ fl31_1 rfl rfl rfl ?_
    refine Wl.loadb 1 1 t24 rfl rfl rfl rfl ?_
    refine Wl.len Tryz.underlying24 rfl rfl ?_
    refine Wl.move rfl rfl ?_
    refine Wl.lss rfl rfl rfl ?_
    refine Wl.move rfl rfl ?_
    refine Wl.splitp 18 rfl (fun h18 => ?_) (fun h18 => ?_)
    ·
      refine Wl.skip rfl rfl ?_
      refine Wl.skip rfl rfl ?_
      refine Wl.skip rfl rfl ?_
      refine Wl.skip rfl rfl ?_
      refine Wl.skip rfl rfl ?_
      refine Wl.pick_t rfl rfl rfl ?_
      refine Wl.nil ?_
      refine Wx.then_n ?_
      refine Wc.cond_t rfl ?_
      refine Wc.seq ?_
      refine Wc.region ?_
      refine Wl.assign rfl rfl ?_
      refine Wl.nil ?_
      refine Wx.then_n ?_
      refine Wc.ret ?_
      refine Wx.then_r ?_
      exact Wx.retB rfl rfl (by unfold insOk; rw [decide_eq_false (show ¬ leastIn x.kind ≤ x.ins.length by omega)]; rfl)
    ·
      refine Wl.fld ⟨_, 1, none⟩ fl31_1 rfl rfl rfl ?_
      refine Wl.loadb 1 1 t24 rfl rfl rfl rfl ?_
      refine Wl.len Tryz.underlying24 rfl rfl ?_
      refine Wl.move rfl rfl ?_
      refine Wl.gtr rfl rfl rfl ?_
      refine Wl.pick_f rfl rfl rfl ?_
      refine Wl.nil ?_
      refine Wx.then_n ?_
      refine Wc.condp rfl (fun h24 => ?_) (fun h24 => ?_)
      ·
        refine Wc.seq ?_
        refine Wc.region ?_
        refine Wl.assign rfl rfl ?_
        refine Wl.nil ?_
        refine Wx.then_n ?_
        refine Wc.ret ?_
        refine Wx.then_r ?_
        exact Wx.retB rfl rfl (by unfold insOk; rw [decide_eq_false (show ¬ x.ins.length ≤ mostIn x.kind by omega)]; simp)
      ·
        refine Wc.skip ?_
        refine Wx.then_n ?_
        refine Wc.seq ?_
        refine Wc.region ?_
        refine Wl.fld ⟨_, 1, none⟩ fl31_1 rfl rfl rfl ?_
        refine Wl.loadb 1 1 t24 rfl rfl rfl rfl ?_
        refine Wl.mkfun [_] rfl rfl ?_
        refine Wl.freeze 0 rfl ?_
        refine Wl.callV [.slice A x.ins.length c, .func (.func 235) #[] #[.pointer (some ⟨b2, 0, none⟩)]] Tryz.func160 rfl rfl rfl rfl (fun w hw => inputs_any _ ⟨b2, 0, none⟩ A J c jc x.ins ns w (hw.read fun w h => ⟨⟨Blk.box_cells h.2, h.1.2.2⟩, h.1.1⟩)) ?_
        refine Wl.not rfl rfl ?_
        refine Wl.assign rfl rfl ?_
        refine Wl.nil ?_
        refine Wx.then_n ?_
        refine Wc.ret ?_
        exact Wx.retB rfl rfl (by unfold insOk; rw [decide_eq_true (show leastIn x.kind ≤ x.ins.length by omega), decide_eq_true (show x.ins.length ≤ mostIn x.kind by omega)]; rfl)

theorem nodeErr_eq (ns : List Node) (x : Node) (b3 b7 b9 b11 b13 : Bool) (h3 : b3 = decide (x.kind < 1 ∨ 8 < x.kind)) (h7 : b7 = decide (x.par < 1 ∨ 4 < x.par))
    (h9 : b9 = (if worked x.kind then decide (x.e.check ≠ 0) else !x.e.zero)) (h11 : b11 = (if keyed x.kind then decide (x.agg < 1) || decide (5 < x.agg) else decide (x.agg ≠ 0)))
    (h13 : b13 = (if x.kind = 7 then !winOk x.win else decide (x.win ≠ ⟨0, 0, 0⟩))) : nodeErr ns x = if b3 then 81 else if !insOk ns x then 82 else if b7 then 84 else if b9 then 85 else if b11 then 86 else if b13 then 87 else 0 := by
  unfold nodeErr
  rw [← h9, ← h11, ← h13, h3, h7]
  simp only [decide_eq_true_eq]

set_option maxHeartbeats 2000000 in
theorem node_calls (m : Nat → Prop) (x : Node) (A A2 J : Option Addr) (c c2 jc : Nat) (ns : List Node) (w : World) (hr : Ro m w (fun w => kInt.Row w A x.ins ∧ kExpr.Row w A2 x.e.l ∧ kNode.Row w J ns)) (hc : x.ins.length ≤ c) (hc2 : x.e.l.length ≤ c2) (hs : x.e.count ≤ 1099511627776) :
    Calls Tryz.prog 197 #[.agg #[.slice J ns.length jc], .agg #[.int .i64 x.kind, .slice A x.ins.length c, .int .i64 x.par, .int .i64 x.e.op, .int .i64 x.e.n, .slice A2 x.e.l.length c2, .int .i64 x.agg, .int .i64 x.win.kind, .int .i64 x.win.size, .int .i64 x.win.slide]] w (PostV m w (.int .i64 (nodeErr ns x))) := by
  refine calls_of_Wc (args := [.agg #[.slice J ns.length jc], .agg #[.int .i64 x.kind, .slice A x.ins.length c, .int .i64 x.par, .int .i64 x.e.op, .int .i64 x.e.n, .slice A2 x.e.l.length c2, .int .i64 x.agg, .int .i64 x.win.kind, .int .i64 x.win.size, .int .i64 x.win.slide]]) 111 Tryz.func197 rfl rfl (by simp) ?_
  refine Wc.start hr ?_
  refine Wc.seq ?_
  refine Wc.region ?_
  refine Wl.box rfl rfl rfl (fun b2 => ?_)
  refine Wl.box rfl rfl rfl (fun b3 => ?_)
  refine Wl.assign rfl rfl ?_
  refine Wl.nil ?_
  refine Wx.then_n ?_
  refine Wc.cutS (G := Bool) (fun g => match g with | w5 => [(2, .pointer (some ⟨b2, 0, none⟩)), (3, .pointer (some ⟨b3, 0, none⟩)), (4, .int .i64 0), (5, .bool w5)]) (fun g => match g with | w5 => w5 = worked x.kind) (fun g => match g with | w5 => [.box b2 [.slice J ns.length jc] 34, .box b3 [.int .i64 x.kind, .slice A x.ins.length c, .int .i64 x.par, .int .i64 x.e.op, .int .i64 x.e.n, .slice A2 x.e.l.length c2, .int .i64 x.agg, .int .i64 x.win.kind, .int .i64 x.win.size, .int .i64 x.win.slide] 31]) (fun g => match g with | w5 => fun w => kInt.Row w A x.ins ∧ kExpr.Row w A2 x.e.l ∧ kNode.Row w J ns) ?_ ?_
  ·
    refine Wc.region ?_
    refine Wl.fld ⟨_, 0, none⟩ fl31_0 rfl rfl rfl ?_
    refine Wl.loadb 1 0 t3 rfl rfl rfl rfl ?_
    refine Wl.eql rfl rfl rfl ?_
    refine Wl.move rfl rfl ?_
    refine Wl.splitp 10 rfl (fun h10 => ?_) (fun h10 => ?_)
    ·
      refine Wl.skip rfl rfl ?_
      refine Wl.skip rfl rfl ?_
      refine Wl.skip rfl rfl ?_
      refine Wl.pick_t rfl rfl rfl ?_
      refine Wl.move rfl rfl ?_
      refine Wl.skip rfl rfl ?_
      refine Wl.skip rfl rfl ?_
      refine Wl.skip rfl rfl ?_
      refine Wl.pick_t rfl rfl rfl ?_
      refine Wl.assign rfl rfl ?_
      refine Wl.nil ?_
      exact Wx.metS true ⟨rfl, rfl, rfl, rfl, trivial⟩ (by first | (simp [worked, keyed, *]; done) | simp_all) (fun w hw => hw)
    ·
      refine Wl.fld ⟨_, 0, none⟩ fl31_0 rfl rfl rfl ?_
      refine Wl.loadb 1 0 t3 rfl rfl rfl rfl ?_
      refine Wl.eql rfl rfl rfl ?_
      refine Wl.pick_f rfl rfl rfl ?_
      refine Wl.move rfl rfl ?_
      refine Wl.splitp 15 rfl (fun h15 => ?_) (fun h15 => ?_)
      ·
        refine Wl.skip rfl rfl ?_
        refine Wl.skip rfl rfl ?_
        refine Wl.skip rfl rfl ?_
        refine Wl.pick_t rfl rfl rfl ?_
        refine Wl.assign rfl rfl ?_
        refine Wl.nil ?_
        exact Wx.metS true ⟨rfl, rfl, rfl, rfl, trivial⟩ (by first | (simp [worked, keyed, *]; done) | simp_all) (fun w hw => hw)
      ·
        refine Wl.fld ⟨_, 0, none⟩ fl31_0 rfl rfl rfl ?_
        refine Wl.loadb 1 0 t3 rfl rfl rfl rfl ?_
        refine Wl.eql rfl rfl rfl ?_
        refine Wl.pick_f rfl rfl rfl ?_
        refine Wl.assign rfl rfl ?_
        refine Wl.nil ?_
        exact Wx.metS _ ⟨rfl, rfl, rfl, rfl, trivial⟩ (by first | (simp [worked, keyed, *]; done) | simp_all) (fun w hw => hw)
  ·
    rintro w5 hw5
    dsimp only
    obtain rfl : w5 = worked x.kind := hw5
    refine Wc.cutS (G := Bool) (fun g => match g with | w6 => [(2, .pointer (some ⟨b2, 0, none⟩)), (3, .pointer (some ⟨b3, 0, none⟩)), (4, .int .i64 0), (5, .bool (worked x.kind)), (6, .bool w6)]) (fun g => match g with | w6 => w6 = keyed x.kind) (fun g => match g with | w6 => [.box b2 [.slice J ns.length jc] 34, .box b3 [.int .i64 x.kind, .slice A x.ins.length c, .int .i64 x.par, .int .i64 x.e.op, .int .i64 x.e.n, .slice A2 x.e.l.length c2, .int .i64 x.agg, .int .i64 x.win.kind, .int .i64 x.win.size, .int .i64 x.win.slide] 31]) (fun g => match g with | w6 => fun w => kInt.Row w A x.ins ∧ kExpr.Row w A2 x.e.l ∧ kNode.Row w J ns) ?_ ?_
    ·
      refine Wc.region ?_
      refine Wl.fld ⟨_, 0, none⟩ fl31_0 rfl rfl rfl ?_
      refine Wl.loadb 1 0 t3 rfl rfl rfl rfl ?_
      refine Wl.eql rfl rfl rfl ?_
      refine Wl.move rfl rfl ?_
      refine Wl.splitp 23 rfl (fun h23 => ?_) (fun h23 => ?_)
      ·
        refine Wl.skip rfl rfl ?_
        refine Wl.skip rfl rfl ?_
        refine Wl.skip rfl rfl ?_
        refine Wl.pick_t rfl rfl rfl ?_
        refine Wl.assign rfl rfl ?_
        refine Wl.nil ?_
        exact Wx.metS true ⟨rfl, rfl, rfl, rfl, rfl, trivial⟩ (by first | (simp [worked, keyed, *]; done) | simp_all) (fun w hw => hw)
      ·
        refine Wl.fld ⟨_, 0, none⟩ fl31_0 rfl rfl rfl ?_
        refine Wl.loadb 1 0 t3 rfl rfl rfl rfl ?_
        refine Wl.eql rfl rfl rfl ?_
        refine Wl.pick_f rfl rfl rfl ?_
        refine Wl.assign rfl rfl ?_
        refine Wl.nil ?_
        exact Wx.metS _ ⟨rfl, rfl, rfl, rfl, rfl, trivial⟩ (by first | (simp [worked, keyed, *]; done) | simp_all) (fun w hw => hw)
    ·
      rintro w6 hw6
      dsimp only
      obtain rfl : w6 = keyed x.kind := hw6
      refine Wc.seq ?_
      refine Wc.block ?_
      refine Wc.cutS (G := Bool) (fun g => match g with | w28 => [(2, .pointer (some ⟨b2, 0, none⟩)), (3, .pointer (some ⟨b3, 0, none⟩)), (4, .int .i64 0), (5, .bool (worked x.kind)), (6, .bool (keyed x.kind)), (28, .bool w28)]) (fun g => match g with | w28 => w28 = decide (x.kind < 1 ∨ 8 < x.kind)) (fun g => match g with | w28 => [.box b2 [.slice J ns.length jc] 34, .box b3 [.int .i64 x.kind, .slice A x.ins.length c, .int .i64 x.par, .int .i64 x.e.op, .int .i64 x.e.n, .slice A2 x.e.l.length c2, .int .i64 x.agg, .int .i64 x.win.kind, .int .i64 x.win.size, .int .i64 x.win.slide] 31]) (fun g => match g with | w28 => fun w => kInt.Row w A x.ins ∧ kExpr.Row w A2 x.e.l ∧ kNode.Row w J ns) ?_ ?_
      ·
        refine Wc.region ?_
        refine Wl.fld ⟨_, 0, none⟩ fl31_0 rfl rfl rfl ?_
        refine Wl.loadb 1 0 t3 rfl rfl rfl rfl ?_
        refine Wl.lss rfl rfl rfl ?_
        refine Wl.move rfl rfl ?_
        refine Wl.splitp 32 rfl (fun h32 => ?_) (fun h32 => ?_)
        ·
          refine Wl.skip rfl rfl ?_
          refine Wl.skip rfl rfl ?_
          refine Wl.skip rfl rfl ?_
          refine Wl.pick_t rfl rfl rfl ?_
          refine Wl.assign rfl rfl ?_
          refine Wl.nil ?_
          exact Wx.metS true ⟨rfl, rfl, rfl, rfl, rfl, rfl, trivial⟩ (by first | (simp; omega; done) | simp_all) (fun w hw => hw)
        ·
          refine Wl.fld ⟨_, 0, none⟩ fl31_0 rfl rfl rfl ?_
          refine Wl.loadb 1 0 t3 rfl rfl rfl rfl ?_
          refine Wl.gtr rfl rfl rfl ?_
          refine Wl.pick_f rfl rfl rfl ?_
          refine Wl.assign rfl rfl ?_
          refine Wl.nil ?_
          exact Wx.metS _ ⟨rfl, rfl, rfl, rfl, rfl, rfl, trivial⟩ (by first | (simp; omega; done) | simp_all) (fun w hw => hw)
      ·
        rintro w28 hw28
        dsimp only
        obtain rfl : w28 = decide (x.kind < 1 ∨ 8 < x.kind) := hw28
        refine Wc.cond rfl (fun h28 => ?_) (fun h28 => ?_)
        ·
          refine Wc.seq ?_
          refine Wc.region ?_
          refine Wl.assign rfl rfl ?_
          refine Wl.nil ?_
          refine Wx.then_n ?_
          refine Wc.ret ?_
          refine Wx.block_r ?_
          refine Wx.then_r ?_
          exact Wx.retI rfl rfl (by rw [nodeErr_eq ns x _ _ _ _ _ rfl rfl rfl rfl rfl, if_pos h28])
        ·
          refine Wc.seq ?_
          refine Wc.region ?_
          refine Wl.loadbw 0 t34 rfl rfl rfl rfl ?_
          refine Wl.loadbw 1 t31 rfl rfl rfl rfl ?_
          refine Wl.callV [.agg #[.slice J ns.length jc], .agg #[.int .i64 x.kind, .slice A x.ins.length c, .int .i64 x.par, .int .i64 x.e.op, .int .i64 x.e.n, .slice A2 x.e.l.length c2, .int .i64 x.agg, .int .i64 x.win.kind, .int .i64 x.win.size, .int .i64 x.win.slide]] Tryz.func226 rfl rfl rfl rfl (fun w hw => inputs_calls _ x A A2 J c c2 jc ns w (hw.read fun w h => h) hc hc2) ?_
          refine Wl.not rfl rfl ?_
          refine Wl.assign rfl rfl ?_
          refine Wl.nil ?_
          refine Wx.then_n ?_
          refine Wc.cond rfl (fun h37 => ?_) (fun h37 => ?_)
          ·
            refine Wc.seq ?_
            refine Wc.region ?_
            refine Wl.assign rfl rfl ?_
            refine Wl.nil ?_
            refine Wx.then_n ?_
            refine Wc.ret ?_
            refine Wx.block_r ?_
            refine Wx.then_r ?_
            exact Wx.retI rfl rfl (by rw [nodeErr_eq ns x _ _ _ _ _ rfl rfl rfl rfl rfl, if_neg (by rw [h28]; simp), if_pos h37])
          ·
            refine Wc.cutS (G := Bool) (fun g => match g with | w42 => [(2, .pointer (some ⟨b2, 0, none⟩)), (3, .pointer (some ⟨b3, 0, none⟩)), (4, .int .i64 0), (5, .bool (worked x.kind)), (6, .bool (keyed x.kind)), (42, .bool w42)]) (fun g => match g with | w42 => w42 = decide (x.par < 1 ∨ 4 < x.par)) (fun g => match g with | w42 => [.box b2 [.slice J ns.length jc] 34, .box b3 [.int .i64 x.kind, .slice A x.ins.length c, .int .i64 x.par, .int .i64 x.e.op, .int .i64 x.e.n, .slice A2 x.e.l.length c2, .int .i64 x.agg, .int .i64 x.win.kind, .int .i64 x.win.size, .int .i64 x.win.slide] 31]) (fun g => match g with | w42 => fun w => kInt.Row w A x.ins ∧ kExpr.Row w A2 x.e.l ∧ kNode.Row w J ns) ?_ ?_
            ·
              refine Wc.region ?_
              refine Wl.fld ⟨_, 2, none⟩ fl31_2 rfl rfl rfl ?_
              refine Wl.loadb 1 2 t3 rfl rfl rfl rfl ?_
              refine Wl.lss rfl rfl rfl ?_
              refine Wl.move rfl rfl ?_
              refine Wl.splitp 46 rfl (fun h46 => ?_) (fun h46 => ?_)
              ·
                refine Wl.skip rfl rfl ?_
                refine Wl.skip rfl rfl ?_
                refine Wl.skip rfl rfl ?_
                refine Wl.pick_t rfl rfl rfl ?_
                refine Wl.assign rfl rfl ?_
                refine Wl.nil ?_
                exact Wx.metS true ⟨rfl, rfl, rfl, rfl, rfl, rfl, trivial⟩ (by first | (simp; omega; done) | simp_all) (fun w hw => hw)
              ·
                refine Wl.fld ⟨_, 2, none⟩ fl31_2 rfl rfl rfl ?_
                refine Wl.loadb 1 2 t3 rfl rfl rfl rfl ?_
                refine Wl.gtr rfl rfl rfl ?_
                refine Wl.pick_f rfl rfl rfl ?_
                refine Wl.assign rfl rfl ?_
                refine Wl.nil ?_
                exact Wx.metS _ ⟨rfl, rfl, rfl, rfl, rfl, rfl, trivial⟩ (by first | (simp; omega; done) | simp_all) (fun w hw => hw)
            ·
              rintro w42 hw42
              dsimp only
              obtain rfl : w42 = decide (x.par < 1 ∨ 4 < x.par) := hw42
              refine Wc.cond rfl (fun h42 => ?_) (fun h42 => ?_)
              ·
                refine Wc.seq ?_
                refine Wc.region ?_
                refine Wl.assign rfl rfl ?_
                refine Wl.nil ?_
                refine Wx.then_n ?_
                refine Wc.ret ?_
                refine Wx.block_r ?_
                refine Wx.then_r ?_
                exact Wx.retI rfl rfl (by rw [nodeErr_eq ns x _ _ _ _ _ rfl rfl rfl rfl rfl, if_neg (by rw [h28]; simp), if_neg (by rw [h37]; simp), if_pos h42])
              ·
                refine Wc.cutS (G := Bool) (fun g => match g with | w51 => [(2, .pointer (some ⟨b2, 0, none⟩)), (3, .pointer (some ⟨b3, 0, none⟩)), (4, .int .i64 0), (5, .bool (worked x.kind)), (6, .bool (keyed x.kind)), (51, .bool w51)]) (fun g => match g with | w51 => w51 = (if worked x.kind then decide (x.e.check ≠ 0) else !x.e.zero)) (fun g => match g with | w51 => [.box b2 [.slice J ns.length jc] 34, .box b3 [.int .i64 x.kind, .slice A x.ins.length c, .int .i64 x.par, .int .i64 x.e.op, .int .i64 x.e.n, .slice A2 x.e.l.length c2, .int .i64 x.agg, .int .i64 x.win.kind, .int .i64 x.win.size, .int .i64 x.win.slide] 31]) (fun g => match g with | w51 => fun w => kInt.Row w A x.ins ∧ kExpr.Row w A2 x.e.l ∧ kNode.Row w J ns) ?_ ?_
                ·
                  refine Wc.region ?_
                  refine Wl.move rfl rfl ?_
                  refine Wl.move rfl rfl ?_
                  refine Wl.split 53 rfl (fun h53 => ?_) (fun h53 => ?_)
                  ·
                    refine Wl.fld ⟨_, 3, none⟩ fl31_3 rfl rfl rfl ?_
                    refine Wl.loadbs 1 3 t27 rfl rfl rfl rfl rfl ?_
                    refine Wl.callV [_] Tryz.func187 rfl rfl rfl rfl (fun w hw => check_calls _ x.e A2 c2 w (hw.read fun w h => h.2.1) hc2 hs) ?_
                    refine Wl.neq rfl rfl rfl ?_
                    refine Wl.pick_t rfl rfl rfl ?_
                    refine Wl.move rfl rfl ?_
                    refine Wl.split 59 rfl (fun h59 => ?_) (fun h59 => ?_)
                    ·
                      refine Wl.skip rfl rfl ?_
                      refine Wl.skip rfl rfl ?_
                      refine Wl.skip rfl rfl ?_
                      refine Wl.skip rfl rfl ?_
                      refine Wl.skip rfl rfl ?_
                      refine Wl.skip rfl rfl ?_
                      refine Wl.skip rfl rfl ?_
                      refine Wl.skip rfl rfl ?_
                      refine Wl.pick_t rfl rfl rfl ?_
                      refine Wl.assign rfl rfl ?_
                      refine Wl.nil ?_
                      exact Wx.metS _ ⟨rfl, rfl, rfl, rfl, rfl, rfl, trivial⟩ (by first | (simp [*]; done) | simp_all) (fun w hw => hw)
                    ·
                      refine Wl.move rfl rfl ?_
                      refine Wl.not rfl rfl ?_
                      refine Wl.move rfl rfl ?_
                      refine Wl.split 62 rfl (fun h62 => ?_) (fun h62 => ?_)
                      ·
                        refine Wl.fld ⟨_, 3, none⟩ fl31_3 rfl rfl rfl ?_
                        refine Wl.loadbs 1 3 t27 rfl rfl rfl rfl rfl ?_
                        refine Wl.callV [_] Tryz.func227 rfl rfl rfl rfl (fun w hw => zero_calls _ x.e A2 c2 w (hw.read fun w h => h.2.1) hc2) ?_
                        refine Wl.not rfl rfl ?_
                        refine Wl.pick_t rfl rfl rfl ?_
                        refine Wl.pick_f rfl rfl rfl ?_
                        refine Wl.assign rfl rfl ?_
                        refine Wl.nil ?_
                        exact Wx.metS _ ⟨rfl, rfl, rfl, rfl, rfl, rfl, trivial⟩ (by first | (simp [*]; done) | simp_all) (fun w hw => hw)
                      ·
                        refine Wl.skip rfl rfl ?_
                        refine Wl.skip rfl rfl ?_
                        refine Wl.skip rfl rfl ?_
                        refine Wl.skip rfl rfl ?_
                        refine Wl.pick_f rfl rfl rfl ?_
                        refine Wl.pick_f rfl rfl rfl ?_
                        refine Wl.assign rfl rfl ?_
                        refine Wl.nil ?_
                        exact Wx.metS _ ⟨rfl, rfl, rfl, rfl, rfl, rfl, trivial⟩ (by first | (simp [*]; done) | simp_all) (fun w hw => hw)
                  ·
                    refine Wl.skip rfl rfl ?_
                    refine Wl.skip rfl rfl ?_
                    refine Wl.skip rfl rfl ?_
                    refine Wl.skip rfl rfl ?_
                    refine Wl.pick_f rfl rfl rfl ?_
                    refine Wl.move rfl rfl ?_
                    refine Wl.move rfl rfl ?_
                    refine Wl.not rfl rfl ?_
                    refine Wl.move rfl rfl ?_
                    refine Wl.split 62 rfl (fun h62 => ?_) (fun h62 => ?_)
                    ·
                      refine Wl.fld ⟨_, 3, none⟩ fl31_3 rfl rfl rfl ?_
                      refine Wl.loadbs 1 3 t27 rfl rfl rfl rfl rfl ?_
                      refine Wl.callV [_] Tryz.func227 rfl rfl rfl rfl (fun w hw => zero_calls _ x.e A2 c2 w (hw.read fun w h => h.2.1) hc2) ?_
                      refine Wl.not rfl rfl ?_
                      refine Wl.pick_t rfl rfl rfl ?_
                      refine Wl.pick_f rfl rfl rfl ?_
                      refine Wl.assign rfl rfl ?_
                      refine Wl.nil ?_
                      exact Wx.metS _ ⟨rfl, rfl, rfl, rfl, rfl, rfl, trivial⟩ (by first | (simp [*]; done) | simp_all) (fun w hw => hw)
                    ·
                      refine Wl.skip rfl rfl ?_
                      refine Wl.skip rfl rfl ?_
                      refine Wl.skip rfl rfl ?_
                      refine Wl.skip rfl rfl ?_
                      refine Wl.pick_f rfl rfl rfl ?_
                      refine Wl.pick_f rfl rfl rfl ?_
                      refine Wl.assign rfl rfl ?_
                      refine Wl.nil ?_
                      exact Wx.metS _ ⟨rfl, rfl, rfl, rfl, rfl, rfl, trivial⟩ (by first | (simp [*]; done) | simp_all) (fun w hw => hw)
                ·
                  rintro w51 hw51
                  dsimp only
                  obtain rfl : w51 = (if worked x.kind then decide (x.e.check ≠ 0) else !x.e.zero) := hw51
                  refine Wc.cond rfl (fun h51 => ?_) (fun h51 => ?_)
                  ·
                    refine Wc.seq ?_
                    refine Wc.region ?_
                    refine Wl.assign rfl rfl ?_
                    refine Wl.nil ?_
                    refine Wx.then_n ?_
                    refine Wc.ret ?_
                    refine Wx.block_r ?_
                    refine Wx.then_r ?_
                    exact Wx.retI rfl rfl (by rw [nodeErr_eq ns x _ _ _ _ _ rfl rfl rfl rfl rfl, if_neg (by rw [h28]; simp), if_neg (by rw [h37]; simp), if_neg (by rw [h42]; simp), if_pos h51])
                  ·
                    refine Wc.cutS (G := Bool) (fun g => match g with | w69 => [(2, .pointer (some ⟨b2, 0, none⟩)), (3, .pointer (some ⟨b3, 0, none⟩)), (4, .int .i64 0), (5, .bool (worked x.kind)), (6, .bool (keyed x.kind)), (69, .bool w69)]) (fun g => match g with | w69 => w69 = (if keyed x.kind then decide (x.agg < 1) || decide (5 < x.agg) else decide (x.agg ≠ 0))) (fun g => match g with | w69 => [.box b2 [.slice J ns.length jc] 34, .box b3 [.int .i64 x.kind, .slice A x.ins.length c, .int .i64 x.par, .int .i64 x.e.op, .int .i64 x.e.n, .slice A2 x.e.l.length c2, .int .i64 x.agg, .int .i64 x.win.kind, .int .i64 x.win.size, .int .i64 x.win.slide] 31]) (fun g => match g with | w69 => fun w => kInt.Row w A x.ins ∧ kExpr.Row w A2 x.e.l ∧ kNode.Row w J ns) ?_ ?_
                    ·
                      refine Wc.region ?_
                      refine Wl.move rfl rfl ?_
                      refine Wl.move rfl rfl ?_
                      refine Wl.split 71 rfl (fun h71 => ?_) (fun h71 => ?_)
                      ·
                        refine Wl.fld ⟨_, 6, none⟩ fl31_4 rfl rfl rfl ?_
                        refine Wl.loadb 1 6 t3 rfl rfl rfl rfl ?_
                        refine Wl.lss rfl rfl rfl ?_
                        refine Wl.move rfl rfl ?_
                        refine Wl.splitp 75 rfl (fun h75 => ?_) (fun h75 => ?_)
                        ·
                          refine Wl.skip rfl rfl ?_
                          refine Wl.skip rfl rfl ?_
                          refine Wl.skip rfl rfl ?_
                          refine Wl.pick_t rfl rfl rfl ?_
                          refine Wl.pick_t rfl rfl rfl ?_
                          refine Wl.move rfl rfl ?_
                          refine Wl.skip rfl rfl ?_
                          refine Wl.skip rfl rfl ?_
                          refine Wl.skip rfl rfl ?_
                          refine Wl.skip rfl rfl ?_
                          refine Wl.skip rfl rfl ?_
                          refine Wl.skip rfl rfl ?_
                          refine Wl.skip rfl rfl ?_
                          refine Wl.pick_t rfl rfl rfl ?_
                          refine Wl.assign rfl rfl ?_
                          refine Wl.nil ?_
                          exact Wx.metS _ ⟨rfl, rfl, rfl, rfl, rfl, rfl, trivial⟩ (by first | (simp [*]; done) | simp_all) (fun w hw => hw)
                        ·
                          refine Wl.fld ⟨_, 6, none⟩ fl31_4 rfl rfl rfl ?_
                          refine Wl.loadb 1 6 t3 rfl rfl rfl rfl ?_
                          refine Wl.gtr rfl rfl rfl ?_
                          refine Wl.pick_f rfl rfl rfl ?_
                          refine Wl.pick_t rfl rfl rfl ?_
                          refine Wl.move rfl rfl ?_
                          refine Wl.split 81 rfl (fun h81 => ?_) (fun h81 => ?_)
                          ·
                            refine Wl.skip rfl rfl ?_
                            refine Wl.skip rfl rfl ?_
                            refine Wl.skip rfl rfl ?_
                            refine Wl.skip rfl rfl ?_
                            refine Wl.skip rfl rfl ?_
                            refine Wl.skip rfl rfl ?_
                            refine Wl.skip rfl rfl ?_
                            refine Wl.pick_t rfl rfl rfl ?_
                            refine Wl.assign rfl rfl ?_
                            refine Wl.nil ?_
                            exact Wx.metS _ ⟨rfl, rfl, rfl, rfl, rfl, rfl, trivial⟩ (by first | (simp [*]; done) | simp_all) (fun w hw => hw)
                          ·
                            refine Wl.move rfl rfl ?_
                            refine Wl.not rfl rfl ?_
                            refine Wl.move rfl rfl ?_
                            refine Wl.split 84 rfl (fun h84 => ?_) (fun h84 => ?_)
                            ·
                              refine Wl.fld ⟨_, 6, none⟩ fl31_4 rfl rfl rfl ?_
                              refine Wl.loadb 1 6 t3 rfl rfl rfl rfl ?_
                              refine Wl.neq rfl rfl rfl ?_
                              refine Wl.pick_t rfl rfl rfl ?_
                              refine Wl.pick_f rfl rfl rfl ?_
                              refine Wl.assign rfl rfl ?_
                              refine Wl.nil ?_
                              exact Wx.metS _ ⟨rfl, rfl, rfl, rfl, rfl, rfl, trivial⟩ (by first | (simp [*]; done) | simp_all) (fun w hw => hw)
                            ·
                              refine Wl.skip rfl rfl ?_
                              refine Wl.skip rfl rfl ?_
                              refine Wl.skip rfl rfl ?_
                              refine Wl.pick_f rfl rfl rfl ?_
                              refine Wl.pick_f rfl rfl rfl ?_
                              refine Wl.assign rfl rfl ?_
                              refine Wl.nil ?_
                              exact Wx.metS _ ⟨rfl, rfl, rfl, rfl, rfl, rfl, trivial⟩ (by first | (simp [*]; done) | simp_all) (fun w hw => hw)
                      ·
                        refine Wl.skip rfl rfl ?_
                        refine Wl.skip rfl rfl ?_
                        refine Wl.skip rfl rfl ?_
                        refine Wl.skip rfl rfl ?_
                        refine Wl.skip rfl rfl ?_
                        refine Wl.skip rfl rfl ?_
                        refine Wl.skip rfl rfl ?_
                        refine Wl.skip rfl rfl ?_
                        refine Wl.pick_f rfl rfl rfl ?_
                        refine Wl.move rfl rfl ?_
                        refine Wl.move rfl rfl ?_
                        refine Wl.not rfl rfl ?_
                        refine Wl.move rfl rfl ?_
                        refine Wl.split 84 rfl (fun h84 => ?_) (fun h84 => ?_)
                        ·
                          refine Wl.fld ⟨_, 6, none⟩ fl31_4 rfl rfl rfl ?_
                          refine Wl.loadb 1 6 t3 rfl rfl rfl rfl ?_
                          refine Wl.neq rfl rfl rfl ?_
                          refine Wl.pick_t rfl rfl rfl ?_
                          refine Wl.pick_f rfl rfl rfl ?_
                          refine Wl.assign rfl rfl ?_
                          refine Wl.nil ?_
                          exact Wx.metS _ ⟨rfl, rfl, rfl, rfl, rfl, rfl, trivial⟩ (by first | (simp [*]; done) | simp_all) (fun w hw => hw)
                        ·
                          refine Wl.skip rfl rfl ?_
                          refine Wl.skip rfl rfl ?_
                          refine Wl.skip rfl rfl ?_
                          refine Wl.pick_f rfl rfl rfl ?_
                          refine Wl.pick_f rfl rfl rfl ?_
                          refine Wl.assign rfl rfl ?_
                          refine Wl.nil ?_
                          exact Wx.metS _ ⟨rfl, rfl, rfl, rfl, rfl, rfl, trivial⟩ (by first | (simp [*]; done) | simp_all) (fun w hw => hw)
                    ·
                      rintro w69 hw69
                      dsimp only
                      obtain rfl : w69 = (if keyed x.kind then decide (x.agg < 1) || decide (5 < x.agg) else decide (x.agg ≠ 0)) := hw69
                      refine Wc.cond rfl (fun h69 => ?_) (fun h69 => ?_)
                      ·
                        refine Wc.seq ?_
                        refine Wc.region ?_
                        refine Wl.assign rfl rfl ?_
                        refine Wl.nil ?_
                        refine Wx.then_n ?_
                        refine Wc.ret ?_
                        refine Wx.block_r ?_
                        refine Wx.then_r ?_
                        exact Wx.retI rfl rfl (by rw [nodeErr_eq ns x _ _ _ _ _ rfl rfl rfl rfl rfl, if_neg (by rw [h28]; simp), if_neg (by rw [h37]; simp), if_neg (by rw [h42]; simp), if_neg (by rw [h51]; simp), if_pos h69])
                      ·
                        refine Wc.cutS (G := Bool) (fun g => match g with | w90 => [(2, .pointer (some ⟨b2, 0, none⟩)), (3, .pointer (some ⟨b3, 0, none⟩)), (4, .int .i64 0), (5, .bool (worked x.kind)), (6, .bool (keyed x.kind)), (90, .bool w90)]) (fun g => match g with | w90 => w90 = (if x.kind = 7 then !winOk x.win else decide (x.win ≠ ⟨0, 0, 0⟩))) (fun g => match g with | w90 => [.box b2 [.slice J ns.length jc] 34, .box b3 [.int .i64 x.kind, .slice A x.ins.length c, .int .i64 x.par, .int .i64 x.e.op, .int .i64 x.e.n, .slice A2 x.e.l.length c2, .int .i64 x.agg, .int .i64 x.win.kind, .int .i64 x.win.size, .int .i64 x.win.slide] 31]) (fun g => match g with | w90 => fun w => kInt.Row w A x.ins ∧ kExpr.Row w A2 x.e.l ∧ kNode.Row w J ns) ?_ ?_
                        ·
                          refine Wc.region ?_
                          refine Wl.fld ⟨_, 0, none⟩ fl31_0 rfl rfl rfl ?_
                          refine Wl.loadb 1 0 t3 rfl rfl rfl rfl ?_
                          refine Wl.eql rfl rfl rfl ?_
                          refine Wl.move rfl rfl ?_
                          refine Wl.splitp 94 rfl (fun h94 => ?_) (fun h94 => ?_)
                          ·
                            refine Wl.fld ⟨_, 7, none⟩ fl31_5 rfl rfl rfl ?_
                            refine Wl.loadbs 1 7 t29 rfl rfl rfl rfl rfl ?_
                            refine Wl.callV [.agg #[.int .i64 x.win.kind, .int .i64 x.win.size, .int .i64 x.win.slide]] Tryz.func228 rfl rfl rfl rfl (fun w hw => win_calls _ x.win w (hw.read fun _ _ => trivial)) ?_
                            refine Wl.not rfl rfl ?_
                            refine Wl.pick_t rfl rfl rfl ?_
                            refine Wl.move rfl rfl ?_
                            refine Wl.split 100 rfl (fun h100 => ?_) (fun h100 => ?_)
                            ·
                              refine Wl.skip rfl rfl ?_
                              refine Wl.skip rfl rfl ?_
                              refine Wl.skip rfl rfl ?_
                              refine Wl.skip rfl rfl ?_
                              refine Wl.skip rfl rfl ?_
                              refine Wl.skip rfl rfl ?_
                              refine Wl.skip rfl rfl ?_
                              refine Wl.skip rfl rfl ?_
                              refine Wl.skip rfl rfl ?_
                              refine Wl.pick_t rfl rfl rfl ?_
                              refine Wl.assign rfl rfl ?_
                              refine Wl.nil ?_
                              exact Wx.metS _ ⟨rfl, rfl, rfl, rfl, rfl, rfl, trivial⟩ (by first | (simp [*]; done) | simp_all) (fun w hw => hw)
                            ·
                              refine Wl.fld ⟨_, 0, none⟩ fl31_0 rfl rfl rfl ?_
                              refine Wl.loadb 1 0 t3 rfl rfl rfl rfl ?_
                              refine Wl.neq rfl rfl rfl ?_
                              refine Wl.move rfl rfl ?_
                              refine Wl.splitp 104 rfl (fun h104 => ?_) (fun h104 => ?_)
                              ·
                                refine Wl.fld ⟨_, 7, none⟩ fl31_5 rfl rfl rfl ?_
                                refine Wl.loadbs 1 7 t29 rfl rfl rfl rfl rfl ?_
                                refine Wl.build (parts := []) [] [.int .i64 0, .int .i64 0, .int .i64 0] rfl rfl (fun w => run_build w _ _ _ (by kernel_rfl)) ?_
                                refine Wl.neqs x.win (⟨0, 0, 0⟩ : Win) eq29 rfl rfl rfl ?_
                                refine Wl.pick_t rfl rfl rfl ?_
                                refine Wl.pick_f rfl rfl rfl ?_
                                refine Wl.assign rfl rfl ?_
                                refine Wl.nil ?_
                                exact Wx.metS _ ⟨rfl, rfl, rfl, rfl, rfl, rfl, trivial⟩ (by first | (simp [*]; done) | simp_all) (fun w hw => hw)
                              ·
                                refine Wl.skip rfl rfl ?_
                                refine Wl.skip rfl rfl ?_
                                refine Wl.skip rfl rfl ?_
                                refine Wl.skip rfl rfl ?_
                                refine Wl.pick_f rfl rfl rfl ?_
                                refine Wl.pick_f rfl rfl rfl ?_
                                refine Wl.assign rfl rfl ?_
                                refine Wl.nil ?_
                                exact Wx.metS _ ⟨rfl, rfl, rfl, rfl, rfl, rfl, trivial⟩ (by first | (simp [*]; done) | simp_all) (fun w hw => hw)
                          ·
                            refine Wl.skip rfl rfl ?_
                            refine Wl.skip rfl rfl ?_
                            refine Wl.skip rfl rfl ?_
                            refine Wl.skip rfl rfl ?_
                            refine Wl.pick_f rfl rfl rfl ?_
                            refine Wl.move rfl rfl ?_
                            refine Wl.fld ⟨_, 0, none⟩ fl31_0 rfl rfl rfl ?_
                            refine Wl.loadb 1 0 t3 rfl rfl rfl rfl ?_
                            refine Wl.neq rfl rfl rfl ?_
                            refine Wl.move rfl rfl ?_
                            refine Wl.splitp 104 rfl (fun h104 => ?_) (fun h104 => ?_)
                            ·
                              refine Wl.fld ⟨_, 7, none⟩ fl31_5 rfl rfl rfl ?_
                              refine Wl.loadbs 1 7 t29 rfl rfl rfl rfl rfl ?_
                              refine Wl.build (parts := []) [] [.int .i64 0, .int .i64 0, .int .i64 0] rfl rfl (fun w => run_build w _ _ _ (by kernel_rfl)) ?_
                              refine Wl.neqs x.win (⟨0, 0, 0⟩ : Win) eq29 rfl rfl rfl ?_
                              refine Wl.pick_t rfl rfl rfl ?_
                              refine Wl.pick_f rfl rfl rfl ?_
                              refine Wl.assign rfl rfl ?_
                              refine Wl.nil ?_
                              exact Wx.metS _ ⟨rfl, rfl, rfl, rfl, rfl, rfl, trivial⟩ (by first | (simp [*]; done) | simp_all) (fun w hw => hw)
                            ·
                              refine Wl.skip rfl rfl ?_
                              refine Wl.skip rfl rfl ?_
                              refine Wl.skip rfl rfl ?_
                              refine Wl.skip rfl rfl ?_
                              refine Wl.pick_f rfl rfl rfl ?_
                              refine Wl.pick_f rfl rfl rfl ?_
                              refine Wl.assign rfl rfl ?_
                              refine Wl.nil ?_
                              exact Wx.metS _ ⟨rfl, rfl, rfl, rfl, rfl, rfl, trivial⟩ (by first | (simp [*]; done) | simp_all) (fun w hw => hw)
                        ·
                          rintro w90 hw90
                          dsimp only
                          obtain rfl : w90 = (if x.kind = 7 then !winOk x.win else decide (x.win ≠ ⟨0, 0, 0⟩)) := hw90
                          refine Wc.cond rfl (fun h90 => ?_) (fun h90 => ?_)
                          ·
                            refine Wc.seq ?_
                            refine Wc.region ?_
                            refine Wl.assign rfl rfl ?_
                            refine Wl.nil ?_
                            refine Wx.then_n ?_
                            refine Wc.ret ?_
                            refine Wx.block_r ?_
                            refine Wx.then_r ?_
                            exact Wx.retI rfl rfl (by rw [nodeErr_eq ns x _ _ _ _ _ rfl rfl rfl rfl rfl, if_neg (by rw [h28]; simp), if_neg (by rw [h37]; simp), if_neg (by rw [h42]; simp), if_neg (by rw [h51]; simp), if_neg (by rw [h69]; simp), if_pos h90])
                          ·
                            refine Wc.skip ?_
                            refine Wx.block_n ?_
                            refine Wx.then_n ?_
                            refine Wc.seq ?_
                            refine Wc.region ?_
                            refine Wl.assign rfl rfl ?_
                            refine Wl.nil ?_
                            refine Wx.then_n ?_
                            refine Wc.ret ?_
                            exact Wx.retI rfl rfl (by rw [nodeErr_eq ns x _ _ _ _ _ rfl rfl rfl rfl rfl, if_neg (by rw [h28]; simp), if_neg (by rw [h37]; simp), if_neg (by rw [h42]; simp), if_neg (by rw [h51]; simp), if_neg (by rw [h69]; simp), if_neg (by rw [h90]; simp)])

end Go.Proofs.YtkffjbijamfnoaaGreat
