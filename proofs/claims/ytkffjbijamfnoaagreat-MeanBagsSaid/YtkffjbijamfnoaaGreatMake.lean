/-
  Plans.
-/
import Derived.Test.YtkffjbijamfnoaaGreatAlls
set_option linter.unusedVariables false
set_option linter.unusedSimpArgs false
namespace Go.Proofs.YtkffjbijamfnoaaGreat
open Go.RowKit

theorem mapIdx_to {α β : Type} (f : Nat → α → List β) (l : List α) (k : Nat) (hk : k < l.length) : ((l.mapIdx f).take (k + 1)).flatten = ((l.mapIdx f).take k).flatten ++ f k l[k] := by
  rw [List.take_succ_eq_append_getElem (by rw [List.length_mapIdx]; exact hk), List.flatten_append, List.getElem_mapIdx]; simp
theorem mapIdx_all {α β : Type} (f : Nat → α → List β) (l : List α) : ((l.mapIdx f).take l.length).flatten = (l.mapIdx f).flatten := by rw [List.take_of_length_le (by rw [List.length_mapIdx]; omega)]
def nodeTasks (i : Nat) (par : Int) : List Task := (List.range (min par 4).toNat).map (fun p : Nat => (⟨i, p⟩ : Task))
def tasksOf (ns : List Node) : List Task := (ns.mapIdx (fun i n => nodeTasks i n.par)).flatten
def tasksTo (ns : List Node) (k : Nat) : List Task := ((ns.mapIdx (fun i n => nodeTasks i n.par)).take k).flatten
def idxs {α : Type} (p : α → Bool) (ts : List α) : List Int := (ts.zipIdx.filter (fun x => p x.1)).map (fun x => (x.2 : Int))
theorem idxs_take {α : Type} (p : α → Bool) (ts : List α) (k : Nat) (hk : k < ts.length) : idxs p (ts.take (k + 1)) = idxs p (ts.take k) ++ (if p ts[k] then [(k : Int)] else []) := by
  unfold idxs
  rw [List.take_succ_eq_append_getElem hk, List.zipIdx_append, List.filter_append, List.map_append]
  congr 1
  have : 0 + (ts.take k).length = k := by rw [List.length_take]; omega
  rw [this]
  by_cases h : p ts[k] <;> simp [h]
theorem idxs_len {α : Type} (p : α → Bool) (ts : List α) : (idxs p ts).length ≤ ts.length := by
  unfold idxs
  rw [List.length_map]
  exact Nat.le_trans (List.length_filter_le _ _) (by rw [List.length_zipIdx]; omega)
theorem idxs_in {α : Type} {p : α → Bool} {ts : List α} {x : Int} (h : x ∈ idxs p ts) : ∃ j : Nat, x = j ∧ ∃ hj : j < ts.length, p ts[j] = true := by
  unfold idxs at h
  obtain ⟨⟨a, j⟩, h1, rfl⟩ := List.mem_map.1 h
  obtain ⟨h2, h3⟩ := List.mem_filter.1 h1
  have := List.mem_zipIdx' h2
  obtain ⟨hj, e⟩ := this
  exact ⟨j, rfl, hj, by rw [← e]; exact h3⟩
def partAt (T : List Task) (f : Int) : Int := ((T[f.toNat]?).map (·.part)).getD 0
def allOf (ns : List Node) (i : Node) (k : Int) : Bool := keyed i.kind || decide (((ns[k.toNat]?).map (·.par)).getD 0 ≠ i.par)
def isOf (i : Int) (t : Task) : Bool := decide (t.node = i)
def chanTo (T : List Task) (all : Bool) (input f : Int) (to : Int) : List Chan := if all || decide (partAt T f = partAt T to) then [⟨f, to, input⟩] else []
def chanIn (ns : List Node) (T : List Task) (i : Nat) (n : Node) (input : Nat) (k : Int) : List Chan := (idxs (isOf k) T).flatMap (fun f => (idxs (isOf i) T).flatMap (chanTo T (allOf ns n k) input f))
def nodeChans (ns : List Node) (T : List Task) (i : Nat) (n : Node) : List Chan := (n.ins.mapIdx (chanIn ns T i n)).flatten
def chansOf (ns : List Node) : List Chan := (ns.mapIdx (nodeChans ns (tasksOf ns))).flatten
theorem chanTo_len (T : List Task) (all : Bool) (input f : Int) (to : Int) : (chanTo T all input f to).length ≤ 1 := by unfold chanTo; split <;> simp
theorem tasksTo_len (ns : List Node) : ∀ k, k ≤ ns.length → (tasksTo ns k).length ≤ 4 * k
  | 0, _ => by simp [tasksTo]
  | k + 1, h => by
    have h1 := tasksTo_len ns k (by omega)
    unfold tasksTo at h1 ⊢
    rw [mapIdx_to _ ns k (by omega), List.length_append]
    have : (nodeTasks k ns[k].par).length ≤ 4 := by unfold nodeTasks; rw [List.length_map, List.length_range]; omega
    omega
theorem tasksTo_all (ns : List Node) : tasksTo ns ns.length = tasksOf ns := mapIdx_all _ ns
theorem tasks_len (ns : List Node) : (tasksOf ns).length ≤ 4 * ns.length := tasksTo_all ns ▸ tasksTo_len ns _ (Nat.le_refl _)

theorem chosen_calls (m : Nat → Prop) (A : Option Addr) (c : Nat) (ts : List Task) (R : World → Prop) (fi : FuncId) (fn : Func) (hf : Tryz.prog.funcs[fi]? = some fn) (hb : fn.body.isNone = false) (hnm : (fn.name == "runtime.NumGoroutine") = false) (cap : List Value) (p : Task → Bool) (hg : ∀ (m : Nat → Prop) (w : World) (x : Task), Ro m w R → Calls Tryz.prog fi ([Value.agg #[.int .i64 x.node, .int .i64 x.part]] ++ cap).toArray w (PostV m w (.bool (p x)))) (w : World) (hr : Ro m w (fun w => R w ∧ kTask.Row w A ts)) (hl : ts.length ≤ 4294967296) :
    Calls Tryz.prog 136 #[.slice A ts.length c, .func (.func fi) #[] cap.toArray] w (PostO m w eInt 3 1 (idxs p ts)) := by
  refine calls_of_Wc (args := [.slice A ts.length c, .func (.func fi) #[] cap.toArray]) 24 Tryz.func136 rfl rfl (by simp) ?_
  refine Wc.start hr ?_
  refine Wc.seq ?_
  refine Wc.region ?_
  refine Wl.assign rfl rfl ?_
  refine Wl.nil ?_
  refine Wx.then_n ?_
  refine Wc.seq ?_
  refine Wc.region ?_
  refine Wl.assign rfl rfl ?_
  refine Wl.nil ?_
  refine Wx.then_n ?_
  refine Wc.seq ?_
  refine Wc.seq ?_
  refine Wc.region ?_
  refine Wl.move rfl rfl ?_
  refine Wl.len Tryz.underlying39 rfl rfl ?_
  refine Wl.move rfl rfl ?_
  refine Wl.nil ?_
  refine Wx.then_n ?_
  refine Wc.block ?_
  refine Wc.loopS (G := Value × Nat) (fun g => match g with | ⟨v, k⟩ => [(1, .func (.func fi) #[] cap.toArray), (5, v), (8, .slice A ts.length c), (9, .int .i64 ts.length), (10, .int .i64 k)]) (fun g => match g with | ⟨v, k⟩ => k ≤ ts.length) (fun g => match g with | ⟨v, k⟩ => [rowOf eInt v 3 1 (idxs p (ts.take k))]) (fun g => match g with | ⟨v, k⟩ => fun w => R w ∧ kTask.Row w A ts) (fun g => match g with | ⟨v, k⟩ => ts.length - k) ⟨.slice none 0 0, 0⟩ ⟨rfl, rfl, rfl, rfl, rfl, trivial⟩ (Nat.zero_le _) (fun w hw => hw.nil 3 1) ?_
  rintro ⟨v, k⟩ hk0
  dsimp only
  refine Wc.seq ?_
  refine Wc.region ?_
  refine Wl.lss rfl rfl rfl ?_
  refine Wl.nil ?_
  refine Wx.then_n ?_
  refine Wc.seq ?_
  refine Wc.condp rfl (fun h11 => ?_) (fun h11 => ?_)
  ·
    have hk : k < ts.length := by omega
    have hit := idxs_take p ts k hk
    have hil := idxs_len p (ts.take k)
    rw [List.length_take] at hil
    refine Wc.pure (p := ∃ ad, A = some ad) (fun w hw => hw.addr (fun w h => h.2) (by omega)) ?_
    rintro ⟨ad, rfl⟩
    refine Wc.skip ?_
    refine Wx.then_n ?_
    refine Wc.seq ?_
    refine Wc.block ?_
    refine Wc.seq ?_
    refine Wc.region ?_
    refine Wl.move rfl rfl ?_
    refine Wl.idx Tryz.underlying39 t115 rfl rfl rfl hk ?_
    refine Wl.loadrw (cs := eTask ts[k]) t115 (fun w h => h.2.cells k hk) rfl rfl rfl ?_
    refine Wl.alloc t115 rfl rfl (fun b7 => ?_)
    refine Wl.assign rfl rfl ?_
    refine Wl.storew 1 t115 rfl rfl rfl rfl rfl rfl rfl ?_
    refine Wl.nil ?_
    refine Wx.then_n ?_
    refine Wc.seq ?_
    refine Wc.region ?_
    refine Wl.move rfl rfl ?_
    refine Wl.loadbw 1 t115 rfl rfl rfl rfl ?_
    refine Wl.callF [.agg #[.int .i64 ts[k].node, .int .i64 ts[k].part]] hf hb hnm rfl rfl rfl (fun w hw => hg _ w ts[k] (hw.read fun w h => h.1)) ?_
    refine Wl.nil ?_
    refine Wx.then_n ?_
    refine Wc.cond rfl (fun h17 => ?_) (fun h17 => ?_)
    ·
      refine Wc.region ?_
      refine Wl.move rfl rfl ?_
      refine Wl.move rfl rfl ?_
      refine Wl.slice1 Tryz.underlying24 t3 rfl rfl rfl rfl rfl rfl (fun b20 => ?_)
      refine Wl.app1e 0 2 ((k : Int)) Tryz.underlying24 t3 rfl rfl rfl rfl rfl rfl rfl rfl rfl rfl rfl (by omega) (fun v21 => ?_)
      refine Wl.assign rfl rfl ?_
      refine Wl.nil ?_
      refine Wx.block_n ?_
      refine Wx.then_n ?_
      refine Wc.region ?_
      refine Wl.add rfl rfl rfl (by omega) ?_
      refine Wl.move rfl rfl ?_
      refine Wl.nil ?_
      exact Wx.againS ⟨v21, k + 1⟩ (by (try dsimp only); omega) ⟨rfl, rfl, rfl, rfl, rfl, trivial⟩ hk (fun w hw => by (try dsimp only); rw [hit, if_pos h17]; exact hw.take 1)
    ·
      refine Wc.skip ?_
      refine Wx.block_n ?_
      refine Wx.then_n ?_
      refine Wc.region ?_
      refine Wl.add rfl rfl rfl (by omega) ?_
      refine Wl.move rfl rfl ?_
      refine Wl.nil ?_
      exact Wx.againS ⟨v, k + 1⟩ (by (try dsimp only); omega) ⟨rfl, rfl, rfl, rfl, rfl, trivial⟩ hk (fun w hw => by (try dsimp only); rw [hit, if_neg (by rw [h17]; simp), List.append_nil]; exact hw.take 1)
  ·
    refine Wc.exit ?_
    refine Wx.then_e ?_
    refine Wx.then_e ?_
    refine Wx.block_e ?_
    refine Wx.then_n ?_
    refine Wc.seq ?_
    refine Wc.region ?_
    refine Wl.move rfl rfl ?_
    refine Wl.assign rfl rfl ?_
    refine Wl.nil ?_
    refine Wx.then_n ?_
    refine Wc.ret ?_
    obtain rfl : k = ts.length := by omega
    rw [List.take_length]
    exact Wx.retO rfl rfl (fun w hw => hw)

theorem make1_calls (m : Nat → Prop) (x : Task) (ad : Addr) (k : Int) (w : World) (hr : Ro m w (fun w => Cells w ad [.int .i64 k])) :
    Calls Tryz.prog 137 #[.agg #[.int .i64 x.node, .int .i64 x.part], .pointer (some ad)] w (PostV m w (.bool (isOf k x))) := by
  refine calls_of_Wc (args := [.agg #[.int .i64 x.node, .int .i64 x.part], .pointer (some ad)]) 8 Tryz.func137 rfl rfl (by simp) ?_
  refine Wc.start hr ?_
  refine Wc.seq ?_
  refine Wc.region ?_
  refine Wl.box rfl rfl rfl (fun b2 => ?_)
  refine Wl.assign rfl rfl ?_
  refine Wl.nil ?_
  refine Wx.then_n ?_
  refine Wc.seq ?_
  refine Wc.region ?_
  refine Wl.fld ⟨_, 0, none⟩ fl115_0 rfl rfl rfl ?_
  refine Wl.loadb 0 0 t3 rfl rfl rfl rfl ?_
  refine Wl.loadr (j := 0) (cs := [.int .i64 k]) t3 (fun w h => h) rfl rfl (Addr.add_zero' _).symm rfl ?_
  refine Wl.eql rfl rfl rfl ?_
  refine Wl.assign rfl rfl ?_
  refine Wl.nil ?_
  refine Wx.then_n ?_
  refine Wc.ret ?_
  exact Wx.retB rfl rfl rfl

theorem make2_calls (m : Nat → Prop) (x : Task) (ad : Addr) (k : Int) (w : World) (hr : Ro m w (fun w => Cells w ad [.int .i64 k])) :
    Calls Tryz.prog 138 #[.agg #[.int .i64 x.node, .int .i64 x.part], .pointer (some ad)] w (PostV m w (.bool (isOf k x))) := by
  refine calls_of_Wc (args := [.agg #[.int .i64 x.node, .int .i64 x.part], .pointer (some ad)]) 8 Tryz.func138 rfl rfl (by simp) ?_
  refine Wc.start hr ?_
  refine Wc.seq ?_
  refine Wc.region ?_
  refine Wl.box rfl rfl rfl (fun b2 => ?_)
  refine Wl.assign rfl rfl ?_
  refine Wl.nil ?_
  refine Wx.then_n ?_
  refine Wc.seq ?_
  refine Wc.region ?_
  refine Wl.fld ⟨_, 0, none⟩ fl115_0 rfl rfl rfl ?_
  refine Wl.loadb 0 0 t3 rfl rfl rfl rfl ?_
  refine Wl.loadr (j := 0) (cs := [.int .i64 k]) t3 (fun w h => h) rfl rfl (Addr.add_zero' _).symm rfl ?_
  refine Wl.eql rfl rfl rfl ?_
  refine Wl.assign rfl rfl ?_
  refine Wl.nil ?_
  refine Wx.then_n ?_
  refine Wc.ret ?_
  exact Wx.retB rfl rfl rfl

end Go.Proofs.YtkffjbijamfnoaaGreat
