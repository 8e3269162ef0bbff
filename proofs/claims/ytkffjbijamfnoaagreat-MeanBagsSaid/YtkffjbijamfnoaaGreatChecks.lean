/-
  What is wrong with a job.
-/
import Derived.Test.YtkffjbijamfnoaaGreatOrders
set_option linter.unusedVariables false
set_option linter.unusedSimpArgs false
namespace Go.Proofs.YtkffjbijamfnoaaGreat
open Go.RowKit

/-- What is wrong with a job, but for its weights and sinks. -/
def shapeErr (ns : List Node) : Int :=
  if ns.length = 0 ∨ 12 < ns.length then 80
  else match ns.find? (fun x => decide (nodeErr ns x ≠ 0)) with
    | some x => nodeErr ns x
    | none => if (order ns).length < ns.length then 83 else 0
theorem shapeErr_size {ns : List Node} (h : ns.length = 0 ∨ 12 < ns.length) : shapeErr ns = 80 := by unfold shapeErr; rw [if_pos h]
theorem shapeErr_node {ns : List Node} (h : ¬ (ns.length = 0 ∨ 12 < ns.length)) (k : Nat) (hk : k < ns.length) (h0 : ∀ x ∈ ns.take k, nodeErr ns x = 0) (h1 : nodeErr ns ns[k] ≠ 0) : shapeErr ns = nodeErr ns ns[k] := by
  unfold shapeErr
  rw [if_neg h]
  have : ns.find? (fun x => decide (nodeErr ns x ≠ 0)) = some ns[k] := by
    rw [List.find?_eq_some_iff_getElem]
    refine ⟨by simpa using h1, k, hk, rfl, fun j hj => ?_⟩
    have := h0 ns[j] (List.mem_take_iff_getElem.2 ⟨j, by omega, rfl⟩)
    simpa using this
  rw [this]
theorem shapeErr_rest {ns : List Node} (h : ¬ (ns.length = 0 ∨ 12 < ns.length)) (h0 : ∀ x ∈ ns.take ns.length, nodeErr ns x = 0) : shapeErr ns = if (order ns).length < ns.length then 83 else 0 := by
  unfold shapeErr
  rw [if_neg h, List.take_length] at *
  have : ns.find? (fun x => decide (nodeErr ns x ≠ 0)) = none := by
    rw [List.find?_eq_none]
    intro x hx
    simpa using h0 x hx
  rw [this]
theorem take_zero {ns : List Node} {k : Nat} (hk : k < ns.length) (h : ∀ x ∈ ns.take k, nodeErr ns x = 0) (h1 : nodeErr ns ns[k] = 0) : ∀ x ∈ ns.take (k + 1), nodeErr ns x = 0 := by
  intro x hx
  rw [List.take_succ_eq_append_getElem hk, List.mem_append] at hx
  rcases hx with hx | hx
  · exact h x hx
  · simp at hx; subst hx; exact h1

theorem shape_calls (m : Nat → Prop) (J : Option Addr) (jc : Nat) (ns : List Node) (w : World) (hr : Ro m w (fun w => kNode.Row w J ns)) (hjc : ns.length ≤ jc) (hs : ∀ x ∈ ns, x.e.count ≤ 1099511627776) :
    Calls Tryz.prog 159 #[.agg #[.slice J ns.length jc]] w (PostV m w (.int .i64 (shapeErr ns))) := by
  refine calls_of_Wc (args := [.agg #[.slice J ns.length jc]]) 37 Tryz.func159 rfl rfl (by simp) ?_
  refine Wc.start hr ?_
  refine Wc.seq ?_
  refine Wc.region ?_
  refine Wl.box rfl rfl rfl (fun b1 => ?_)
  refine Wl.assign rfl rfl ?_
  refine Wl.nil ?_
  refine Wx.then_n ?_
  refine Wc.seq ?_
  refine Wc.seq ?_
  refine Wc.region ?_
  refine Wl.fld ⟨_, 0, none⟩ fl34_0 rfl rfl rfl ?_
  refine Wl.loadb 0 0 t32 rfl rfl rfl rfl ?_
  refine Wl.len Tryz.underlying32 rfl rfl ?_
  refine Wl.eql rfl rfl rfl ?_
  refine Wl.move rfl rfl ?_
  refine Wl.splitp 10 rfl (fun h10 => ?_) (fun h10 => ?_)
  ·
    refine Wl.skip rfl rfl ?_
    refine Wl.skip rfl rfl ?_
    refine Wl.skip rfl rfl ?_
    refine Wl.skip rfl rfl ?_
    refine Wl.pick_t rfl rfl rfl ?_
    refine Wl.nil ?_
    refine Wx.then_n ?_
    refine Wc.cond_t rfl ?_
    refine Wc.seq ?_
    refine Wc.region ?_
    refine Wl.assign rfl rfl ?_
    refine Wl.nil ?_
    refine Wx.then_n ?_
    refine Wc.ret ?_
    refine Wx.then_r ?_
    exact Wx.retI rfl rfl (shapeErr_size (by omega)).symm
  ·
    refine Wl.fld ⟨_, 0, none⟩ fl34_0 rfl rfl rfl ?_
    refine Wl.loadb 0 0 t32 rfl rfl rfl rfl ?_
    refine Wl.len Tryz.underlying32 rfl rfl ?_
    refine Wl.gtr rfl rfl rfl ?_
    refine Wl.pick_f rfl rfl rfl ?_
    refine Wl.nil ?_
    refine Wx.then_n ?_
    refine Wc.condp rfl (fun h15 => ?_) (fun h15 => ?_)
    ·
      refine Wc.seq ?_
      refine Wc.region ?_
      refine Wl.assign rfl rfl ?_
      refine Wl.nil ?_
      refine Wx.then_n ?_
      refine Wc.ret ?_
      refine Wx.then_r ?_
      exact Wx.retI rfl rfl (shapeErr_size (by omega)).symm
    ·
      have hsz : ¬ (ns.length = 0 ∨ 12 < ns.length) := by omega
      refine Wc.skip ?_
      refine Wx.then_n ?_
      refine Wc.seq ?_
      refine Wc.seq ?_
      refine Wc.region ?_
      refine Wl.fld ⟨_, 0, none⟩ fl34_0 rfl rfl rfl ?_
      refine Wl.loadb 0 0 t32 rfl rfl rfl rfl ?_
      refine Wl.len Tryz.underlying32 rfl rfl ?_
      refine Wl.move rfl rfl ?_
      refine Wl.nil ?_
      refine Wx.then_n ?_
      refine Wc.block ?_
      refine Wc.loopS (G := Nat) (fun g => match g with | k => [(1, .pointer (some ⟨b1, 0, none⟩)), (17, .slice J ns.length jc), (18, .int .i64 ns.length), (19, .int .i64 k)]) (fun g => match g with | k => k ≤ ns.length ∧ ∀ x ∈ ns.take k, nodeErr ns x = 0) (fun g => match g with | k => [.box b1 [.slice J ns.length jc] 34]) (fun g => match g with | k => fun w => kNode.Row w J ns) (fun g => match g with | k => ns.length - k) 0 ⟨rfl, rfl, rfl, rfl, trivial⟩ ⟨Nat.zero_le _, by simp⟩ (fun w hw => hw) ?_
      rintro k ⟨hk0, he⟩
      dsimp only
      refine Wc.seq ?_
      refine Wc.region ?_
      refine Wl.lss rfl rfl rfl ?_
      refine Wl.nil ?_
      refine Wx.then_n ?_
      refine Wc.seq ?_
      refine Wc.condp rfl (fun h20 => ?_) (fun h20 => ?_)
      ·
        have hk : k < ns.length := by omega
        refine Wc.pure (p := ∃ jd, J = some jd) (fun w hw => hw.addr (fun w h => h) (by omega)) ?_
        rintro ⟨jd, rfl⟩
        refine Wc.exS (fun w hw => hw.node_get (fun w h => h) k hk) ?_
        rintro ⟨⟨A2, c2⟩, A4, c4⟩ hcc
        dsimp only at hcc ⊢
        refine Wc.skip ?_
        refine Wx.then_n ?_
        refine Wc.seq ?_
        refine Wc.block ?_
        refine Wc.seq ?_
        refine Wc.region ?_
        refine Wl.idx Tryz.underlying32 t31 rfl rfl rfl hk ?_
        refine Wl.loadrw (cs := (nodeCells ns[k] ((A2, c2), (A4, c4)))) t31 (fun w h => h.2.1) rfl rfl rfl ?_
        refine Wl.alloc t31 rfl rfl (fun b4 => ?_)
        refine Wl.storew 1 t31 rfl rfl rfl rfl rfl rfl rfl ?_
        refine Wl.nil ?_
        refine Wx.then_n ?_
        refine Wc.seq ?_
        refine Wc.region ?_
        refine Wl.loadbw 0 t34 rfl rfl rfl rfl ?_
        refine Wl.loadbw 1 t31 rfl rfl rfl rfl ?_
        refine Wl.callV [.agg #[.slice (some jd) ns.length jc], .agg (nodeCells ns[k] ((A2, c2), (A4, c4))).toArray] Tryz.func197 rfl rfl rfl rfl (fun w hw => node_calls _ ns[k] A2 A4 (some jd) c2 c4 jc ns w (hw.read fun w h => ⟨h.2.2.1, h.2.2.2, h.1⟩) hcc.1 hcc.2 (hs _ (List.getElem_mem hk))) ?_
        refine Wl.assign rfl rfl ?_
        refine Wl.nil ?_
        refine Wx.then_n ?_
        refine Wc.seq ?_
        refine Wc.region ?_
        refine Wl.move rfl rfl ?_
        refine Wl.neq rfl rfl rfl ?_
        refine Wl.nil ?_
        refine Wx.then_n ?_
        refine Wc.condp rfl (fun h27 => ?_) (fun h27 => ?_)
        ·
          refine Wc.seq ?_
          refine Wc.region ?_
          refine Wl.move rfl rfl ?_
          refine Wl.assign rfl rfl ?_
          refine Wl.nil ?_
          refine Wx.then_n ?_
          refine Wc.ret ?_
          refine Wx.block_r ?_
          refine Wx.then_r ?_
          refine Wx.then_r ?_
          refine Wx.block_r ?_
          refine Wx.then_r ?_
          exact Wx.retI rfl rfl (shapeErr_node hsz k hk he h27).symm
        ·
          refine Wc.skip ?_
          refine Wx.block_n ?_
          refine Wx.then_n ?_
          refine Wc.region ?_
          refine Wl.add rfl rfl rfl (by omega) ?_
          refine Wl.move rfl rfl ?_
          refine Wl.nil ?_
          exact Wx.againS (k + 1) (by omega) ⟨rfl, rfl, rfl, rfl, trivial⟩ ⟨hk, take_zero hk he (Decidable.not_not.1 h27)⟩ (fun w hw => (hw.take 1).imp fun w h => h.1)
      ·
        obtain rfl : k = ns.length := by omega
        refine Wc.exit ?_
        refine Wx.then_e ?_
        refine Wx.then_e ?_
        refine Wx.block_e ?_
        refine Wx.then_n ?_
        refine Wc.seq ?_
        refine Wc.seq ?_
        refine Wany.startH mixed (fun w hw => hw.drew) ?_
        refine Wany.take (f := 3) [0, 3, 4, 5] (fun w hw => hw) (by kernel_rfl) ?_
        refine Wl.loadbw 0 t34 rfl rfl rfl rfl ?_
        refine Wl.fld ⟨_, 0, none⟩ fl34_0 rfl rfl rfl ?_
        refine Wl.loadb 0 0 t32 rfl rfl rfl rfl ?_
        refine Wl.len Tryz.underlying32 rfl rfl ?_
        refine Wl.nilh ?_
        refine Wany.eff (f := 2) 1 rfl (by kernel_rfl) ?_
        refine Wl.callO [_] Tryz.func91 rfl rfl rfl rfl (fun w hw => order_calls _ J jc ns w (hw.read fun w h => h) hjc (by omega)) (fun v31 => ?_)
        refine Wl.form 1 rfl (fun A31 c31 e31 _ _ => ?_)
        subst e31
        refine Wl.nile (fun w hw => hw.take 1) ?_
        refine Wany.take (f := 0) [2, 6] (fun w hw => hw.take 1) (by kernel_rfl) ?_
        refine Wl.len Tryz.underlying24 rfl rfl ?_
        refine Wl.lss rfl rfl rfl ?_
        refine Wl.nilh ?_
        refine Wany.done (by kernel_rfl) ?_
        refine Wx.then_n ?_
        refine Wc.condp rfl (fun h36 => ?_) (fun h36 => ?_)
        ·
          refine Wc.seq ?_
          refine Wc.region ?_
          refine Wl.assign rfl rfl ?_
          refine Wl.nil ?_
          refine Wx.then_n ?_
          refine Wc.ret ?_
          refine Wx.then_r ?_
          exact Wx.retI rfl rfl (by rw [shapeErr_rest hsz he, if_pos (by omega)])
        ·
          refine Wc.skip ?_
          refine Wx.then_n ?_
          refine Wc.seq ?_
          refine Wc.region ?_
          refine Wl.assign rfl rfl ?_
          refine Wl.nil ?_
          refine Wx.then_n ?_
          refine Wc.ret ?_
          exact Wx.retI rfl rfl (by rw [shapeErr_rest hsz he, if_neg (by omega)])

theorem light8_calls (m : Nat → Prop) (J : Option Addr) (jc : Nat) (ns : List Node) (w : World) (hr : Ro m w (fun w => kNode.Row w J ns)) (hjc : ns.length ≤ jc) (hs : ∀ x ∈ ns, x.e.count ≤ 1099511627776) :
    Calls Tryz.prog 102 #[.agg #[.slice J ns.length jc]] w (PostV m w (.int .i64 (shapeErr ns))) := by
  refine calls_of_Wc (args := [.agg #[.slice J ns.length jc]]) 39 Tryz.func102 rfl rfl (by simp) ?_
  refine Wc.start hr ?_
  refine Wc.seq ?_
  refine Wc.region ?_
  refine Wl.box rfl rfl rfl (fun b1 => ?_)
  refine Wl.assign rfl rfl ?_
  refine Wl.nil ?_
  refine Wx.then_n ?_
  refine Wc.seq ?_
  refine Wc.seq ?_
  refine Wc.region ?_
  refine Wl.fld ⟨_, 0, none⟩ fl34_0 rfl rfl rfl ?_
  refine Wl.loadb 0 0 t32 rfl rfl rfl rfl ?_
  refine Wl.len Tryz.underlying32 rfl rfl ?_
  refine Wl.eql rfl rfl rfl ?_
  refine Wl.move rfl rfl ?_
  refine Wl.splitp 9 rfl (fun h9 => ?_) (fun h9 => ?_)
  ·
    refine Wl.skip rfl rfl ?_
    refine Wl.skip rfl rfl ?_
    refine Wl.skip rfl rfl ?_
    refine Wl.skip rfl rfl ?_
    refine Wl.pick_t rfl rfl rfl ?_
    refine Wl.nil ?_
    refine Wx.then_n ?_
    refine Wc.cond_t rfl ?_
    refine Wc.seq ?_
    refine Wc.region ?_
    refine Wl.assign rfl rfl ?_
    refine Wl.nil ?_
    refine Wx.then_n ?_
    refine Wc.ret ?_
    refine Wx.then_r ?_
    exact Wx.retI rfl rfl (shapeErr_size (by omega)).symm
  ·
    refine Wl.fld ⟨_, 0, none⟩ fl34_0 rfl rfl rfl ?_
    refine Wl.loadb 0 0 t32 rfl rfl rfl rfl ?_
    refine Wl.len Tryz.underlying32 rfl rfl ?_
    refine Wl.gtr rfl rfl rfl ?_
    refine Wl.pick_f rfl rfl rfl ?_
    refine Wl.nil ?_
    refine Wx.then_n ?_
    refine Wc.condp rfl (fun h14 => ?_) (fun h14 => ?_)
    ·
      refine Wc.seq ?_
      refine Wc.region ?_
      refine Wl.assign rfl rfl ?_
      refine Wl.nil ?_
      refine Wx.then_n ?_
      refine Wc.ret ?_
      refine Wx.then_r ?_
      exact Wx.retI rfl rfl (shapeErr_size (by omega)).symm
    ·
      have hsz : ¬ (ns.length = 0 ∨ 12 < ns.length) := by omega
      refine Wc.skip ?_
      refine Wx.then_n ?_
      refine Wc.seq ?_
      refine Wc.seq ?_
      refine Wc.region ?_
      refine Wl.assign rfl rfl ?_
      refine Wl.nil ?_
      refine Wx.then_n ?_
      refine Wc.block ?_
      refine Wc.loopS (G := Nat) (fun g => match g with | k => [(1, .pointer (some ⟨b1, 0, none⟩)), (3, .int .i64 k)]) (fun g => match g with | k => k ≤ ns.length ∧ ∀ x ∈ ns.take k, nodeErr ns x = 0) (fun g => match g with | k => [.box b1 [.slice J ns.length jc] 34]) (fun g => match g with | k => fun w => kNode.Row w J ns) (fun g => match g with | k => ns.length - k) 0 ⟨rfl, rfl, trivial⟩ ⟨Nat.zero_le _, by simp⟩ (fun w hw => hw) ?_
      rintro k ⟨hk0, he⟩
      dsimp only
      refine Wc.seq ?_
      refine Wc.seq ?_
      refine Wc.region ?_
      refine Wl.move rfl rfl ?_
      refine Wl.fld ⟨_, 0, none⟩ fl34_0 rfl rfl rfl ?_
      refine Wl.loadb 0 0 t32 rfl rfl rfl rfl ?_
      refine Wl.len Tryz.underlying32 rfl rfl ?_
      refine Wl.lss rfl rfl rfl ?_
      refine Wl.nil ?_
      refine Wx.then_n ?_
      refine Wc.condp rfl (fun h19 => ?_) (fun h19 => ?_)
      ·
        have hk : k < ns.length := by omega
        refine Wc.pure (p := ∃ jd, J = some jd) (fun w hw => hw.addr (fun w h => h) (by omega)) ?_
        rintro ⟨jd, rfl⟩
        refine Wc.exS (fun w hw => hw.node_get (fun w h => h) k hk) ?_
        rintro ⟨⟨A2, c2⟩, A4, c4⟩ hcc
        dsimp only at hcc ⊢
        refine Wc.skip ?_
        refine Wx.then_n ?_
        refine Wc.seq ?_
        refine Wc.block ?_
        refine Wc.seq ?_
        refine Wc.draw mixed (by kernel_rfl) (fun w hw => hw.drew) ?_
        refine Wl.loadbw 0 t34 rfl rfl rfl rfl ?_
        refine Wl.fld ⟨_, 0, none⟩ fl34_0 rfl rfl rfl ?_
        refine Wl.loadb 0 0 t32 rfl rfl rfl rfl ?_
        refine Wl.move rfl rfl ?_
        refine Wl.idx Tryz.underlying32 t31 rfl rfl rfl hk ?_
        refine Wl.loadrw (cs := (nodeCells ns[k] ((A2, c2), (A4, c4)))) t31 (fun w h => h.2.1) rfl rfl rfl ?_
        refine Wl.callV [.agg #[.slice (some jd) ns.length jc], .agg (nodeCells ns[k] ((A2, c2), (A4, c4))).toArray] Tryz.func143 rfl rfl rfl rfl (fun w hw => node8_calls _ ns[k] A2 A4 (some jd) c2 c4 jc ns w (hw.read fun w h => ⟨h.2.2.1, h.2.2.2, h.1⟩) hcc.1 hcc.2 (hs _ (List.getElem_mem hk))) ?_
        refine Wl.assign rfl rfl ?_
        refine Wl.nilq ?_
        refine Wx.then_n ?_
        refine Wc.seq ?_
        refine Wc.region ?_
        refine Wl.move rfl rfl ?_
        refine Wl.neq rfl rfl rfl ?_
        refine Wl.nil ?_
        refine Wx.then_n ?_
        refine Wc.condp rfl (fun h30 => ?_) (fun h30 => ?_)
        ·
          refine Wc.seq ?_
          refine Wc.region ?_
          refine Wl.move rfl rfl ?_
          refine Wl.assign rfl rfl ?_
          refine Wl.nil ?_
          refine Wx.then_n ?_
          refine Wc.ret ?_
          refine Wx.block_r ?_
          refine Wx.then_r ?_
          refine Wx.then_r ?_
          refine Wx.block_r ?_
          refine Wx.then_r ?_
          exact Wx.retI rfl rfl (shapeErr_node hsz k hk he h30).symm
        ·
          refine Wc.skip ?_
          refine Wx.block_n ?_
          refine Wx.then_n ?_
          refine Wc.region ?_
          refine Wl.move rfl rfl ?_
          refine Wl.add rfl rfl rfl (by omega) ?_
          refine Wl.assign rfl rfl ?_
          refine Wl.nil ?_
          exact Wx.againS (k + 1) (by omega) ⟨rfl, rfl, trivial⟩ ⟨hk, take_zero hk he (Decidable.not_not.1 h30)⟩ (fun w hw => (hw.take 1).imp fun w h => h.1)
      ·
        obtain rfl : k = ns.length := by omega
        refine Wc.exit ?_
        refine Wx.then_e ?_
        refine Wx.then_e ?_
        refine Wx.block_e ?_
        refine Wx.then_n ?_
        refine Wc.seq ?_
        refine Wc.seq ?_
        refine Wany.startH mixed (fun w hw => hw.drew) ?_
        refine Wany.take (f := 3) [0, 3, 4, 5] (fun w hw => hw) (by kernel_rfl) ?_
        refine Wl.loadbw 0 t34 rfl rfl rfl rfl ?_
        refine Wl.fld ⟨_, 0, none⟩ fl34_0 rfl rfl rfl ?_
        refine Wl.loadb 0 0 t32 rfl rfl rfl rfl ?_
        refine Wl.len Tryz.underlying32 rfl rfl ?_
        refine Wl.nilh ?_
        refine Wany.eff (f := 2) 1 rfl (by kernel_rfl) ?_
        refine Wl.callO [_] Tryz.func84 rfl rfl rfl rfl (fun w hw => order8_calls _ J jc ns w (hw.read fun w h => h) hjc (by omega)) (fun v33 => ?_)
        refine Wl.form 1 rfl (fun A31 c31 e31 _ _ => ?_)
        subst e31
        refine Wl.nile (fun w hw => hw.take 1) ?_
        refine Wany.take (f := 0) [2, 6] (fun w hw => hw.take 1) (by kernel_rfl) ?_
        refine Wl.len Tryz.underlying24 rfl rfl ?_
        refine Wl.lss rfl rfl rfl ?_
        refine Wl.nilh ?_
        refine Wany.done (by kernel_rfl) ?_
        refine Wx.then_n ?_
        refine Wc.condp rfl (fun h38 => ?_) (fun h38 => ?_)
        ·
          refine Wc.seq ?_
          refine Wc.region ?_
          refine Wl.assign rfl rfl ?_
          refine Wl.nil ?_
          refine Wx.then_n ?_
          refine Wc.ret ?_
          refine Wx.then_r ?_
          exact Wx.retI rfl rfl (by rw [shapeErr_rest hsz he, if_pos (by omega)])
        ·
          refine Wc.skip ?_
          refine Wx.then_n ?_
          refine Wc.seq ?_
          refine Wc.region ?_
          refine Wl.assign rfl rfl ?_
          refine Wl.nil ?_
          refine Wx.then_n ?_
          refine Wc.ret ?_
          exact Wx.retI rfl rfl (by rw [shapeErr_rest hsz he, if_neg (by omega)])

end Go.Proofs.YtkffjbijamfnoaaGreat
