/-
  Jobs, as the document's package asks.
-/
import Derived.Test.YtkffjbijamfnoaaGreatJobs
set_option linter.unusedVariables false
set_option linter.unusedSimpArgs false
namespace Go.Proofs.YtkffjbijamfnoaaGreat
open Go.RowKit

theorem badIn_eq (ns : List Node) (i : Int) (k : Nat) (hk : k < ns.length) (hi : i = k) : badIn ns i = decide (ns[k].kind = 8) := by
  subst hi
  unfold badIn
  rw [decide_eq_false (show ¬ ((k : Nat) : Int) < 0 by omega), decide_eq_false (show ¬ (ns.length : Int) ≤ k by omega)]
  simp [List.getElem?_eq_getElem hk]
theorem badIn_neg (ns : List Node) (i : Int) (h : i < 0) : badIn ns i = true := by simp [badIn, h]
theorem badIn_big (ns : List Node) (i : Int) (h : (ns.length : Int) ≤ i) : badIn ns i = true := by unfold badIn; rw [decide_eq_true h]; simp
theorem insOk_len (ns : List Node) (x : Node) (h : ¬ (leastIn x.kind ≤ x.ins.length ∧ x.ins.length ≤ mostIn x.kind)) : insOk ns x = false := by
  unfold insOk
  by_cases h1 : leastIn x.kind ≤ x.ins.length
  · rw [decide_eq_false (fun h2 => h ⟨h1, h2⟩)]; simp
  · rw [decide_eq_false h1]; rfl
theorem insOk_bad (ns : List Node) (x : Node) (k : Nat) (hk : k < x.ins.length) (h : badIn ns x.ins[k] = true) : insOk ns x = false := by
  unfold insOk
  rw [show x.ins.any (badIn ns) = true from List.any_eq_true.2 ⟨_, List.getElem_mem hk, h⟩]
  simp
theorem insOk_all (ns : List Node) (x : Node) (h1 : leastIn x.kind ≤ x.ins.length) (h2 : x.ins.length ≤ mostIn x.kind) (h : ∀ i ∈ x.ins.take x.ins.length, badIn ns i = false) : insOk ns x = true := by
  unfold insOk
  rw [List.take_length] at h
  rw [decide_eq_true h1, decide_eq_true h2, show x.ins.any (badIn ns) = false by simpa using h]
  rfl

set_option maxHeartbeats 2000000 in
theorem node8_calls (m : Nat → Prop) (x : Node) (A A2 J : Option Addr) (c c2 jc : Nat) (ns : List Node) (w : World) (hr : Ro m w (fun w => kInt.Row w A x.ins ∧ kExpr.Row w A2 x.e.l ∧ kNode.Row w J ns)) (hc : x.ins.length ≤ c) (hc2 : x.e.l.length ≤ c2) (hs : x.e.count ≤ 1099511627776) :
    Calls Tryz.prog 143 #[.agg #[.slice J ns.length jc], .agg #[.int .i64 x.kind, .slice A x.ins.length c, .int .i64 x.par, .int .i64 x.e.op, .int .i64 x.e.n, .slice A2 x.e.l.length c2, .int .i64 x.agg, .int .i64 x.win.kind, .int .i64 x.win.size, .int .i64 x.win.slide]] w (PostV m w (.int .i64 (nodeErr ns x))) := by
  have hil : x.ins.length ≤ 9223372036854775807 := hr.now.1.1
  refine calls_of_Wc (args := [.agg #[.slice J ns.length jc], .agg #[.int .i64 x.kind, .slice A x.ins.length c, .int .i64 x.par, .int .i64 x.e.op, .int .i64 x.e.n, .slice A2 x.e.l.length c2, .int .i64 x.agg, .int .i64 x.win.kind, .int .i64 x.win.size, .int .i64 x.win.slide]]) 168 Tryz.func143 rfl rfl (by simp) ?_
  refine Wc.start hr ?_
  refine Wc.seq ?_
  refine Wc.region ?_
  refine Wl.box rfl rfl rfl (fun b2 => ?_)
  refine Wl.box rfl rfl rfl (fun b3 => ?_)
  refine Wl.assign rfl rfl ?_
  refine Wl.nil ?_
  refine Wx.then_n ?_
  refine Wc.seq ?_
  refine Wc.seq ?_
  refine Wc.region ?_
  refine Wl.fld ⟨_, 0, none⟩ fl31_0 rfl rfl rfl ?_
  refine Wl.loadb 1 0 t3 rfl rfl rfl rfl ?_
  refine Wl.lss rfl rfl rfl ?_
  refine Wl.move rfl rfl ?_
  refine Wl.splitp 11 rfl (fun h11 => ?_) (fun h11 => ?_)
  ·
    refine Wl.skip rfl rfl ?_
    refine Wl.skip rfl rfl ?_
    refine Wl.skip rfl rfl ?_
    refine Wl.pick_t rfl rfl rfl ?_
    refine Wl.nil ?_
    refine Wx.then_n ?_
    refine Wc.cond_t rfl ?_
    refine Wc.seq ?_
    refine Wc.region ?_
    refine Wl.assign rfl rfl ?_
    refine Wl.nil ?_
    refine Wx.then_n ?_
    refine Wc.ret ?_
    refine Wx.then_r ?_
    exact Wx.retI rfl rfl (by unfold nodeErr; rw [if_pos (by omega)])
  ·
    refine Wl.fld ⟨_, 0, none⟩ fl31_0 rfl rfl rfl ?_
    refine Wl.loadb 1 0 t3 rfl rfl rfl rfl ?_
    refine Wl.gtr rfl rfl rfl ?_
    refine Wl.pick_f rfl rfl rfl ?_
    refine Wl.nil ?_
    refine Wx.then_n ?_
    refine Wc.condp rfl (fun h15 => ?_) (fun h15 => ?_)
    ·
      refine Wc.seq ?_
      refine Wc.region ?_
      refine Wl.assign rfl rfl ?_
      refine Wl.nil ?_
      refine Wx.then_n ?_
      refine Wc.ret ?_
      refine Wx.then_r ?_
      exact Wx.retI rfl rfl (by unfold nodeErr; rw [if_pos (by omega)])
    ·
      refine Wc.skip ?_
      refine Wx.then_n ?_
      refine Wc.seq ?_
      refine Wc.region ?_
      refine Wl.fld ⟨_, 1, none⟩ fl31_1 rfl rfl rfl ?_
      refine Wl.loadb 1 1 t24 rfl rfl rfl rfl ?_
      refine Wl.len Tryz.underlying24 rfl rfl ?_
      refine Wl.assign rfl rfl ?_
      refine Wl.nil ?_
      refine Wx.then_n ?_
      refine Wc.cutS (G := Unit) (fun g => match g with | _ => [(2, .pointer (some ⟨b2, 0, none⟩)), (3, .pointer (some ⟨b3, 0, none⟩)), (4, .int .i64 0), (5, .int .i64 x.ins.length)]) (fun g => match g with | _ => leastIn x.kind ≤ x.ins.length ∧ x.ins.length ≤ mostIn x.kind) (fun g => match g with | _ => [.box b2 [.slice J ns.length jc] 34, .box b3 [.int .i64 x.kind, .slice A x.ins.length c, .int .i64 x.par, .int .i64 x.e.op, .int .i64 x.e.n, .slice A2 x.e.l.length c2, .int .i64 x.agg, .int .i64 x.win.kind, .int .i64 x.win.size, .int .i64 x.win.slide] 31]) (fun g => match g with | _ => fun w => kInt.Row w A x.ins ∧ kExpr.Row w A2 x.e.l ∧ kNode.Row w J ns) ?_ ?_
      ·
        refine Wc.seq ?_
        refine Wc.region ?_
        refine Wl.fld ⟨_, 0, none⟩ fl31_0 rfl rfl rfl ?_
        refine Wl.loadb 1 0 t3 rfl rfl rfl rfl ?_
        refine Wl.nil ?_
        refine Wx.then_n ?_
        refine Wc.block ?_
        refine Wc.seq ?_
        refine Wc.region ?_
        refine Wl.eql rfl rfl rfl ?_
        refine Wl.assign rfl rfl ?_
        refine Wl.nil ?_
        refine Wx.then_n ?_
        refine Wc.condp rfl (fun h23 => ?_) (fun h23 => ?_)
        ·
          refine Wc.seq ?_
          refine Wc.region ?_
          refine Wl.move rfl rfl ?_
          refine Wl.neq rfl rfl rfl ?_
          refine Wl.nil ?_
          refine Wx.then_n ?_
          refine Wc.condp rfl (fun h26 => ?_) (fun h26 => ?_)
          ·
            refine Wc.seq ?_
            refine Wc.region ?_
            refine Wl.assign rfl rfl ?_
            refine Wl.nil ?_
            refine Wx.then_n ?_
            refine Wc.ret ?_
            refine Wx.block_r ?_
            refine Wx.then_r ?_
            exact Wx.retI rfl rfl (by unfold nodeErr; rw [if_neg (by omega), if_pos (by rw [insOk_len ns x (by unfold leastIn mostIn; (repeat' split) <;> omega)]; rfl)])
          ·
            refine Wc.skip ?_
            refine Wx.block_n ?_
            exact Wx.metS () ⟨rfl, rfl, rfl, rfl, trivial⟩ (by unfold leastIn mostIn; (repeat' split) <;> omega) (fun w hw => hw)
        ·
          refine Wc.seq ?_
          refine Wc.region ?_
          refine Wl.eql rfl rfl rfl ?_
          refine Wl.assign rfl rfl ?_
          refine Wl.nil ?_
          refine Wx.then_n ?_
          refine Wc.condp rfl (fun h27 => ?_) (fun h27 => ?_)
          ·
            refine Wc.seq ?_
            refine Wc.region ?_
            refine Wl.move rfl rfl ?_
            refine Wl.lss rfl rfl rfl ?_
            refine Wl.move rfl rfl ?_
            refine Wl.splitp 31 rfl (fun h31 => ?_) (fun h31 => ?_)
            ·
              refine Wl.skip rfl rfl ?_
              refine Wl.skip rfl rfl ?_
              refine Wl.pick_t rfl rfl rfl ?_
              refine Wl.nil ?_
              refine Wx.then_n ?_
              refine Wc.cond_t rfl ?_
              refine Wc.seq ?_
              refine Wc.region ?_
              refine Wl.assign rfl rfl ?_
              refine Wl.nil ?_
              refine Wx.then_n ?_
              refine Wc.ret ?_
              refine Wx.block_r ?_
              refine Wx.then_r ?_
              exact Wx.retI rfl rfl (by unfold nodeErr; rw [if_neg (by omega), if_pos (by rw [insOk_len ns x (by unfold leastIn mostIn; (repeat' split) <;> omega)]; rfl)])
            ·
              refine Wl.move rfl rfl ?_
              refine Wl.gtr rfl rfl rfl ?_
              refine Wl.pick_f rfl rfl rfl ?_
              refine Wl.nil ?_
              refine Wx.then_n ?_
              refine Wc.condp rfl (fun h34 => ?_) (fun h34 => ?_)
              ·
                refine Wc.seq ?_
                refine Wc.region ?_
                refine Wl.assign rfl rfl ?_
                refine Wl.nil ?_
                refine Wx.then_n ?_
                refine Wc.ret ?_
                refine Wx.block_r ?_
                refine Wx.then_r ?_
                exact Wx.retI rfl rfl (by unfold nodeErr; rw [if_neg (by omega), if_pos (by rw [insOk_len ns x (by unfold leastIn mostIn; (repeat' split) <;> omega)]; rfl)])
              ·
                refine Wc.skip ?_
                refine Wx.block_n ?_
                exact Wx.metS () ⟨rfl, rfl, rfl, rfl, trivial⟩ (by unfold leastIn mostIn; (repeat' split) <;> omega) (fun w hw => hw)
          ·
            refine Wc.seq ?_
            refine Wc.region ?_
            refine Wl.move rfl rfl ?_
            refine Wl.neq rfl rfl rfl ?_
            refine Wl.nil ?_
            refine Wx.then_n ?_
            refine Wc.condp rfl (fun h22 => ?_) (fun h22 => ?_)
            ·
              refine Wc.seq ?_
              refine Wc.region ?_
              refine Wl.assign rfl rfl ?_
              refine Wl.nil ?_
              refine Wx.then_n ?_
              refine Wc.ret ?_
              refine Wx.block_r ?_
              refine Wx.then_r ?_
              exact Wx.retI rfl rfl (by unfold nodeErr; rw [if_neg (by omega), if_pos (by rw [insOk_len ns x (by unfold leastIn mostIn; (repeat' split) <;> omega)]; rfl)])
            ·
              refine Wc.skip ?_
              refine Wx.block_n ?_
              exact Wx.metS () ⟨rfl, rfl, rfl, rfl, trivial⟩ (by unfold leastIn mostIn; (repeat' split) <;> omega) (fun w hw => hw)
      ·
        rintro _ ⟨hl1, hl2⟩
        dsimp only
        refine Wc.seq ?_
        refine Wc.seq ?_
        refine Wc.region ?_
        refine Wl.assign rfl rfl ?_
        refine Wl.nil ?_
        refine Wx.then_n ?_
        refine Wc.block ?_
        refine Wc.loopS (G := Nat) (fun g => match g with | k => [(2, .pointer (some ⟨b2, 0, none⟩)), (3, .pointer (some ⟨b3, 0, none⟩)), (4, .int .i64 0), (5, .int .i64 x.ins.length), (6, .int .i64 k)]) (fun g => match g with | k => k ≤ x.ins.length ∧ ∀ i ∈ x.ins.take k, badIn ns i = false) (fun g => match g with | k => [.box b2 [.slice J ns.length jc] 34, .box b3 [.int .i64 x.kind, .slice A x.ins.length c, .int .i64 x.par, .int .i64 x.e.op, .int .i64 x.e.n, .slice A2 x.e.l.length c2, .int .i64 x.agg, .int .i64 x.win.kind, .int .i64 x.win.size, .int .i64 x.win.slide] 31]) (fun g => match g with | k => fun w => kInt.Row w A x.ins ∧ kExpr.Row w A2 x.e.l ∧ kNode.Row w J ns) (fun g => match g with | k => x.ins.length - k) 0 ⟨rfl, rfl, rfl, rfl, rfl, trivial⟩ ⟨Nat.zero_le _, by simp⟩ (fun w hw => hw) ?_
        rintro k ⟨hk0, he⟩
        dsimp only
        refine Wc.seq ?_
        refine Wc.seq ?_
        refine Wc.region ?_
        refine Wl.move rfl rfl ?_
        refine Wl.move rfl rfl ?_
        refine Wl.lss rfl rfl rfl ?_
        refine Wl.nil ?_
        refine Wx.then_n ?_
        refine Wc.condp rfl (fun h37 => ?_) (fun h37 => ?_)
        ·
          have hk : k < x.ins.length := by omega
          refine Wc.pure (p := ∃ ad, A = some ad) (fun w hw => hw.addr (fun w h => h.1) (by omega)) ?_
          rintro ⟨ad, rfl⟩
          refine Wc.exS (fun w hw => hw.node_opt (fun w h => h.2.2) x.ins[k]) ?_
          intro p hp
          refine Wc.skip ?_
          refine Wx.then_n ?_
          refine Wc.seq ?_
          refine Wc.block ?_
          refine Wc.seq ?_
          refine Wc.draw mixed (by kernel_rfl) (fun w hw => hw.drew) ?_
          refine Wl.fld ⟨_, 1, none⟩ fl31_1 rfl rfl rfl ?_
          refine Wl.loadb 1 1 t24 rfl rfl rfl rfl ?_
          refine Wl.move rfl rfl ?_
          refine Wl.idx Tryz.underlying24 t3 rfl rfl rfl hk ?_
          refine Wl.loadr (j := 0) (cs := eInt x.ins[k]) t3 (fun w h => h.1.1.cells k hk) rfl rfl (Addr.add_zero' _).symm rfl ?_
          refine Wl.lss rfl rfl rfl ?_
          refine Wl.move rfl rfl ?_
          refine Wl.splitp 46 rfl (fun h46 => ?_) (fun h46 => ?_)
          ·
            refine Wl.skip rfl rfl ?_
            refine Wl.skip rfl rfl ?_
            refine Wl.skip rfl rfl ?_
            refine Wl.skip rfl rfl ?_
            refine Wl.skip rfl rfl ?_
            refine Wl.skip rfl rfl ?_
            refine Wl.skip rfl rfl ?_
            refine Wl.skip rfl rfl ?_
            refine Wl.skip rfl rfl ?_
            refine Wl.pick_t rfl rfl rfl ?_
            refine Wl.move rfl rfl ?_
            refine Wl.skip rfl rfl ?_
            refine Wl.skip rfl rfl ?_
            refine Wl.skip rfl rfl ?_
            refine Wl.skip rfl rfl ?_
            refine Wl.skip rfl rfl ?_
            refine Wl.skip rfl rfl ?_
            refine Wl.skip rfl rfl ?_
            refine Wl.skip rfl rfl ?_
            refine Wl.skip rfl rfl ?_
            refine Wl.skip rfl rfl ?_
            refine Wl.skip rfl rfl ?_
            refine Wl.pick_t rfl rfl rfl ?_
            refine Wl.nilq ?_
            refine Wx.then_n ?_
            refine Wc.cond_t rfl ?_
            refine Wc.seq ?_
            refine Wc.region ?_
            refine Wl.assign rfl rfl ?_
            refine Wl.nil ?_
            refine Wx.then_n ?_
            refine Wc.ret ?_
            refine Wx.block_r ?_
            refine Wx.then_r ?_
            refine Wx.then_r ?_
            refine Wx.block_r ?_
            refine Wx.then_r ?_
            exact Wx.retI rfl rfl (by unfold nodeErr; rw [if_neg (by omega), if_pos (by rw [insOk_bad ns x k hk (badIn_neg _ _ (by omega))]; rfl)])
          ·
            refine Wl.fld ⟨_, 1, none⟩ fl31_1 rfl rfl rfl ?_
            refine Wl.loadb 1 1 t24 rfl rfl rfl rfl ?_
            refine Wl.move rfl rfl ?_
            refine Wl.idx Tryz.underlying24 t3 rfl rfl rfl hk ?_
            refine Wl.loadr (j := 0) (cs := eInt x.ins[k]) t3 (fun w h => h.1.1.cells k hk) rfl rfl (Addr.add_zero' _).symm rfl ?_
            refine Wl.fld ⟨_, 0, none⟩ fl34_0 rfl rfl rfl ?_
            refine Wl.loadb 0 0 t32 rfl rfl rfl rfl ?_
            refine Wl.len Tryz.underlying32 rfl rfl ?_
            refine Wl.geq rfl rfl rfl ?_
            refine Wl.pick_f rfl rfl rfl ?_
            refine Wl.move rfl rfl ?_
            refine Wl.splitp 57 rfl (fun h57 => ?_) (fun h57 => ?_)
            ·
              refine Wl.skip rfl rfl ?_
              refine Wl.skip rfl rfl ?_
              refine Wl.skip rfl rfl ?_
              refine Wl.skip rfl rfl ?_
              refine Wl.skip rfl rfl ?_
              refine Wl.skip rfl rfl ?_
              refine Wl.skip rfl rfl ?_
              refine Wl.skip rfl rfl ?_
              refine Wl.skip rfl rfl ?_
              refine Wl.skip rfl rfl ?_
              refine Wl.skip rfl rfl ?_
              refine Wl.pick_t rfl rfl rfl ?_
              refine Wl.nilq ?_
              refine Wx.then_n ?_
              refine Wc.cond_t rfl ?_
              refine Wc.seq ?_
              refine Wc.region ?_
              refine Wl.assign rfl rfl ?_
              refine Wl.nil ?_
              refine Wx.then_n ?_
              refine Wc.ret ?_
              refine Wx.block_r ?_
              refine Wx.then_r ?_
              refine Wx.then_r ?_
              refine Wx.block_r ?_
              refine Wx.then_r ?_
              exact Wx.retI rfl rfl (by unfold nodeErr; rw [if_neg (by omega), if_pos (by rw [insOk_bad ns x k hk (badIn_big _ _ (by omega))]; rfl)])
            ·
              obtain ⟨kk, hkk⟩ : ∃ kk : Nat, x.ins[k] = kk := ⟨x.ins[k].toNat, by omega⟩
              have hb : kk < ns.length := by omega
              obtain ⟨⟨jd, rfl⟩, -⟩ := hp kk hb hkk
              refine Wl.fld ⟨_, 0, none⟩ fl34_0 rfl rfl rfl ?_
              refine Wl.loadb 0 0 t32 rfl rfl rfl rfl ?_
              refine Wl.fld ⟨_, 1, none⟩ fl31_1 rfl rfl rfl ?_
              refine Wl.loadb 1 1 t24 rfl rfl rfl rfl ?_
              refine Wl.move rfl rfl ?_
              refine Wl.idx Tryz.underlying24 t3 rfl rfl rfl hk ?_
              refine Wl.loadr (j := 0) (cs := eInt x.ins[k]) t3 (fun w h => h.1.1.cells k hk) rfl rfl (Addr.add_zero' _).symm rfl ?_
              refine Wl.idx (j := kk) Tryz.underlying32 t31 rfl (show _ = some (Value.int .i64 (kk : Int)) from congrArg (fun z => some (Value.int .i64 z)) hkk) rfl hb ?_
              refine Wl.fld _ fl31_0 rfl rfl rfl ?_
              refine Wl.loadr (j := 0) (cs := (nodeCells ns[kk] p)) t3 (fun w h => (h.2 jd kk hb hkk rfl).1) rfl rfl rfl rfl ?_
              refine Wl.eql rfl rfl rfl ?_
              refine Wl.pick_f rfl rfl rfl ?_
              refine Wl.nilq ?_
              refine Wx.then_n ?_
              refine Wc.condp rfl (fun h69 => ?_) (fun h69 => ?_)
              ·
                refine Wc.seq ?_
                refine Wc.region ?_
                refine Wl.assign rfl rfl ?_
                refine Wl.nil ?_
                refine Wx.then_n ?_
                refine Wc.ret ?_
                refine Wx.block_r ?_
                refine Wx.then_r ?_
                refine Wx.then_r ?_
                refine Wx.block_r ?_
                refine Wx.then_r ?_
                exact Wx.retI rfl rfl (by unfold nodeErr; rw [if_neg (by omega), if_pos (by rw [insOk_bad ns x k hk (by rw [badIn_eq ns _ kk hb hkk]; simpa using h69)]; rfl)])
              ·
                refine Wc.skip ?_
                refine Wx.block_n ?_
                refine Wx.then_n ?_
                refine Wc.region ?_
                refine Wl.move rfl rfl ?_
                refine Wl.add rfl rfl rfl (by omega) ?_
                refine Wl.assign rfl rfl ?_
                refine Wl.nil ?_
                exact Wx.againS (k + 1) (by omega) ⟨rfl, rfl, rfl, rfl, rfl, trivial⟩ ⟨hk, take_none hk he (by rw [badIn_eq ns _ kk hb hkk]; simpa using h69)⟩ (fun w hw => hw.imp fun w h => h.1)
        ·
          obtain rfl : k = x.ins.length := by omega
          have hio := insOk_all ns x hl1 hl2 he
          refine Wc.exit ?_
          refine Wx.then_e ?_
          refine Wx.then_e ?_
          refine Wx.block_e ?_
          refine Wx.then_n ?_
          refine Wc.seq ?_
          refine Wc.seq ?_
          refine Wc.region ?_
          refine Wl.fld ⟨_, 2, none⟩ fl31_2 rfl rfl rfl ?_
          refine Wl.loadb 1 2 t3 rfl rfl rfl rfl ?_
          refine Wl.lss rfl rfl rfl ?_
          refine Wl.move rfl rfl ?_
          refine Wl.splitp 73 rfl (fun h73 => ?_) (fun h73 => ?_)
          ·
            refine Wl.skip rfl rfl ?_
            refine Wl.skip rfl rfl ?_
            refine Wl.skip rfl rfl ?_
            refine Wl.pick_t rfl rfl rfl ?_
            refine Wl.nil ?_
            refine Wx.then_n ?_
            refine Wc.cond_t rfl ?_
            refine Wc.seq ?_
            refine Wc.region ?_
            refine Wl.assign rfl rfl ?_
            refine Wl.nil ?_
            refine Wx.then_n ?_
            refine Wc.ret ?_
            refine Wx.then_r ?_
            exact Wx.retI rfl rfl (by unfold nodeErr; rw [if_neg (by omega), if_neg (by rw [hio]; simp), if_pos (by omega)])
          ·
            refine Wl.fld ⟨_, 2, none⟩ fl31_2 rfl rfl rfl ?_
            refine Wl.loadb 1 2 t3 rfl rfl rfl rfl ?_
            refine Wl.gtr rfl rfl rfl ?_
            refine Wl.pick_f rfl rfl rfl ?_
            refine Wl.nil ?_
            refine Wx.then_n ?_
            refine Wc.condp rfl (fun h77 => ?_) (fun h77 => ?_)
            ·
              refine Wc.seq ?_
              refine Wc.region ?_
              refine Wl.assign rfl rfl ?_
              refine Wl.nil ?_
              refine Wx.then_n ?_
              refine Wc.ret ?_
              refine Wx.then_r ?_
              exact Wx.retI rfl rfl (by unfold nodeErr; rw [if_neg (by omega), if_neg (by rw [hio]; simp), if_pos (by omega)])
            ·
              refine Wc.skip ?_
              refine Wx.then_n ?_
              refine Wc.cutS (G := Unit) (fun g => match g with | _ => [(2, .pointer (some ⟨b2, 0, none⟩)), (3, .pointer (some ⟨b3, 0, none⟩)), (4, .int .i64 0), (5, .int .i64 x.ins.length)]) (fun g => match g with | _ => (if worked x.kind then decide (x.e.check ≠ 0) else !x.e.zero) = false) (fun g => match g with | _ => [.box b2 [.slice J ns.length jc] 34, .box b3 [.int .i64 x.kind, .slice A x.ins.length c, .int .i64 x.par, .int .i64 x.e.op, .int .i64 x.e.n, .slice A2 x.e.l.length c2, .int .i64 x.agg, .int .i64 x.win.kind, .int .i64 x.win.size, .int .i64 x.win.slide] 31]) (fun g => match g with | _ => fun w => kInt.Row w A x.ins ∧ kExpr.Row w A2 x.e.l ∧ kNode.Row w J ns) ?_ ?_
              ·
                refine Wc.cutS (G := Bool) (fun g => match g with | b => [(2, .pointer (some ⟨b2, 0, none⟩)), (3, .pointer (some ⟨b3, 0, none⟩)), (4, .int .i64 0), (5, .int .i64 x.ins.length), (90, .bool b)]) (fun g => match g with | b => b = worked x.kind) (fun g => match g with | b => [.box b2 [.slice J ns.length jc] 34, .box b3 [.int .i64 x.kind, .slice A x.ins.length c, .int .i64 x.par, .int .i64 x.e.op, .int .i64 x.e.n, .slice A2 x.e.l.length c2, .int .i64 x.agg, .int .i64 x.win.kind, .int .i64 x.win.size, .int .i64 x.win.slide] 31]) (fun g => match g with | b => fun w => kInt.Row w A x.ins ∧ kExpr.Row w A2 x.e.l ∧ kNode.Row w J ns) ?_ ?_
                ·
                  refine Wc.region ?_
                  refine Wl.fld ⟨_, 0, none⟩ fl31_0 rfl rfl rfl ?_
                  refine Wl.loadb 1 0 t3 rfl rfl rfl rfl ?_
                  refine Wl.eql rfl rfl rfl ?_
                  refine Wl.move rfl rfl ?_
                  refine Wl.splitp 81 rfl (fun h81 => ?_) (fun h81 => ?_)
                  ·
                    refine Wl.skip rfl rfl ?_
                    refine Wl.skip rfl rfl ?_
                    refine Wl.skip rfl rfl ?_
                    refine Wl.pick_t rfl rfl rfl ?_
                    refine Wl.move rfl rfl ?_
                    refine Wl.skip rfl rfl ?_
                    refine Wl.skip rfl rfl ?_
                    refine Wl.skip rfl rfl ?_
                    refine Wl.pick_t rfl rfl rfl ?_
                    refine Wl.nil ?_
                    exact Wx.metS true ⟨rfl, rfl, rfl, rfl, rfl, trivial⟩ (by simp [worked, keyed, *]) (fun w hw => hw)
                  ·
                    refine Wl.fld ⟨_, 0, none⟩ fl31_0 rfl rfl rfl ?_
                    refine Wl.loadb 1 0 t3 rfl rfl rfl rfl ?_
                    refine Wl.eql rfl rfl rfl ?_
                    refine Wl.pick_f rfl rfl rfl ?_
                    refine Wl.move rfl rfl ?_
                    refine Wl.splitp 86 rfl (fun h86 => ?_) (fun h86 => ?_)
                    ·
                      refine Wl.skip rfl rfl ?_
                      refine Wl.skip rfl rfl ?_
                      refine Wl.skip rfl rfl ?_
                      refine Wl.pick_t rfl rfl rfl ?_
                      refine Wl.nil ?_
                      exact Wx.metS true ⟨rfl, rfl, rfl, rfl, rfl, trivial⟩ (by simp [worked, keyed, *]) (fun w hw => hw)
                    ·
                      refine Wl.fld ⟨_, 0, none⟩ fl31_0 rfl rfl rfl ?_
                      refine Wl.loadb 1 0 t3 rfl rfl rfl rfl ?_
                      refine Wl.eql rfl rfl rfl ?_
                      refine Wl.pick_f rfl rfl rfl ?_
                      refine Wl.nil ?_
                      exact Wx.metS _ ⟨rfl, rfl, rfl, rfl, rfl, trivial⟩ (by simp [worked, keyed, *]) (fun w hw => hw)
                ·
                  rintro b hw
                  dsimp only
                  obtain rfl : b = worked x.kind := hw
                  refine Wc.cond rfl (fun h90 => ?_) (fun h90 => ?_)
                  ·
                    refine Wc.seq ?_
                    refine Wc.region ?_
                    refine Wl.fld ⟨_, 3, none⟩ fl31_3 rfl rfl rfl ?_
                    refine Wl.loadbs 1 3 t27 rfl rfl rfl rfl rfl ?_
                    refine Wl.callV [_] Tryz.func185 rfl rfl rfl rfl (fun w hw => check7_calls _ x.e A2 c2 w (hw.read fun w h => h.2.1) hc2 hs) ?_
                    refine Wl.neq rfl rfl rfl ?_
                    refine Wl.nil ?_
                    refine Wx.then_n ?_
                    refine Wc.condp rfl (fun h94 => ?_) (fun h94 => ?_)
                    ·
                      refine Wc.seq ?_
                      refine Wc.region ?_
                      refine Wl.assign rfl rfl ?_
                      refine Wl.nil ?_
                      refine Wx.then_n ?_
                      refine Wc.ret ?_
                      refine Wx.then_r ?_
                      exact Wx.retI rfl rfl (by unfold nodeErr; rw [if_neg (by omega), if_neg (by rw [hio]; simp), if_neg (by omega), if_pos (by simp [*])])
                    ·
                      refine Wc.skip ?_
                      exact Wx.metS () ⟨rfl, rfl, rfl, rfl, trivial⟩ (by simp_all) (fun w hw => hw)
                  ·
                    refine Wc.seq ?_
                    refine Wc.region ?_
                    refine Wl.fld ⟨_, 3, none⟩ fl31_3 rfl rfl rfl ?_
                    refine Wl.loadbs 1 3 t27 rfl rfl rfl rfl rfl ?_
                    refine Wl.callV [_] Tryz.func186 rfl rfl rfl rfl (fun w hw => zero7_calls _ x.e A2 c2 w (hw.read fun w h => h.2.1) hc2) ?_
                    refine Wl.not rfl rfl ?_
                    refine Wl.nil ?_
                    refine Wx.then_n ?_
                    refine Wc.cond rfl (fun h98 => ?_) (fun h98 => ?_)
                    ·
                      refine Wc.seq ?_
                      refine Wc.region ?_
                      refine Wl.assign rfl rfl ?_
                      refine Wl.nil ?_
                      refine Wx.then_n ?_
                      refine Wc.ret ?_
                      refine Wx.then_r ?_
                      exact Wx.retI rfl rfl (by unfold nodeErr; rw [if_neg (by omega), if_neg (by rw [hio]; simp), if_neg (by omega), if_pos (by simp [*])])
                    ·
                      refine Wc.skip ?_
                      exact Wx.metS () ⟨rfl, rfl, rfl, rfl, trivial⟩ (by simp_all) (fun w hw => hw)
              ·
                rintro _ h85
                dsimp only
                refine Wc.cutS (G := Unit) (fun g => match g with | _ => [(2, .pointer (some ⟨b2, 0, none⟩)), (3, .pointer (some ⟨b3, 0, none⟩)), (4, .int .i64 0), (5, .int .i64 x.ins.length)]) (fun g => match g with | _ => (if keyed x.kind then decide (x.agg < 1) || decide (5 < x.agg) else decide (x.agg ≠ 0)) = false) (fun g => match g with | _ => [.box b2 [.slice J ns.length jc] 34, .box b3 [.int .i64 x.kind, .slice A x.ins.length c, .int .i64 x.par, .int .i64 x.e.op, .int .i64 x.e.n, .slice A2 x.e.l.length c2, .int .i64 x.agg, .int .i64 x.win.kind, .int .i64 x.win.size, .int .i64 x.win.slide] 31]) (fun g => match g with | _ => fun w => kInt.Row w A x.ins ∧ kExpr.Row w A2 x.e.l ∧ kNode.Row w J ns) ?_ ?_
                ·
                  refine Wc.cutS (G := Bool) (fun g => match g with | b => [(2, .pointer (some ⟨b2, 0, none⟩)), (3, .pointer (some ⟨b3, 0, none⟩)), (4, .int .i64 0), (5, .int .i64 x.ins.length), (106, .bool b)]) (fun g => match g with | b => b = keyed x.kind) (fun g => match g with | b => [.box b2 [.slice J ns.length jc] 34, .box b3 [.int .i64 x.kind, .slice A x.ins.length c, .int .i64 x.par, .int .i64 x.e.op, .int .i64 x.e.n, .slice A2 x.e.l.length c2, .int .i64 x.agg, .int .i64 x.win.kind, .int .i64 x.win.size, .int .i64 x.win.slide] 31]) (fun g => match g with | b => fun w => kInt.Row w A x.ins ∧ kExpr.Row w A2 x.e.l ∧ kNode.Row w J ns) ?_ ?_
                  ·
                    refine Wc.region ?_
                    refine Wl.fld ⟨_, 0, none⟩ fl31_0 rfl rfl rfl ?_
                    refine Wl.loadb 1 0 t3 rfl rfl rfl rfl ?_
                    refine Wl.eql rfl rfl rfl ?_
                    refine Wl.move rfl rfl ?_
                    refine Wl.splitp 102 rfl (fun h102 => ?_) (fun h102 => ?_)
                    ·
                      refine Wl.skip rfl rfl ?_
                      refine Wl.skip rfl rfl ?_
                      refine Wl.skip rfl rfl ?_
                      refine Wl.pick_t rfl rfl rfl ?_
                      refine Wl.nil ?_
                      exact Wx.metS true ⟨rfl, rfl, rfl, rfl, rfl, trivial⟩ (by simp [worked, keyed, *]) (fun w hw => hw)
                    ·
                      refine Wl.fld ⟨_, 0, none⟩ fl31_0 rfl rfl rfl ?_
                      refine Wl.loadb 1 0 t3 rfl rfl rfl rfl ?_
                      refine Wl.eql rfl rfl rfl ?_
                      refine Wl.pick_f rfl rfl rfl ?_
                      refine Wl.nil ?_
                      exact Wx.metS _ ⟨rfl, rfl, rfl, rfl, rfl, trivial⟩ (by simp [worked, keyed, *]) (fun w hw => hw)
                  ·
                    rintro b hw
                    dsimp only
                    obtain rfl : b = keyed x.kind := hw
                    refine Wc.cond rfl (fun h106 => ?_) (fun h106 => ?_)
                    ·
                      refine Wc.seq ?_
                      refine Wc.region ?_
                      refine Wl.fld ⟨_, 6, none⟩ fl31_4 rfl rfl rfl ?_
                      refine Wl.loadb 1 6 t3 rfl rfl rfl rfl ?_
                      refine Wl.lss rfl rfl rfl ?_
                      refine Wl.move rfl rfl ?_
                      refine Wl.splitp 110 rfl (fun h110 => ?_) (fun h110 => ?_)
                      ·
                        refine Wl.skip rfl rfl ?_
                        refine Wl.skip rfl rfl ?_
                        refine Wl.skip rfl rfl ?_
                        refine Wl.pick_t rfl rfl rfl ?_
                        refine Wl.nil ?_
                        refine Wx.then_n ?_
                        refine Wc.cond_t rfl ?_
                        refine Wc.seq ?_
                        refine Wc.region ?_
                        refine Wl.assign rfl rfl ?_
                        refine Wl.nil ?_
                        refine Wx.then_n ?_
                        refine Wc.ret ?_
                        refine Wx.then_r ?_
                        exact Wx.retI rfl rfl (by unfold nodeErr; rw [if_neg (by omega), if_neg (by rw [hio]; simp), if_neg (by omega), if_neg (by rw [h85]; simp), if_pos (by simp [*])])
                      ·
                        refine Wl.fld ⟨_, 6, none⟩ fl31_4 rfl rfl rfl ?_
                        refine Wl.loadb 1 6 t3 rfl rfl rfl rfl ?_
                        refine Wl.gtr rfl rfl rfl ?_
                        refine Wl.pick_f rfl rfl rfl ?_
                        refine Wl.nil ?_
                        refine Wx.then_n ?_
                        refine Wc.condp rfl (fun h114 => ?_) (fun h114 => ?_)
                        ·
                          refine Wc.seq ?_
                          refine Wc.region ?_
                          refine Wl.assign rfl rfl ?_
                          refine Wl.nil ?_
                          refine Wx.then_n ?_
                          refine Wc.ret ?_
                          refine Wx.then_r ?_
                          exact Wx.retI rfl rfl (by unfold nodeErr; rw [if_neg (by omega), if_neg (by rw [hio]; simp), if_neg (by omega), if_neg (by rw [h85]; simp), if_pos (by simp [*])])
                        ·
                          refine Wc.skip ?_
                          exact Wx.metS () ⟨rfl, rfl, rfl, rfl, trivial⟩ (by simp_all) (fun w hw => hw)
                    ·
                      refine Wc.seq ?_
                      refine Wc.region ?_
                      refine Wl.fld ⟨_, 6, none⟩ fl31_4 rfl rfl rfl ?_
                      refine Wl.loadb 1 6 t3 rfl rfl rfl rfl ?_
                      refine Wl.neq rfl rfl rfl ?_
                      refine Wl.nil ?_
                      refine Wx.then_n ?_
                      refine Wc.condp rfl (fun h117 => ?_) (fun h117 => ?_)
                      ·
                        refine Wc.seq ?_
                        refine Wc.region ?_
                        refine Wl.assign rfl rfl ?_
                        refine Wl.nil ?_
                        refine Wx.then_n ?_
                        refine Wc.ret ?_
                        refine Wx.then_r ?_
                        exact Wx.retI rfl rfl (by unfold nodeErr; rw [if_neg (by omega), if_neg (by rw [hio]; simp), if_neg (by omega), if_neg (by rw [h85]; simp), if_pos (by simp [*])])
                      ·
                        refine Wc.skip ?_
                        exact Wx.metS () ⟨rfl, rfl, rfl, rfl, trivial⟩ (by simp_all) (fun w hw => hw)
                ·
                  rintro _ h86
                  dsimp only
                  refine Wc.seq ?_
                  refine Wc.seq ?_
                  refine Wc.region ?_
                  refine Wl.fld ⟨_, 0, none⟩ fl31_0 rfl rfl rfl ?_
                  refine Wl.loadb 1 0 t3 rfl rfl rfl rfl ?_
                  refine Wl.neq rfl rfl rfl ?_
                  refine Wl.nil ?_
                  refine Wx.then_n ?_
                  refine Wc.condp rfl (fun h120 => ?_) (fun h120 => ?_)
                  ·
                    refine Wc.seq ?_
                    refine Wc.seq ?_
                    refine Wc.region ?_
                    refine Wl.fld ⟨_, 7, none⟩ fl31_5 rfl rfl rfl ?_
                    refine Wl.loadbs 1 7 t29 rfl rfl rfl rfl rfl ?_
                    refine Wl.build (parts := []) [] [.int .i64 0, .int .i64 0, .int .i64 0] rfl rfl (fun w => run_build w _ _ _ (by kernel_rfl)) ?_
                    refine Wl.neqs x.win (⟨0, 0, 0⟩ : Win) eq29 rfl rfl rfl ?_
                    refine Wl.nil ?_
                    refine Wx.then_n ?_
                    refine Wc.condp rfl (fun h124 => ?_) (fun h124 => ?_)
                    ·
                      refine Wc.seq ?_
                      refine Wc.region ?_
                      refine Wl.assign rfl rfl ?_
                      refine Wl.nil ?_
                      refine Wx.then_n ?_
                      refine Wc.ret ?_
                      refine Wx.then_r ?_
                      refine Wx.then_r ?_
                      exact Wx.retI rfl rfl (by unfold nodeErr; rw [if_neg (by omega), if_neg (by rw [hio]; simp), if_neg (by omega), if_neg (by rw [h85]; simp), if_neg (by rw [h86]; simp), if_pos (by simp [*])])
                    ·
                      refine Wc.skip ?_
                      refine Wx.then_n ?_
                      refine Wc.seq ?_
                      refine Wc.region ?_
                      refine Wl.assign rfl rfl ?_
                      refine Wl.nil ?_
                      refine Wx.then_n ?_
                      refine Wc.ret ?_
                      refine Wx.then_r ?_
                      exact Wx.retI rfl rfl (by unfold nodeErr; rw [if_neg (by omega), if_neg (by rw [hio]; simp), if_neg (by omega), if_neg (by rw [h85]; simp), if_neg (by rw [h86]; simp), if_neg (by simp_all)])
                  ·
                    refine Wc.skip ?_
                    refine Wx.then_n ?_
                    refine Wc.seq ?_
                    refine Wc.region ?_
                    refine Wl.fld ⟨_, 7, none⟩ fl31_5 rfl rfl rfl ?_
                    refine Wl.loadbs 1 7 t29 rfl rfl rfl rfl rfl ?_
                    refine Wl.alloc t29 rfl rfl (fun b7 => ?_)
                    refine Wl.storew 2 t29 rfl rfl rfl rfl rfl rfl rfl ?_
                    refine Wl.nil ?_
                    refine Wx.then_n ?_
                    refine Wc.seq ?_
                    refine Wc.seq ?_
                    refine Wc.region ?_
                    refine Wl.fld ⟨_, 0, none⟩ fl29_0 rfl rfl rfl ?_
                    refine Wl.loadb 2 0 t3 rfl rfl rfl rfl ?_
                    refine Wl.lss rfl rfl rfl ?_
                    refine Wl.move rfl rfl ?_
                    refine Wl.splitp 130 rfl (fun h130 => ?_) (fun h130 => ?_)
                    ·
                      refine Wl.skip rfl rfl ?_
                      refine Wl.skip rfl rfl ?_
                      refine Wl.skip rfl rfl ?_
                      refine Wl.pick_t rfl rfl rfl ?_
                      refine Wl.move rfl rfl ?_
                      refine Wl.skip rfl rfl ?_
                      refine Wl.skip rfl rfl ?_
                      refine Wl.skip rfl rfl ?_
                      refine Wl.pick_t rfl rfl rfl ?_
                      refine Wl.move rfl rfl ?_
                      refine Wl.skip rfl rfl ?_
                      refine Wl.skip rfl rfl ?_
                      refine Wl.skip rfl rfl ?_
                      refine Wl.pick_t rfl rfl rfl ?_
                      refine Wl.nil ?_
                      refine Wx.then_n ?_
                      refine Wc.cond_t rfl ?_
                      refine Wc.seq ?_
                      refine Wc.region ?_
                      refine Wl.assign rfl rfl ?_
                      refine Wl.nil ?_
                      refine Wx.then_n ?_
                      refine Wc.ret ?_
                      refine Wx.then_r ?_
                      have h7 : x.kind = 7 := by omega
                      exact Wx.retI rfl rfl (by unfold nodeErr; rw [if_neg (by omega), if_neg (by rw [hio]; simp), if_neg (by omega), if_neg (by rw [h85]; simp), if_neg (by rw [h86]; simp), if_pos h7]; refine Eq.symm ?_; unfold winOk spanOk; (repeat' split) <;> simp_all <;> omega)
                    ·
                      refine Wl.fld ⟨_, 0, none⟩ fl29_0 rfl rfl rfl ?_
                      refine Wl.loadb 2 0 t3 rfl rfl rfl rfl ?_
                      refine Wl.gtr rfl rfl rfl ?_
                      refine Wl.pick_f rfl rfl rfl ?_
                      refine Wl.move rfl rfl ?_
                      refine Wl.splitp 135 rfl (fun h135 => ?_) (fun h135 => ?_)
                      ·
                        refine Wl.skip rfl rfl ?_
                        refine Wl.skip rfl rfl ?_
                        refine Wl.skip rfl rfl ?_
                        refine Wl.pick_t rfl rfl rfl ?_
                        refine Wl.move rfl rfl ?_
                        refine Wl.skip rfl rfl ?_
                        refine Wl.skip rfl rfl ?_
                        refine Wl.skip rfl rfl ?_
                        refine Wl.pick_t rfl rfl rfl ?_
                        refine Wl.nil ?_
                        refine Wx.then_n ?_
                        refine Wc.cond_t rfl ?_
                        refine Wc.seq ?_
                        refine Wc.region ?_
                        refine Wl.assign rfl rfl ?_
                        refine Wl.nil ?_
                        refine Wx.then_n ?_
                        refine Wc.ret ?_
                        refine Wx.then_r ?_
                        have h7 : x.kind = 7 := by omega
                        exact Wx.retI rfl rfl (by unfold nodeErr; rw [if_neg (by omega), if_neg (by rw [hio]; simp), if_neg (by omega), if_neg (by rw [h85]; simp), if_neg (by rw [h86]; simp), if_pos h7]; refine Eq.symm ?_; unfold winOk spanOk; (repeat' split) <;> simp_all <;> omega)
                      ·
                        refine Wl.fld ⟨_, 1, none⟩ fl29_1 rfl rfl rfl ?_
                        refine Wl.loadb 2 1 t2 rfl rfl rfl rfl ?_
                        refine Wl.lss rfl rfl rfl ?_
                        refine Wl.pick_f rfl rfl rfl ?_
                        refine Wl.move rfl rfl ?_
                        refine Wl.splitp 140 rfl (fun h140 => ?_) (fun h140 => ?_)
                        ·
                          refine Wl.skip rfl rfl ?_
                          refine Wl.skip rfl rfl ?_
                          refine Wl.skip rfl rfl ?_
                          refine Wl.pick_t rfl rfl rfl ?_
                          refine Wl.nil ?_
                          refine Wx.then_n ?_
                          refine Wc.cond_t rfl ?_
                          refine Wc.seq ?_
                          refine Wc.region ?_
                          refine Wl.assign rfl rfl ?_
                          refine Wl.nil ?_
                          refine Wx.then_n ?_
                          refine Wc.ret ?_
                          refine Wx.then_r ?_
                          have h7 : x.kind = 7 := by omega
                          exact Wx.retI rfl rfl (by unfold nodeErr; rw [if_neg (by omega), if_neg (by rw [hio]; simp), if_neg (by omega), if_neg (by rw [h85]; simp), if_neg (by rw [h86]; simp), if_pos h7]; refine Eq.symm ?_; unfold winOk spanOk; (repeat' split) <;> simp_all <;> omega)
                        ·
                          refine Wl.fld ⟨_, 1, none⟩ fl29_1 rfl rfl rfl ?_
                          refine Wl.loadb 2 1 t2 rfl rfl rfl rfl ?_
                          refine Wl.gtr rfl rfl rfl ?_
                          refine Wl.pick_f rfl rfl rfl ?_
                          refine Wl.nil ?_
                          refine Wx.then_n ?_
                          refine Wc.condp rfl (fun h144 => ?_) (fun h144 => ?_)
                          ·
                            refine Wc.seq ?_
                            refine Wc.region ?_
                            refine Wl.assign rfl rfl ?_
                            refine Wl.nil ?_
                            refine Wx.then_n ?_
                            refine Wc.ret ?_
                            refine Wx.then_r ?_
                            have h7 : x.kind = 7 := by omega
                            exact Wx.retI rfl rfl (by unfold nodeErr; rw [if_neg (by omega), if_neg (by rw [hio]; simp), if_neg (by omega), if_neg (by rw [h85]; simp), if_neg (by rw [h86]; simp), if_pos h7]; refine Eq.symm ?_; unfold winOk spanOk; (repeat' split) <;> simp_all <;> omega)
                          ·
                            refine Wc.skip ?_
                            refine Wx.then_n ?_
                            refine Wc.seq ?_
                            refine Wc.seq ?_
                            refine Wc.region ?_
                            refine Wl.fld ⟨_, 0, none⟩ fl29_0 rfl rfl rfl ?_
                            refine Wl.loadb 2 0 t3 rfl rfl rfl rfl ?_
                            refine Wl.eql rfl rfl rfl ?_
                            refine Wl.move rfl rfl ?_
                            refine Wl.splitp 148 rfl (fun h148 => ?_) (fun h148 => ?_)
                            ·
                              refine Wl.fld ⟨_, 2, none⟩ fl29_2 rfl rfl rfl ?_
                              refine Wl.loadb 2 2 t2 rfl rfl rfl rfl ?_
                              refine Wl.lss rfl rfl rfl ?_
                              refine Wl.move rfl rfl ?_
                              refine Wl.splitp 152 rfl (fun h152 => ?_) (fun h152 => ?_)
                              ·
                                refine Wl.skip rfl rfl ?_
                                refine Wl.skip rfl rfl ?_
                                refine Wl.skip rfl rfl ?_
                                refine Wl.pick_t rfl rfl rfl ?_
                                refine Wl.pick_t rfl rfl rfl ?_
                                refine Wl.move rfl rfl ?_
                                refine Wl.skip rfl rfl ?_
                                refine Wl.skip rfl rfl ?_
                                refine Wl.skip rfl rfl ?_
                                refine Wl.skip rfl rfl ?_
                                refine Wl.skip rfl rfl ?_
                                refine Wl.skip rfl rfl ?_
                                refine Wl.skip rfl rfl ?_
                                refine Wl.skip rfl rfl ?_
                                refine Wl.pick_t rfl rfl rfl ?_
                                refine Wl.nil ?_
                                refine Wx.then_n ?_
                                refine Wc.cond_t rfl ?_
                                refine Wc.seq ?_
                                refine Wc.region ?_
                                refine Wl.assign rfl rfl ?_
                                refine Wl.nil ?_
                                refine Wx.then_n ?_
                                refine Wc.ret ?_
                                refine Wx.then_r ?_
                                have h7 : x.kind = 7 := by omega
                                exact Wx.retI rfl rfl (by unfold nodeErr; rw [if_neg (by omega), if_neg (by rw [hio]; simp), if_neg (by omega), if_neg (by rw [h85]; simp), if_neg (by rw [h86]; simp), if_pos h7]; refine Eq.symm ?_; unfold winOk spanOk; (repeat' split) <;> simp_all <;> omega)
                              ·
                                refine Wl.fld ⟨_, 2, none⟩ fl29_2 rfl rfl rfl ?_
                                refine Wl.loadb 2 2 t2 rfl rfl rfl rfl ?_
                                refine Wl.gtr rfl rfl rfl ?_
                                refine Wl.pick_f rfl rfl rfl ?_
                                refine Wl.pick_t rfl rfl rfl ?_
                                refine Wl.move rfl rfl ?_
                                refine Wl.splitp 158 rfl (fun h158 => ?_) (fun h158 => ?_)
                                ·
                                  refine Wl.skip rfl rfl ?_
                                  refine Wl.skip rfl rfl ?_
                                  refine Wl.skip rfl rfl ?_
                                  refine Wl.skip rfl rfl ?_
                                  refine Wl.skip rfl rfl ?_
                                  refine Wl.skip rfl rfl ?_
                                  refine Wl.skip rfl rfl ?_
                                  refine Wl.skip rfl rfl ?_
                                  refine Wl.pick_t rfl rfl rfl ?_
                                  refine Wl.nil ?_
                                  refine Wx.then_n ?_
                                  refine Wc.cond_t rfl ?_
                                  refine Wc.seq ?_
                                  refine Wc.region ?_
                                  refine Wl.assign rfl rfl ?_
                                  refine Wl.nil ?_
                                  refine Wx.then_n ?_
                                  refine Wc.ret ?_
                                  refine Wx.then_r ?_
                                  have h7 : x.kind = 7 := by omega
                                  exact Wx.retI rfl rfl (by unfold nodeErr; rw [if_neg (by omega), if_neg (by rw [hio]; simp), if_neg (by omega), if_neg (by rw [h85]; simp), if_neg (by rw [h86]; simp), if_pos h7]; refine Eq.symm ?_; unfold winOk spanOk; (repeat' split) <;> simp_all <;> omega)
                                ·
                                  refine Wl.fld ⟨_, 0, none⟩ fl29_0 rfl rfl rfl ?_
                                  refine Wl.loadb 2 0 t3 rfl rfl rfl rfl ?_
                                  refine Wl.neq rfl rfl rfl ?_
                                  refine Wl.move rfl rfl ?_
                                  refine Wl.splitp 162 rfl (fun h162 => ?_) (fun h162 => ?_)
                                  ·
                                    refine Wl.fld ⟨_, 2, none⟩ fl29_2 rfl rfl rfl ?_
                                    refine Wl.loadb 2 2 t2 rfl rfl rfl rfl ?_
                                    refine Wl.neq rfl rfl rfl ?_
                                    refine Wl.pick_t rfl rfl rfl ?_
                                    refine Wl.pick_f rfl rfl rfl ?_
                                    refine Wl.nil ?_
                                    refine Wx.then_n ?_
                                    refine Wc.condp rfl (fun h167 => ?_) (fun h167 => ?_)
                                    ·
                                      refine Wc.seq ?_
                                      refine Wc.region ?_
                                      refine Wl.assign rfl rfl ?_
                                      refine Wl.nil ?_
                                      refine Wx.then_n ?_
                                      refine Wc.ret ?_
                                      refine Wx.then_r ?_
                                      have h7 : x.kind = 7 := by omega
                                      exact Wx.retI rfl rfl (by unfold nodeErr; rw [if_neg (by omega), if_neg (by rw [hio]; simp), if_neg (by omega), if_neg (by rw [h85]; simp), if_neg (by rw [h86]; simp), if_pos h7]; refine Eq.symm ?_; unfold winOk spanOk; (repeat' split) <;> simp_all <;> omega)
                                    ·
                                      refine Wc.skip ?_
                                      refine Wx.then_n ?_
                                      refine Wc.seq ?_
                                      refine Wc.region ?_
                                      refine Wl.assign rfl rfl ?_
                                      refine Wl.nil ?_
                                      refine Wx.then_n ?_
                                      refine Wc.ret ?_
                                      have h7 : x.kind = 7 := by omega
                                      exact Wx.retI rfl rfl (by unfold nodeErr; rw [if_neg (by omega), if_neg (by rw [hio]; simp), if_neg (by omega), if_neg (by rw [h85]; simp), if_neg (by rw [h86]; simp), if_pos h7]; refine Eq.symm ?_; unfold winOk spanOk; (repeat' split) <;> simp_all <;> omega)
                                  ·
                                    refine Wl.skip rfl rfl ?_
                                    refine Wl.skip rfl rfl ?_
                                    refine Wl.skip rfl rfl ?_
                                    refine Wl.pick_f rfl rfl rfl ?_
                                    refine Wl.pick_f rfl rfl rfl ?_
                                    refine Wl.nil ?_
                                    refine Wx.then_n ?_
                                    refine Wc.cond_f rfl ?_
                                    refine Wc.skip ?_
                                    refine Wx.then_n ?_
                                    refine Wc.seq ?_
                                    refine Wc.region ?_
                                    refine Wl.assign rfl rfl ?_
                                    refine Wl.nil ?_
                                    refine Wx.then_n ?_
                                    refine Wc.ret ?_
                                    have h7 : x.kind = 7 := by omega
                                    exact Wx.retI rfl rfl (by unfold nodeErr; rw [if_neg (by omega), if_neg (by rw [hio]; simp), if_neg (by omega), if_neg (by rw [h85]; simp), if_neg (by rw [h86]; simp), if_pos h7]; refine Eq.symm ?_; unfold winOk spanOk; (repeat' split) <;> simp_all <;> omega)
                            ·
                              refine Wl.skip rfl rfl ?_
                              refine Wl.skip rfl rfl ?_
                              refine Wl.skip rfl rfl ?_
                              refine Wl.skip rfl rfl ?_
                              refine Wl.skip rfl rfl ?_
                              refine Wl.skip rfl rfl ?_
                              refine Wl.skip rfl rfl ?_
                              refine Wl.skip rfl rfl ?_
                              refine Wl.pick_f rfl rfl rfl ?_
                              refine Wl.move rfl rfl ?_
                              refine Wl.fld ⟨_, 0, none⟩ fl29_0 rfl rfl rfl ?_
                              refine Wl.loadb 2 0 t3 rfl rfl rfl rfl ?_
                              refine Wl.neq rfl rfl rfl ?_
                              refine Wl.move rfl rfl ?_
                              refine Wl.splitp 162 rfl (fun h162 => ?_) (fun h162 => ?_)
                              ·
                                refine Wl.fld ⟨_, 2, none⟩ fl29_2 rfl rfl rfl ?_
                                refine Wl.loadb 2 2 t2 rfl rfl rfl rfl ?_
                                refine Wl.neq rfl rfl rfl ?_
                                refine Wl.pick_t rfl rfl rfl ?_
                                refine Wl.pick_f rfl rfl rfl ?_
                                refine Wl.nil ?_
                                refine Wx.then_n ?_
                                refine Wc.condp rfl (fun h167 => ?_) (fun h167 => ?_)
                                ·
                                  refine Wc.seq ?_
                                  refine Wc.region ?_
                                  refine Wl.assign rfl rfl ?_
                                  refine Wl.nil ?_
                                  refine Wx.then_n ?_
                                  refine Wc.ret ?_
                                  refine Wx.then_r ?_
                                  have h7 : x.kind = 7 := by omega
                                  exact Wx.retI rfl rfl (by unfold nodeErr; rw [if_neg (by omega), if_neg (by rw [hio]; simp), if_neg (by omega), if_neg (by rw [h85]; simp), if_neg (by rw [h86]; simp), if_pos h7]; refine Eq.symm ?_; unfold winOk spanOk; (repeat' split) <;> simp_all <;> omega)
                                ·
                                  refine Wc.skip ?_
                                  refine Wx.then_n ?_
                                  refine Wc.seq ?_
                                  refine Wc.region ?_
                                  refine Wl.assign rfl rfl ?_
                                  refine Wl.nil ?_
                                  refine Wx.then_n ?_
                                  refine Wc.ret ?_
                                  have h7 : x.kind = 7 := by omega
                                  exact Wx.retI rfl rfl (by unfold nodeErr; rw [if_neg (by omega), if_neg (by rw [hio]; simp), if_neg (by omega), if_neg (by rw [h85]; simp), if_neg (by rw [h86]; simp), if_pos h7]; refine Eq.symm ?_; unfold winOk spanOk; (repeat' split) <;> simp_all <;> omega)
                              ·
                                refine Wl.skip rfl rfl ?_
                                refine Wl.skip rfl rfl ?_
                                refine Wl.skip rfl rfl ?_
                                refine Wl.pick_f rfl rfl rfl ?_
                                refine Wl.pick_f rfl rfl rfl ?_
                                refine Wl.nil ?_
                                refine Wx.then_n ?_
                                refine Wc.cond_f rfl ?_
                                refine Wc.skip ?_
                                refine Wx.then_n ?_
                                refine Wc.seq ?_
                                refine Wc.region ?_
                                refine Wl.assign rfl rfl ?_
                                refine Wl.nil ?_
                                refine Wx.then_n ?_
                                refine Wc.ret ?_
                                have h7 : x.kind = 7 := by omega
                                exact Wx.retI rfl rfl (by unfold nodeErr; rw [if_neg (by omega), if_neg (by rw [hio]; simp), if_neg (by omega), if_neg (by rw [h85]; simp), if_neg (by rw [h86]; simp), if_pos h7]; refine Eq.symm ?_; unfold winOk spanOk; (repeat' split) <;> simp_all <;> omega)

end Go.Proofs.YtkffjbijamfnoaaGreat
