/-
  Plans.
-/
import Derived.Test.YtkffjbijamfnoaaGreatLate
set_option linter.unusedVariables false
set_option linter.unusedSimpArgs false
namespace Go.Proofs.YtkffjbijamfnoaaGreat
open Go.RowKit

theorem keyed9_calls (m : Nat → Prop) (J : Option Addr) (jc : Nat) (ns : List Node) (k : Nat) (hk : k < ns.length) (w : World) (hr : Ro m w (fun w => kNode.Row w J ns)) :
    Calls Tryz.prog 57 #[.agg #[.slice J ns.length jc], .int .i64 k] w (PostV m w (.bool (keyed ns[k].kind))) := by
  refine calls_of_Wc (args := [.agg #[.slice J ns.length jc], .int .i64 k]) 32 Tryz.func57 rfl rfl (by simp) ?_
  refine Wc.start hr ?_
  refine Wc.seq ?_
  refine Wc.region ?_
  refine Wl.box rfl rfl rfl (fun b2 => ?_)
  refine Wl.assign rfl rfl ?_
  refine Wl.nil ?_
  refine Wx.then_n ?_
  refine Wc.seq ?_
  refine Wc.pure (p := ∃ jd, J = some jd) (fun w hw => hw.addr (fun w h => h) (by omega)) ?_
  rintro ⟨jd, rfl⟩
  refine Wc.exS (fun w hw => hw.node_get (fun w h => h) k hk) ?_
  rintro ⟨⟨A2, c2⟩, A4, c4⟩ hcc
  dsimp only at hcc ⊢
  refine Wc.region ?_
  refine Wl.move rfl rfl ?_
  refine Wl.geq rfl rfl rfl ?_
  refine Wl.move rfl rfl ?_
  refine Wl.splitp 7 rfl (fun h7 => ?_) (fun h7 => ?_)
  ·
    refine Wl.move rfl rfl ?_
    refine Wl.fld ⟨_, 0, none⟩ fl34_0 rfl rfl rfl ?_
    refine Wl.loadb 0 0 t32 rfl rfl rfl rfl ?_
    refine Wl.len Tryz.underlying32 rfl rfl ?_
    refine Wl.lss rfl rfl rfl ?_
    refine Wl.pick_t rfl rfl rfl ?_
    refine Wl.move rfl rfl ?_
    refine Wl.splitp 14 rfl (fun h14 => ?_) (fun h14 => ?_)
    ·
      refine Wl.fld ⟨_, 0, none⟩ fl34_0 rfl rfl rfl ?_
      refine Wl.loadb 0 0 t32 rfl rfl rfl rfl ?_
      refine Wl.move rfl rfl ?_
      refine Wl.idx Tryz.underlying32 t31 rfl rfl rfl hk ?_
      refine Wl.fld _ fl31_0 rfl rfl rfl ?_
      refine Wl.loadr (j := 0) (cs := (nodeCells ns[k] ((A2, c2), (A4, c4)))) t3 (fun w h => h.2.1) rfl rfl rfl rfl ?_
      refine Wl.eql rfl rfl rfl ?_
      refine Wl.move rfl rfl ?_
      refine Wl.splitp 22 rfl (fun h22 => ?_) (fun h22 => ?_)
      ·
        refine Wl.skip rfl rfl ?_
        refine Wl.skip rfl rfl ?_
        refine Wl.skip rfl rfl ?_
        refine Wl.skip rfl rfl ?_
        refine Wl.skip rfl rfl ?_
        refine Wl.skip rfl rfl ?_
        refine Wl.skip rfl rfl ?_
        refine Wl.pick_t rfl rfl rfl ?_
        refine Wl.pick_t rfl rfl rfl ?_
        refine Wl.assign rfl rfl ?_
        refine Wl.nil ?_
        refine Wx.then_n ?_
        refine Wc.ret ?_
        exact Wx.retB rfl rfl (by simp [keyed, *])
      ·
        refine Wl.fld ⟨_, 0, none⟩ fl34_0 rfl rfl rfl ?_
        refine Wl.loadb 0 0 t32 rfl rfl rfl rfl ?_
        refine Wl.move rfl rfl ?_
        refine Wl.idx Tryz.underlying32 t31 rfl rfl rfl hk ?_
        refine Wl.fld _ fl31_0 rfl rfl rfl ?_
        refine Wl.loadr (j := 0) (cs := (nodeCells ns[k] ((A2, c2), (A4, c4)))) t3 (fun w h => h.2.1) rfl rfl rfl rfl ?_
        refine Wl.eql rfl rfl rfl ?_
        refine Wl.pick_f rfl rfl rfl ?_
        refine Wl.pick_t rfl rfl rfl ?_
        refine Wl.assign rfl rfl ?_
        refine Wl.nil ?_
        refine Wx.then_n ?_
        refine Wc.ret ?_
        exact Wx.retB rfl rfl (by simp [keyed, *])
    ·
      refine Wl.skip rfl rfl ?_
      refine Wl.skip rfl rfl ?_
      refine Wl.skip rfl rfl ?_
      refine Wl.skip rfl rfl ?_
      refine Wl.skip rfl rfl ?_
      refine Wl.skip rfl rfl ?_
      refine Wl.skip rfl rfl ?_
      refine Wl.skip rfl rfl ?_
      refine Wl.skip rfl rfl ?_
      refine Wl.skip rfl rfl ?_
      refine Wl.skip rfl rfl ?_
      refine Wl.skip rfl rfl ?_
      refine Wl.skip rfl rfl ?_
      refine Wl.skip rfl rfl ?_
      refine Wl.skip rfl rfl ?_
      refine Wl.skip rfl rfl ?_
      refine Wl.pick_f rfl rfl rfl ?_
      refine Wl.assign rfl rfl ?_
      refine Wl.nil ?_
      refine Wx.then_n ?_
      refine Wc.ret ?_
      omega
  ·
    refine Wl.skip rfl rfl ?_
    refine Wl.skip rfl rfl ?_
    refine Wl.skip rfl rfl ?_
    refine Wl.skip rfl rfl ?_
    refine Wl.skip rfl rfl ?_
    refine Wl.pick_f rfl rfl rfl ?_
    refine Wl.move rfl rfl ?_
    refine Wl.skip rfl rfl ?_
    refine Wl.skip rfl rfl ?_
    refine Wl.skip rfl rfl ?_
    refine Wl.skip rfl rfl ?_
    refine Wl.skip rfl rfl ?_
    refine Wl.skip rfl rfl ?_
    refine Wl.skip rfl rfl ?_
    refine Wl.skip rfl rfl ?_
    refine Wl.skip rfl rfl ?_
    refine Wl.skip rfl rfl ?_
    refine Wl.skip rfl rfl ?_
    refine Wl.skip rfl rfl ?_
    refine Wl.skip rfl rfl ?_
    refine Wl.skip rfl rfl ?_
    refine Wl.skip rfl rfl ?_
    refine Wl.skip rfl rfl ?_
    refine Wl.pick_f rfl rfl rfl ?_
    refine Wl.assign rfl rfl ?_
    refine Wl.nil ?_
    refine Wx.then_n ?_
    refine Wc.ret ?_
    omega

theorem planis_calls (m : Nat → Prop) (J : Option Addr) (jc : Nat) (ns : List Node) (i : Int) (w : World) (hr : Ro m w (fun w => kNode.Row w J ns)) :
    Calls Tryz.prog 134 #[.agg #[.slice J ns.length jc], .int .i64 i] w (PostV m w (.bool (decide (0 ≤ i) && decide (i < ns.length)))) := by
  refine calls_of_Wc (args := [.agg #[.slice J ns.length jc], .int .i64 i]) 14 Tryz.func134 rfl rfl (by simp) ?_
  refine Wc.start hr ?_
  refine Wc.seq ?_
  refine Wc.region ?_
  refine Wl.box rfl rfl rfl (fun b2 => ?_)
  refine Wl.assign rfl rfl ?_
  refine Wl.nil ?_
  refine Wx.then_n ?_
  refine Wc.seq ?_
  refine Wc.region ?_
  refine Wl.move rfl rfl ?_
  refine Wl.geq rfl rfl rfl ?_
  refine Wl.move rfl rfl ?_
  refine Wl.splitp 7 rfl (fun h7 => ?_) (fun h7 => ?_)
  ·
    refine Wl.move rfl rfl ?_
    refine Wl.fld ⟨_, 0, none⟩ fl34_0 rfl rfl rfl ?_
    refine Wl.loadb 0 0 t32 rfl rfl rfl rfl ?_
    refine Wl.len Tryz.underlying32 rfl rfl ?_
    refine Wl.lss rfl rfl rfl ?_
    refine Wl.pick_t rfl rfl rfl ?_
    refine Wl.assign rfl rfl ?_
    refine Wl.nil ?_
    refine Wx.then_n ?_
    refine Wc.ret ?_
    exact Wx.retB rfl rfl (by rw [decide_eq_true (show 0 ≤ i by omega)]; rfl)
  ·
    refine Wl.skip rfl rfl ?_
    refine Wl.skip rfl rfl ?_
    refine Wl.skip rfl rfl ?_
    refine Wl.skip rfl rfl ?_
    refine Wl.skip rfl rfl ?_
    refine Wl.pick_f rfl rfl rfl ?_
    refine Wl.assign rfl rfl ?_
    refine Wl.nil ?_
    refine Wx.then_n ?_
    refine Wc.ret ?_
    exact Wx.retB rfl rfl (by rw [decide_eq_false (show ¬ 0 ≤ i by omega)]; rfl)

theorem plankeyed_calls (m : Nat → Prop) (J : Option Addr) (jc : Nat) (ns : List Node) (k : Nat) (hk : k < ns.length) (w : World) (hr : Ro m w (fun w => kNode.Row w J ns)) :
    Calls Tryz.prog 135 #[.agg #[.slice J ns.length jc], .int .i64 k] w (PostV m w (.bool (keyed ns[k].kind))) := by
  refine calls_of_Wc (args := [.agg #[.slice J ns.length jc], .int .i64 k]) 26 Tryz.func135 rfl rfl (by simp) ?_
  refine Wc.start hr ?_
  refine Wc.seq ?_
  refine Wc.region ?_
  refine Wl.box rfl rfl rfl (fun b2 => ?_)
  refine Wl.assign rfl rfl ?_
  refine Wl.nil ?_
  refine Wx.then_n ?_
  refine Wc.seq ?_
  refine Wc.pure (p := ∃ jd, J = some jd) (fun w hw => hw.addr (fun w h => h) (by omega)) ?_
  rintro ⟨jd, rfl⟩
  refine Wc.exS (fun w hw => hw.node_get (fun w h => h) k hk) ?_
  rintro ⟨⟨A2, c2⟩, A4, c4⟩ hcc
  dsimp only at hcc ⊢
  refine Wc.region ?_
  refine Wl.loadbw 0 t34 rfl rfl rfl rfl ?_
  refine Wl.move rfl rfl ?_
  refine Wl.callV [_, _] Tryz.func134 rfl rfl rfl rfl (fun w hw => planis_calls _ _ _ _ _ w (hw.read fun w h => h.1)) ?_
  refine Wl.move rfl rfl ?_
  refine Wl.split 8 rfl (fun h8 => ?_) (fun h8 => ?_)
  ·
    refine Wl.fld ⟨_, 0, none⟩ fl34_0 rfl rfl rfl ?_
    refine Wl.loadb 0 0 t32 rfl rfl rfl rfl ?_
    refine Wl.move rfl rfl ?_
    refine Wl.idx Tryz.underlying32 t31 rfl rfl rfl hk ?_
    refine Wl.fld _ fl31_0 rfl rfl rfl ?_
    refine Wl.loadr (j := 0) (cs := (nodeCells ns[k] ((A2, c2), (A4, c4)))) t3 (fun w h => h.2.1) rfl rfl rfl rfl ?_
    refine Wl.eql rfl rfl rfl ?_
    refine Wl.move rfl rfl ?_
    refine Wl.splitp 16 rfl (fun h16 => ?_) (fun h16 => ?_)
    ·
      refine Wl.skip rfl rfl ?_
      refine Wl.skip rfl rfl ?_
      refine Wl.skip rfl rfl ?_
      refine Wl.skip rfl rfl ?_
      refine Wl.skip rfl rfl ?_
      refine Wl.skip rfl rfl ?_
      refine Wl.skip rfl rfl ?_
      refine Wl.pick_t rfl rfl rfl ?_
      refine Wl.pick_t rfl rfl rfl ?_
      refine Wl.assign rfl rfl ?_
      refine Wl.nil ?_
      refine Wx.then_n ?_
      refine Wc.ret ?_
      exact Wx.retB rfl rfl (by simp [keyed, *])
    ·
      refine Wl.fld ⟨_, 0, none⟩ fl34_0 rfl rfl rfl ?_
      refine Wl.loadb 0 0 t32 rfl rfl rfl rfl ?_
      refine Wl.move rfl rfl ?_
      refine Wl.idx Tryz.underlying32 t31 rfl rfl rfl hk ?_
      refine Wl.fld _ fl31_0 rfl rfl rfl ?_
      refine Wl.loadr (j := 0) (cs := (nodeCells ns[k] ((A2, c2), (A4, c4)))) t3 (fun w h => h.2.1) rfl rfl rfl rfl ?_
      refine Wl.eql rfl rfl rfl ?_
      refine Wl.pick_f rfl rfl rfl ?_
      refine Wl.pick_t rfl rfl rfl ?_
      refine Wl.assign rfl rfl ?_
      refine Wl.nil ?_
      refine Wx.then_n ?_
      refine Wc.ret ?_
      exact Wx.retB rfl rfl (by simp [keyed, *])
  ·
    refine Wl.skip rfl rfl ?_
    refine Wl.skip rfl rfl ?_
    refine Wl.skip rfl rfl ?_
    refine Wl.skip rfl rfl ?_
    refine Wl.skip rfl rfl ?_
    refine Wl.skip rfl rfl ?_
    refine Wl.skip rfl rfl ?_
    refine Wl.skip rfl rfl ?_
    refine Wl.skip rfl rfl ?_
    refine Wl.skip rfl rfl ?_
    refine Wl.skip rfl rfl ?_
    refine Wl.skip rfl rfl ?_
    refine Wl.skip rfl rfl ?_
    refine Wl.skip rfl rfl ?_
    refine Wl.skip rfl rfl ?_
    refine Wl.skip rfl rfl ?_
    refine Wl.pick_f rfl rfl rfl ?_
    refine Wl.assign rfl rfl ?_
    refine Wl.nil ?_
    refine Wx.then_n ?_
    refine Wc.ret ?_
    exact absurd h8 (by simp; omega)

end Go.Proofs.YtkffjbijamfnoaaGreat
