/-
  What has come out when so much was read.
-/
import Derived.Test.YtkffjbijamfnoaaGreatMarks
set_option linter.unusedVariables false
set_option linter.unusedSimpArgs false
namespace Go.Proofs.YtkffjbijamfnoaaGreat
open Go.RowKit

def meanCut (ns : List Node) (l : Logs) (offs : List (List Int)) : List (List Rec) := if rightOk ns l then (runAll ns l offs (mkOf (marksAll ns l offs))).map (·.1) else []
def meanLeft (ns : List Node) (l : Logs) (offs : List (List Int)) : List (List Pane) := if rightOk ns l then (runAll ns l offs (mkOf (marksAll ns l offs))).map (·.2) else []
theorem Shape.go {ns : List Node} (l : Logs) (offs : List (List Int)) : ∀ (o : List Int) {M : List (List Int)}, Shape ns M → Shape ns (marksGo ns l offs o M)
  | [], _, h => h
  | i :: o, M, h => Shape.go l offs o (Shape.fold _ _ _ (h.base l offs i.toNat _))
theorem marksAll_shape (ns : List Node) (l : Logs) (offs : List (List Int)) : Shape ns (marksAll ns l offs) := Shape.go l offs _ (Shape.zeros ns)
theorem marks_rows {ns : List Node} (hz : ∀ x ∈ ns, nodeErr ns x = 0) (l : Logs) (offs : List (List Int)) : ∀ k ∈ marksAll ns l offs, 0 < k.length ∧ k.length ≤ 4294967296 := fun k hk => by
  have hsh := marksAll_shape ns l offs
  obtain ⟨j, hj, rfl⟩ := List.getElem_of_mem hk
  have hjn : j < ns.length := by rw [← hsh.len]; exact hj
  have h1 := hsh.row j hj hjn
  have h2 := (node_facts (hz _ (List.getElem_mem hjn))).2.2.1
  omega

theorem meancut_calls (m : Nat → Prop) (J A O : Option Addr) (jc c oc : Nat) (ns : List Node) (l : Logs) (offs : List (List Int)) (w : World) (hr : Ro m w (fun w => kNode.Row w J ns ∧ kParts.Row w A l ∧ (Kn.slice kInt).Row w O offs)) (hjc : ns.length ≤ jc) (hc : l.length ≤ c) (hs : ∀ x ∈ ns, x.e.count ≤ 1099511627776) :
    Calls Tryz.prog 41 #[.agg #[.slice J ns.length jc], .slice A l.length c, .slice O offs.length oc] w (PostR m w (Kn.slice kRec) (meanCut ns l offs)) := by
  refine calls_of_Wc (args := [.agg #[.slice J ns.length jc], .slice A l.length c, .slice O offs.length oc]) 20 Tryz.func41 rfl rfl (by simp) ?_
  refine Wc.start hr ?_
  refine Wc.seq ?_
  refine Wc.region ?_
  refine Wl.box rfl rfl rfl (fun b3 => ?_)
  refine Wl.assign rfl rfl ?_
  refine Wl.nil ?_
  refine Wx.then_n ?_
  refine Wc.seq ?_
  refine Wc.seq ?_
  refine Wc.region ?_
  refine Wl.loadbw 0 t34 rfl rfl rfl rfl ?_
  refine Wl.move rfl rfl ?_
  refine Wl.callV [_, _] Tryz.func81 rfl rfl rfl rfl (fun w hw => right14_calls _ J A jc c ns l w (hw.read fun w h => ⟨h.1, h.2.1⟩) hjc hc hs) ?_
  refine Wl.not rfl rfl ?_
  refine Wl.nil ?_
  refine Wx.then_n ?_
  refine Wc.cond rfl (fun h10 => ?_) (fun h10 => ?_)
  ·
    refine Wc.seq ?_
    refine Wc.region ?_
    refine Wl.assign rfl rfl ?_
    refine Wl.nil ?_
    refine Wx.then_n ?_
    refine Wc.ret ?_
    refine Wx.then_r ?_
    rw [show meanCut ns l offs = [] by unfold meanCut; rw [if_neg (by simpa using h10)]]
    exact Wx.retRR none 0 rfl rfl (Nat.le_refl _) (fun w h => nil_row _ _)
  ·
    have hro : rightOk ns l = true := by simpa using h10
    obtain ⟨hj, hl⟩ := rightOk_iff.1 hro
    obtain ⟨⟨hn1, hn12⟩, hz, _⟩ := job_facts hj
    have hsh := marksAll_shape ns l offs
    have hmm : meanMarks ns l offs = marksAll ns l offs := by unfold meanMarks; rw [if_pos hro]
    refine Wc.skip ?_
    refine Wx.then_n ?_
    refine Wc.seq ?_
    refine Wany.startH mixed (fun w hw => hw.drew) ?_
    refine Wany.take (f := 4) [0, 1, 2, 3, 4, 5] (fun w hw => hw) (by kernel_rfl) ?_
    refine Wl.loadbw 0 t34 rfl rfl rfl rfl ?_
    refine Wl.move rfl rfl ?_
    refine Wl.move rfl rfl ?_
    refine Wl.loadbw 0 t34 rfl rfl rfl rfl ?_
    refine Wl.move rfl rfl ?_
    refine Wl.move rfl rfl ?_
    refine Wl.nilh ?_
    refine Wany.eff (f := 3) 6 rfl (by kernel_rfl) ?_
    refine Wl.callR [_, _, _] Tryz.func39 rfl rfl rfl rfl (fun w hw => meanmarks_calls _ J A O jc c oc ns l offs w (hw.read fun w h => h) hjc hc hs) (fun A17 c17 hc17 => ?_)
    rw [hmm] at hc17 ⊢
    refine Wl.nile (fun w hw => hw.imp fun w h => h.1) ?_
    refine Wany.eff (f := 2) 7 rfl (by kernel_rfl) ?_
    refine Wl.callS [.agg #[.slice J ns.length jc], .slice A l.length c, .slice O offs.length oc, .slice A17 (marksAll ns l offs).length c17] Tryz.func82 rfl rfl rfl rfl (fun w hw => all_calls _ J A O A17 jc c oc c17 ns l offs (marksAll ns l offs) w (hw.read fun w h => ⟨h.1.1, h.1.2.1, h.1.2.2, h.2⟩) hjc hc hc17 hs hj hl hsh.len (marks_rows hz l offs)) (fun g18 hg18 => ?_)
    refine Wl.nile (fun w hw => hw.imp fun w h => h.1.1) ?_
    refine Wany.take (f := 0) [8, 9] (fun w hw => hw.imp fun w h => h.1.1) (by kernel_rfl) ?_
    refine Wl.fieldv (v := .slice g18.1.1 ns.length g18.1.2) rfl (fun w => by kernel_rfl) rfl ?_
    refine Wl.assign rfl rfl ?_
    refine Wl.nilh ?_
    refine Wany.done (by kernel_rfl) ?_
    refine Wx.then_n ?_
    refine Wc.ret ?_
    rw [show meanCut ns l offs = (runAll ns l offs (mkOf (marksAll ns l offs))).map (·.1) by unfold meanCut; rw [if_pos hro]]
    exact Wx.retRR g18.1.1 g18.1.2 rfl (congrArg (fun z => some (Value.slice _ z _)) (by rw [List.length_map, runAll_len])) (by rw [List.length_map, runAll_len]; exact hg18.1) (fun w h => h.2.1)

theorem meanleft_calls (m : Nat → Prop) (J A O : Option Addr) (jc c oc : Nat) (ns : List Node) (l : Logs) (offs : List (List Int)) (w : World) (hr : Ro m w (fun w => kNode.Row w J ns ∧ kParts.Row w A l ∧ (Kn.slice kInt).Row w O offs)) (hjc : ns.length ≤ jc) (hc : l.length ≤ c) (hs : ∀ x ∈ ns, x.e.count ≤ 1099511627776) :
    Calls Tryz.prog 40 #[.agg #[.slice J ns.length jc], .slice A l.length c, .slice O offs.length oc] w (PostR m w (Kn.slice kPane) (meanLeft ns l offs)) := by
  refine calls_of_Wc (args := [.agg #[.slice J ns.length jc], .slice A l.length c, .slice O offs.length oc]) 20 Tryz.func40 rfl rfl (by simp) ?_
  refine Wc.start hr ?_
  refine Wc.seq ?_
  refine Wc.region ?_
  refine Wl.box rfl rfl rfl (fun b3 => ?_)
  refine Wl.assign rfl rfl ?_
  refine Wl.nil ?_
  refine Wx.then_n ?_
  refine Wc.seq ?_
  refine Wc.seq ?_
  refine Wc.region ?_
  refine Wl.loadbw 0 t34 rfl rfl rfl rfl ?_
  refine Wl.move rfl rfl ?_
  refine Wl.callV [_, _] Tryz.func81 rfl rfl rfl rfl (fun w hw => right14_calls _ J A jc c ns l w (hw.read fun w h => ⟨h.1, h.2.1⟩) hjc hc hs) ?_
  refine Wl.not rfl rfl ?_
  refine Wl.nil ?_
  refine Wx.then_n ?_
  refine Wc.cond rfl (fun h10 => ?_) (fun h10 => ?_)
  ·
    refine Wc.seq ?_
    refine Wc.region ?_
    refine Wl.assign rfl rfl ?_
    refine Wl.nil ?_
    refine Wx.then_n ?_
    refine Wc.ret ?_
    refine Wx.then_r ?_
    rw [show meanLeft ns l offs = [] by unfold meanLeft; rw [if_neg (by simpa using h10)]]
    exact Wx.retRR none 0 rfl rfl (Nat.le_refl _) (fun w h => nil_row _ _)
  ·
    have hro : rightOk ns l = true := by simpa using h10
    obtain ⟨hj, hl⟩ := rightOk_iff.1 hro
    obtain ⟨⟨hn1, hn12⟩, hz, _⟩ := job_facts hj
    have hsh := marksAll_shape ns l offs
    have hmm : meanMarks ns l offs = marksAll ns l offs := by unfold meanMarks; rw [if_pos hro]
    refine Wc.skip ?_
    refine Wx.then_n ?_
    refine Wc.seq ?_
    refine Wany.startH mixed (fun w hw => hw.drew) ?_
    refine Wany.take (f := 4) [0, 1, 2, 3, 4, 5] (fun w hw => hw) (by kernel_rfl) ?_
    refine Wl.loadbw 0 t34 rfl rfl rfl rfl ?_
    refine Wl.move rfl rfl ?_
    refine Wl.move rfl rfl ?_
    refine Wl.loadbw 0 t34 rfl rfl rfl rfl ?_
    refine Wl.move rfl rfl ?_
    refine Wl.move rfl rfl ?_
    refine Wl.nilh ?_
    refine Wany.eff (f := 3) 6 rfl (by kernel_rfl) ?_
    refine Wl.callR [_, _, _] Tryz.func39 rfl rfl rfl rfl (fun w hw => meanmarks_calls _ J A O jc c oc ns l offs w (hw.read fun w h => h) hjc hc hs) (fun A17 c17 hc17 => ?_)
    rw [hmm] at hc17 ⊢
    refine Wl.nile (fun w hw => hw.imp fun w h => h.1) ?_
    refine Wany.eff (f := 2) 7 rfl (by kernel_rfl) ?_
    refine Wl.callS [.agg #[.slice J ns.length jc], .slice A l.length c, .slice O offs.length oc, .slice A17 (marksAll ns l offs).length c17] Tryz.func82 rfl rfl rfl rfl (fun w hw => all_calls _ J A O A17 jc c oc c17 ns l offs (marksAll ns l offs) w (hw.read fun w h => ⟨h.1.1, h.1.2.1, h.1.2.2, h.2⟩) hjc hc hc17 hs hj hl hsh.len (marks_rows hz l offs)) (fun g18 hg18 => ?_)
    refine Wl.nile (fun w hw => hw.imp fun w h => h.1.1) ?_
    refine Wany.take (f := 0) [8, 9] (fun w hw => hw.imp fun w h => h.1.1) (by kernel_rfl) ?_
    refine Wl.fieldv (v := .slice g18.2.1 ns.length g18.2.2) rfl (fun w => by kernel_rfl) rfl ?_
    refine Wl.assign rfl rfl ?_
    refine Wl.nilh ?_
    refine Wany.done (by kernel_rfl) ?_
    refine Wx.then_n ?_
    refine Wc.ret ?_
    rw [show meanLeft ns l offs = (runAll ns l offs (mkOf (marksAll ns l offs))).map (·.2) by unfold meanLeft; rw [if_pos hro]]
    exact Wx.retRR g18.2.1 g18.2.2 rfl (congrArg (fun z => some (Value.slice _ z _)) (by rw [List.length_map, runAll_len])) (by rw [List.length_map, runAll_len]; exact hg18.2) (fun w h => h.2.2)

end Go.Proofs.YtkffjbijamfnoaaGreat
