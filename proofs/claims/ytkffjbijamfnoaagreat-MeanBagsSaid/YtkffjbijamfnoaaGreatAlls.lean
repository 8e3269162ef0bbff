/-
  The meaning of a job.
-/
import Derived.Test.YtkffjbijamfnoaaGreatAll
set_option linter.unusedVariables false
set_option linter.unusedSimpArgs false
namespace Go.Proofs.YtkffjbijamfnoaaGreat
open Go.RowKit

theorem goF_congr {β : Type} {F G : List β → Int → β} : ∀ (o : List Int) (st : List β), (∀ i ∈ o, ∀ st, F st i = G st i) → goF F o st = goF G o st
  | [], _, _ => rfl
  | i :: o, st, h => by rw [goF, goF, h i (List.mem_cons_self ..), goF_congr o _ (fun j hj => h j (List.mem_cons_of_mem _ hj))]
theorem runAll_mk {ns : List Node} {l : Logs} {offs : List (List Int)} {mk mk' : Int → Int} (h : ∀ i ∈ order ns, mk i = mk' i) : runAll ns l offs mk = runAll ns l offs mk' :=
  goF_congr _ _ (fun i hi st => by unfold nodeStep; rw [h i hi])
theorem runAll_len (ns : List Node) (l : Logs) (offs : List (List Int)) (mk : Int → Int) : (runAll ns l offs mk).length = ns.length := by unfold runAll; rw [goF_length, List.length_replicate]
theorem runAll_ended (ns : List Node) (l : Logs) : runAll ns l [] (mkOf (List.replicate ns.length [maxMark])) = runAll ns l [] (fun _ => maxMark) :=
  runAll_mk (fun i hi => by
    have := (order_mem ns).1 i hi
    unfold mkOf
    rw [List.getElem?_replicate, if_pos (by omega)]; rfl)
theorem rightOk_iff {ns : List Node} {l : Logs} : rightOk ns l = true ↔ jobErr ns = 0 ∧ logsErr ns l = 0 := by unfold rightOk; simp
theorem meanAll_ok {ns : List Node} {l : Logs} (h : rightOk ns l = true) : meanAll ns l = (runAll ns l [] (fun _ => maxMark)).map (·.1) := by unfold meanAll; rw [if_pos (rightOk_iff.1 h)]
theorem meanAll_no {ns : List Node} {l : Logs} (h : rightOk ns l = false) : meanAll ns l = [] := by
  unfold meanAll; rw [if_neg (fun h' => by rw [rightOk_iff.2 h'] at h; cases h)]

theorem meanall_calls (m : Nat → Prop) (J A : Option Addr) (jc c : Nat) (ns : List Node) (l : Logs) (w : World) (hr : Ro m w (fun w => kNode.Row w J ns ∧ kParts.Row w A l)) (hjc : ns.length ≤ jc) (hc : l.length ≤ c) (hs : ∀ x ∈ ns, x.e.count ≤ 1099511627776) :
    Calls Tryz.prog 36 #[.agg #[.slice J ns.length jc], .slice A l.length c] w (PostR m w (Kn.slice kRec) (meanAll ns l)) := by
  refine calls_of_Wc (args := [.agg #[.slice J ns.length jc], .slice A l.length c]) 15 Tryz.func36 rfl rfl (by simp) ?_
  refine Wc.start hr ?_
  refine Wc.seq ?_
  refine Wc.region ?_
  refine Wl.box rfl rfl rfl (fun b2 => ?_)
  refine Wl.assign rfl rfl ?_
  refine Wl.nil ?_
  refine Wx.then_n ?_
  refine Wc.seq ?_
  refine Wc.seq ?_
  refine Wc.region ?_
  refine Wl.loadbw 0 t34 rfl rfl rfl rfl ?_
  refine Wl.move rfl rfl ?_
  refine Wl.callV [_, _] Tryz.func81 rfl rfl rfl rfl (fun w hw => right14_calls _ J A jc c ns l w (hw.read fun w h => h) hjc hc hs) ?_
  refine Wl.not rfl rfl ?_
  refine Wl.nil ?_
  refine Wx.then_n ?_
  refine Wc.cond rfl (fun h8 => ?_) (fun h8 => ?_)
  ·
    refine Wc.seq ?_
    refine Wc.region ?_
    refine Wl.assign rfl rfl ?_
    refine Wl.nil ?_
    refine Wx.then_n ?_
    refine Wc.ret ?_
    refine Wx.then_r ?_
    rw [meanAll_no (by simpa using h8)]
    exact Wx.retRR none 0 rfl rfl (Nat.le_refl _) (fun w h => nil_row _ _)
  ·
    have hro : rightOk ns l = true := by simpa using h8
    obtain ⟨hj, hl⟩ := rightOk_iff.1 hro
    obtain ⟨⟨hn1, hn12⟩, _⟩ := job_facts hj
    refine Wc.skip ?_
    refine Wx.then_n ?_
    refine Wc.seq ?_
    refine Wany.startH mixed (fun w hw => hw.drew) ?_
    refine Wany.take (f := 4) [0, 1, 2] (fun w hw => hw) (by kernel_rfl) ?_
    refine Wl.loadbw 0 t34 rfl rfl rfl rfl ?_
    refine Wl.move rfl rfl ?_
    refine Wl.loadbw 0 t34 rfl rfl rfl rfl ?_
    refine Wl.nilh ?_
    refine Wany.eff (f := 3) 3 rfl (by kernel_rfl) ?_
    refine Wl.callR [_] Tryz.func83 rfl rfl rfl rfl (fun w hw => ended_calls _ J jc ns w (hw.read fun w h => h.1) hjc (by omega)) (fun A12 c12 hc12 => ?_)
    refine Wl.nile (fun w hw => hw.imp fun w h => h.1) ?_
    refine Wany.eff (f := 2) 4 rfl (by kernel_rfl) ?_
    refine Wl.callS [.agg #[.slice J ns.length jc], .slice A l.length c, .slice none 0 0, .slice A12 (List.replicate ns.length [maxMark]).length c12] Tryz.func82 rfl rfl rfl rfl (fun w hw => all_calls _ J A none A12 jc c 0 c12 ns l [] (List.replicate ns.length [maxMark]) w (hw.read fun w h => ⟨h.1.1, h.1.2, nil_row _ _, h.2⟩) hjc hc hc12 hs hj hl (by simp) (fun k hk => by rw [List.eq_of_mem_replicate hk]; exact ⟨by simp, by simp⟩)) (fun g13 hg13 => ?_)
    refine Wl.nile (fun w hw => hw.imp fun w h => h.1.1) ?_
    refine Wany.take (f := 0) [5, 6] (fun w hw => hw.imp fun w h => h.1.1) (by kernel_rfl) ?_
    refine Wl.fieldv (v := .slice g13.1.1 ns.length g13.1.2) rfl (fun w => by kernel_rfl) rfl ?_
    refine Wl.assign rfl rfl ?_
    refine Wl.nilh ?_
    refine Wany.done (by kernel_rfl) ?_
    refine Wx.then_n ?_
    refine Wc.ret ?_
    rw [meanAll_ok hro]
    exact Wx.retRR g13.1.1 g13.1.2 rfl (congrArg (fun z => some (Value.slice _ z _)) (by rw [List.length_map, runAll_len])) (by rw [List.length_map, runAll_len]; exact hg13.1) (fun w h => by rw [← runAll_ended]; exact h.2.1)

end Go.Proofs.YtkffjbijamfnoaaGreat
