/-
  The chapter's examples, as the program works them out.
-/
import Derived.Test.YtkffjbijamfnoaaGreatKnownP
set_option linter.unusedVariables false
set_option linter.unusedSimpArgs false
namespace Go.Proofs.YtkffjbijamfnoaaGreat
open Go.RowKit

theorem one14_calls (m : Nat → Prop) (k t v : Int) (w : World) (hr : Ro m w (fun _ => True)) :
    Calls Tryz.prog 78 #[.int .i64 k, .int .i64 t, .int .i64 v] w (PostV m w (.agg (eItem (⟨1, ⟨k, t, v⟩, 0⟩ : Item)).toArray)) := by
  refine calls_of_Wc (args := [.int .i64 k, .int .i64 t, .int .i64 v]) 12 Tryz.func78 rfl rfl (by simp) ?_
  refine Wc.start hr ?_
  refine Wc.seq ?_
  refine Wc.region ?_
  refine Wl.alloc t100 rfl rfl (fun b6 => ?_)
  refine Wl.nil ?_
  refine Wx.then_n ?_
  refine Wc.seq ?_
  refine Wc.region ?_
  refine Wl.move rfl rfl ?_
  refine Wl.move rfl rfl ?_
  refine Wl.move rfl rfl ?_
  refine Wl.build (parts := _) [(0, _), (1, _), (2, _)] [.int .i64 k, .int .i64 t, .int .i64 v] rfl rfl (fun w => run_build w _ _ _ (by kernel_rfl)) ?_
  refine Wl.build (parts := _) [(0, _), (1, _)] [.int .i64 1, .int .i64 k, .int .i64 t, .int .i64 v, .int .i64 0] rfl rfl (fun w => run_build w _ _ _ (by kernel_rfl)) ?_
  refine Wl.storew 0 t100 rfl rfl rfl rfl rfl rfl rfl ?_
  refine Wl.nil ?_
  refine Wx.then_n ?_
  refine Wc.ret ?_
  exact Wx.retC 0 t100 rfl rfl rfl rfl

theorem mark14_calls (m : Nat → Prop) (k : Int) (w : World) (hr : Ro m w (fun _ => True)) :
    Calls Tryz.prog 79 #[.int .i64 k] w (PostV m w (.agg (eItem (⟨2, ⟨0, 0, 0⟩, k⟩ : Item)).toArray)) := by
  refine calls_of_Wc (args := [.int .i64 k]) 5 Tryz.func79 rfl rfl (by simp) ?_
  refine Wc.start hr ?_
  refine Wc.seq ?_
  refine Wc.region ?_
  refine Wl.alloc t100 rfl rfl (fun b2 => ?_)
  refine Wl.nil ?_
  refine Wx.then_n ?_
  refine Wc.seq ?_
  refine Wc.region ?_
  refine Wl.move rfl rfl ?_
  refine Wl.build (parts := _) [(0, _), (2, _)] [.int .i64 2, .int .i64 0, .int .i64 0, .int .i64 0, .int .i64 k] rfl rfl (fun w => run_build w _ _ _ (by kernel_rfl)) ?_
  refine Wl.storew 0 t100 rfl rfl rfl rfl rfl rfl rfl ?_
  refine Wl.nil ?_
  refine Wx.then_n ?_
  refine Wc.ret ?_
  exact Wx.retC 0 t100 rfl rfl rfl rfl

theorem Wl.lit {P : Program} {ops : Array Oper} {Q : Exit → Act → World → Prop} {n : Nat} {F : Fr} {H : World → Prop} {l : List Oper} {md : Option (Bool × (Act → Prop))} {d : Nat} {a b : Bool} (e : a = b) (h : Wl md P ops Q n l ((d, .bool b) :: F) H) : Wl md P ops Q n l ((d, .bool a) :: F) H := e ▸ h
theorem St.readL {w0 w : World} {m0 m : Nat → Prop} {L : List Blk} {R R' : World → Prop} (h : St w0 m0 m L R w) (hr : ∀ w, R w → (∀ x ∈ L, x.holds w) → R' w) : Ro (fun _ => False) w R' := h.readall hr

set_option maxHeartbeats 4000000 in
theorem known_calls (m : Nat → Prop) (w : World) (hr : Ro m w (fun _ => True)) :
    Calls Tryz.prog 33 #[] w (PostV m w (.bool true)) := by
  refine calls_of_Wc (args := []) 121 Tryz.func33 rfl rfl (by simp) ?_
  refine Wc.start hr ?_
  refine Wc.seq ?_
  refine Wc.region ?_
  refine Wl.assign rfl rfl ?_
  refine Wl.nil ?_
  refine Wx.then_n ?_
  refine Wc.cutS (G := Nat × Nat) (fun g => match g with | ⟨b1, b13⟩ => [(1, .pointer (some ⟨b1, 0, none⟩))]) (fun g => match g with | ⟨b1, b13⟩ => True) (fun g => match g with | ⟨b1, b13⟩ => [.box b1 [.slice (some ⟨b13, 0, none⟩) 3 3] 34]) (fun g => match g with | ⟨b1, b13⟩ => fun w => kNode.Row w (some ⟨b13, 0, none⟩) KJ) ?_ ?_
  ·
    refine Wc.region ?_
    refine Wl.build (parts := _) [(0, _), (2, _)] [.int .i64 1, .slice none 0 0, .int .i64 1, .int .i64 0, .int .i64 0, .slice none 0 0, .int .i64 0, .int .i64 0, .int .i64 0, .int .i64 0] rfl rfl (fun w => run_build w _ _ _ (by kernel_rfl)) ?_
    refine Wl.slice1 Tryz.underlying24 t3 rfl rfl rfl rfl rfl rfl (fun b8 => ?_)
    refine Wl.build (parts := _) [(0, _), (1, _)] [.int .i64 1, .int .i64 10, .int .i64 0] rfl rfl (fun w => run_build w _ _ _ (by kernel_rfl)) ?_
    refine Wl.build (parts := _) [(0, _), (1, _), (2, _), (4, _), (5, _)] [.int .i64 7, .slice (some ⟨b8, 0, none⟩) 1 1, .int .i64 2, .int .i64 0, .int .i64 0, .slice none 0 0, .int .i64 1, .int .i64 1, .int .i64 10, .int .i64 0] rfl rfl (fun w => run_build w _ _ _ (by kernel_rfl)) ?_
    refine Wl.slice1 Tryz.underlying24 t3 rfl rfl rfl rfl rfl rfl (fun b11 => ?_)
    refine Wl.build (parts := _) [(0, _), (1, _), (2, _)] [.int .i64 8, .slice (some ⟨b11, 0, none⟩) 1 1, .int .i64 1, .int .i64 0, .int .i64 0, .slice none 0 0, .int .i64 0, .int .i64 0, .int .i64 0, .int .i64 0] rfl rfl (fun w => run_build w _ _ _ (by kernel_rfl)) ?_
    refine Wl.slit [(0, _), (1, _), (2, _)] (kjCells b8 b11) Tryz.underlying32 t31 rfl rfl rfl rfl (by kernel_rfl) (fun b13 => ?_)
    refine Wl.build (parts := _) [(0, _)] [.slice (some ⟨b13, 0, none⟩) 3 3] rfl rfl (fun w => run_build w _ _ _ (by kernel_rfl)) ?_
    refine Wl.alloc t34 rfl rfl (fun b1 => ?_)
    refine Wl.storew 3 t34 rfl rfl rfl rfl rfl rfl rfl ?_
    refine Wl.nil ?_
    exact Wx.metS ⟨b1, b13⟩ ⟨rfl, trivial⟩ trivial (fun w hw => (((hw.freeze 0 rfl).freeze 0 rfl).freeze 0 rfl).imp (fun w h => kj_row h.1.1.2 h.1.2 h.2))
  ·
    rintro ⟨b1, b13⟩ hp
    dsimp only
    refine Wc.cutS (G := Nat) (fun g => match g with | b21 => [(1, .pointer (some ⟨b1, 0, none⟩)), (2, .slice (some ⟨b21, 0, none⟩) 3 3)]) (fun g => match g with | b21 => True) (fun g => match g with | b21 => [.box b1 [.slice (some ⟨b13, 0, none⟩) 3 3] 34]) (fun g => match g with | b21 => fun w => kNode.Row w (some ⟨b13, 0, none⟩) KJ ∧ kParts.Row w (some ⟨b21, 0, none⟩) KL) ?_ ?_
    ·
      refine Wc.region ?_
      refine Wl.callV [.int .i64 1, .int .i64 5, .int .i64 2] Tryz.func78 rfl rfl rfl rfl (fun w hw => one14_calls _ 1 5 2 w (hw.read fun _ _ => trivial)) ?_
      refine Wl.callV [.int .i64 9] Tryz.func79 rfl rfl rfl rfl (fun w hw => mark14_calls _ 9 w (hw.read fun _ _ => trivial)) ?_
      refine Wl.callV [.int .i64 1, .int .i64 7, .int .i64 3] Tryz.func78 rfl rfl rfl rfl (fun w hw => one14_calls _ 1 7 3 w (hw.read fun _ _ => trivial)) ?_
      refine Wl.callV [.int .i64 9223372036854775807] Tryz.func79 rfl rfl rfl rfl (fun w hw => mark14_calls _ 9223372036854775807 w (hw.read fun _ _ => trivial)) ?_
      refine Wl.slit [(0, _), (1, _), (2, _), (3, _)] (KI.flatMap eItem) Tryz.underlying22 t100 rfl rfl rfl rfl (by kernel_rfl) (fun b19 => ?_)
      refine Wl.slice1 Tryz.underlying36 t22 rfl rfl rfl rfl rfl rfl (fun b20 => ?_)
      refine Wl.slit [(0, _), (1, _), (2, _)] [.slice (some ⟨b20, 0, none⟩) 1 1, .slice none 0 0, .slice none 0 0] Tryz.underlying38 t36 rfl rfl rfl rfl (by kernel_rfl) (fun b21 => ?_)
      refine Wl.assign rfl rfl ?_
      refine Wl.nil ?_
      exact Wx.metS b21 ⟨rfl, rfl, trivial⟩ trivial (fun w hw => (((hw.freeze 1 rfl).freeze 1 rfl).freeze 1 rfl).imp (fun w h => ⟨h.1.1.1, kl_row h.1.1.2 h.1.2 h.2⟩))
    ·
      rintro b21 hp
      dsimp only
      refine Wc.seq ?_
      refine Wc.region ?_
      refine Wl.loadbw 0 t34 rfl rfl rfl rfl ?_
      refine Wl.move rfl rfl ?_
      refine Wl.callR [.agg #[.slice (some ⟨b13, 0, none⟩) KJ.length 3], .slice (some ⟨b21, 0, none⟩) KL.length 3] Tryz.func36 rfl rfl rfl rfl (fun w hw => meanall_calls _ (some ⟨b13, 0, none⟩) (some ⟨b21, 0, none⟩) 3 3 KJ KL w (hw.read fun w h => h) (by decide) (by decide) k_small) (fun A24 c24 hc24 => ?_)
      rw [k_all] at hc24 ⊢
      refine Wl.assign rfl rfl ?_
      refine Wl.nil ?_
      refine Wx.then_n ?_
      refine Wc.seq ?_
      refine Wc.region ?_
      refine Wl.loadbw 0 t34 rfl rfl rfl rfl ?_
      refine Wl.move rfl rfl ?_
      refine Wl.slice1 Tryz.underlying24 t3 rfl rfl rfl rfl rfl rfl (fun b27 => ?_)
      refine Wl.slice1 Tryz.underlying84 t24 rfl rfl rfl rfl rfl rfl (fun b28 => ?_)
      refine Wl.freeze 1 rfl ?_
      refine Wl.freeze 1 rfl ?_
      refine Wl.callR [.agg #[.slice (some ⟨b13, 0, none⟩) KJ.length 3], .slice (some ⟨b21, 0, none⟩) KL.length 3, .slice (some ⟨b28, 0, none⟩) 1 1] Tryz.func41 rfl rfl rfl rfl (fun w hw => meancut_calls _ (some ⟨b13, 0, none⟩) (some ⟨b21, 0, none⟩) (some ⟨b28, 0, none⟩) 3 3 1 KJ KL [[1]] w (hw.read fun w h => ⟨h.1.1.1.1, h.1.1.1.2, box_ints h.2 h.1.2⟩) (by decide) (by decide) k_small) (fun A29 c29 hc29 => ?_)
      rw [k_cut] at hc29 ⊢
      refine Wl.assign rfl rfl ?_
      refine Wl.nil ?_
      refine Wx.then_n ?_
      refine Wc.seq ?_
      refine Wc.heap (fun w hw => hw.imp (R' := fun w => (kNode.Row w (some ⟨b13, 0, none⟩) KJ ∧ kParts.Row w (some ⟨b21, 0, none⟩) KL) ∧ (Kn.slice kRec).Row w A24 KA ∧ (Kn.slice kRec).Row w A29 KB) (fun w h => ⟨h.1.1.1.1, h.1.1.1.2, h.2⟩)) ?_
      refine Wc.region ?_
      refine Wl.loadbw 0 t34 rfl rfl rfl rfl ?_
      refine Wl.move rfl rfl ?_
      refine Wl.slice1 Tryz.underlying24 t3 rfl rfl rfl rfl rfl rfl (fun b32 => ?_)
      refine Wl.slice1 Tryz.underlying84 t24 rfl rfl rfl rfl rfl rfl (fun b33 => ?_)
      refine Wl.freeze 1 rfl ?_
      refine Wl.freeze 1 rfl ?_
      refine Wl.callR [.agg #[.slice (some ⟨b13, 0, none⟩) KJ.length 3], .slice (some ⟨b21, 0, none⟩) KL.length 3, .slice (some ⟨b33, 0, none⟩) 1 1] Tryz.func40 rfl rfl rfl rfl (fun w hw => meanleft_calls _ (some ⟨b13, 0, none⟩) (some ⟨b21, 0, none⟩) (some ⟨b33, 0, none⟩) 3 3 1 KJ KL [[1]] w (hw.read fun w h => ⟨h.1.1.1.1, h.1.1.1.2, box_ints h.2 h.1.2⟩) (by decide) (by decide) k_small) (fun A34 c34 hc34 => ?_)
      rw [k_left] at hc34 ⊢
      refine Wl.assign rfl rfl ?_
      refine Wl.nil ?_
      refine Wx.then_n ?_
      refine Wc.seq ?_
      refine Wc.heap (fun w hw => hw.imp (R' := fun w => (kNode.Row w (some ⟨b13, 0, none⟩) KJ ∧ kParts.Row w (some ⟨b21, 0, none⟩) KL) ∧ (Kn.slice kRec).Row w A24 KA ∧ (Kn.slice kRec).Row w A29 KB ∧ (Kn.slice kPane).Row w A34 KC) (fun w h => ⟨h.1.1.1.1, h.1.1.1.2.1, h.1.1.1.2.2, h.2⟩)) ?_
      refine Wc.region ?_
      refine Wl.loadbw 0 t34 rfl rfl rfl rfl ?_
      refine Wl.move rfl rfl ?_
      refine Wl.slice1 Tryz.underlying24 t3 rfl rfl rfl rfl rfl rfl (fun b37 => ?_)
      refine Wl.slice1 Tryz.underlying84 t24 rfl rfl rfl rfl rfl rfl (fun b38 => ?_)
      refine Wl.freeze 1 rfl ?_
      refine Wl.freeze 1 rfl ?_
      refine Wl.callR [.agg #[.slice (some ⟨b13, 0, none⟩) KJ.length 3], .slice (some ⟨b21, 0, none⟩) KL.length 3, .slice (some ⟨b38, 0, none⟩) 1 1] Tryz.func39 rfl rfl rfl rfl (fun w hw => meanmarks_calls _ (some ⟨b13, 0, none⟩) (some ⟨b21, 0, none⟩) (some ⟨b38, 0, none⟩) 3 3 1 KJ KL [[2]] w (hw.read fun w h => ⟨h.1.1.1.1, h.1.1.1.2, box_ints h.2 h.1.2⟩) (by decide) (by decide) k_small) (fun A39 c39 hc39 => ?_)
      rw [k_marks] at hc39 ⊢
      refine Wl.assign rfl rfl ?_
      refine Wl.nil ?_
      refine Wx.then_n ?_
      refine Wc.seq ?_
      refine Wc.heap (fun w hw => hw.imp (R' := fun w => (kNode.Row w (some ⟨b13, 0, none⟩) KJ ∧ kParts.Row w (some ⟨b21, 0, none⟩) KL) ∧ (Kn.slice kRec).Row w A24 KA ∧ (Kn.slice kRec).Row w A29 KB ∧ (Kn.slice kPane).Row w A34 KC ∧ (Kn.slice kInt).Row w A39 KD) (fun w h => ⟨h.1.1.1.1, h.1.1.1.2.1, h.1.1.1.2.2.1, h.1.1.1.2.2.2, h.2⟩)) ?_
      refine Wc.heap (fun w hw => hw.take 0) ?_
      refine Wc.pure (p := ∃ ad, A24 = some ad) (fun w hw => hw.addr (fun w h => h.2.1) (by decide)) ?_
      rintro ⟨aa2, hhca2⟩
      try subst hhca2
      refine Wc.exS (fun w hw => hw.slice_get (fun w h => h.2.1) 2 (by decide)) ?_
      rintro ⟨Aa2, ca2⟩ hca2
      dsimp only at hca2 ⊢
      refine Wc.exS (fun w hw => hw.slice_get (fun w h => h.1.2.1) 1 (by decide)) ?_
      rintro ⟨Aa1, ca1⟩ hca1
      dsimp only at hca1 ⊢
      refine Wc.pure (p := ∃ ad, A29 = some ad) (fun w hw => hw.addr (fun w h => h.1.1.2.2.1) (by decide)) ?_
      rintro ⟨ab0, hhcb0⟩
      try subst hhcb0
      refine Wc.exS (fun w hw => hw.slice_get (fun w h => h.1.1.2.2.1) 0 (by decide)) ?_
      rintro ⟨Ab0, cb0⟩ hcb0
      dsimp only at hcb0 ⊢
      refine Wc.exS (fun w hw => hw.slice_get (fun w h => h.1.1.1.2.2.1) 2 (by decide)) ?_
      rintro ⟨Ab2, cb2⟩ hcb2
      dsimp only at hcb2 ⊢
      refine Wc.pure (p := ∃ ad, A34 = some ad) (fun w hw => hw.addr (fun w h => h.1.1.1.1.2.2.2.1) (by decide)) ?_
      rintro ⟨ac1, hhcc1⟩
      try subst hhcc1
      refine Wc.exS (fun w hw => hw.slice_get (fun w h => h.1.1.1.1.2.2.2.1) 1 (by decide)) ?_
      rintro ⟨Ac1, cc1⟩ hcc1
      dsimp only at hcc1 ⊢
      refine Wc.pure (p := ∃ ad, A39 = some ad) (fun w hw => hw.addr (fun w h => h.1.1.1.1.1.2.2.2.2) (by decide)) ?_
      rintro ⟨ad1, hhcd1⟩
      try subst hhcd1
      refine Wc.exS (fun w hw => hw.slice_get (fun w h => h.1.1.1.1.1.2.2.2.2) 1 (by decide)) ?_
      rintro ⟨Ad1, cd1⟩ hcd1
      dsimp only at hcd1 ⊢
      refine Wc.exS (fun w hw => hw.slice_get (fun w h => h.1.1.1.1.1.1.1.2) 0 (by decide)) ?_
      rintro ⟨Al0, cl0⟩ hcl0
      dsimp only at hcl0 ⊢
      refine Wc.pure (p := ∃ ad, Al0 = some ad) (fun w hw => hw.addr (fun w h => h.2.2) (by decide)) ?_
      rintro ⟨al0, rfl⟩
      refine Wc.exS (fun w hw => hw.slice_get (fun w h => h.2.2) 0 (by decide)) ?_
      rintro ⟨Al00, cl00⟩ hcl00
      dsimp only at hcl00 ⊢
      refine Wc.pure (p := ∃ ad, Ad1 = some ad) (fun w hw => hw.addr (fun w h => h.1.1.2.2) (by decide)) ?_
      rintro ⟨ad1x, rfl⟩
      refine Wany.startH mixed (fun w hw => hw.drew) ?_
      refine Wany.take (f := 74) [0, 1, 2, 3, 4, 5, 6, 7] (fun w hw => hw) (by kernel_rfl) ?_
      refine Wl.move rfl rfl ?_
      refine Wl.len Tryz.underlying82 rfl rfl ?_
      refine Wl.eql rfl rfl rfl ?_
      refine Wl.lit (b := true) (by decide) ?_
      refine Wl.move rfl rfl ?_
      refine Wl.move rfl rfl ?_
      refine Wl.idx (j := 2) Tryz.underlying82 t59 rfl rfl rfl (by decide) ?_
      refine Wl.loadr (j := 0) (cs := [.slice Aa2 (KA[2]).length ca2]) t59 (fun w h => h.1.1.1.1.1.1.1.2.1) rfl rfl (Addr.add_zero' _).symm rfl ?_
      refine Wl.build (parts := _) [(0, _), (1, _), (2, _)] [.int .i64 1, .int .i64 9, .int .i64 2] rfl rfl (fun w => run_build w _ _ _ (by kernel_rfl)) ?_
      refine Wl.nilh ?_
      refine Wany.eff (f := 73) 8 rfl (by kernel_rfl) ?_
      refine Wl.unguard ?_
      refine Wl.slice1 Tryz.underlying59 t70 rfl rfl rfl rfl rfl rfl (fun b48 => ?_)
      refine Wl.nile (fun w hw => hw.take 0) ?_
      refine Wany.eff (f := 72) 9 rfl (by kernel_rfl) ?_
      refine Wl.unguard ?_
      refine Wl.freeze 0 rfl ?_
      refine Wl.callV [.slice Aa2 (KA[2]).length ca2, .slice (some ⟨b48, 0, none⟩) [(⟨1, 9, 2⟩ : Rec)].length 1] Tryz.func32 rfl rfl rfl rfl (fun w hw => records_calls _ Aa2 (some ⟨b48, 0, none⟩) ca2 1 KA[2] [⟨1, 9, 2⟩] w (hw.read fun w h => ⟨h.1.1.1.1.1.1.1.1.2.2, row_box1 (dk := kRec) h.2 rfl rfl⟩) (by decide)) ?_
      refine Wl.lit (b := true) (by decide) ?_
      refine Wl.nile (fun w hw => (hw.take 0).imp fun w h => h.1) ?_
      refine Wany.take (f := 24) [10, 11, 12, 13, 14, 15, 16, 17, 18, 19, 20, 21, 22, 23, 24, 25, 26, 27, 28, 29, 30, 31, 32, 33, 34, 35, 36, 37, 38, 39, 40, 41, 42, 43, 44, 45, 46, 47, 48, 49, 50, 51, 52, 53, 54, 55, 56, 57] (fun w hw => (hw.take 0).imp fun w h => h.1) (by kernel_rfl) ?_
      refine Wl.pick_t rfl rfl rfl ?_
      refine Wl.move rfl rfl ?_
      refine Wl.move rfl rfl ?_
      refine Wl.len Tryz.underlying82 rfl rfl ?_
      refine Wl.eql rfl rfl rfl ?_
      refine Wl.lit (b := true) (by decide) ?_
      refine Wl.pick_t rfl rfl rfl ?_
      refine Wl.move rfl rfl ?_
      refine Wl.move rfl rfl ?_
      refine Wl.idx (j := 0) Tryz.underlying82 t59 rfl rfl rfl (by decide) ?_
      refine Wl.loadr (j := 0) (cs := [.slice Ab0 (KB[0]).length cb0]) t59 (fun w h => h.1.1.1.1.1.2.1) rfl rfl (Addr.add_zero' _).symm rfl ?_
      refine Wl.len Tryz.underlying59 rfl rfl ?_
      refine Wl.eql rfl rfl rfl ?_
      refine Wl.lit (b := true) (by decide) ?_
      refine Wl.pick_t rfl rfl rfl ?_
      refine Wl.move rfl rfl ?_
      refine Wl.move rfl rfl ?_
      refine Wl.idx (j := 2) Tryz.underlying82 t59 rfl rfl rfl (by decide) ?_
      refine Wl.loadr (j := 0) (cs := [.slice Ab2 (KB[2]).length cb2]) t59 (fun w h => h.1.1.1.1.2.1) rfl rfl (Addr.add_zero' _).symm rfl ?_
      refine Wl.len Tryz.underlying59 rfl rfl ?_
      refine Wl.eql rfl rfl rfl ?_
      refine Wl.lit (b := true) (by decide) ?_
      refine Wl.pick_t rfl rfl rfl ?_
      refine Wl.move rfl rfl ?_
      refine Wl.move rfl rfl ?_
      refine Wl.idx (j := 1) Tryz.underlying86 t53 rfl rfl rfl (by decide) ?_
      refine Wl.loadr (j := 0) (cs := [.slice Ac1 (KC[1]).length cc1]) t53 (fun w h => h.1.1.1.2.1) rfl rfl (Addr.add_zero' _).symm rfl ?_
      refine Wl.len Tryz.underlying53 rfl rfl ?_
      refine Wl.eql rfl rfl rfl ?_
      refine Wl.lit (b := true) (by decide) ?_
      refine Wl.pick_t rfl rfl rfl ?_
      refine Wl.move rfl rfl ?_
      refine Wl.move rfl rfl ?_
      refine Wl.idx (j := 1) Tryz.underlying85 t52 rfl rfl rfl (by decide) ?_
      refine Wl.loadr (j := 0) (cs := [.slice (some ad1x) (KD[1]).length cd1]) t52 (fun w h => h.1.1.2.1) rfl rfl (Addr.add_zero' _).symm rfl ?_
      refine Wl.len Tryz.underlying52 rfl rfl ?_
      refine Wl.eql rfl rfl rfl ?_
      refine Wl.lit (b := true) (by decide) ?_
      refine Wl.pick_t rfl rfl rfl ?_
      refine Wl.move rfl rfl ?_
      refine Wl.move rfl rfl ?_
      refine Wl.idx (j := 1) Tryz.underlying85 t52 rfl rfl rfl (by decide) ?_
      refine Wl.loadr (j := 0) (cs := [.slice (some ad1x) (KD[1]).length cd1]) t52 (fun w h => h.1.1.2.1) rfl rfl (Addr.add_zero' _).symm rfl ?_
      refine Wl.idx (j := 1) Tryz.underlying52 t2 rfl rfl rfl (by decide) ?_
      refine Wl.loadr (j := 0) (cs := [.int .i64 9]) t2 (fun w h => h.1.1.2.2.cells 1 (by decide)) rfl rfl (Addr.add_zero' _).symm rfl ?_
      refine Wl.eql rfl rfl rfl ?_
      refine Wl.lit (b := true) (by decide) ?_
      refine Wl.pick_t rfl rfl rfl ?_
      refine Wl.move rfl rfl ?_
      refine Wl.move rfl rfl ?_
      refine Wl.idx (j := 0) Tryz.underlying38 t36 rfl rfl rfl (by decide) ?_
      refine Wl.loadr (j := 0) (cs := [.slice (some al0) (KL[0]).length cl0]) t36 (fun w h => h.1.2.1) rfl rfl (Addr.add_zero' _).symm rfl ?_
      refine Wl.idx (j := 0) Tryz.underlying36 t22 rfl rfl rfl (by decide) ?_
      refine Wl.loadr (j := 0) (cs := [.slice Al00 (KL[0][0]).length cl00]) t22 (fun w h => h.2.1) rfl rfl (Addr.add_zero' _).symm rfl ?_
      refine Wl.nilh ?_
      refine Wany.eff (f := 23) 58 rfl (by kernel_rfl) ?_
      refine Wl.unguard ?_
      refine Wl.callR [.slice Al00 (KL[0][0]).length cl00] Tryz.func80 rfl rfl rfl rfl (fun w hw => late_calls _ Al00 cl00 KI w (hw.read fun w h => h.1.2.2) hcl00 (by decide)) (fun A98 c98 hc98 => ?_)
      have hlt := k_late
      refine Wl.nile (fun w hw => (hw.take 0).imp fun w h => h.1.1) ?_
      refine Wany.take (f := 13) [59, 60, 61, 62, 63, 64, 65, 66, 67, 68] (fun w hw => (hw.take 0).imp fun w h => h.1.1) (by kernel_rfl) ?_
      refine Wl.len Tryz.underlying22 rfl rfl ?_
      refine Wl.eql rfl rfl rfl ?_
      refine Wl.lit (b := true) (by rw [k_late]; decide) ?_
      refine Wl.pick_t rfl rfl rfl ?_
      refine Wl.move rfl rfl ?_
      refine Wl.move rfl rfl ?_
      refine Wl.idx (j := 2) Tryz.underlying82 t59 rfl rfl rfl (by decide) ?_
      refine Wl.loadr (j := 0) (cs := [.slice Aa2 (KA[2]).length ca2]) t59 (fun w h => h.1.1.1.1.1.1.1.2.1) rfl rfl (Addr.add_zero' _).symm rfl ?_
      refine Wl.move rfl rfl ?_
      refine Wl.idx (j := 1) Tryz.underlying82 t59 rfl rfl rfl (by decide) ?_
      refine Wl.loadr (j := 0) (cs := [.slice Aa1 (KA[1]).length ca1]) t59 (fun w h => h.1.1.1.1.1.1.2.1) rfl rfl (Addr.add_zero' _).symm rfl ?_
      refine Wl.nilh ?_
      refine Wany.eff (f := 12) 69 rfl (by kernel_rfl) ?_
      refine Wl.unguard ?_
      refine Wl.callV [.slice Aa2 (KA[2]).length ca2, .slice Aa1 (KA[1]).length ca1] Tryz.func45 rfl rfl rfl rfl (fun w hw => within_calls _ Aa2 Aa1 ca2 ca1 KA[2] KA[1] w (hw.read fun w h => ⟨h.1.1.1.1.1.1.1.1.1.2.2, h.1.1.1.1.1.1.1.1.2.2⟩) hca2 hca1 (by decide) (by decide)) ?_
      refine Wl.lit (b := true) k_w1 ?_
      refine Wl.nile (fun w hw => (hw.take 0).imp fun w h => h.1.1) ?_
      refine Wany.take (f := 4) [70, 71, 72, 73, 74, 75, 76, 77] (fun w hw => (hw.take 0).imp fun w h => h.1.1) (by kernel_rfl) ?_
      refine Wl.pick_t rfl rfl rfl ?_
      refine Wl.move rfl rfl ?_
      refine Wl.move rfl rfl ?_
      refine Wl.idx (j := 2) Tryz.underlying82 t59 rfl rfl rfl (by decide) ?_
      refine Wl.loadr (j := 0) (cs := [.slice Aa2 (KA[2]).length ca2]) t59 (fun w h => h.1.1.1.1.1.1.1.2.1) rfl rfl (Addr.add_zero' _).symm rfl ?_
      refine Wl.move rfl rfl ?_
      refine Wl.idx (j := 2) Tryz.underlying82 t59 rfl rfl rfl (by decide) ?_
      refine Wl.loadr (j := 0) (cs := [.slice Ab2 (KB[2]).length cb2]) t59 (fun w h => h.1.1.1.1.2.1) rfl rfl (Addr.add_zero' _).symm rfl ?_
      refine Wl.nilh ?_
      refine Wany.eff (f := 3) 78 rfl (by kernel_rfl) ?_
      refine Wl.unguard ?_
      refine Wl.callV [.slice Aa2 (KA[2]).length ca2, .slice Ab2 (KB[2]).length cb2] Tryz.func45 rfl rfl rfl rfl (fun w hw => within_calls _ Aa2 Ab2 ca2 cb2 KA[2] KB[2] w (hw.read fun w h => ⟨h.1.1.1.1.1.1.1.1.1.2.2, h.1.1.1.1.1.1.2.2⟩) hca2 hcb2 (by decide) (by decide)) ?_
      refine Wl.lit (b := false) k_w2 ?_
      refine Wl.nile (fun w hw => (hw.take 0).imp fun w h => h.1.1) ?_
      refine Wany.take (f := 0) [79, 80, 81] (fun w hw => (hw.take 0).imp fun w h => h.1.1) (by kernel_rfl) ?_
      refine Wl.not rfl rfl ?_
      refine Wl.pick_t rfl rfl rfl ?_
      refine Wl.assign rfl rfl ?_
      refine Wl.nilh ?_
      refine Wany.done (by kernel_rfl) ?_
      refine Wx.then_n ?_
      refine Wc.ret ?_
      exact Wx.retB rfl rfl rfl

end Go.Proofs.YtkffjbijamfnoaaGreat
