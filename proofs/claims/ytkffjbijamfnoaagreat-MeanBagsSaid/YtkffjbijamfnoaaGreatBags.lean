/-
  Bags: the law.
-/
import Derived.Test.YtkffjbijamfnoaaGreatKnown
set_option linter.unusedVariables false
set_option linter.unusedSimpArgs false
namespace Go.Proofs.YtkffjbijamfnoaaGreat
open Go.RowKit

theorem Wl.neqbF {P : Program} {ops : Array Oper} {Q : Exit → Act → World → Prop} {n : Nat} {F : Fr} {H : World → Prop} {rest : List Oper} {md : Option (Bool × (Act → Prop))} {d ty : Nat} {pos : String} {af : Array Edge} {g : Option (Nat × Bool)} {xt yt : TypeId} {x y : Operand} {u : Bool} (ht : P.underlying xt = some .bool) (hx : F.ev x = some (.bool u)) (hy : F.ev y = some (.bool u)) (hn : Nat.blt d n = true) (h : Wl md P ops Q n rest ((d, .bool false) :: F) H) (hg : wantedF ops F g = some true := by rfl) :
    Wl md P ops Q n ({ dst := some d, op := .binOp .neq xt x y yt, type := ty, pos := pos, after := af, guard := g } :: rest) F H :=
  Wl.bin _ hx hy hn (fun w => by simp [eqGuard]) (fun w _ => by rw [run_neq_bool _ xt u u ht]; simp) h hg
theorem within_self (a : List Rec) : within a a = true := (within_iff a a).2 (fun _ => Nat.le_refl _)
theorem within_nil (a : List Rec) : within [] a = true := (within_iff [] a).2 (fun _ => by simp)
theorem within_r (a b : List Rec) : within a (([] ++ b) ++ a) = true := (within_iff _ _).2 (fun x => by simp [List.count_append])
theorem within_l (a b : List Rec) : within b (([] ++ b) ++ a) = true := (within_iff _ _).2 (fun x => by simp [List.count_append])
theorem within_no (a b : List Rec) (h : b.length ≠ 0) : within (([] ++ b) ++ a) a = false := by
  cases hw : within (([] ++ b) ++ a) a with
  | false => rfl
  | true =>
    have h1 := (within_iff _ _).1 hw
    cases b with
    | nil => simp at h
    | cons x b =>
      have := h1 x
      simp [List.count_append] at this
      omega

theorem meanbags_calls (m : Nat → Prop) (A B : Option Addr) (c d : Nat) (a b : List Rec) (w : World) (hr : Ro m w (fun w => kRec.Row w A a ∧ kRec.Row w B b)) (hc : a.length ≤ c) (hd : b.length ≤ d) :
    Calls Tryz.prog 9 #[.slice A a.length c, .slice B b.length d] w (PostV m w (.bool true)) := by
  have hal0 := hr.now.1.1
  have hbl0 := hr.now.2.1
  refine calls_of_Wc (args := [.slice A a.length c, .slice B b.length d]) 65 Tryz.func9 rfl rfl (by simp) ?_
  refine Wc.start hr ?_
  refine Wc.seq ?_
  refine Wc.region ?_
  refine Wl.assign rfl rfl ?_
  refine Wl.nil ?_
  refine Wx.then_n ?_
  refine Wc.seq ?_
  refine Wc.seq ?_
  refine Wc.region ?_
  refine Wl.callV [] Tryz.func33 rfl rfl rfl rfl (fun w hw => known_calls _ w (hw.read fun _ _ => trivial)) ?_
  refine Wl.not rfl rfl ?_
  refine Wl.nil ?_
  refine Wx.then_n ?_
  refine Wc.cond_f rfl ?_
  refine Wc.skip ?_
  refine Wx.then_n ?_
  refine Wc.seq ?_
  refine Wc.seq ?_
  refine Wc.region ?_
  refine Wl.move rfl rfl ?_
  refine Wl.len Tryz.underlying59 rfl rfl ?_
  refine Wl.gtr rfl rfl rfl ?_
  refine Wl.move rfl rfl ?_
  refine Wl.splitp 11 rfl (fun h11 => ?_) (fun h11 => ?_)
  ·
    refine Wl.skip rfl rfl ?_
    refine Wl.skip rfl rfl ?_
    refine Wl.skip rfl rfl ?_
    refine Wl.pick_t rfl rfl rfl ?_
    refine Wl.nil ?_
    refine Wx.then_n ?_
    refine Wc.cond_t rfl ?_
    refine Wc.seq ?_
    refine Wc.region ?_
    refine Wl.assign rfl rfl ?_
    refine Wl.nil ?_
    refine Wx.then_n ?_
    refine Wc.ret ?_
    refine Wx.then_r ?_
    exact Wx.retB rfl rfl rfl
  ·
    refine Wl.move rfl rfl ?_
    refine Wl.len Tryz.underlying59 rfl rfl ?_
    refine Wl.gtr rfl rfl rfl ?_
    refine Wl.pick_f rfl rfl rfl ?_
    refine Wl.nil ?_
    refine Wx.then_n ?_
    refine Wc.condp rfl (fun h15 => ?_) (fun h15 => ?_)
    ·
      refine Wc.seq ?_
      refine Wc.region ?_
      refine Wl.assign rfl rfl ?_
      refine Wl.nil ?_
      refine Wx.then_n ?_
      refine Wc.ret ?_
      refine Wx.then_r ?_
      exact Wx.retB rfl rfl rfl
    ·
      refine Wc.skip ?_
      refine Wx.then_n ?_
      refine Wc.seq ?_
      refine Wc.seq ?_
      have ha : a.length ≤ 200 := by omega
      have hb : b.length ≤ 200 := by omega
      have hla := sortR_len a
      refine Wc.region ?_
      refine Wl.move rfl rfl ?_
      refine Wl.callO [_] Tryz.func47 rfl rfl rfl rfl (fun w hw => meansort_calls _ A c a w (hw.read fun w h => h.1) hc (by omega)) (fun v17 => ?_)
      refine Wl.form 0 rfl (fun A17 c17 e17 hc17 _ => ?_)
      subst e17
      refine Wl.freeze 0 rfl ?_
      refine Wl.move rfl rfl ?_
      refine Wl.callO [_] Tryz.func48 rfl rfl rfl rfl (fun w hw => sort14_calls' _ A c a w (hw.read fun w h => h.1.1) hc (by omega)) (fun v19 => ?_)
      refine Wl.form 0 rfl (fun A19 c19 e19 hc19 _ => ?_)
      subst e19
      refine Wl.freeze 0 rfl ?_
      refine Wl.callV [.slice A17 (sortR a).length c17, .slice A19 (sortR a).length c19] Tryz.func32 rfl rfl rfl rfl (fun w hw => records_calls _ A17 A19 c17 c19 (sortR a) (sortR a) w (hw.read fun w h => ⟨row_holds h.1.2, row_holds h.2⟩) (by omega)) ?_
      refine Wl.lit (b := true) (decide_eq_true rfl) ?_
      refine Wl.not rfl rfl ?_
      refine Wl.move rfl rfl ?_
      refine Wl.move rfl rfl ?_
      refine Wl.move rfl rfl ?_
      refine Wl.callV [.slice A (a).length c, .slice B (b).length d] Tryz.func45 rfl rfl rfl rfl (fun w hw => within_calls _ A B c d (a) (b) w (hw.read fun w h => ⟨h.1.1.1, h.1.1.2⟩) hc hd (by omega) (by omega)) ?_
      refine Wl.move rfl rfl ?_
      refine Wl.move rfl rfl ?_
      refine Wl.callV [.slice A (a).length c, .slice B (b).length d] Tryz.func49 rfl rfl rfl rfl (fun w hw => within14_calls _ A B c d (a) (b) w (hw.read fun w h => ⟨h.1.1.1, h.1.1.2⟩) hc hd (by omega) (by omega)) ?_
      refine Wl.neqbF Tryz.underlying4 rfl rfl rfl ?_
      refine Wl.pick_f rfl rfl rfl ?_
      refine Wl.move rfl rfl ?_
      refine Wl.move rfl rfl ?_
      refine Wl.move rfl rfl ?_
      refine Wl.callV [.slice A (a).length c, .slice A (a).length c] Tryz.func45 rfl rfl rfl rfl (fun w hw => within_calls _ A A c c (a) (a) w (hw.read fun w h => ⟨h.1.1.1, h.1.1.1⟩) hc hc (by omega) (by omega)) ?_
      refine Wl.lit (b := true) (within_self a) ?_
      refine Wl.not rfl rfl ?_
      refine Wl.pick_f rfl rfl rfl ?_
      refine Wl.move rfl rfl ?_
      refine Wl.move rfl rfl ?_
      refine Wl.callV [.slice none (([] : List Rec)).length 0, .slice A (a).length c] Tryz.func45 rfl rfl rfl rfl (fun w hw => within_calls _ none A 0 c (([] : List Rec)) (a) w (hw.read fun w h => ⟨nil_row _ _, h.1.1.1⟩) (Nat.le_refl _) hc (by simp) (by omega)) ?_
      refine Wl.lit (b := true) (within_nil a) ?_
      refine Wl.not rfl rfl ?_
      refine Wl.pick_f rfl rfl rfl ?_
      refine Wl.nil ?_
      refine Wx.then_n ?_
      refine Wc.cond_f rfl ?_
      refine Wc.skip ?_
      refine Wx.then_n ?_
      refine Wc.seq ?_
      refine Wc.region ?_
      refine Wl.move rfl rfl ?_
      refine Wl.heap (fun w hw => hw.nil 70 3) ?_
      refine Wl.appR (enc := eRec) (xs := []) (ys := b) 0 Tryz.underlying59 t70 (fun w h => h.1.1.2) rfl rfl rfl rfl rfl rfl (by simp; omega) (fun v43 => ?_)
      refine Wl.move rfl rfl ?_
      refine Wl.appR (enc := eRec) (xs := [] ++ b) (ys := a) 0 Tryz.underlying59 t70 (fun w h => h.1.1.1) rfl rfl rfl rfl rfl rfl (by simp; omega) (fun v45 => ?_)
      refine Wl.assign rfl rfl ?_
      refine Wl.nil ?_
      refine Wx.then_n ?_
      refine Wc.seq ?_
      refine Wc.form 0 rfl (fun A5 c5 e5 hc5 _ => ?_)
      subst e5
      refine Wc.freeze 0 rfl ?_
      refine Wc.heap (fun w hw => hw.imp (R' := fun w => (kRec.Row w A a ∧ kRec.Row w B b) ∧ kRec.Row w A5 (([] ++ b) ++ a)) (fun w h => ⟨h.1.1.1, row_holds h.2⟩)) ?_
      have hal : (([] ++ b) ++ a).length ≤ 400 := by simp; omega
      have hwr := within_r a b
      have hwl := within_l a b
      have hwn := within_no a b
      generalize ([] ++ b) ++ a = al at hal hwr hwl hwn hc5 ⊢
      refine Wc.region ?_
      refine Wl.move rfl rfl ?_
      refine Wl.move rfl rfl ?_
      refine Wl.callV [.slice A (a).length c, .slice A5 (al).length c5] Tryz.func45 rfl rfl rfl rfl (fun w hw => within_calls _ A A5 c c5 (a) (al) w (hw.read fun w h => ⟨h.1.1, h.2⟩) hc hc5 (by omega) (by omega)) ?_
      refine Wl.lit (b := true) hwr ?_
      refine Wl.move rfl rfl ?_
      refine Wl.move rfl rfl ?_
      refine Wl.move rfl rfl ?_
      refine Wl.callV [.slice B (b).length d, .slice A5 (al).length c5] Tryz.func45 rfl rfl rfl rfl (fun w hw => within_calls _ B A5 d c5 (b) (al) w (hw.read fun w h => ⟨h.1.2, h.2⟩) hd hc5 (by omega) (by omega)) ?_
      refine Wl.lit (b := true) hwl ?_
      refine Wl.pick_t rfl rfl rfl ?_
      refine Wl.move rfl rfl ?_
      refine Wl.move rfl rfl ?_
      refine Wl.len Tryz.underlying59 rfl rfl ?_
      refine Wl.eql rfl rfl rfl ?_
      refine Wl.move rfl rfl ?_
      refine Wl.splitp 58 rfl (fun h58 => ?_) (fun h58 => ?_)
      ·
        refine Wl.skip rfl rfl ?_
        refine Wl.skip rfl rfl ?_
        refine Wl.skip rfl rfl ?_
        refine Wl.skip rfl rfl ?_
        refine Wl.pick_t rfl rfl rfl ?_
        refine Wl.pick_t rfl rfl rfl ?_
        refine Wl.assign rfl rfl ?_
        refine Wl.nil ?_
        refine Wx.then_n ?_
        refine Wc.ret ?_
        exact Wx.retB rfl rfl rfl
      ·
        refine Wl.move rfl rfl ?_
        refine Wl.move rfl rfl ?_
        refine Wl.callV [.slice A5 (al).length c5, .slice A (a).length c] Tryz.func45 rfl rfl rfl rfl (fun w hw => within_calls _ A5 A c5 c (al) (a) w (hw.read fun w h => ⟨h.2, h.1.1⟩) hc5 hc (by omega) (by omega)) ?_
        refine Wl.lit (b := false) (hwn (by omega)) ?_
        refine Wl.not rfl rfl ?_
        refine Wl.pick_f rfl rfl rfl ?_
        refine Wl.pick_t rfl rfl rfl ?_
        refine Wl.assign rfl rfl ?_
        refine Wl.nil ?_
        refine Wx.then_n ?_
        refine Wc.ret ?_
        exact Wx.retB rfl rfl rfl

end Go.Proofs.YtkffjbijamfnoaaGreat
