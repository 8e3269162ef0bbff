/-
  What is wrong with a job, with its logs.
-/
import Derived.Test.YtkffjbijamfnoaaGreatWeights
set_option linter.unusedVariables false
set_option linter.unusedSimpArgs false
namespace Go.Proofs.YtkffjbijamfnoaaGreat
open Go.RowKit

/-- What is wrong with a job. -/
def jobErr (ns : List Node) : Int :=
  if shapeErr ns ≠ 0 then shapeErr ns else if (weights ns).any (fun x => decide (x > 64)) then 88 else if !ns.any (fun x => decide (x.kind = 8)) then 80 else 0
theorem wgo_len (ns : List Node) : ∀ (l wl : List Int), (wgo ns l wl).length = wl.length
  | [], wl => rfl
  | i :: l, wl => by rw [wgo, wgo_len ns l, List.length_set]
theorem weights_len (ns : List Node) : (weights ns).length = ns.length := by unfold weights; rw [wgo_len, List.length_replicate]
theorem row_holds {α : Type} {enc : α → List Value} {sz : Nat} {hl : ∀ x, (enc x).length = sz} {h1 : ∀ x, (enc x).all (·.oneCell') = true} {hp : 0 < sz} {w : World} {A : Option Addr} {t : TypeId} {n c : Nat} {xs : List α} (h : (rowOf enc (.slice A n c) t sz xs).holds w) : (Kn.pure enc sz hl h1 hp).Row w A xs := by
  obtain ⟨A', c', e, _, hrow⟩ := own_row_pure hl h1 hp h rfl
  injection e with e1 e2 e3
  subst e1
  exact hrow
theorem check_any_w (m : Nat → Prop) (A : Option Addr) (c : Nat) (l : List Int) (w : World) (hr : Ro m w fun w => kInt.Row w A l) : Calls Tryz.prog 160 #[.slice A l.length c, .func (.func 162) #[] #[]] w (PostV m w (.bool (l.any (fun x => decide (x > 64))))) := by
  have h := any_ints m A c l (fun _ => True) 162 _ Tryz.func162 rfl rfl [] (fun x => decide (x > 64)) (fun m w i _ hr => check1_calls m i w hr)
  exact h w (hr.imp fun w h => ⟨trivial, h⟩)
theorem check_any_n (m : Nat → Prop) (J : Option Addr) (jc : Nat) (ns : List Node) (w : World) (hr : Ro m w fun w => kNode.Row w J ns) : Calls Tryz.prog 163 #[.slice J ns.length jc, .func (.func 164) #[] #[]] w (PostV m w (.bool (ns.any (fun x => decide (x.kind = 8))))) := by
  have h := any_nodes m J jc ns (fun _ => True) 164 _ Tryz.func164 rfl rfl [] (fun x => decide (x.kind = 8)) (fun m w x A2 A3 c2 c3 hr => check2_calls m x A2 A3 c2 c3 w _ hr)
  exact h w (hr.imp fun w h => ⟨trivial, h⟩)

theorem jobcheck_calls (m : Nat → Prop) (J : Option Addr) (jc : Nat) (ns : List Node) (w : World) (hr : Ro m w (fun w => kNode.Row w J ns)) (hjc : ns.length ≤ jc) (hs : ∀ x ∈ ns, x.e.count ≤ 1099511627776) :
    Calls Tryz.prog 124 #[.agg #[.slice J ns.length jc]] w (PostV m w (.int .i64 (jobErr ns))) := by
  refine calls_of_Wc (args := [.agg #[.slice J ns.length jc]]) 16 Tryz.func124 rfl rfl (by simp) ?_
  refine Wc.start hr ?_
  refine Wc.seq ?_
  refine Wc.region ?_
  refine Wl.box rfl rfl rfl (fun b1 => ?_)
  refine Wl.assign rfl rfl ?_
  refine Wl.nil ?_
  refine Wx.then_n ?_
  refine Wc.seq ?_
  refine Wc.seq ?_
  refine Wc.region ?_
  refine Wl.loadbw 0 t34 rfl rfl rfl rfl ?_
  refine Wl.callV [_] Tryz.func159 rfl rfl rfl rfl (fun w hw => shape_calls _ J jc ns w (hw.read fun w h => h) hjc hs) ?_
  refine Wl.assign rfl rfl ?_
  refine Wl.nil ?_
  refine Wx.then_n ?_
  refine Wc.seq ?_
  refine Wc.region ?_
  refine Wl.move rfl rfl ?_
  refine Wl.neq rfl rfl rfl ?_
  refine Wl.nil ?_
  refine Wx.then_n ?_
  refine Wc.condp rfl (fun h7 => ?_) (fun h7 => ?_)
  ·
    refine Wc.seq ?_
    refine Wc.region ?_
    refine Wl.move rfl rfl ?_
    refine Wl.assign rfl rfl ?_
    refine Wl.nil ?_
    refine Wx.then_n ?_
    refine Wc.ret ?_
    refine Wx.then_r ?_
    exact Wx.retI rfl rfl (by unfold jobErr; rw [if_pos h7])
  ·
    obtain ⟨hn1, hn, hz, hol⟩ := shape_ok (Decidable.not_not.1 h7)
    refine Wc.skip ?_
    refine Wx.then_n ?_
    refine Wc.seq ?_
    refine Wc.seq ?_
    refine Wc.region ?_
    refine Wl.loadbw 0 t34 rfl rfl rfl rfl ?_
    refine Wl.callO [_] Tryz.func161 rfl rfl rfl rfl (fun w hw => weights_calls _ J jc ns w (hw.read fun w h => h) hjc hn hz) (fun v10 => ?_)
    refine Wl.form 1 rfl (fun A10 c10 e10 _ _ => ?_)
    subst e10
    refine Wl.freeze 1 rfl ?_
    refine Wl.callV [.slice A10 (weights ns).length c10, .func (.func 162) #[] #[]] Tryz.func160 rfl rfl rfl rfl (fun w hw => check_any_w _ A10 c10 (weights ns) w (hw.read fun w h => row_holds h.2)) ?_
    refine Wl.nil ?_
    refine Wx.then_n ?_
    refine Wc.cond rfl (fun h11 => ?_) (fun h11 => ?_)
    ·
      refine Wc.seq ?_
      refine Wc.region ?_
      refine Wl.assign rfl rfl ?_
      refine Wl.nil ?_
      refine Wx.then_n ?_
      refine Wc.ret ?_
      refine Wx.then_r ?_
      exact Wx.retI rfl rfl (by unfold jobErr; rw [if_neg h7, if_pos h11])
    ·
      refine Wc.skip ?_
      refine Wx.then_n ?_
      refine Wc.seq ?_
      refine Wc.seq ?_
      refine Wc.region ?_
      refine Wl.fld ⟨_, 0, none⟩ fl34_0 rfl rfl rfl ?_
      refine Wl.loadb 0 0 t32 rfl rfl rfl rfl ?_
      refine Wl.callV [.slice J ns.length jc, .func (.func 164) #[] #[]] Tryz.func163 rfl rfl rfl rfl (fun w hw => check_any_n _ J jc ns w (hw.read fun w h => h.1)) ?_
      refine Wl.not rfl rfl ?_
      refine Wl.nil ?_
      refine Wx.then_n ?_
      refine Wc.cond rfl (fun h15 => ?_) (fun h15 => ?_)
      ·
        refine Wc.seq ?_
        refine Wc.region ?_
        refine Wl.assign rfl rfl ?_
        refine Wl.nil ?_
        refine Wx.then_n ?_
        refine Wc.ret ?_
        refine Wx.then_r ?_
        exact Wx.retI rfl rfl (by unfold jobErr; rw [if_neg h7, if_neg (by rw [h11]; simp), if_pos h15])
      ·
        refine Wc.skip ?_
        refine Wx.then_n ?_
        refine Wc.seq ?_
        refine Wc.region ?_
        refine Wl.assign rfl rfl ?_
        refine Wl.nil ?_
        refine Wx.then_n ?_
        refine Wc.ret ?_
        exact Wx.retI rfl rfl (by unfold jobErr; rw [if_neg h7, if_neg (by rw [h11]; simp), if_neg (by rw [h15]; simp)])

theorem jobErr_heavy {ns : List Node} (h0 : shapeErr ns = 0) (k : Nat) (hk : k < (weights ns).length) (h : (weights ns)[k] > 64) : jobErr ns = 88 := by
  unfold jobErr
  rw [if_neg (by omega), if_pos (List.any_eq_true.2 ⟨_, List.getElem_mem hk, by simpa using h⟩)]
theorem jobErr_end {ns : List Node} (h0 : shapeErr ns = 0) (h1 : ∀ x ∈ (weights ns).take ns.length, ¬ x > 64) {s : Int} (h2 : s = 0 ↔ ∀ x ∈ ns.take ns.length, x.kind ≠ 8) : jobErr ns = if s = 0 then 80 else 0 := by
  unfold jobErr
  rw [← weights_len, List.take_length] at h1
  rw [List.take_length] at h2
  rw [if_neg (by omega), if_neg (by simpa using h1)]
  by_cases hs : s = 0
  · rw [if_pos hs, if_pos (by simpa using h2.1 hs)]
  · rw [if_neg hs, if_neg (by intro h; exact hs (h2.2 (by simpa using h)))]
theorem forall_take {α : Type} {p : α → Prop} {l : List α} {k : Nat} (hk : k < l.length) (h : ∀ x ∈ l.take k, p x) (h1 : p l[k]) : ∀ x ∈ l.take (k + 1), p x := by
  intro x hx
  rw [List.take_succ_eq_append_getElem hk, List.mem_append] at hx
  rcases hx with hx | hx
  · exact h x hx
  · simp at hx; subst hx; exact h1
theorem mem_take_succ {α : Type} {l : List α} {k : Nat} (hk : k < l.length) : l[k] ∈ l.take (k + 1) :=
  List.mem_take_iff_getElem.2 ⟨k, by omega, rfl⟩
theorem mem_take_of {α : Type} {l : List α} {k : Nat} {x : α} (hx : x ∈ l.take k) : x ∈ l.take (k + 1) :=
  (List.take_prefix_take_left (Nat.le_succ k)).subset hx

theorem check8_calls (m : Nat → Prop) (J : Option Addr) (jc : Nat) (ns : List Node) (w : World) (hr : Ro m w (fun w => kNode.Row w J ns)) (hjc : ns.length ≤ jc) (hs : ∀ x ∈ ns, x.e.count ≤ 1099511627776) :
    Calls Tryz.prog 54 #[.agg #[.slice J ns.length jc]] w (PostV m w (.int .i64 (jobErr ns))) := by
  refine calls_of_Wc (args := [.agg #[.slice J ns.length jc]]) 36 Tryz.func54 rfl rfl (by simp) ?_
  refine Wc.start hr ?_
  refine Wc.seq ?_
  refine Wc.region ?_
  refine Wl.box rfl rfl rfl (fun b1 => ?_)
  refine Wl.assign rfl rfl ?_
  refine Wl.nil ?_
  refine Wx.then_n ?_
  refine Wc.seq ?_
  refine Wc.seq ?_
  refine Wc.region ?_
  refine Wl.loadbw 0 t34 rfl rfl rfl rfl ?_
  refine Wl.callV [_] Tryz.func102 rfl rfl rfl rfl (fun w hw => light8_calls _ J jc ns w (hw.read fun w h => h) hjc hs) ?_
  refine Wl.assign rfl rfl ?_
  refine Wl.nil ?_
  refine Wx.then_n ?_
  refine Wc.seq ?_
  refine Wc.region ?_
  refine Wl.move rfl rfl ?_
  refine Wl.neq rfl rfl rfl ?_
  refine Wl.nil ?_
  refine Wx.then_n ?_
  refine Wc.condp rfl (fun h10 => ?_) (fun h10 => ?_)
  ·
    refine Wc.seq ?_
    refine Wc.region ?_
    refine Wl.move rfl rfl ?_
    refine Wl.assign rfl rfl ?_
    refine Wl.nil ?_
    refine Wx.then_n ?_
    refine Wc.ret ?_
    refine Wx.then_r ?_
    exact Wx.retI rfl rfl (by unfold jobErr; rw [if_pos h10])
  ·
    have hsh := Decidable.not_not.1 h10
    obtain ⟨hn1, hn, hz, hol⟩ := shape_ok hsh
    have hwn := weights_len ns
    refine Wc.skip ?_
    refine Wx.then_n ?_
    refine Wc.seq ?_
    refine Wc.region ?_
    refine Wl.loadbw 0 t34 rfl rfl rfl rfl ?_
    refine Wl.callO [_] Tryz.func103 rfl rfl rfl rfl (fun w hw => (by have := weights8_calls _ J jc ns w (hw.read fun w h => h) hjc hs; rw [if_pos hsh] at this; exact this)) (fun v13 => ?_)
    refine Wl.form 1 rfl (fun A13 c13 e13 _ hA13 => ?_)
    subst e13
    refine Wl.assign rfl rfl ?_
    refine Wl.nil ?_
    refine Wx.then_n ?_
    refine Wc.seq ?_
    refine Wc.region ?_
    refine Wl.assign rfl rfl ?_
    refine Wl.nil ?_
    refine Wx.then_n ?_
    refine Wc.seq ?_
    refine Wc.seq ?_
    refine Wc.region ?_
    refine Wl.assign rfl rfl ?_
    refine Wl.nil ?_
    refine Wx.then_n ?_
    refine Wc.block ?_
    refine Wc.loopS (G := Nat × Int) (fun g => match g with | ⟨k, s⟩ => [(1, .pointer (some ⟨b1, 0, none⟩)), (4, .slice A13 (weights ns).length c13), (5, .int .i64 s), (6, .int .i64 k)]) (fun g => match g with | ⟨k, s⟩ => k ≤ ns.length ∧ (∀ x ∈ (weights ns).take k, ¬ x > 64) ∧ (s = 0 ↔ ∀ x ∈ ns.take k, x.kind ≠ 8) ∧ 0 ≤ s ∧ s ≤ k) (fun g => match g with | ⟨k, s⟩ => [.box b1 [.slice J ns.length jc] 34, rowOf eInt (.slice A13 (weights ns).length c13) 3 1 (weights ns)]) (fun g => match g with | ⟨k, s⟩ => fun w => kNode.Row w J ns) (fun g => match g with | ⟨k, s⟩ => ns.length - k) ⟨0, 0⟩ ⟨rfl, rfl, rfl, rfl, trivial⟩ ⟨Nat.zero_le _, by simp, by simp, by omega, by omega⟩ (fun w hw => hw) ?_
    rintro ⟨k, s⟩ ⟨hk0, hw1, hs1, hs2, hs3⟩
    dsimp only
    refine Wc.seq ?_
    refine Wc.seq ?_
    refine Wc.region ?_
    refine Wl.move rfl rfl ?_
    refine Wl.move rfl rfl ?_
    refine Wl.len Tryz.underlying24 rfl rfl ?_
    refine Wl.lss rfl rfl rfl ?_
    refine Wl.nil ?_
    refine Wx.then_n ?_
    refine Wc.condp rfl (fun h17 => ?_) (fun h17 => ?_)
    ·
      obtain ⟨g13, rfl⟩ := hA13 (by omega)
      have hk : k < ns.length := by omega
      refine Wc.pure (p := ∃ jd, J = some jd) (fun w hw => hw.addr (fun w h => h) (by omega)) ?_
      rintro ⟨jd, rfl⟩
      refine Wc.exS (fun w hw => hw.node_get (fun w h => h) k hk) ?_
      rintro ⟨⟨A2, c2⟩, A4, c4⟩ hcc
      dsimp only at hcc ⊢
      refine Wc.skip ?_
      refine Wx.then_n ?_
      refine Wc.seq ?_
      refine Wc.block ?_
      refine Wc.seq ?_
      refine Wc.seq ?_
      refine Wc.region ?_
      refine Wl.move rfl rfl ?_
      refine Wl.move rfl rfl ?_
      refine Wl.idx Tryz.underlying24 t3 rfl rfl rfl (by omega) ?_
      refine Wl.loadh (j := 0) (cs := eInt ((weights ns)[k]'(by omega))) t3 (fun w hw => hw.own_cells 1 rfl rfl (fun _ => rfl) (fun _ => rfl) (by decide) k (by omega)) rfl rfl (Addr.add_zero' _).symm rfl ?_
      refine Wl.gtr rfl rfl rfl ?_
      refine Wl.nil ?_
      refine Wx.then_n ?_
      refine Wc.condp rfl (fun h24 => ?_) (fun h24 => ?_)
      ·
        refine Wc.seq ?_
        refine Wc.region ?_
        refine Wl.assign rfl rfl ?_
        refine Wl.nil ?_
        refine Wx.then_n ?_
        refine Wc.ret ?_
        refine Wx.then_r ?_
        refine Wx.block_r ?_
        refine Wx.then_r ?_
        refine Wx.then_r ?_
        refine Wx.block_r ?_
        refine Wx.then_r ?_
        exact Wx.retI rfl rfl (jobErr_heavy hsh k (by omega) h24).symm
      ·
        refine Wc.skip ?_
        refine Wx.then_n ?_
        refine Wc.seq ?_
        refine Wc.region ?_
        refine Wl.fld ⟨_, 0, none⟩ fl34_0 rfl rfl rfl ?_
        refine Wl.loadb 0 0 t32 rfl rfl rfl rfl ?_
        refine Wl.move rfl rfl ?_
        refine Wl.idx Tryz.underlying32 t31 rfl rfl rfl hk ?_
        refine Wl.fld _ fl31_0 rfl rfl rfl ?_
        refine Wl.loadr (j := 0) (cs := (nodeCells ns[k] ((A2, c2), (A4, c4)))) t3 (fun w h => h.2.1) rfl rfl rfl rfl ?_
        refine Wl.eql rfl rfl rfl ?_
        refine Wl.nil ?_
        refine Wx.then_n ?_
        refine Wc.condp rfl (fun h31 => ?_) (fun h31 => ?_)
        ·
          refine Wc.region ?_
          refine Wl.move rfl rfl ?_
          refine Wl.add rfl rfl rfl (by omega) ?_
          refine Wl.assign rfl rfl ?_
          refine Wl.nil ?_
          refine Wx.block_n ?_
          refine Wx.then_n ?_
          refine Wc.region ?_
          refine Wl.move rfl rfl ?_
          refine Wl.add rfl rfl rfl (by omega) ?_
          refine Wl.assign rfl rfl ?_
          refine Wl.nil ?_
          exact Wx.againS ⟨k + 1, s + 1⟩ (by (try dsimp only); omega) ⟨rfl, rfl, rfl, rfl, trivial⟩ ⟨hk, forall_take (by omega) hw1 h24, ⟨fun h => by (try dsimp only at h); omega, fun h => absurd h31 (h _ (mem_take_succ hk))⟩, by (try dsimp only); omega, by (try dsimp only); omega⟩ (fun w hw => hw.imp fun w h => h.1)
        ·
          refine Wc.skip ?_
          refine Wx.block_n ?_
          refine Wx.then_n ?_
          refine Wc.region ?_
          refine Wl.move rfl rfl ?_
          refine Wl.add rfl rfl rfl (by omega) ?_
          refine Wl.assign rfl rfl ?_
          refine Wl.nil ?_
          exact Wx.againS ⟨k + 1, s⟩ (by (try dsimp only); omega) ⟨rfl, rfl, rfl, rfl, trivial⟩ ⟨hk, forall_take (by omega) hw1 h24, ⟨fun h => forall_take hk (hs1.1 h) h31, fun h => hs1.2 (fun x hx => h x (mem_take_of hx))⟩, by (try dsimp only); omega, by (try dsimp only); omega⟩ (fun w hw => hw.imp fun w h => h.1)
    ·
      obtain rfl : k = ns.length := by omega
      have hje := jobErr_end hsh hw1 hs1
      refine Wc.exit ?_
      refine Wx.then_e ?_
      refine Wx.then_e ?_
      refine Wx.block_e ?_
      refine Wx.then_n ?_
      refine Wc.seq ?_
      refine Wc.seq ?_
      refine Wc.region ?_
      refine Wl.move rfl rfl ?_
      refine Wl.eql rfl rfl rfl ?_
      refine Wl.nil ?_
      refine Wx.then_n ?_
      refine Wc.condp rfl (fun h35 => ?_) (fun h35 => ?_)
      ·
        refine Wc.seq ?_
        refine Wc.region ?_
        refine Wl.assign rfl rfl ?_
        refine Wl.nil ?_
        refine Wx.then_n ?_
        refine Wc.ret ?_
        refine Wx.then_r ?_
        exact Wx.retI rfl rfl (by rw [hje, if_pos h35])
      ·
        refine Wc.skip ?_
        refine Wx.then_n ?_
        refine Wc.seq ?_
        refine Wc.region ?_
        refine Wl.assign rfl rfl ?_
        refine Wl.nil ?_
        refine Wx.then_n ?_
        refine Wc.ret ?_
        exact Wx.retI rfl rfl (by rw [hje, if_neg h35])

end Go.Proofs.YtkffjbijamfnoaaGreat
